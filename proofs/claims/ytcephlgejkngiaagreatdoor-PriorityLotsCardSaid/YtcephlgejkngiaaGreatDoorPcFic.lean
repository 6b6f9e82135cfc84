
/-
  Priority: lists of claims as a law's parameters.
-/
import Derived.Test.YtcephlgejkngiaaGreatDoorPcFit
namespace Go.Proofs.YtcephlgejkngiaaGreatDoor.Co
open Go Go.Evl
set_option maxRecDepth 100000
abbrev LM (l : List Clm) : V := .d (.list l.length (l.flatMap Clm.cells))
theorem fit_Claim {k : Nat} {ds : List D} (h : fit Tryz.prog (k + 4) 30 ds) : ∃ c : Clm, ds = c.cells := by
  obtain ⟨_, _, rfl, h1, _, _, rfl, h2, _, _, rfl, h3, _, _, rfl, h4, _, _, rfl, h5, _, _, rfl, h6, rfl⟩ := fit_st Tryz.underlying30 h
  obtain ⟨q, rfl⟩ := fit_Request h1
  obtain ⟨b1, rfl⟩ := fit_bo h2
  obtain ⟨b2, rfl⟩ := fit_bo h3
  obtain ⟨b3, rfl⟩ := fit_bo h4
  obtain ⟨b4, rfl⟩ := fit_bo h5
  obtain ⟨d, rfl, _⟩ := fit_int h6
  exact ⟨⟨q, b1, b2, b3, b4, d⟩, rfl⟩
theorem fit_Claims {k : Nat} : ∀ (m : Nat) {ds : List D}, fitAll (fit Tryz.prog (k + 4)) (List.replicate m 30) ds → ∃ l : List Clm, ds = l.flatMap Clm.cells ∧ l.length = m
  | 0, ds, h => ⟨[], h, rfl⟩
  | m + 1, ds, h => by
    obtain ⟨a, b, rfl, h1, h2⟩ := h
    obtain ⟨x, rfl⟩ := fit_Claim h1
    obtain ⟨l, rfl, h3⟩ := fit_Claims m h2
    exact ⟨x :: l, rfl, by simp [h3]⟩
theorem arg_Claims {x : D} (h : fitArg Tryz.prog 81 x) : ∃ l : List Clm, x = .list l.length (l.flatMap Clm.cells) ∧ l.length ≤ 9223372036854775807 := by
  obtain ⟨m, cs, rfl, h1, h2⟩ := arg_l Tryz.underlying81 h
  obtain ⟨l, rfl, rfl⟩ := fit_Claims m h2
  exact ⟨l, rfl, Nat.le_trans h1 (by decide)⟩
end Go.Proofs.YtcephlgejkngiaaGreatDoor.Co
