
/-
  Priority: programs as a law's parameters.
-/
import Derived.Test.YtcephlgejkngiaaGreatDoorPcSho
namespace Go.Proofs.YtcephlgejkngiaaGreatDoor.Co
open Go Go.Evl
set_option maxRecDepth 100000
theorem fit_Tests {k : Nat} : ∀ (m : Nat) {ds : List D}, fitAll (fit Tryz.prog (k + 2)) (List.replicate m 109) ds → ∃ l : List Tst, ds = l.flatMap Tst.cells ∧ l.length = m
  | 0, ds, h => ⟨[], h, rfl⟩
  | m + 1, ds, h => by
    obtain ⟨a, b, rfl, h1, h2⟩ := h
    obtain ⟨x, rfl⟩ := fit_Test h1
    obtain ⟨l, rfl, h3⟩ := fit_Tests m h2
    exact ⟨x :: l, rfl, by simp [h3]⟩
theorem fit_Key {k : Nat} {ds : List D} (h : fit Tryz.prog (k + 2) 111 ds) : ∃ t : Kyt, ds = t.cells := by
  obtain ⟨_, _, rfl, h1, _, _, rfl, h2, rfl⟩ := fit_st Tryz.underlying111 h
  obtain ⟨s1, rfl⟩ := fit_str h1
  obtain ⟨b, rfl⟩ := fit_bo h2
  exact ⟨⟨s1, b⟩, rfl⟩
theorem fit_Keys {k : Nat} : ∀ (m : Nat) {ds : List D}, fitAll (fit Tryz.prog (k + 2)) (List.replicate m 111) ds → ∃ l : List Kyt, ds = l.flatMap Kyt.cells ∧ l.length = m
  | 0, ds, h => ⟨[], h, rfl⟩
  | m + 1, ds, h => by
    obtain ⟨a, b, rfl, h1, h2⟩ := h
    obtain ⟨x, rfl⟩ := fit_Key h1
    obtain ⟨l, rfl, h3⟩ := fit_Keys m h2
    exact ⟨x :: l, rfl, by simp [h3]⟩
theorem fit_Class {k : Nat} {ds : List D} (h : fit Tryz.prog (k + 4) 107 ds) : ∃ c : Cls, ds = c.cells ∧ c.wh.length ≤ 9223372036854775807 ∧ c.ky.length ≤ 9223372036854775807 := by
  obtain ⟨_, _, rfl, h1, _, _, rfl, h2, _, _, rfl, h3, rfl⟩ := fit_st Tryz.underlying107 h
  obtain ⟨s1, rfl⟩ := fit_str h1
  obtain ⟨m, cs, rfl, a1, h4⟩ := fit_l Tryz.underlying104 h2
  obtain ⟨n, es, rfl, a2, h5⟩ := fit_l Tryz.underlying105 h3
  obtain ⟨l, rfl, rfl⟩ := fit_Tests m h4
  obtain ⟨q, rfl, rfl⟩ := fit_Keys n h5
  exact ⟨⟨s1, l, q⟩, rfl, Nat.le_trans a1 (by decide), Nat.le_trans a2 (by decide)⟩
theorem fit_Classes {k : Nat} : ∀ (m : Nat) {ds : List D}, fitAll (fit Tryz.prog (k + 4)) (List.replicate m 107) ds → ∃ l : List Cls, ds = l.flatMap Cls.cells ∧ l.length = m ∧ ∀ c ∈ l, c.wh.length ≤ 9223372036854775807 ∧ c.ky.length ≤ 9223372036854775807
  | 0, ds, h => ⟨[], h, rfl, fun _ h => by cases h⟩
  | m + 1, ds, h => by
    obtain ⟨a, b, rfl, h1, h2⟩ := h
    obtain ⟨x, rfl, b1⟩ := fit_Class h1
    obtain ⟨l, rfl, h3, b2⟩ := fit_Classes m h2
    refine ⟨x :: l, rfl, by simp [h3], fun c hc => ?_⟩
    rcases List.mem_cons.1 hc with rfl | hc
    · exact b1
    · exact b2 c hc
theorem arg_Program {x : D} (h : fitArg Tryz.prog 24 x) : ∃ p : Prg, x = .agg p.cells ∧ BigP p := by
  obtain ⟨ds, rfl, _, _, rfl, h1, _, _, rfl, h2, _, _, rfl, h3, _, _, rfl, h4, rfl⟩ := arg_st Tryz.underlying24 h
  obtain ⟨m, cs, rfl, a1, h5⟩ := fit_l Tryz.underlying22 h1
  obtain ⟨l, rfl, rfl, b1⟩ := fit_Classes m h5
  obtain ⟨n1, rfl, _⟩ := fit_int h2
  obtain ⟨n2, rfl, _⟩ := fit_int h3
  obtain ⟨n3, rfl, _⟩ := fit_int h4
  exact ⟨⟨l, n1, n2, n3⟩, rfl, Nat.le_trans a1 (by decide), b1⟩
end Go.Proofs.YtcephlgejkngiaaGreatDoor.Co
