
/-
  Requests as a law's parameters.
-/
import Derived.Test.YtknmjcikgegghaaGreatDoorMsRqs
namespace Go.Proofs.YtknmjcikgegghaaGreatDoor.Co
open Go Go.Evl
set_option maxRecDepth 100000
theorem fit_Requests {k : Nat} : ∀ (m : Nat) {ds : List D}, fitAll (fit Tryz.prog (k + 3)) (List.replicate m 25) ds → ∃ l : List Rqt, ds = l.flatMap Rqt.cells ∧ l.length = m
  | 0, ds, h => ⟨[], h, rfl⟩
  | m + 1, ds, h => by
    obtain ⟨a, b, rfl, h1, h2⟩ := h
    obtain ⟨x, rfl⟩ := fit_Request h1
    obtain ⟨l, rfl, h3⟩ := fit_Requests m h2
    exact ⟨x :: l, rfl, by simp [h3]⟩
theorem arg_Requests {x : D} (h : fitArg Tryz.prog 42 x) : ∃ l : List Rqt, x = .list l.length (l.flatMap Rqt.cells) := by
  obtain ⟨m, cs, rfl, _, h6⟩ := arg_l Tryz.underlying42 h
  obtain ⟨l, rfl, rfl⟩ := fit_Requests m h6
  exact ⟨l, rfl⟩
theorem arg_Request {x : D} (h : fitArg Tryz.prog 25 x) : ∃ q : Rqt, x = .agg q.cells := by
  obtain ⟨ds, rfl, _, _, rfl, h1, _, _, rfl, h2, _, _, rfl, h3, _, _, rfl, h4, _, _, rfl, h5, _, _, rfl, h6, _, _, rfl, h7, _, _, rfl, h8, _, _, rfl, h9, _, _, rfl, h10, _, _, rfl, h11, rfl⟩ := arg_st Tryz.underlying25 h
  obtain ⟨s1, rfl⟩ := fit_str h1
  obtain ⟨s2, rfl⟩ := fit_str h2
  obtain ⟨s3, rfl⟩ := fit_str h3
  obtain ⟨s4, rfl⟩ := fit_str h4
  obtain ⟨s5, rfl⟩ := fit_str h5
  obtain ⟨s6, rfl⟩ := fit_str h6
  obtain ⟨f, t, d, rfl⟩ := fit_Period h7
  obtain ⟨a, rfl, _⟩ := fit_int h8
  obtain ⟨b, rfl, _⟩ := fit_int h9
  obtain ⟨c, rfl, _⟩ := fit_int h10
  obtain ⟨e, rfl, _⟩ := fit_int h11
  exact ⟨⟨s1, s2, s3, s4, s5, s6, f, t, d, a, b, c, e⟩, rfl⟩
end Go.Proofs.YtknmjcikgegghaaGreatDoor.Co
