
/-
  Requests and results as a law's parameters.
-/
import Derived.Test.YtmjifdpcoaeehaaGreatDoorMsRqs
import Derived.Test.YtmjifdpcoaeehaaGreatDoorMsRes
namespace Go.Proofs.YtmjifdpcoaeehaaGreatDoor.Co
open Go Go.Evl
set_option maxRecDepth 100000
theorem fit_Requests {k : Nat} : ∀ (m : Nat) {ds : List D}, fitAll (fit Tryz.prog (k + 3)) (List.replicate m 43) ds → ∃ l : List Rqt, ds = l.flatMap Rqt.cells ∧ l.length = m
  | 0, ds, h => ⟨[], h, rfl⟩
  | m + 1, ds, h => by
    obtain ⟨a, b, rfl, h1, h2⟩ := h
    obtain ⟨x, rfl⟩ := fit_Request h1
    obtain ⟨l, rfl, h3⟩ := fit_Requests m h2
    exact ⟨x :: l, rfl, by simp [h3]⟩
theorem arg_Requests {x : D} (h : fitArg Tryz.prog 38 x) : ∃ l : List Rqt, x = .list l.length (l.flatMap Rqt.cells) := by
  obtain ⟨m, cs, rfl, _, h6⟩ := arg_l Tryz.underlying38 h
  obtain ⟨l, rfl, rfl⟩ := fit_Requests m h6
  exact ⟨l, rfl⟩
theorem arg_Request {x : D} (h : fitArg Tryz.prog 43 x) : ∃ q : Rqt, x = .agg q.cells := by
  obtain ⟨ds, rfl, _, _, rfl, h1, _, _, rfl, h2, _, _, rfl, h3, _, _, rfl, h4, _, _, rfl, h5, _, _, rfl, h6, _, _, rfl, h7, _, _, rfl, h8, _, _, rfl, h9, _, _, rfl, h10, _, _, rfl, h11, rfl⟩ := arg_st Tryz.underlying43 h
  obtain ⟨s1, rfl⟩ := fit_str h1
  obtain ⟨s2, rfl⟩ := fit_str h2
  obtain ⟨s3, rfl⟩ := fit_str h3
  obtain ⟨s4, rfl⟩ := fit_str h4
  obtain ⟨s5, rfl⟩ := fit_str h5
  obtain ⟨s6, rfl⟩ := fit_str h6
  obtain ⟨f, t, d, rfl⟩ := fit_Period h7
  obtain ⟨a, rfl, _⟩ := fit_int h8
  obtain ⟨b, rfl, _⟩ := fit_int h9
  obtain ⟨c, rfl, _⟩ := fit_int h10
  obtain ⟨e, rfl, _⟩ := fit_int h11
  exact ⟨⟨s1, s2, s3, s4, s5, s6, f, t, d, a, b, c, e⟩, rfl⟩
theorem fit_Result {k : Nat} {ds : List D} (h : fit Tryz.prog (k + 2) 84 ds) : ∃ r : Rst, ds = r.cells := by
  obtain ⟨_, _, rfl, h1, _, _, rfl, h2, _, _, rfl, h3, rfl⟩ := fit_st Tryz.underlying84 h
  obtain ⟨s, rfl⟩ := fit_str h1
  obtain ⟨b, rfl⟩ := fit_b Tryz.underlying4 h2
  obtain ⟨m, rfl, _⟩ := fit_int h3
  exact ⟨⟨s, b, m⟩, rfl⟩
theorem fit_Results {k : Nat} : ∀ (m : Nat) {ds : List D}, fitAll (fit Tryz.prog (k + 2)) (List.replicate m 84) ds → ∃ l : List Rst, ds = l.flatMap Rst.cells ∧ l.length = m
  | 0, ds, h => ⟨[], h, rfl⟩
  | m + 1, ds, h => by
    obtain ⟨a, b, rfl, h1, h2⟩ := h
    obtain ⟨x, rfl⟩ := fit_Result h1
    obtain ⟨l, rfl, h3⟩ := fit_Results m h2
    exact ⟨x :: l, rfl, by simp [h3]⟩
theorem arg_Results {x : D} (h : fitArg Tryz.prog 59 x) : ∃ l : List Rst, x = .list l.length (l.flatMap Rst.cells) := by
  obtain ⟨m, cs, rfl, _, h6⟩ := arg_l Tryz.underlying59 h
  obtain ⟨l, rfl, rfl⟩ := fit_Results m h6
  exact ⟨l, rfl⟩
end Go.Proofs.YtmjifdpcoaeehaaGreatDoor.Co
