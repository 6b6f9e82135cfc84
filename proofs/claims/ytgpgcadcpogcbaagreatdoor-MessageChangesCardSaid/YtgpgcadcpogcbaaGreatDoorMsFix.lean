
/-
  Requests as a law's parameters.
-/
import Derived.Test.YtgpgcadcpogcbaaGreatDoorMsRqs
namespace Go.Proofs.YtgpgcadcpogcbaaGreatDoor.Co
open Go Go.Evl
set_option maxRecDepth 100000
theorem fit_Requests {k : Nat} : ∀ (m : Nat) {ds : List D}, fitAll (fit Tryz.prog (k + 3)) (List.replicate m 78) ds → ∃ l : List Rqt, ds = l.flatMap Rqt.cells ∧ l.length = m
  | 0, ds, h => ⟨[], h, rfl⟩
  | m + 1, ds, h => by
    obtain ⟨a, b, rfl, h1, h2⟩ := h
    obtain ⟨x, rfl⟩ := fit_Request h1
    obtain ⟨l, rfl, h3⟩ := fit_Requests m h2
    exact ⟨x :: l, rfl, by simp [h3]⟩
theorem arg_Requests {x : D} (h : fitArg Tryz.prog 50 x) : ∃ l : List Rqt, x = .list l.length (l.flatMap Rqt.cells) := by
  obtain ⟨m, cs, rfl, _, h6⟩ := arg_l Tryz.underlying50 h
  obtain ⟨l, rfl, rfl⟩ := fit_Requests m h6
  exact ⟨l, rfl⟩
end Go.Proofs.YtgpgcadcpogcbaaGreatDoor.Co
