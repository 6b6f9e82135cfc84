
/-
  Messages: the parts of a text between blanks.
-/
import Derived.Test.YtmjifdpcoaeehaaGreatDoorMsReq
import Derived.Test.YtmjifdpcoaeehaaGreatDoorPlSplit
namespace Go.Proofs.YtmjifdpcoaeehaaGreatDoor.Co
open Go Go.Evl
abbrev LS (l : List (List UInt8)) : V := .d (.list l.length (l.map D.str))
theorem drop_eq_win {s : List UInt8} {f i : Nat} (h : f ≤ i) : s.drop f = win s f (i - f) ++ s.drop i := by
  unfold win
  have := (List.take_append_drop (i - f) (s.drop f)).symm
  rwa [List.drop_drop, Nat.add_sub_cancel' h] at this
theorem mem_win {s : List UInt8} {b : UInt8} {f i : Nat} (h : b ∈ win s f (i - f)) : ∃ j, f ≤ j ∧ j < i ∧ j < s.length ∧ s.getD j 0 = b := by
  unfold win at h
  obtain ⟨k, hk, rfl⟩ := List.getElem_of_mem h
  simp only [List.length_take, List.length_drop] at hk
  refine ⟨f + k, by omega, by omega, by omega, ?_⟩
  simp [List.getD, show f + k < s.length by omega]
section
variable {E : Oracle} (g : Good E)
include g
theorem s_Split (s : List UInt8) (hs : s.length ≤ 1000000) : Fc E n_strings_Split [S s, S [32]] (LS (parts 32 s)) := by
  refine Fc.extern g.lim (x := splitX) rfl (v := LS (parts 32 s)) (m' := []) ?_ rfl
  simp only [splitX, splitD_parts]
  rw [if_pos ⟨hs, by simp⟩]
end
end Go.Proofs.YtmjifdpcoaeehaaGreatDoor.Co
