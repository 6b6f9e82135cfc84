
/-
  The law's own helpers: an integer, a text, a list, as expected.
-/
import Derived.Test.YtlboecjgelnabaaGreatDoorSpOne
import Derived.Test.YtlboecjgelnabaaGreatDoorSpDraw
namespace Go.Proofs.YtlboecjgelnabaaGreatDoor.Co
open Go Go.Evl

section
variable {E : Oracle} (g : Good E)
include g

theorem w_number_ok (x : Int) : Fc E n_law01_number [I x, I 0, I 0, I x] (B true) := by
  refine g.fn code_law01_number rfl ?_
  repeat' ((conv => whnf); first
    | (refine Br.tt ?_)
    | (refine Br.ff ?_)
    | (refine Need.mk (by first | omega | (simp; done) | (simp; omega)) ?_)
    | (refine Wr.keep (by omega) ?_)
    | (refine Cmp.tt (by first | omega | decide) ?_)
    | (refine Cmp.ff (by first | omega | decide) ?_)
    | (refine Rem.pos (by omega) ?_)
    | (refine Quo.pos (by omega) ?_)
    | (refine PickV.now rfl ?_)
    | (refine Pick.now rfl ?_)
    | (refine PickW.now (by first | omega | decide) rfl ?_)
    | (refine Ret.mk rfl))

theorem w_number_bad (e y : Int) (he : e ≠ 0) : Fc E n_law01_number [I 0, I e, I e, I y] (B true) := by
  refine g.fn code_law01_number rfl ?_
  repeat' ((conv => whnf); first
    | (refine Br.tt ?_)
    | (refine Br.ff ?_)
    | (refine Need.mk (by first | omega | (simp; done) | (simp; omega)) ?_)
    | (refine Wr.keep (by omega) ?_)
    | (refine Cmp.tt (by first | omega | decide) ?_)
    | (refine Cmp.ff (by first | omega | decide) ?_)
    | (refine Rem.pos (by omega) ?_)
    | (refine Quo.pos (by omega) ?_)
    | (refine PickV.now rfl ?_)
    | (refine Pick.now rfl ?_)
    | (refine PickW.now (by first | omega | decide) rfl ?_)
    | (refine Ret.mk rfl))

theorem w_text_ok (s : List UInt8) : Fc E n_law01_text [S s, I 0, I 0, S s] (B true) := by
  refine g.fn code_law01_text rfl ?_
  repeat' ((conv => whnf); first
    | (refine Br.tt ?_)
    | (refine Br.ff ?_)
    | (refine Need.mk (by first | omega | (simp; done) | (simp; omega)) ?_)
    | (refine Wr.keep (by omega) ?_)
    | (refine Cmp.tt (by first | omega | decide) ?_)
    | (refine Cmp.ff (by first | omega | decide) ?_)
    | (refine Rem.pos (by omega) ?_)
    | (refine Quo.pos (by omega) ?_)
    | (refine PickV.now rfl ?_)
    | (refine Pick.now rfl ?_)
    | (refine PickW.now (by first | omega | decide) rfl ?_)
    | (refine Cmp.tt rfl ?_)
    | (refine Ret.mk rfl))

theorem w_text_bad (e : Int) (s : List UInt8) (he : e ≠ 0) : Fc E n_law01_text [S [], I e, I e, S s] (B true) := by
  refine g.fn code_law01_text rfl ?_
  repeat' ((conv => whnf); first
    | (refine Br.tt ?_)
    | (refine Br.ff ?_)
    | (refine Need.mk (by first | omega | (simp; done) | (simp; omega)) ?_)
    | (refine Wr.keep (by omega) ?_)
    | (refine Cmp.tt (by first | omega | decide) ?_)
    | (refine Cmp.ff (by first | omega | decide) ?_)
    | (refine Rem.pos (by omega) ?_)
    | (refine Quo.pos (by omega) ?_)
    | (refine PickV.now rfl ?_)
    | (refine Pick.now rfl ?_)
    | (refine PickW.now (by first | omega | decide) rfl ?_)
    | (refine Ret.mk rfl))

theorem w_list_ok (l : List Int) (hl : l.length ≤ 140737488355328) : Fc E n_law01_list [LI l, I 0, I 0, LI l] (B true) := by
  refine g.fn code_law01_list rfl ?_
  have hsame : Fc E n_ref01_SameInts [LI l, LI l] (B true) := by
    have := r_SameInts g l l hl
    simpa using this
  repeat' ((conv => whnf); first
    | (refine Br.tt ?_)
    | (refine Br.ff ?_)
    | (refine Need.mk (by first | omega | (simp; done) | (simp; omega)) ?_)
    | (refine Wr.keep (by omega) ?_)
    | (refine Cmp.tt (by first | omega | decide) ?_)
    | (refine Cmp.ff (by first | omega | decide) ?_)
    | (refine Rem.pos (by omega) ?_)
    | (refine Quo.pos (by omega) ?_)
    | (refine PickV.now rfl ?_)
    | (refine Pick.now rfl ?_)
    | (refine PickW.now (by first | omega | decide) rfl ?_)
    | (refine CallI.of hsame ?_)
    | (refine Ret.mk rfl))

theorem w_list_bad (e : Int) (he : e ≠ 0) : Fc E n_law01_list [LI [], I e, I e, LI []] (B true) := by
  refine g.fn code_law01_list rfl ?_
  repeat' ((conv => whnf); first
    | (refine Br.tt ?_)
    | (refine Br.ff ?_)
    | (refine Need.mk (by first | omega | (simp; done) | (simp; omega)) ?_)
    | (refine Wr.keep (by omega) ?_)
    | (refine Cmp.tt (by first | omega | decide) ?_)
    | (refine Cmp.ff (by first | omega | decide) ?_)
    | (refine Rem.pos (by omega) ?_)
    | (refine Quo.pos (by omega) ?_)
    | (refine PickV.now rfl ?_)
    | (refine Pick.now rfl ?_)
    | (refine PickW.now (by first | omega | decide) rfl ?_)
    | (refine Ret.mk rfl))
end
end Go.Proofs.YtlboecjgelnabaaGreatDoor.Co

