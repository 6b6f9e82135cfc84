
/-
  MessageLines returns true, for every line.
-/
import Derived.Test.YtekfihlecbpifaaGreatDoorMsFit
import Derived.Test.YtekfihlecbpifaaGreatDoorMsLine
import Derived.Test.YtekfihlecbpifaaGreatDoorAwM
namespace Go.Proofs.YtekfihlecbpifaaGreatDoor.Co
open Go Go.Evl
set_option maxRecDepth 100000

section
variable {E : Oracle} (g : Good E)
include g
set_option maxHeartbeats 4000000 in
theorem w_MessageLines (l : Lnt) : Fc E n_law02_MessageLines [Lnv l] (B true) := by
  have aw := s_awake g
  refine g.fn code_law02_MessageLines rfl ?_
  have hb := r_Brief g l.rq
  have p1 := s_PrintLine g l
  have p2 := r_CheckLine g l
  have p3 := s_CheckLine g l
  generalize briefB l.rq = b at *
  by_cases hl : l.ac.length ≤ 40
  · cases b
    · repeat' ((conv => whnf); first
      | (refine Br.tt ?_)
      | (refine Br.ff ?_)
      | (refine Need.mk (by first | omega | (simp; done) | (simp; omega)) ?_)
      | (refine Wr.keep (by omega) ?_)
      | (refine Cmp.tt (by first | omega | decide) ?_)
      | (refine Cmp.ff (by first | omega | decide) ?_)
      | (refine Rem.pos (by omega) ?_)
      | (refine Quo.pos (by omega) ?_)
      | (refine PickV.now rfl ?_)
      | (refine Pick.now rfl ?_)
      | (refine Chk.mk rfl ?_)
      | (refine PickW.now (by first | omega | decide) rfl ?_)
        | (apply CallI.of; assumption)
        | (refine Ret.mk rfl))
    · by_cases h : chkLn l = 0
      · have p4 := r_PrintLine g l h
        rw [if_pos h, h] at p1
        rw [h] at p2 p3
        repeat' ((conv => whnf); first
          | (refine Br.tt ?_)
          | (refine Br.ff ?_)
          | (refine Need.mk (by first | omega | (simp; done) | (simp; omega)) ?_)
          | (refine Wr.keep (by omega) ?_)
          | (refine Cmp.tt (by first | omega | decide) ?_)
          | (refine Cmp.ff (by first | omega | decide) ?_)
          | (refine Rem.pos (by omega) ?_)
          | (refine Quo.pos (by omega) ?_)
          | (refine PickV.now rfl ?_)
          | (refine Pick.now rfl ?_)
          | (refine Chk.mk rfl ?_)
          | (refine PickW.now (by first | omega | decide) rfl ?_)
          | (apply CallI.of; assumption)
          | (refine Cmp.tt rfl ?_)
          | (refine Ret.mk rfl))
      · rw [if_neg h] at p1
        generalize chkLn l = c at *
        repeat' ((conv => whnf); first
          | (refine Br.tt ?_)
          | (refine Br.ff ?_)
          | (refine Need.mk (by first | omega | (simp; done) | (simp; omega)) ?_)
          | (refine Wr.keep (by omega) ?_)
          | (refine Cmp.tt (by first | omega | decide) ?_)
          | (refine Cmp.ff (by first | omega | decide) ?_)
          | (refine Rem.pos (by omega) ?_)
          | (refine Quo.pos (by omega) ?_)
          | (refine PickV.now rfl ?_)
          | (refine Pick.now rfl ?_)
          | (refine Chk.mk rfl ?_)
          | (refine PickW.now (by first | omega | decide) rfl ?_)
          | (apply CallI.of; assumption)
          | (refine Cmp.tt rfl ?_)
          | (refine Ret.mk rfl))
  · repeat' ((conv => whnf); first
    | (refine Br.tt ?_)
    | (refine Br.ff ?_)
    | (refine Need.mk (by first | omega | (simp; done) | (simp; omega)) ?_)
    | (refine Wr.keep (by omega) ?_)
    | (refine Cmp.tt (by first | omega | decide) ?_)
    | (refine Cmp.ff (by first | omega | decide) ?_)
    | (refine Rem.pos (by omega) ?_)
    | (refine Quo.pos (by omega) ?_)
    | (refine PickV.now rfl ?_)
    | (refine Pick.now rfl ?_)
    | (refine Chk.mk rfl ?_)
    | (refine PickW.now (by first | omega | decide) rfl ?_)
      | (apply CallI.of; assumption)
      | (refine Ret.mk rfl))
end

theorem s_MessageLines {E : Oracle} (g : Good E) {xs : List D} (h : fitArgs Tryz.prog [37] xs) : Fc E n_law02_MessageLines (asV xs) (B true) := by
  obtain ⟨x, rfl, h1⟩ := args1 h
  obtain ⟨l, rfl⟩ := arg_Line h1
  exact w_MessageLines g l
end Go.Proofs.YtekfihlecbpifaaGreatDoor.Co

