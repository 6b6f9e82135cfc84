
/-
  MessageMinutes returns true, for every number and text.
-/
import Derived.Test.YtekfihlecbpifaaGreatDoorFit
import Derived.Test.YtekfihlecbpifaaGreatDoorMsNum
import Derived.Test.YtekfihlecbpifaaGreatDoorAwM
namespace Go.Proofs.YtekfihlecbpifaaGreatDoor.Co
open Go Go.Evl
set_option maxRecDepth 100000

section
variable {E : Oracle} (g : Good E)
include g
theorem w_MessageMinutes (m : Int) (s : List UInt8) : Fc E n_law02_MessageMinutes [I m, S s] (B true) := by
  have aw := s_awake g
  refine g.fn code_law02_MessageMinutes rfl ?_
  by_cases hl : s.length ≤ 40
  · have p1 := s_PrintMinute g m
    have c1 := r_CheckRange g m 0 1439
    have p2 := s_ParseMinute g s
    have p3 := r_ParseMinute g s
    by_cases hr : rng m 0 1439 = 0
    · have hm := rng_zero.1 hr
      have p4 := r_PrintMinute g m hm
      rw [hr] at c1
      rw [hr, if_pos rfl] at p1
      by_cases hp : minP s
      · have hn := numB_val hp.1
        have hb : 0 ≤ minV s := by unfold minV; omega
        rw [if_pos hp, if_pos hp] at p2
        rw [if_pos hp] at p3
        repeat' ((conv => whnf); first
          | (refine Br.tt ?_)
          | (refine Br.ff ?_)
          | (refine Need.mk (by first | omega | (simp; done) | (simp; omega)) ?_)
          | (refine Wr.keep (by omega) ?_)
          | (refine Cmp.tt (by first | omega | decide) ?_)
          | (refine Cmp.ff (by first | omega | decide) ?_)
          | (refine Rem.pos (by omega) ?_)
          | (refine Quo.pos (by omega) ?_)
          | (refine PickV.now rfl ?_)
          | (refine Pick.now rfl ?_)
          | (refine Chk.mk rfl ?_)
          | (refine PickW.now (by first | omega | decide) rfl ?_)
          | (apply CallI.of; assumption)
          | (refine Cmp.tt rfl ?_)
          | (refine Ret.mk rfl))
      · rw [if_neg hp, if_neg hp] at p2
        rw [if_neg hp] at p3
        repeat' ((conv => whnf); first
          | (refine Br.tt ?_)
          | (refine Br.ff ?_)
          | (refine Need.mk (by first | omega | (simp; done) | (simp; omega)) ?_)
          | (refine Wr.keep (by omega) ?_)
          | (refine Cmp.tt (by first | omega | decide) ?_)
          | (refine Cmp.ff (by first | omega | decide) ?_)
          | (refine Rem.pos (by omega) ?_)
          | (refine Quo.pos (by omega) ?_)
          | (refine PickV.now rfl ?_)
          | (refine Pick.now rfl ?_)
          | (refine Chk.mk rfl ?_)
          | (refine PickW.now (by first | omega | decide) rfl ?_)
          | (apply CallI.of; assumption)
          | (refine Cmp.tt rfl ?_)
          | (refine Ret.mk rfl))
    · rw [if_neg hr] at p1
      generalize rng m 0 1439 = c at *
      by_cases hp : minP s
      · have hn := numB_val hp.1
        have hb : 0 ≤ minV s := by unfold minV; omega
        rw [if_pos hp, if_pos hp] at p2
        rw [if_pos hp] at p3
        repeat' ((conv => whnf); first
          | (refine Br.tt ?_)
          | (refine Br.ff ?_)
          | (refine Need.mk (by first | omega | (simp; done) | (simp; omega)) ?_)
          | (refine Wr.keep (by omega) ?_)
          | (refine Cmp.tt (by first | omega | decide) ?_)
          | (refine Cmp.ff (by first | omega | decide) ?_)
          | (refine Rem.pos (by omega) ?_)
          | (refine Quo.pos (by omega) ?_)
          | (refine PickV.now rfl ?_)
          | (refine Pick.now rfl ?_)
          | (refine Chk.mk rfl ?_)
          | (refine PickW.now (by first | omega | decide) rfl ?_)
          | (apply CallI.of; assumption)
          | (refine Cmp.tt rfl ?_)
          | (refine Ret.mk rfl))
      · rw [if_neg hp, if_neg hp] at p2
        rw [if_neg hp] at p3
        repeat' ((conv => whnf); first
          | (refine Br.tt ?_)
          | (refine Br.ff ?_)
          | (refine Need.mk (by first | omega | (simp; done) | (simp; omega)) ?_)
          | (refine Wr.keep (by omega) ?_)
          | (refine Cmp.tt (by first | omega | decide) ?_)
          | (refine Cmp.ff (by first | omega | decide) ?_)
          | (refine Rem.pos (by omega) ?_)
          | (refine Quo.pos (by omega) ?_)
          | (refine PickV.now rfl ?_)
          | (refine Pick.now rfl ?_)
          | (refine Chk.mk rfl ?_)
          | (refine PickW.now (by first | omega | decide) rfl ?_)
          | (apply CallI.of; assumption)
          | (refine Cmp.tt rfl ?_)
          | (refine Ret.mk rfl))
  · repeat' ((conv => whnf); first
    | (refine Br.tt ?_)
    | (refine Br.ff ?_)
    | (refine Need.mk (by first | omega | (simp; done) | (simp; omega)) ?_)
    | (refine Wr.keep (by omega) ?_)
    | (refine Cmp.tt (by first | omega | decide) ?_)
    | (refine Cmp.ff (by first | omega | decide) ?_)
    | (refine Rem.pos (by omega) ?_)
    | (refine Quo.pos (by omega) ?_)
    | (refine PickV.now rfl ?_)
    | (refine Pick.now rfl ?_)
    | (refine Chk.mk rfl ?_)
    | (refine PickW.now (by first | omega | decide) rfl ?_)
      | (apply CallI.of; assumption)
      | (refine Ret.mk rfl))
end

theorem s_MessageMinutes {E : Oracle} (g : Good E) {xs : List D} (h : fitArgs Tryz.prog [3, 9] xs) : Fc E n_law02_MessageMinutes (asV xs) (B true) := by
  obtain ⟨x, y, rfl, h1, h2⟩ := args2 h
  obtain ⟨m, rfl, _⟩ := arg_int h1
  obtain ⟨s, rfl, _⟩ := arg_s Tryz.underlying9 h2
  exact w_MessageMinutes g m s
end Go.Proofs.YtekfihlecbpifaaGreatDoor.Co

