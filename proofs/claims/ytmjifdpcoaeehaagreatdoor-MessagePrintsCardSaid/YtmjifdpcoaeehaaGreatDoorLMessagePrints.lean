
/-
  MessagePrints returns true, for every message.
-/
import Derived.Test.YtmjifdpcoaeehaaGreatDoorMsFiu
import Derived.Test.YtmjifdpcoaeehaaGreatDoorMsPrt
import Derived.Test.YtmjifdpcoaeehaaGreatDoorAwM
namespace Go.Proofs.YtmjifdpcoaeehaaGreatDoor.Co
open Go Go.Evl
set_option maxRecDepth 100000
section
variable {E : Oracle} (g : Good E)
include g
set_option maxHeartbeats 4000000 in
theorem w_MessagePrints (m : Mst) : Fc E n_law02_MessagePrints [Msv m] (B true) := by
  have aw := s_awake g
  refine g.fn code_law02_MessagePrints rfl ?_
  have hs := r_ShortMessage g m 8 (by omega)
  cases hb : shortM m 8
  · rw [hb] at hs
    repeat' ((conv => whnf); first
    | refine Br.tt ?_
    | refine Br.ff ?_
    | refine Need.w ?_
    | refine Wr.w ?_
    | refine Cmp.t ?_
    | refine Cmp.f ?_
    | refine Rem.w ?_
    | refine Quo.w ?_
    | refine PickV.now rfl ?_
    | refine Pick.now rfl ?_
    | refine Chk.mk rfl ?_
    | refine PickW.w rfl ?_
      | (apply CallI.of; assumption)
      | (refine Ret.mk rfl))
  · rw [hb] at hs
    have hl : m.ls.length ≤ 1000000 := Nat.le_trans (shortM_len (by omega) hb) (by decide)
    have w := w_program g m hl
    have p1 := s_PrintMessage g m hl
    have c1 := s_CheckMessage g m hl
    have c2 := r_CheckMessage g m hl
    by_cases hz : chkMs m = 0
    · have p2 := r_PrintMessage g m hz
      rw [if_pos hz, hz] at p1
      rw [hz] at c1 c2
      repeat' ((conv => whnf); first
      | refine Br.tt ?_
      | refine Br.ff ?_
      | refine Need.w ?_
      | refine Wr.w ?_
      | refine Cmp.t ?_
      | refine Cmp.f ?_
      | refine Rem.w ?_
      | refine Quo.w ?_
      | refine PickV.now rfl ?_
      | refine Pick.now rfl ?_
      | refine Chk.mk rfl ?_
      | refine PickW.w rfl ?_
        | (apply CallI.of; assumption)
        | (refine Cmp.tt rfl ?_)
        | (refine Ret.mk rfl))
    · rw [if_neg hz] at p1
      generalize chkMs m = c at *
      repeat' ((conv => whnf); first
      | refine Br.tt ?_
      | refine Br.ff ?_
      | refine Need.w ?_
      | refine Wr.w ?_
      | refine Cmp.t ?_
      | refine Cmp.f ?_
      | refine Rem.w ?_
      | refine Quo.w ?_
      | refine PickV.now rfl ?_
      | refine Pick.now rfl ?_
      | refine Chk.mk rfl ?_
      | refine PickW.w rfl ?_
        | (apply CallI.of; assumption)
        | (refine Cmp.tt rfl ?_)
        | (refine Ret.mk rfl))
end
theorem s_MessagePrints {E : Oracle} (g : Good E) {xs : List D} (h : fitArgs Tryz.prog [24] xs) : Fc E n_law02_MessagePrints (asV xs) (B true) := by
  obtain ⟨x, rfl, h1⟩ := args1 h
  obtain ⟨m, rfl⟩ := arg_Message h1
  exact w_MessagePrints g m
end Go.Proofs.YtmjifdpcoaeehaaGreatDoor.Co
