
/-
  MessageResults returns true, for every message.
-/
import Derived.Test.YtgpgcadcpogcbaaGreatDoorMsFiu
import Derived.Test.YtgpgcadcpogcbaaGreatDoorMsRes
import Derived.Test.YtgpgcadcpogcbaaGreatDoorAwM
namespace Go.Proofs.YtgpgcadcpogcbaaGreatDoor.Co
open Go Go.Evl
set_option maxRecDepth 100000
section
variable {E : Oracle} (g : Good E)
include g
set_option maxHeartbeats 4000000 in
theorem w_MessageResults (m : Mst) : Fc E n_law02_MessageResults [Msv m] (B true) := by
  have aw := s_awake g
  have hs := r_ShortMessage g m 8 (by omega)
  cases hb : shortM m 8
  · rw [hb] at hs
    refine g.fn code_law02_MessageResults rfl ?_
    repeat' ((conv => whnf); first
    | refine Br.tt ?_
    | refine Br.ff ?_
    | refine Need.w ?_
    | refine Wr.w ?_
    | refine Cmp.t ?_
    | refine Cmp.f ?_
    | refine Rem.w ?_
    | refine Quo.w ?_
    | refine PickV.now rfl ?_
    | refine Pick.now rfl ?_
    | refine Chk.mk rfl ?_
    | refine PickW.w rfl ?_
      | (apply CallI.of; assumption)
      | (refine Ret.mk rfl))
  · rw [hb] at hs
    have hl : m.ls.length ≤ 1000000 := Nat.le_trans (shortM_len (by omega) hb) (by decide)
    have w := w_program g m hl
    have main : ∀ (rs : List Rst) (e : Int), rs.length ≤ 1000000 → Fc E n_message_Results [Msv m] (.tup [LR rs, I e]) → Fc E n_ref02_Results [Msv m] (.tup [LR rs, I e]) → Fc E n_law02_MessageResults [Msv m] (B true) := by
      intro rs e hr p1 p2
      have o1 := w_ownResults g rs hr
      have o2 := r_SameResults g rs hr
      refine g.fn code_law02_MessageResults rfl ?_
      repeat' ((conv => whnf); first
      | refine Br.tt ?_
      | refine Br.ff ?_
      | refine Need.w ?_
      | refine Wr.w ?_
      | refine Cmp.t ?_
      | refine Cmp.f ?_
      | refine Rem.w ?_
      | refine Quo.w ?_
      | refine PickV.now rfl ?_
      | refine Pick.now rfl ?_
      | refine Chk.mk rfl ?_
      | refine PickW.w rfl ?_
        | (apply CallI.of; assumption)
        | (refine Cmp.tt rfl ?_)
        | (refine Ret.mk rfl))
    obtain ⟨a1, a2, a3⟩ := s_Results g m hl
    obtain ⟨b1, b2, b3⟩ := r_Results g m hl
    by_cases hz : chkRs m = 0
    · by_cases hd : DupL m.ls
      · exact main _ _ (by decide) (a2 hz hd) (b2 hz hd)
      · exact main _ _ (by simpa using hl) (a3 hz hd) (b3 hz hd)
    · exact main _ _ (by decide) (a1 hz) (b1 hz)
end
theorem s_MessageResults {E : Oracle} (g : Good E) {xs : List D} (h : fitArgs Tryz.prog [31] xs) : Fc E n_law02_MessageResults (asV xs) (B true) := by
  obtain ⟨x, rfl, h1⟩ := args1 h
  obtain ⟨m, rfl⟩ := arg_Message h1
  exact w_MessageResults g m
end Go.Proofs.YtgpgcadcpogcbaaGreatDoor.Co
