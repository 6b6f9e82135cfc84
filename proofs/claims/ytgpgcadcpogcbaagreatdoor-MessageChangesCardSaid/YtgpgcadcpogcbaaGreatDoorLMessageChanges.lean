
/-
  MessageChanges returns true, for all requests.
-/
import Derived.Test.YtgpgcadcpogcbaaGreatDoorMsOwn
import Derived.Test.YtgpgcadcpogcbaaGreatDoorMsChh
import Derived.Test.YtgpgcadcpogcbaaGreatDoorMsChi
import Derived.Test.YtgpgcadcpogcbaaGreatDoorMsFix
import Derived.Test.YtgpgcadcpogcbaaGreatDoorAwM
namespace Go.Proofs.YtgpgcadcpogcbaaGreatDoor.Co
open Go Go.Evl
set_option maxRecDepth 100000
section
variable {E : Oracle} (g : Good E)
include g
set_option maxHeartbeats 8000000 in
theorem w_MessageChanges (b a : List Rqt) : Fc E n_law02_MessageChanges [LQ b, LQ a] (B true) := by
  have aw := s_awake g
  have hs := r_Short g b 64 (by omega)
  have ht := r_Short g a 64 (by omega)
  cases h1 : (decide (b.length ≤ 64 ∨ b.length = 65) && b.all briefB)
  · rw [h1] at hs
    refine g.fn code_law02_MessageChanges rfl ?_
    repeat' ((conv => whnf); first
    | refine Br.tt ?_
    | refine Br.ff ?_
    | refine Need.w ?_
    | refine Wr.w ?_
    | refine Cmp.t ?_
    | refine Cmp.f ?_
    | refine Rem.w ?_
    | refine Quo.w ?_
    | refine PickV.now rfl ?_
    | refine Pick.now rfl ?_
    | refine Chk.mk rfl ?_
    | refine PickW.w rfl ?_
      | (apply CallI.of; assumption)
      | (refine Ret.mk rfl))
  · rw [h1] at hs
    cases h2 : (decide (a.length ≤ 64 ∨ a.length = 65) && a.all briefB)
    · rw [h2] at ht
      refine g.fn code_law02_MessageChanges rfl ?_
      repeat' ((conv => whnf); first
      | refine Br.tt ?_
      | refine Br.ff ?_
      | refine Need.w ?_
      | refine Wr.w ?_
      | refine Cmp.t ?_
      | refine Cmp.f ?_
      | refine Rem.w ?_
      | refine Quo.w ?_
      | refine PickV.now rfl ?_
      | refine Pick.now rfl ?_
      | refine Chk.mk rfl ?_
      | refine PickW.w rfl ?_
        | (apply CallI.of; assumption)
        | (refine Ret.mk rfl))
    · rw [h2] at ht
      simp only [Bool.and_eq_true, decide_eq_true_eq] at h1 h2
      have hb : b.length ≤ 65 := by omega
      have ha : a.length ≤ 65 := by omega
      clear h1 h2
      have cb := w_copied g b (by omega)
      have ca := w_copied g a (by omega)
      have k1 := r_CheckRequests g b (by omega)
      have k2 := r_CheckRequests g a (by omega)
      obtain ⟨p1, p2⟩ := s_Changed g b a (by omega) (by omega)
      have kf := r_First2 g (chkRqs b) (chkRqs a)
      have n1 := w_ownLines g [] (by decide)
      have n2 := r_SameLines g [] (by decide)
      by_cases hz : firstI [chkRqs b, chkRqs a] = 0
      · have p2 := p2 hz
        have hz' := (firstI_zero _).1 hz
        have z1 := chkRqs_zero (hz' _ (List.mem_cons_self ..))
        have z2 := chkRqs_zero (hz' (chkRqs a) (by simp))
        have q := r_Changed g b a (by omega) (by omega) z1.2.1 z2.2.1
        have hl : (chgL b a).length ≤ 1000000 := by
          unfold chgL
          have := one_len 1 (dL_len a) b
          have := one_len 2 (cL_len a) b
          have := one_len 1 (nL_len b) a
          rw [List.length_append, List.length_append]
          omega
        have o1 := w_ownLines g (chgL b a) hl
        have o2 := r_SameLines g (chgL b a) hl
        rw [hz] at kf
        clear p1 hz' z1 z2
        generalize chgL b a = L at *
        by_cases hn : 64 < L.length
        · rw [if_pos hn] at p2
          refine g.fn code_law02_MessageChanges rfl ?_
          repeat' ((conv => whnf); first
          | refine Br.tt ?_
          | refine Br.ff ?_
          | refine Need.w ?_
          | refine Wr.w ?_
          | refine Cmp.t ?_
          | refine Cmp.f ?_
          | refine Rem.w ?_
          | refine Quo.w ?_
          | refine PickV.now rfl ?_
          | refine Pick.now rfl ?_
          | refine Chk.mk rfl ?_
          | refine PickW.w rfl ?_
            | (apply CallI.of; assumption)
            | (refine Cmp.tt rfl ?_)
            | (refine Ret.mk rfl))
        · rw [if_neg hn] at p2
          refine g.fn code_law02_MessageChanges rfl ?_
          repeat' ((conv => whnf); first
          | refine Br.tt ?_
          | refine Br.ff ?_
          | refine Need.w ?_
          | refine Wr.w ?_
          | refine Cmp.t ?_
          | refine Cmp.f ?_
          | refine Rem.w ?_
          | refine Quo.w ?_
          | refine PickV.now rfl ?_
          | refine Pick.now rfl ?_
          | refine Chk.mk rfl ?_
          | refine PickW.w rfl ?_
            | (apply CallI.of; assumption)
            | (refine Cmp.tt rfl ?_)
            | (refine Ret.mk rfl))
      · have p1 := p1 hz
        clear p2
        generalize firstI [chkRqs b, chkRqs a] = e at *
        refine g.fn code_law02_MessageChanges rfl ?_
        repeat' ((conv => whnf); first
        | refine Br.tt ?_
        | refine Br.ff ?_
        | refine Need.w ?_
        | refine Wr.w ?_
        | refine Cmp.t ?_
        | refine Cmp.f ?_
        | refine Rem.w ?_
        | refine Quo.w ?_
        | refine PickV.now rfl ?_
        | refine Pick.now rfl ?_
        | refine Chk.mk rfl ?_
        | refine PickW.w rfl ?_
          | (apply CallI.of; assumption)
          | (refine Cmp.ff hz ?_)
          | (refine Cmp.tt rfl ?_)
          | (refine Ret.mk rfl))
end
theorem s_MessageChanges {E : Oracle} (g : Good E) {xs : List D} (h : fitArgs Tryz.prog [50, 50] xs) : Fc E n_law02_MessageChanges (asV xs) (B true) := by
  obtain ⟨x, y, rfl, h1, h2⟩ := args2 h
  obtain ⟨b, rfl⟩ := arg_Requests h1
  obtain ⟨a, rfl⟩ := arg_Requests h2
  exact w_MessageChanges g b a
end Go.Proofs.YtgpgcadcpogcbaaGreatDoor.Co
