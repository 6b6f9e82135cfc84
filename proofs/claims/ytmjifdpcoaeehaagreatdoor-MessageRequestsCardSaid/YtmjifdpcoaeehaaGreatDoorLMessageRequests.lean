
/-
  MessageRequests returns true, for all requests.
-/
import Derived.Test.YtmjifdpcoaeehaaGreatDoorMsPai
import Derived.Test.YtmjifdpcoaeehaaGreatDoorMsFix
import Derived.Test.YtmjifdpcoaeehaaGreatDoorAwM
namespace Go.Proofs.YtmjifdpcoaeehaaGreatDoor.Co
open Go Go.Evl
set_option maxRecDepth 100000
section
variable {E : Oracle} (g : Good E)
include g
set_option maxHeartbeats 8000000 in
theorem w_MessageRequests (x : Rqt) (l : List Rqt) : Fc E n_law02_MessageRequests [Rqv x, LQ l] (B true) := by
  have aw := s_awake g
  have hx := r_Brief g x
  have hs := r_Short g l 6 (by omega)
  cases hb : briefB x
  · rw [hb] at hx
    refine g.fn code_law02_MessageRequests rfl ?_
    repeat' ((conv => whnf); first
    | refine Br.tt ?_
    | refine Br.ff ?_
    | refine Need.w ?_
    | refine Wr.w ?_
    | refine Cmp.t ?_
    | refine Cmp.f ?_
    | refine Rem.w ?_
    | refine Quo.w ?_
    | refine PickV.now rfl ?_
    | refine Pick.now rfl ?_
    | refine Chk.mk rfl ?_
    | refine PickW.w rfl ?_
      | (apply CallI.of; assumption)
      | (refine Ret.mk rfl))
  · rw [hb] at hx
    cases h1 : (decide (l.length ≤ 6 ∨ l.length = 65) && l.all briefB)
    · rw [h1] at hs
      refine g.fn code_law02_MessageRequests rfl ?_
      repeat' ((conv => whnf); first
      | refine Br.tt ?_
      | refine Br.ff ?_
      | refine Need.w ?_
      | refine Wr.w ?_
      | refine Cmp.t ?_
      | refine Cmp.f ?_
      | refine Rem.w ?_
      | refine Quo.w ?_
      | refine PickV.now rfl ?_
      | refine Pick.now rfl ?_
      | refine Chk.mk rfl ?_
      | refine PickW.w rfl ?_
        | (apply CallI.of; assumption)
        | (refine Ret.mk rfl))
    · rw [h1] at hs
      simp only [Bool.and_eq_true, decide_eq_true_eq] at h1
      have hl : l.length ≤ 65 := by omega
      clear h1
      have cl := w_copied g l (by omega)
      have k1 := r_CheckRequests g l (by omega)
      have p1 := s_Pairs g l (by omega)
      have p2 := r_Pairs g l (by omega)
      have q1 := s_CheckRequest g x
      have q2 := r_CheckRequest g x
      have n2 := r_SamePairs g [] (by decide)
      have hlen := prsG_len (l := l) l [] 0
      rw [List.length_nil, Nat.zero_add] at hlen
      have n1 := r_SamePairs g (prsG l [] 0 l).1 (by omega)
      generalize chkRq x = e at *
      by_cases hz : chkRqs l = 0
      · rw [if_pos hz] at p1
        rw [hz] at k1
        clear hlen
        generalize prsG l [] 0 l = P at *
        refine g.fn code_law02_MessageRequests rfl ?_
        repeat' ((conv => whnf); first
        | refine Br.tt ?_
        | refine Br.ff ?_
        | refine Need.w ?_
        | refine Wr.w ?_
        | refine Cmp.t ?_
        | refine Cmp.f ?_
        | refine Rem.w ?_
        | refine Quo.w ?_
        | refine PickV.now rfl ?_
        | refine Pick.now rfl ?_
        | refine Chk.mk rfl ?_
        | refine PickW.w rfl ?_
          | (apply CallI.of; assumption)
          | (refine Cmp.tt rfl ?_)
          | (refine Ret.mk rfl))
      · rw [if_neg hz] at p1
        generalize chkRqs l = c at *
        refine g.fn code_law02_MessageRequests rfl ?_
        repeat' ((conv => whnf); first
        | refine Br.tt ?_
        | refine Br.ff ?_
        | refine Need.w ?_
        | refine Wr.w ?_
        | refine Cmp.t ?_
        | refine Cmp.f ?_
        | refine Rem.w ?_
        | refine Quo.w ?_
        | refine PickV.now rfl ?_
        | refine Pick.now rfl ?_
        | refine Chk.mk rfl ?_
        | refine PickW.w rfl ?_
          | (apply CallI.of; assumption)
          | (refine Cmp.ff hz ?_)
          | (refine Cmp.tt rfl ?_)
          | (refine Ret.mk rfl))
end
theorem s_MessageRequests {E : Oracle} (g : Good E) {xs : List D} (h : fitArgs Tryz.prog [43, 38] xs) : Fc E n_law02_MessageRequests (asV xs) (B true) := by
  obtain ⟨x, y, rfl, h1, h2⟩ := args2 h
  obtain ⟨q, rfl⟩ := arg_Request h1
  obtain ⟨l, rfl⟩ := arg_Requests h2
  exact w_MessageRequests g q l
end Go.Proofs.YtmjifdpcoaeehaaGreatDoor.Co
