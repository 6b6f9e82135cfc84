
/-
  PriorityPreorder returns true, for every program and three claims.
-/
import Derived.Test.YtcephlgejkngiaaGreatDoorPcCmp
import Derived.Test.YtcephlgejkngiaaGreatDoorPcFip
import Derived.Test.YtcephlgejkngiaaGreatDoorPcFic
import Derived.Test.YtcephlgejkngiaaGreatDoorAwP
namespace Go.Proofs.YtcephlgejkngiaaGreatDoor.Co
open Go Go.Evl
set_option maxRecDepth 100000
def othC (a : Clm) : Clm := ⟨⟨[111, 116, 104, 101, 114], a.rq.ca, a.rq.ki, a.rq.te, a.rq.pa, a.rq.li, a.rq.fr, a.rq.to, a.rq.da, a.rq.mi, a.rq.se, a.rq.si, a.rq.no⟩, a.hi, a.re, a.ne, a.ye, a.di⟩
theorem othC_chk {a : Clm} (h : chkCl a = 0) (hl : a.rq.li ≠ [111, 116, 104, 101, 114]) : chkCl (othC a) = 0 := by
  obtain ⟨h1, h2⟩ := chkCl_zero.1 h
  refine chkCl_zero.2 ⟨?_, h2⟩
  unfold chkRq at h1 ⊢
  rw [firstI_zero] at h1 ⊢
  intro x hx
  simp only [List.mem_cons, List.not_mem_nil, or_false] at hx
  have e : nmE [111, 116, 104, 101, 114] = 0 := by decide
  rcases hx with rfl | rfl | rfl | rfl | rfl | rfl | rfl | rfl | rfl | rfl | rfl | rfl
  · exact e
  all_goals first | exact if_neg hl | exact h1 _ (by simp [othC])
theorem othC_cls (a : Clm) : ∀ (l : List Cls) (i : Nat), clsG (othC a) i l = clsG a i l
  | [], _ => rfl
  | x :: r, i => by
    rw [clsG, clsG, othC_cls a r (i + 1)]
    rfl
theorem othC_dcP (p : Prg) (a b : Clm) : dcP p (othC a) b = dcP p a b := by
  unfold dcP
  rw [othC_cls]
  rfl
def matV (N : Nat → Nat → Int) : List V := [I (N 0 0), I (N 0 1), I (N 0 2), I (N 1 0), I (N 1 1), I (N 1 2), I (N 2 0), I (N 2 1), I (N 2 2)]
theorem matV_get (N : Nat → Nat → Int) {i k : Nat} (hi : i < 3) (hk : k < 3) : (matV N)[0 + (i : Int).toNat * 3 + (k : Int).toNat * 1]? = some (I (N i k)) := by
  rcases (show i = 0 ∨ i = 1 ∨ i = 2 by omega) with rfl | rfl | rfl <;> rcases (show k = 0 ∨ k = 1 ∨ k = 2 by omega) with rfl | rfl | rfl <;> rfl
section
variable {E : Oracle} (g : Good E)
include g
set_option maxHeartbeats 32000000 in
theorem w_PriorityPreorder (p : Prg) (a b c : Clm) (hp : BigP p) : Fc E n_law05_PriorityPreorder [Pgv p, .d (.agg (a.cells ++ b.cells ++ c.cells))] (B true) := by
  have aw := s_awake g
  have h0 := r_ShortP g p hp
  have ba := r_Brief g a.rq
  have bb := r_Brief g b.rq
  have bc := r_Brief g c.rq
  have ca := r_CheckClaim g a
  have cb := r_CheckClaim g b
  have cc := r_CheckClaim g c
  refine g.fn code_law05_PriorityPreorder rfl ?_
  cases hs : shortP p
  · rw [hs] at h0
    repeat' ((conv => whnf); first
    | refine Br.tt ?_ | refine Br.ff ?_ | refine Need.w ?_ | refine Wr.w ?_ | refine Cmp.t ?_ | refine Cmp.f ?_ | refine Rem.w ?_ | refine Quo.w ?_ | refine PickV.now rfl ?_ | refine Pick.now rfl ?_ | refine Chk.mk rfl ?_ | refine PickW.w rfl ?_
      | (apply CallI.of; assumption)
      | (refine Ret.mk rfl))
  · have sm := shortP_small hs
    have q2 := r_CheckProgram g p sm
    rw [hs] at h0
    by_cases hz : chkPg p = 0
    · have q1 := w_program g p sm
      rw [hz] at q2
      cases hx : briefB a.rq
      · rw [hx] at ba
        repeat' ((conv => whnf); first
        | refine Br.tt ?_ | refine Br.ff ?_ | refine Need.w ?_ | refine Wr.w ?_ | refine Cmp.t ?_ | refine Cmp.f ?_ | refine Rem.w ?_ | refine Quo.w ?_ | refine PickV.now rfl ?_ | refine Pick.now rfl ?_ | refine Chk.mk rfl ?_ | refine PickW.w rfl ?_
          | (apply CallI.of; assumption)
          | (refine LoopW.step g.lim ?_)
          | (refine Ret.mk rfl))
      · rw [hx] at ba
        by_cases ka : chkCl a = 0
        · rw [ka] at ca
          cases hy : briefB b.rq
          · rw [hy] at bb
            repeat' ((conv => whnf); first
            | refine Br.tt ?_ | refine Br.ff ?_ | refine Need.w ?_ | refine Wr.w ?_ | refine Cmp.t ?_ | refine Cmp.f ?_ | refine Rem.w ?_ | refine Quo.w ?_ | refine PickV.now rfl ?_ | refine Pick.now rfl ?_ | refine Chk.mk rfl ?_ | refine PickW.w rfl ?_
              | (apply CallI.of; assumption)
              | (refine LoopW.step g.lim ?_)
              | (refine Ret.mk rfl))
          · rw [hy] at bb
            by_cases kb : chkCl b = 0
            · rw [kb] at cb
              cases hw : briefB c.rq
              · rw [hw] at bc
                repeat' ((conv => whnf); first
                | refine Br.tt ?_ | refine Br.ff ?_ | refine Need.w ?_ | refine Wr.w ?_ | refine Cmp.t ?_ | refine Cmp.f ?_ | refine Rem.w ?_ | refine Quo.w ?_ | refine PickV.now rfl ?_ | refine Pick.now rfl ?_ | refine Chk.mk rfl ?_ | refine PickW.w rfl ?_
                  | (apply CallI.of; assumption)
                  | (refine LoopW.step g.lim ?_)
                  | (refine Ret.mk rfl))
              · rw [hw] at bc
                by_cases kc : chkCl c = 0
                · rw [kc] at cc
                  obtain ⟨N, hN⟩ : ∃ N : Nat → Nat → Int, N = fun i k => (dcP p (if i = 0 then a else if i = 1 then b else c) (if k = 0 then a else if k = 1 then b else c)).1 := ⟨_, rfl⟩
                  have k00 : Fc E n_priority_Compare [Pgv p, Clv a, Clv a] (.tup [I (N 0 0), I 0]) := by rw [hN]; exact s_Compare g p a a hz ka ka
                  have k01 : Fc E n_priority_Compare [Pgv p, Clv a, Clv b] (.tup [I (N 0 1), I 0]) := by rw [hN]; exact s_Compare g p a b hz ka kb
                  have k02 : Fc E n_priority_Compare [Pgv p, Clv a, Clv c] (.tup [I (N 0 2), I 0]) := by rw [hN]; exact s_Compare g p a c hz ka kc
                  have k10 : Fc E n_priority_Compare [Pgv p, Clv b, Clv a] (.tup [I (N 1 0), I 0]) := by rw [hN]; exact s_Compare g p b a hz kb ka
                  have k11 : Fc E n_priority_Compare [Pgv p, Clv b, Clv b] (.tup [I (N 1 1), I 0]) := by rw [hN]; exact s_Compare g p b b hz kb kb
                  have k12 : Fc E n_priority_Compare [Pgv p, Clv b, Clv c] (.tup [I (N 1 2), I 0]) := by rw [hN]; exact s_Compare g p b c hz kb kc
                  have k20 : Fc E n_priority_Compare [Pgv p, Clv c, Clv a] (.tup [I (N 2 0), I 0]) := by rw [hN]; exact s_Compare g p c a hz kc ka
                  have k21 : Fc E n_priority_Compare [Pgv p, Clv c, Clv b] (.tup [I (N 2 1), I 0]) := by rw [hN]; exact s_Compare g p c b hz kc kb
                  have k22 : Fc E n_priority_Compare [Pgv p, Clv c, Clv c] (.tup [I (N 2 2), I 0]) := by rw [hN]; exact s_Compare g p c c hz kc kc
                  have ko : a.rq.li ≠ [111, 116, 104, 101, 114] → Fc E n_priority_Compare [Pgv p, Clv (othC a), Clv b] (.tup [I (N 0 1), I 0]) := fun h => by
                    have := s_Compare g p (othC a) b hz (othC_chk ka h) kb
                    rw [othC_dcP] at this
                    rw [hN]
                    exact this
                  have rN : ∀ i k, -1 ≤ N i k ∧ N i k ≤ 1 := fun i k => by rw [hN]; exact dcP_range _ _ _
                  have sN : ∀ i k, N i k = -N k i := fun i k => by rw [hN]; exact dcP_swap _ _ _
                  have tN : ∀ i k j, N i k ≤ 0 → N k j ≤ 0 → N i j ≤ 0 := fun i k j => by rw [hN]; exact dcP_trans _ _ _ _
                  have zN : ∀ i, N i i = 0 := fun i => by rw [hN]; dsimp only; rw [dcP_self]
                  clear hN
                  have r0 := rN 0 0
                  have r1 := rN 0 1
                  have r2 := rN 0 2
                  have r3 := rN 1 0
                  have r4 := rN 1 1
                  have r5 := rN 1 2
                  have r6 := rN 2 0
                  have r7 := rN 2 1
                  have r8 := rN 2 2
                  repeat' ((conv => whnf); first
                  | refine Br.tt ?_ | refine Br.ff ?_ | refine Need.w ?_ | refine Wr.w ?_ | refine Cmp.t ?_ | refine Cmp.f ?_ | refine Rem.w ?_ | refine Quo.w ?_ | refine PickV.now rfl ?_ | refine Pick.now rfl ?_ | refine Chk.mk rfl ?_ | refine PickW.w rfl ?_
                    | (apply CallI.of; assumption)
                    | (refine LoopW.step (body := b_law05_PriorityPreorder_1) g.lim ?_)
                    | (refine LoopW.step (body := b_law05_PriorityPreorder_2) g.lim ?_)
                    | (refine LoopW.step (body := b_law05_PriorityPreorder_3) g.lim ?_))
                  refine LoopW.to (LoopW.up g (fun i => [(2, .ptr ⟨0, 2, 0⟩ 0 0), (3, .ptr ⟨0, 3, 0⟩ 0 0), (5, .ptr ⟨0, 5, 0⟩ 0 0), (79, I i)]) (fun _ => _) 3 (fun i hi ih => ?_) 0 (Nat.zero_le _)) rfl rfl
                  by_cases hi3 : i < 3
                  · have ih := ih hi3
                    have hz0 := zN i
                    repeat' ((conv => whnf); first
                    | refine Br.tt ?_ | refine Br.ff ?_ | refine Need.w ?_ | refine Wr.w ?_ | refine Cmp.t ?_ | refine Cmp.f ?_ | refine Rem.w ?_ | refine Quo.w ?_ | refine PickV.now rfl ?_ | refine Pick.now rfl ?_ | refine Chk.mk rfl ?_ | refine PickW.w rfl ?_
                      | (refine PickV.now (matV_get N hi3 hi3) ?_))
                    refine LoopW.to (LoopW.up g (fun k => [(2, .ptr ⟨0, 2, 0⟩ 0 0), (3, .ptr ⟨0, 3, 0⟩ 0 0), (5, .ptr ⟨0, 5, 0⟩ 0 0), (11, I i), (79, I i), (88, I k)]) (fun _ => _) 3 (fun k hk kh => ?_) 0 (Nat.zero_le _)) rfl rfl
                    by_cases hk3 : k < 3
                    · have kh := kh hk3
                      have hs0 := sN i k
                      have hr0 := rN k i
                      repeat' ((conv => whnf); first
                      | refine Br.tt ?_ | refine Br.ff ?_ | refine Need.w ?_ | refine Wr.w ?_ | refine Cmp.t ?_ | refine Cmp.f ?_ | refine Rem.w ?_ | refine Quo.w ?_ | refine PickV.now rfl ?_ | refine Pick.now rfl ?_ | refine Chk.mk rfl ?_ | refine PickW.w rfl ?_
                        | (refine PickV.now (matV_get N hi3 hk3) ?_)
                        | (refine PickV.now (matV_get N hk3 hi3) ?_))
                      refine LoopW.to (LoopW.up g (fun j => [(2, .ptr ⟨0, 2, 0⟩ 0 0), (3, .ptr ⟨0, 3, 0⟩ 0 0), (5, .ptr ⟨0, 5, 0⟩ 0 0), (11, I i), (12, I k), (79, I i), (88, I k), (103, I j)]) (fun _ => _) 3 (fun j hj jh => ?_) 0 (Nat.zero_le _)) rfl rfl
                      by_cases hj3 : j < 3
                      · have jh := jh hj3
                        have ht := tN i k j
                        by_cases u1 : N i k ≤ 0
                        · by_cases u2 : N k j ≤ 0
                          · have u3 := ht u1 u2
                            repeat' ((conv => whnf); first
                            | refine Br.tt ?_ | refine Br.ff ?_ | refine Need.w ?_ | refine Wr.w ?_ | refine Cmp.t ?_ | refine Cmp.f ?_ | refine Rem.w ?_ | refine Quo.w ?_ | refine PickV.now rfl ?_ | refine Pick.now rfl ?_ | refine Chk.mk rfl ?_ | refine PickW.w rfl ?_
                              | (refine PickV.now (matV_get N hi3 hk3) ?_)
                              | (refine PickV.now (matV_get N hk3 hj3) ?_)
                              | (refine PickV.now (matV_get N hi3 hj3) ?_)
                              | (refine LoopW.to jh rfl rfl))
                          · repeat' ((conv => whnf); first
                          | refine Br.tt ?_ | refine Br.ff ?_ | refine Need.w ?_ | refine Wr.w ?_ | refine Cmp.t ?_ | refine Cmp.f ?_ | refine Rem.w ?_ | refine Quo.w ?_ | refine PickV.now rfl ?_ | refine Pick.now rfl ?_ | refine Chk.mk rfl ?_ | refine PickW.w rfl ?_
                              | (refine PickV.now (matV_get N hi3 hk3) ?_)
                              | (refine PickV.now (matV_get N hk3 hj3) ?_)
                              | (refine LoopW.to jh rfl rfl))
                        · repeat' ((conv => whnf); first
                        | refine Br.tt ?_ | refine Br.ff ?_ | refine Need.w ?_ | refine Wr.w ?_ | refine Cmp.t ?_ | refine Cmp.f ?_ | refine Rem.w ?_ | refine Quo.w ?_ | refine PickV.now rfl ?_ | refine Pick.now rfl ?_ | refine Chk.mk rfl ?_ | refine PickW.w rfl ?_
                            | (refine PickV.now (matV_get N hi3 hk3) ?_)
                            | (refine LoopW.to jh rfl rfl))
                      · repeat' ((conv => whnf); first
                      | refine Br.tt ?_ | refine Br.ff ?_ | refine Need.w ?_ | refine Wr.w ?_ | refine Cmp.t ?_ | refine Cmp.f ?_ | refine Rem.w ?_ | refine Quo.w ?_ | refine PickV.now rfl ?_ | refine Pick.now rfl ?_ | refine Chk.mk rfl ?_ | refine PickW.w rfl ?_
                          | (refine LoopW.to kh rfl rfl))
                    · repeat' ((conv => whnf); first
                    | refine Br.tt ?_ | refine Br.ff ?_ | refine Need.w ?_ | refine Wr.w ?_ | refine Cmp.t ?_ | refine Cmp.f ?_ | refine Rem.w ?_ | refine Quo.w ?_ | refine PickV.now rfl ?_ | refine Pick.now rfl ?_ | refine Chk.mk rfl ?_ | refine PickW.w rfl ?_
                        | (refine LoopW.to ih rfl rfl))
                  · by_cases hl : a.rq.li = [111, 116, 104, 101, 114]
                    · repeat' ((conv => whnf); first
                    | refine Br.tt ?_ | refine Br.ff ?_ | refine Need.w ?_ | refine Wr.w ?_ | refine Cmp.t ?_ | refine Cmp.f ?_ | refine Rem.w ?_ | refine Quo.w ?_ | refine PickV.now rfl ?_ | refine Pick.now rfl ?_ | refine Chk.mk rfl ?_ | refine PickW.w rfl ?_
                        | (apply CallI.of; assumption)
                        | (refine Cmp.tt hl ?_)
                        | (refine Ret.mk rfl))
                    · have ko := ko hl
                      repeat' ((conv => whnf); first
                      | refine Br.tt ?_ | refine Br.ff ?_ | refine Need.w ?_ | refine Wr.w ?_ | refine Cmp.t ?_ | refine Cmp.f ?_ | refine Rem.w ?_ | refine Quo.w ?_ | refine PickV.now rfl ?_ | refine Pick.now rfl ?_ | refine Chk.mk rfl ?_ | refine PickW.w rfl ?_
                        | (apply CallI.of; assumption)
                        | (refine Cmp.ff hl ?_)
                        | (refine Cmp.tt rfl ?_)
                        | (refine Ret.mk rfl))
                · generalize chkCl c = e at *
                  repeat' ((conv => whnf); first
                  | refine Br.tt ?_ | refine Br.ff ?_ | refine Need.w ?_ | refine Wr.w ?_ | refine Cmp.t ?_ | refine Cmp.f ?_ | refine Rem.w ?_ | refine Quo.w ?_ | refine PickV.now rfl ?_ | refine Pick.now rfl ?_ | refine Chk.mk rfl ?_ | refine PickW.w rfl ?_
                    | (apply CallI.of; assumption)
                    | (refine LoopW.step g.lim ?_)
                    | (refine Cmp.tt kc ?_)
                    | (refine Ret.mk rfl))
            · generalize chkCl b = e at *
              repeat' ((conv => whnf); first
              | refine Br.tt ?_ | refine Br.ff ?_ | refine Need.w ?_ | refine Wr.w ?_ | refine Cmp.t ?_ | refine Cmp.f ?_ | refine Rem.w ?_ | refine Quo.w ?_ | refine PickV.now rfl ?_ | refine Pick.now rfl ?_ | refine Chk.mk rfl ?_ | refine PickW.w rfl ?_
                | (apply CallI.of; assumption)
                | (refine LoopW.step g.lim ?_)
                | (refine Cmp.tt kb ?_)
                | (refine Ret.mk rfl))
        · generalize chkCl a = e at *
          repeat' ((conv => whnf); first
          | refine Br.tt ?_ | refine Br.ff ?_ | refine Need.w ?_ | refine Wr.w ?_ | refine Cmp.t ?_ | refine Cmp.f ?_ | refine Rem.w ?_ | refine Quo.w ?_ | refine PickV.now rfl ?_ | refine Pick.now rfl ?_ | refine Chk.mk rfl ?_ | refine PickW.w rfl ?_
            | (apply CallI.of; assumption)
            | (refine LoopW.step g.lim ?_)
            | (refine Cmp.tt ka ?_)
            | (refine Ret.mk rfl))
    · generalize chkPg p = e at *
      repeat' ((conv => whnf); first
      | refine Br.tt ?_ | refine Br.ff ?_ | refine Need.w ?_ | refine Wr.w ?_ | refine Cmp.t ?_ | refine Cmp.f ?_ | refine Rem.w ?_ | refine Quo.w ?_ | refine PickV.now rfl ?_ | refine Pick.now rfl ?_ | refine Chk.mk rfl ?_ | refine PickW.w rfl ?_
        | (apply CallI.of; assumption)
        | (refine Cmp.tt hz ?_)
        | (refine Ret.mk rfl))
end
theorem s_PriorityPreorder {E : Oracle} (g : Good E) {xs : List D} (h : fitArgs Tryz.prog [24, 77] xs) : Fc E n_law05_PriorityPreorder (asV xs) (B true) := by
  obtain ⟨x, y, rfl, h1, h2⟩ := args2 h
  obtain ⟨p, rfl, hp⟩ := arg_Program h1
  obtain ⟨ds, rfl, h3⟩ := arg_ar Tryz.underlying77 h2
  obtain ⟨_, _, rfl, h4, _, _, rfl, h5, _, _, rfl, h6, rfl⟩ := h3
  obtain ⟨a, rfl⟩ := fit_Claim h4
  obtain ⟨b, rfl⟩ := fit_Claim h5
  obtain ⟨c, rfl⟩ := fit_Claim h6
  have e : a.cells ++ (b.cells ++ (c.cells ++ [])) = a.cells ++ b.cells ++ c.cells := by simp
  rw [e]
  exact w_PriorityPreorder g p a b c hp
end Go.Proofs.YtcephlgejkngiaaGreatDoor.Co
