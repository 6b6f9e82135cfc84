
/-
  PriorityCompares returns true, for every program and two claims.
-/
import Derived.Test.YtcephlgejkngiaaGreatDoorPcDec
import Derived.Test.YtcephlgejkngiaaGreatDoorPcFip
import Derived.Test.YtcephlgejkngiaaGreatDoorAwP
namespace Go.Proofs.YtcephlgejkngiaaGreatDoor.Co
open Go Go.Evl
set_option maxRecDepth 100000
theorem OkPrg.okKy {p : Prg} (h : OkPrg p) : OkKy p := fun c hc k hk => (h.cs c hc).ks k hk
section
variable {E : Oracle} (g : Good E)
include g
theorem r_First3 (a b c : Int) : Fc E n_ref01_First [.d (.list 3 [DI a, DI b, DI c])] (I (firstI [a, b, c])) := r_First g [a, b, c] (by simp)
set_option maxHeartbeats 8000000 in
theorem s_Compare (p : Prg) (a b : Clm) (h : chkPg p = 0) (ha : chkCl a = 0) (hb : chkCl b = 0) : Fc E n_priority_Compare [Pgv p, Clv a, Clv b] (.tup [I (dcP p a b).1, I 0]) := by
  have ok := chkPg_zero h
  have h1 := s_CheckProgram g p ok.small
  have h2 := s_CheckClaim g a
  have h3 := s_CheckClaim g b
  have h4 := s_decide g p a b ok.small ha hb ok.okWh ok.okKy
  rw [h] at h1
  rw [ha] at h2
  rw [hb] at h3
  refine g.fn code_priority_Compare rfl ?_
  repeat' ((conv => whnf); first
  | refine Br.tt ?_ | refine Br.ff ?_ | refine Need.w ?_ | refine Wr.w ?_ | refine Cmp.t ?_ | refine Cmp.f ?_ | refine Rem.w ?_ | refine Quo.w ?_ | refine PickV.now rfl ?_ | refine Pick.now rfl ?_ | refine Chk.mk rfl ?_ | refine PickW.w rfl ?_
    | (apply CallI.of; assumption)
    | (refine CallI.of (s_pfirst3 g _ _ _) ?_)
    | (refine Ret.mk rfl))
set_option maxHeartbeats 8000000 in
theorem s_Compare_bad (p : Prg) (a b : Clm) (hs : SmallP p) (h : firstI [chkPg p, chkCl a, chkCl b] ≠ 0) : Fc E n_priority_Compare [Pgv p, Clv a, Clv b] (.tup [I 0, I (firstI [chkPg p, chkCl a, chkCl b])]) := by
  have h1 := s_CheckProgram g p hs
  have h2 := s_CheckClaim g a
  have h3 := s_CheckClaim g b
  have h4 := s_pfirst3 g (chkPg p) (chkCl a) (chkCl b)
  refine g.fn code_priority_Compare rfl ?_
  generalize firstI [chkPg p, chkCl a, chkCl b] = r at *
  repeat' ((conv => whnf); first
  | refine Br.tt ?_ | refine Br.ff ?_ | refine Need.w ?_ | refine Wr.w ?_ | refine Cmp.t ?_ | refine Cmp.f ?_ | refine Rem.w ?_ | refine Quo.w ?_ | refine PickV.now rfl ?_ | refine Pick.now rfl ?_ | refine Chk.mk rfl ?_ | refine PickW.w rfl ?_
    | (apply CallI.of; assumption)
    | (refine Cmp.tt h ?_)
    | (refine Ret.mk rfl))
set_option maxHeartbeats 8000000 in
theorem w_PriorityCompares (p : Prg) (a b : Clm) (hp : BigP p) : Fc E n_law05_PriorityCompares [Pgv p, Clv a, Clv b] (B true) := by
  have aw := s_awake g
  have h0 := r_ShortP g p hp
  have ha := r_Brief g a.rq
  have hb := r_Brief g b.rq
  refine g.fn code_law05_PriorityCompares rfl ?_
  cases hs : shortP p
  · rw [hs] at h0
    repeat' ((conv => whnf); first
    | refine Br.tt ?_ | refine Br.ff ?_ | refine Need.w ?_ | refine Wr.w ?_ | refine Cmp.t ?_ | refine Cmp.f ?_ | refine Rem.w ?_ | refine Quo.w ?_ | refine PickV.now rfl ?_ | refine Pick.now rfl ?_ | refine Chk.mk rfl ?_ | refine PickW.w rfl ?_
      | (apply CallI.of; assumption)
      | (refine Ret.mk rfl))
  · have sm := shortP_small hs
    rw [hs] at h0
    cases hx : briefB a.rq
    · rw [hx] at ha
      repeat' ((conv => whnf); first
      | refine Br.tt ?_ | refine Br.ff ?_ | refine Need.w ?_ | refine Wr.w ?_ | refine Cmp.t ?_ | refine Cmp.f ?_ | refine Rem.w ?_ | refine Quo.w ?_ | refine PickV.now rfl ?_ | refine Pick.now rfl ?_ | refine Chk.mk rfl ?_ | refine PickW.w rfl ?_
        | (apply CallI.of; assumption)
        | (refine Ret.mk rfl))
    · rw [hx] at ha
      cases hy : briefB b.rq
      · rw [hy] at hb
        repeat' ((conv => whnf); first
        | refine Br.tt ?_ | refine Br.ff ?_ | refine Need.w ?_ | refine Wr.w ?_ | refine Cmp.t ?_ | refine Cmp.f ?_ | refine Rem.w ?_ | refine Quo.w ?_ | refine PickV.now rfl ?_ | refine Pick.now rfl ?_ | refine Chk.mk rfl ?_ | refine PickW.w rfl ?_
          | (apply CallI.of; assumption)
          | (refine Ret.mk rfl))
      · rw [hy] at hb
        have q1 := w_program g p sm
        have q2 := r_CheckProgram g p sm
        have q3 := r_CheckClaim g a
        have q4 := r_CheckClaim g b
        have q5 := r_First3 g (chkPg p) (chkCl a) (chkCl b)
        by_cases hz : firstI [chkPg p, chkCl a, chkCl b] = 0
        · have e1 : chkPg p = 0 := (firstI_zero _).1 hz _ (by simp)
          have e2 : chkCl a = 0 := (firstI_zero _).1 hz _ (by simp)
          have e3 : chkCl b = 0 := (firstI_zero _).1 hz _ (by simp)
          have p1 := s_Compare g p a b e1 e2 e3
          have ok := chkPg_zero e1
          have p2 := r_Decide g p a b ok.small e2 e3 ok.okWh ok.okKy
          rw [hz] at q5
          repeat' ((conv => whnf); first
          | refine Br.tt ?_ | refine Br.ff ?_ | refine Need.w ?_ | refine Wr.w ?_ | refine Cmp.t ?_ | refine Cmp.f ?_ | refine Rem.w ?_ | refine Quo.w ?_ | refine PickV.now rfl ?_ | refine Pick.now rfl ?_ | refine Chk.mk rfl ?_ | refine PickW.w rfl ?_
            | (apply CallI.of; assumption)
            | (refine Cmp.tt rfl ?_)
            | (refine Ret.mk rfl))
        · have p1 := s_Compare_bad g p a b sm hz
          generalize firstI [chkPg p, chkCl a, chkCl b] = r at *
          repeat' ((conv => whnf); first
          | refine Br.tt ?_ | refine Br.ff ?_ | refine Need.w ?_ | refine Wr.w ?_ | refine Cmp.t ?_ | refine Cmp.f ?_ | refine Rem.w ?_ | refine Quo.w ?_ | refine PickV.now rfl ?_ | refine Pick.now rfl ?_ | refine Chk.mk rfl ?_ | refine PickW.w rfl ?_
            | (apply CallI.of; assumption)
            | (refine Cmp.tt rfl ?_)
            | (refine Cmp.ff hz ?_)
            | (refine Ret.mk rfl))
end
theorem s_PriorityCompares {E : Oracle} (g : Good E) {xs : List D} (h : fitArgs Tryz.prog [24, 30, 30] xs) : Fc E n_law05_PriorityCompares (asV xs) (B true) := by
  obtain ⟨x, y, z, rfl, h1, h2, h3⟩ := args3 h
  obtain ⟨p, rfl, hp⟩ := arg_Program h1
  obtain ⟨a, rfl⟩ := arg_Claim h2
  obtain ⟨b, rfl⟩ := arg_Claim h3
  exact w_PriorityCompares g p a b hp
end Go.Proofs.YtcephlgejkngiaaGreatDoor.Co
