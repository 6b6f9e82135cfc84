
/-
  PriorityPrograms returns true, for every program and claim.
-/
import Derived.Test.YtcephlgejkngiaaGreatDoorPcPrt
import Derived.Test.YtcephlgejkngiaaGreatDoorPcFip
import Derived.Test.YtcephlgejkngiaaGreatDoorAwP
namespace Go.Proofs.YtcephlgejkngiaaGreatDoor.Co
open Go Go.Evl
set_option maxRecDepth 100000
section
variable {E : Oracle} (g : Good E)
include g
theorem dflts : ∃ x, Fc E n_priority_Default [] (.d x) ∧ Fc E n_law05_own [.d x] (.d x) ∧ Fc E n_ref05_Default [] (.d x) ∧ Fc E n_ref05_Same [.d x, .d x] (B true) := ⟨_, ap1 g, ap13 g, g.compR 200 (by decide +kernel), ap14 g⟩
theorem s_Print_bad (p : Prg) (hs : SmallP p) (h : chkPg p ≠ 0) : Fc E n_priority_Print [Pgv p] (.tup [S [], I (chkPg p)]) := by
  have h1 := s_CheckProgram g p hs
  refine g.fn code_priority_Print rfl ?_
  generalize chkPg p = r at *
  repeat' ((conv => whnf); first
  | refine Br.tt ?_ | refine Br.ff ?_ | refine Need.w ?_ | refine Wr.w ?_ | refine Cmp.t ?_ | refine Cmp.f ?_ | refine Rem.w ?_ | refine Quo.w ?_ | refine PickV.now rfl ?_ | refine Pick.now rfl ?_ | refine Chk.mk rfl ?_ | refine PickW.w rfl ?_
    | (apply CallI.of; assumption)
    | (refine Cmp.tt h ?_)
    | (refine Ret.mk rfl))
set_option maxHeartbeats 8000000 in
theorem w_PriorityPrograms (p : Prg) (a : Clm) (hp : BigP p) : Fc E n_law05_PriorityPrograms [Pgv p, Clv a] (B true) := by
  have aw := s_awake g
  have h0 := r_ShortP g p hp
  have ha := r_Brief g a.rq
  refine g.fn code_law05_PriorityPrograms rfl ?_
  cases hs : shortP p
  · rw [hs] at h0
    repeat' ((conv => whnf); first
    | refine Br.tt ?_ | refine Br.ff ?_ | refine Need.w ?_ | refine Wr.w ?_ | refine Cmp.t ?_ | refine Cmp.f ?_ | refine Rem.w ?_ | refine Quo.w ?_ | refine PickV.now rfl ?_ | refine Pick.now rfl ?_ | refine Chk.mk rfl ?_ | refine PickW.w rfl ?_
      | (apply CallI.of; assumption)
      | (refine Ret.mk rfl))
  · have sm := shortP_small hs
    rw [hs] at h0
    cases hx : briefB a.rq
    · rw [hx] at ha
      repeat' ((conv => whnf); first
      | refine Br.tt ?_ | refine Br.ff ?_ | refine Need.w ?_ | refine Wr.w ?_ | refine Cmp.t ?_ | refine Cmp.f ?_ | refine Rem.w ?_ | refine Quo.w ?_ | refine PickV.now rfl ?_ | refine Pick.now rfl ?_ | refine Chk.mk rfl ?_ | refine PickW.w rfl ?_
        | (apply CallI.of; assumption)
        | (refine Ret.mk rfl))
    · rw [hx] at ha
      have q1 := w_program g p sm
      have q2 := r_CheckProgram g p sm
      have q3 := r_CheckClaim g a
      have q4 := s_CheckProgram g p sm
      have q5 := r_First2 g (chkPg p) (chkCl a)
      obtain ⟨D0, e1, e2, e3, e4⟩ := dflts g
      by_cases hz : chkPg p = 0
      · have ok := chkPg_zero hz
        have p1 := s_Print g p hz
        have p2 := r_Print g p hz
        by_cases hc : chkCl a = 0
        · have p3 := s_ClassOf g p a sm hc hz ok.okWh
          have p4 := r_ClassOf g p a sm hc ok.okWh
          rw [hz] at q2 q4 q5
          rw [hc] at q3 q5
          repeat' ((conv => whnf); first
          | refine Br.tt ?_ | refine Br.ff ?_ | refine Need.w ?_ | refine Wr.w ?_ | refine Cmp.t ?_ | refine Cmp.f ?_ | refine Rem.w ?_ | refine Quo.w ?_ | refine PickV.now rfl ?_ | refine Pick.now rfl ?_ | refine Chk.mk rfl ?_ | refine PickW.w rfl ?_
            | (apply CallI.of; assumption)
            | (refine Cmp.tt rfl ?_)
            | (refine Ret.mk rfl))
        · have hf : firstI [chkPg p, chkCl a] = chkCl a := by
            rw [hz]
            simp only [firstI]
            simp
            exact fun h => h.symm
          have p3 := s_ClassOf_bad g p a sm (by rw [hf]; exact hc)
          rw [hf] at p3 q5
          rw [hz] at q2 q4 q5
          generalize chkCl a = r at *
          repeat' ((conv => whnf); first
          | refine Br.tt ?_ | refine Br.ff ?_ | refine Need.w ?_ | refine Wr.w ?_ | refine Cmp.t ?_ | refine Cmp.f ?_ | refine Rem.w ?_ | refine Quo.w ?_ | refine PickV.now rfl ?_ | refine Pick.now rfl ?_ | refine Chk.mk rfl ?_ | refine PickW.w rfl ?_
            | (apply CallI.of; assumption)
            | (refine Cmp.tt rfl ?_)
            | (refine Cmp.ff hc ?_)
            | (refine Ret.mk rfl))
      · have hf : firstI [chkPg p, chkCl a] = chkPg p := by
          simp [firstI, hz]
        have p1 := s_Print_bad g p sm hz
        have p3 := s_ClassOf_bad g p a sm (by rw [hf]; exact hz)
        rw [hf] at p3 q5
        generalize chkPg p = r at *
        repeat' ((conv => whnf); first
        | refine Br.tt ?_ | refine Br.ff ?_ | refine Need.w ?_ | refine Wr.w ?_ | refine Cmp.t ?_ | refine Cmp.f ?_ | refine Rem.w ?_ | refine Quo.w ?_ | refine PickV.now rfl ?_ | refine Pick.now rfl ?_ | refine Chk.mk rfl ?_ | refine PickW.w rfl ?_
          | (apply CallI.of; assumption)
          | (refine Cmp.tt rfl ?_)
          | (refine Cmp.ff hz ?_)
          | (refine Ret.mk rfl))
end
theorem s_PriorityPrograms {E : Oracle} (g : Good E) {xs : List D} (h : fitArgs Tryz.prog [24, 30] xs) : Fc E n_law05_PriorityPrograms (asV xs) (B true) := by
  obtain ⟨x, y, rfl, h1, h2⟩ := args2 h
  obtain ⟨p, rfl, hp⟩ := arg_Program h1
  obtain ⟨a, rfl⟩ := arg_Claim h2
  exact w_PriorityPrograms g p a hp
end Go.Proofs.YtcephlgejkngiaaGreatDoor.Co
