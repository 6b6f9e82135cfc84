
/-
  PriorityTests returns true, for every claim and condition.
-/
import Derived.Test.YtknmjcikgegghaaGreatDoorPcTst
import Derived.Test.YtknmjcikgegghaaGreatDoorAwP
namespace Go.Proofs.YtknmjcikgegghaaGreatDoor.Co
open Go Go.Evl
set_option maxRecDepth 100000
section
variable {E : Oracle} (g : Good E)
include g
set_option maxHeartbeats 8000000 in
theorem w_PriorityTests (c : Clm) (t : Tst) : Fc E n_law05_PriorityTests [Clv c, Tsv t] (B true) := by
  have aw := s_awake g
  have hb := r_Brief g c.rq
  generalize briefB c.rq = b at *
  refine g.fn code_law05_PriorityTests rfl ?_
  cases b
  · repeat' ((conv => whnf); first
  | refine Br.tt ?_
  | refine Br.ff ?_
  | refine Need.w ?_
  | refine Wr.w ?_
  | refine Cmp.t ?_
  | refine Cmp.f ?_
  | refine Rem.w ?_
  | refine Quo.w ?_
  | refine PickV.now rfl ?_
  | refine Pick.now rfl ?_
  | refine Chk.mk rfl ?_
  | refine PickW.w rfl ?_
      | (apply CallI.of; assumption)
      | (refine Ret.mk rfl))
  · by_cases hl : t.fa.length ≤ 40
    · by_cases hk : t.op.length ≤ 40
      · have f1 := r_CheckClaim g c
        have f2 := r_CheckTest g t
        have f3 := r_First2 g (chkCl c) (chkTs t)
        by_cases hz : firstI [chkCl c, chkTs t] = 0
        · have hc : chkCl c = 0 := (firstI_zero _).1 hz _ (by simp)
          have ht : chkTs t = 0 := (firstI_zero _).1 hz _ (by simp)
          have p1 := s_Holds g c t hc ht
          have p2 := r_Holds g c t hc ht
          rw [hz] at f3
          generalize holdB c t = r at *
          cases r
          all_goals repeat' ((conv => whnf); first
          | refine Br.tt ?_
          | refine Br.ff ?_
          | refine Need.w ?_
          | refine Wr.w ?_
          | refine Cmp.t ?_
          | refine Cmp.f ?_
          | refine Rem.w ?_
          | refine Quo.w ?_
          | refine PickV.now rfl ?_
          | refine Pick.now rfl ?_
          | refine Chk.mk rfl ?_
          | refine PickW.w rfl ?_
            | (apply CallI.of; assumption)
            | (refine Cmp.tt rfl ?_)
            | (refine Ret.mk rfl))
        · have p1 := s_Holds_bad g c t hz
          generalize firstI [chkCl c, chkTs t] = r at *
          repeat' ((conv => whnf); first
          | refine Br.tt ?_
          | refine Br.ff ?_
          | refine Need.w ?_
          | refine Wr.w ?_
          | refine Cmp.t ?_
          | refine Cmp.f ?_
          | refine Rem.w ?_
          | refine Quo.w ?_
          | refine PickV.now rfl ?_
          | refine Pick.now rfl ?_
          | refine Chk.mk rfl ?_
          | refine PickW.w rfl ?_
            | (apply CallI.of; assumption)
            | (refine Cmp.tt rfl ?_)
            | (refine Cmp.ff hz ?_)
            | (refine Ret.mk rfl))
      · repeat' ((conv => whnf); first
      | refine Br.tt ?_
      | refine Br.ff ?_
      | refine Need.w ?_
      | refine Wr.w ?_
      | refine Cmp.t ?_
      | refine Cmp.f ?_
      | refine Rem.w ?_
      | refine Quo.w ?_
      | refine PickV.now rfl ?_
      | refine Pick.now rfl ?_
      | refine Chk.mk rfl ?_
      | refine PickW.w rfl ?_
          | (apply CallI.of; assumption)
          | (refine Ret.mk rfl))
    · repeat' ((conv => whnf); first
    | refine Br.tt ?_
    | refine Br.ff ?_
    | refine Need.w ?_
    | refine Wr.w ?_
    | refine Cmp.t ?_
    | refine Cmp.f ?_
    | refine Rem.w ?_
    | refine Quo.w ?_
    | refine PickV.now rfl ?_
    | refine Pick.now rfl ?_
    | refine Chk.mk rfl ?_
    | refine PickW.w rfl ?_
        | (apply CallI.of; assumption)
        | (refine Ret.mk rfl))
end
theorem s_PriorityTests {E : Oracle} (g : Good E) {xs : List D} (h : fitArgs Tryz.prog [27, 88] xs) : Fc E n_law05_PriorityTests (asV xs) (B true) := by
  obtain ⟨x, y, rfl, h1, h2⟩ := args2 h
  obtain ⟨c, rfl⟩ := arg_Claim h1
  obtain ⟨t, rfl⟩ := arg_Test h2
  exact w_PriorityTests g c t
end Go.Proofs.YtknmjcikgegghaaGreatDoor.Co
