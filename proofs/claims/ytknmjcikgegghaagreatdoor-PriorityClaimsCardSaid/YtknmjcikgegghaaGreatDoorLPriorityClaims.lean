
/-
  PriorityClaims returns true, for every claim and name.
-/
import Derived.Test.YtknmjcikgegghaaGreatDoorPcFit
import Derived.Test.YtknmjcikgegghaaGreatDoorAwP
namespace Go.Proofs.YtknmjcikgegghaaGreatDoor.Co
open Go Go.Evl
set_option maxRecDepth 100000
section
variable {E : Oracle} (g : Good E)
include g
set_option maxHeartbeats 8000000 in
theorem w_PriorityClaims (c : Clm) (s : List UInt8) : Fc E n_law05_PriorityClaims [Clv c, S s] (B true) := by
  have aw := s_awake g
  have hb := r_Brief g c.rq
  generalize briefB c.rq = b at *
  refine g.fn code_law05_PriorityClaims rfl ?_
  cases b
  · repeat' ((conv => whnf); first
  | refine Br.tt ?_
  | refine Br.ff ?_
  | refine Need.w ?_
  | refine Wr.w ?_
  | refine Cmp.t ?_
  | refine Cmp.f ?_
  | refine Rem.w ?_
  | refine Quo.w ?_
  | refine PickV.now rfl ?_
  | refine Pick.now rfl ?_
  | refine Chk.mk rfl ?_
  | refine PickW.w rfl ?_
      | (apply CallI.of; assumption)
      | (refine Ret.mk rfl))
  · by_cases hl : s.length ≤ 40
    · have f1 := s_Facts g
      have f2 := r_Facts g
      have f3 := r_SameFacts g
      have f4 := r_HasFact g s
      have f5 := s_CheckClaim g c
      have f6 := r_CheckClaim g c
      by_cases hc : chkCl c = 0
      · by_cases hs : s ∈ fcL
        · have p1 := s_Fact_in g c s hs hc
          have p2 := r_Fact g c s hs hc
          rw [decide_eq_true hs] at f4
          rw [hc] at f5 f6
          generalize factV c s = v at *
          repeat' ((conv => whnf); first
          | refine Br.tt ?_
          | refine Br.ff ?_
          | refine Need.w ?_
          | refine Wr.w ?_
          | refine Cmp.t ?_
          | refine Cmp.f ?_
          | refine Rem.w ?_
          | refine Quo.w ?_
          | refine PickV.now rfl ?_
          | refine Pick.now rfl ?_
          | refine Chk.mk rfl ?_
          | refine PickW.w rfl ?_
            | (apply CallI.of; assumption)
            | (refine Cmp.tt rfl ?_)
            | (refine Ret.mk rfl))
        · have p1 := s_Fact_bad g c s (.inl hs)
          rw [if_neg hs, hc] at p1
          rw [decide_eq_false hs] at f4
          rw [hc] at f5 f6
          repeat' ((conv => whnf); first
          | refine Br.tt ?_
          | refine Br.ff ?_
          | refine Need.w ?_
          | refine Wr.w ?_
          | refine Cmp.t ?_
          | refine Cmp.f ?_
          | refine Rem.w ?_
          | refine Quo.w ?_
          | refine PickV.now rfl ?_
          | refine Pick.now rfl ?_
          | refine Chk.mk rfl ?_
          | refine PickW.w rfl ?_
            | (apply CallI.of; assumption)
            | (refine Cmp.tt rfl ?_)
            | (refine Ret.mk rfl))
      · have p1 := s_Fact_bad g c s (.inr hc)
        have he : ∀ k : Int, firstI [chkCl c, k] = chkCl c := fun k => by simp only [firstI]; split <;> simp_all
        rw [he] at p1
        generalize chkCl c = e at *
        repeat' ((conv => whnf); first
        | refine Br.tt ?_
        | refine Br.ff ?_
        | refine Need.w ?_
        | refine Wr.w ?_
        | refine Cmp.t ?_
        | refine Cmp.f ?_
        | refine Rem.w ?_
        | refine Quo.w ?_
        | refine PickV.now rfl ?_
        | refine Pick.now rfl ?_
        | refine Chk.mk rfl ?_
        | refine PickW.w rfl ?_
          | (apply CallI.of; assumption)
          | (refine Cmp.tt rfl ?_)
          | (refine Cmp.ff hc ?_)
          | (refine Ret.mk rfl))
    · repeat' ((conv => whnf); first
    | refine Br.tt ?_
    | refine Br.ff ?_
    | refine Need.w ?_
    | refine Wr.w ?_
    | refine Cmp.t ?_
    | refine Cmp.f ?_
    | refine Rem.w ?_
    | refine Quo.w ?_
    | refine PickV.now rfl ?_
    | refine Pick.now rfl ?_
    | refine Chk.mk rfl ?_
    | refine PickW.w rfl ?_
        | (apply CallI.of; assumption)
        | (refine Ret.mk rfl))
end
theorem s_PriorityClaims {E : Oracle} (g : Good E) {xs : List D} (h : fitArgs Tryz.prog [27, 9] xs) : Fc E n_law05_PriorityClaims (asV xs) (B true) := by
  obtain ⟨x, y, rfl, h1, h2⟩ := args2 h
  obtain ⟨c, rfl⟩ := arg_Claim h1
  obtain ⟨s, rfl, _⟩ := arg_s Tryz.underlying9 h2
  exact w_PriorityClaims g c s
end Go.Proofs.YtknmjcikgegghaaGreatDoor.Co
