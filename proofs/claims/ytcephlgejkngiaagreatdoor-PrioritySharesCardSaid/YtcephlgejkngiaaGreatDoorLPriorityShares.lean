
/-
  PriorityShares returns true, for every share and every list of newcomers and others.
-/
import Derived.Test.YtcephlgejkngiaaGreatDoorPcShr
import Derived.Test.YtcephlgejkngiaaGreatDoorAwP
namespace Go.Proofs.YtcephlgejkngiaaGreatDoor.Co
open Go Go.Evl
set_option maxRecDepth 100000
section
variable {E : Oracle} (g : Good E)
include g
set_option maxHeartbeats 8000000 in
theorem w_PriorityShares (m fo : Int) (l : List Bool) : Fc E n_law05_PriorityShares [I m, I fo, LB l] (B true) := by
  have aw := s_awake g
  refine g.fn code_law05_PriorityShares rfl ?_
  by_cases hk : l.length ≤ 12 ∨ l.length = 65
  · have c1 := r_CheckRange g m 1 100
    have c2 := r_CheckRange g fo 0 m
    by_cases hz : chkSh m fo l.length = 0
    · have hq := chkSh_zero hz
      have p1 : ∀ {n : Nat} {cs : List D}, n = l.length → cs = l.map D.bool → Fc E n_priority_Interleave [I m, I fo, .d (.list n cs)] (.tup [LI (shrL m fo l), I 0]) := fun hn hc => by subst hn hc; exact s_Interleave_ok g m fo l hz
      have p2 := r_Interleave g m fo l hq.1 hq.2.2
      have p3 := r_SameInts g (shrL m fo l) (shrL m fo l) (by rw [shrL_length]; omega)
      rw [decide_eq_true rfl] at p3
      rw [rng_zero.2 hq.1] at c1
      rw [rng_zero.2 hq.2.1] at c2
      generalize shrL m fo l = r at *
      repeat' ((conv => whnf); first
      | refine Br.tt ?_ | refine Br.ff ?_ | refine Need.w ?_ | refine Wr.w ?_ | refine Cmp.t ?_ | refine Cmp.f ?_ | refine Rem.w ?_ | refine Quo.w ?_ | refine PickV.now rfl ?_ | refine Pick.now rfl ?_ | refine Chk.mk rfl ?_ | refine PickW.w rfl ?_
        | (refine Need.mk ⟨rfl, rfl, rfl, rfl, rfl, by simp, by show (0 + l.length) * 1 ≤ _; omega, by omega⟩ ?_)
        | (refine CallI.of (p1 (Nat.zero_add _) (if_pos ⟨rfl, rfl⟩)) ?_)
        | (apply CallI.of; assumption)
        | (refine Cmp.tt rfl ?_)
        | (refine Ret.mk rfl))
    · have p1 : ∀ {n : Nat} {cs : List D}, n = l.length → cs = l.map D.bool → Fc E n_priority_Interleave [I m, I fo, .d (.list n cs)] (.tup [.d (.list 0 []), I (chkSh m fo l.length)]) := fun hn hc => by subst hn hc; exact s_Interleave_bad g m fo l (by omega) hz
      have p3 := r_SameInts g [] [] (by decide)
      rw [decide_eq_true rfl] at p3
      unfold chkSh at hz p1
      generalize rng m 1 100 = a at *
      generalize rng fo 0 m = b at *
      by_cases ha : a = 0
      · subst ha
        by_cases hb : b = 0
        · subst hb
          by_cases hl : 64 < l.length
          · rw [if_pos hl] at p1
            repeat' ((conv => whnf); first
            | refine Br.tt ?_ | refine Br.ff ?_ | refine Need.w ?_ | refine Wr.w ?_ | refine Cmp.t ?_ | refine Cmp.f ?_ | refine Rem.w ?_ | refine Quo.w ?_ | refine PickV.now rfl ?_ | refine Pick.now rfl ?_ | refine Chk.mk rfl ?_ | refine PickW.w rfl ?_
              | (refine Need.mk ⟨rfl, rfl, rfl, rfl, rfl, by simp, by show (0 + l.length) * 1 ≤ _; omega, by omega⟩ ?_)
              | (refine CallI.of (p1 (Nat.zero_add _) (if_pos ⟨rfl, rfl⟩)) ?_)
              | (apply CallI.of; assumption)
              | (refine Cmp.tt rfl ?_)
              | (refine Ret.mk rfl))
          · rw [if_neg hl] at hz
            exact absurd rfl hz
        · have e : firstI [0, b, if 64 < l.length then 5 else 0] = b := by simp [firstI, hb]
          rw [e] at p1
          rcases hk with hk | hk
          all_goals repeat' ((conv => whnf); first
          | refine Br.tt ?_ | refine Br.ff ?_ | refine Need.w ?_ | refine Wr.w ?_ | refine Cmp.t ?_ | refine Cmp.f ?_ | refine Rem.w ?_ | refine Quo.w ?_ | refine PickV.now rfl ?_ | refine Pick.now rfl ?_ | refine Chk.mk rfl ?_ | refine PickW.w rfl ?_
            | (refine Need.mk ⟨rfl, rfl, rfl, rfl, rfl, by simp, by show (0 + l.length) * 1 ≤ _; omega, by omega⟩ ?_)
            | (refine CallI.of (p1 (Nat.zero_add _) (if_pos ⟨rfl, rfl⟩)) ?_)
            | (apply CallI.of; assumption)
            | (refine Cmp.tt rfl ?_)
            | (refine Cmp.ff hb ?_)
            | (refine Ret.mk rfl))
      · have e : firstI [a, b, if 64 < l.length then 5 else 0] = a := by simp [firstI, ha]
        rw [e] at p1
        rcases hk with hk | hk
        all_goals repeat' ((conv => whnf); first
        | refine Br.tt ?_ | refine Br.ff ?_ | refine Need.w ?_ | refine Wr.w ?_ | refine Cmp.t ?_ | refine Cmp.f ?_ | refine Rem.w ?_ | refine Quo.w ?_ | refine PickV.now rfl ?_ | refine Pick.now rfl ?_ | refine Chk.mk rfl ?_ | refine PickW.w rfl ?_
          | (refine Need.mk ⟨rfl, rfl, rfl, rfl, rfl, by simp, by show (0 + l.length) * 1 ≤ _; omega, by omega⟩ ?_)
          | (refine CallI.of (p1 (Nat.zero_add _) (if_pos ⟨rfl, rfl⟩)) ?_)
          | (apply CallI.of; assumption)
          | (refine Cmp.tt rfl ?_)
          | (refine Cmp.ff ha ?_)
          | (refine Ret.mk rfl))
  · by_cases h12 : 12 < l.length
    · repeat' ((conv => whnf); first
    | refine Br.tt ?_ | refine Br.ff ?_ | refine Need.w ?_ | refine Wr.w ?_ | refine Cmp.t ?_ | refine Cmp.f ?_ | refine Rem.w ?_ | refine Quo.w ?_ | refine PickV.now rfl ?_ | refine Pick.now rfl ?_ | refine Chk.mk rfl ?_ | refine PickW.w rfl ?_
        | (apply CallI.of; assumption)
        | (refine Ret.mk rfl))
    · exact absurd (.inl (by omega)) hk
end
theorem s_PriorityShares {E : Oracle} (g : Good E) {xs : List D} (h : fitArgs Tryz.prog [3, 3, 61] xs) : Fc E n_law05_PriorityShares (asV xs) (B true) := by
  obtain ⟨x, y, z, rfl, h1, h2, h3⟩ := args3 h
  obtain ⟨m, rfl, _⟩ := arg_int h1
  obtain ⟨n, rfl, _⟩ := arg_int h2
  obtain ⟨l, rfl, _⟩ := arg_bools h3
  exact w_PriorityShares g m n l
end Go.Proofs.YtcephlgejkngiaaGreatDoor.Co
