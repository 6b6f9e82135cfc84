
/-
  PriorityLots returns true, for every key, list of claims and list of lots.
-/
import Derived.Test.YtcephlgejkngiaaGreatDoorPcLot
import Derived.Test.YtcephlgejkngiaaGreatDoorAwP
namespace Go.Proofs.YtcephlgejkngiaaGreatDoor.Co
open Go Go.Evl
set_option maxRecDepth 100000
theorem arg_intL {x : D} (h : fitArg Tryz.prog 48 x) : ∃ l : List Int, x = .list l.length (l.map DI) ∧ l.length ≤ 9223372036854775807 := by
  obtain ⟨m, cs, rfl, h1, h2⟩ := arg_l Tryz.underlying48 h
  obtain ⟨l, rfl, rfl, _⟩ := fit_ints m h2
  exact ⟨l, rfl, Nat.le_trans h1 (by decide)⟩
section
variable {E : Oracle} (g : Good E)
include g
theorem s_EqualI (a b : List Int) (ha : a.length ≤ 140737488355328) : Fc E n_slices_Equal_Lint_int [LI a, LI b] (B (decide (a = b))) := by
  refine g.fn code_slices_Equal_Lint_int rfl ?_
  by_cases hl : a.length = b.length
  · generalize hR : decide (a = b) = R
    repeat' ((conv => whnf); first
    | refine Br.tt ?_ | refine Br.ff ?_ | refine Need.w ?_ | refine Wr.w ?_ | refine Cmp.t ?_ | refine Cmp.f ?_ | refine Rem.w ?_ | refine Quo.w ?_ | refine PickV.now rfl ?_ | refine Pick.now rfl ?_ | refine Chk.mk rfl ?_ | refine PickW.w rfl ?_)
    refine LoopW.to (LoopW.upP g (fun k => [(0, LI a), (1, LI b), (12, I a.length), (13, I k)]) (fun _ => []) (fun k => a.take k = b.take k) a.length (fun k hk hp ih => ?_) 0 (Nat.zero_le _) (by simp)) rfl rfl
    by_cases hlt : k < a.length
    · have hlb : k < b.length := by omega
      have hs : a.take (k + 1) = b.take (k + 1) ↔ a[k] = b[k] := by
        have e1 : a.take (k + 1) = b.take k ++ [a[k]] := by rw [List.take_add_one, hp, List.getElem?_eq_getElem hlt]; rfl
        have e2 : b.take (k + 1) = b.take k ++ [b[k]] := by rw [List.take_add_one, List.getElem?_eq_getElem hlb]; rfl
        rw [e1, e2]
        exact ⟨fun h => List.singleton_inj.1 (List.append_cancel_left h), fun h => by rw [h]⟩
      by_cases he : a[k] = b[k]
      · have ih := ih hlt (hs.2 he)
        repeat' ((conv => whnf); first
        | refine Br.tt ?_ | refine Br.ff ?_ | refine Need.w ?_ | refine Wr.w ?_ | refine Cmp.t ?_ | refine Cmp.f ?_ | refine Rem.w ?_ | refine Quo.w ?_ | refine PickV.now rfl ?_ | refine Pick.now rfl ?_ | refine Chk.mk rfl ?_ | refine PickW.w rfl ?_
          | (refine Pick.intI k rfl hlt ?_)
          | (refine Pick.intI k rfl hlb ?_)
          | (refine LoopW.to ih rfl rfl))
      · rw [← hR, decide_eq_false (fun e => he (by subst e; rfl))]
        repeat' ((conv => whnf); first
        | refine Br.tt ?_ | refine Br.ff ?_ | refine Need.w ?_ | refine Wr.w ?_ | refine Cmp.t ?_ | refine Cmp.f ?_ | refine Rem.w ?_ | refine Quo.w ?_ | refine PickV.now rfl ?_ | refine Pick.now rfl ?_ | refine Chk.mk rfl ?_ | refine PickW.w rfl ?_
          | (refine Pick.intI k rfl hlt ?_)
          | (refine Pick.intI k rfl hlb ?_)
          | (refine Ret.mk rfl))
    · have hk' : k = a.length := by omega
      subst hk'
      rw [List.take_of_length_le (Nat.le_refl _), List.take_of_length_le (by omega)] at hp
      rw [← hR, decide_eq_true hp]
      repeat' ((conv => whnf); first
      | refine Br.tt ?_ | refine Br.ff ?_ | refine Need.w ?_ | refine Wr.w ?_ | refine Cmp.t ?_ | refine Cmp.f ?_ | refine Rem.w ?_ | refine Quo.w ?_ | refine PickV.now rfl ?_ | refine Pick.now rfl ?_ | refine Chk.mk rfl ?_ | refine PickW.w rfl ?_
        | (refine Ret.mk rfl))
  · rw [decide_eq_false (fun e => hl (by rw [e]))]
    repeat' ((conv => whnf); first
    | refine Br.tt ?_ | refine Br.ff ?_ | refine Need.w ?_ | refine Wr.w ?_ | refine Cmp.t ?_ | refine Cmp.f ?_ | refine Rem.w ?_ | refine Quo.w ?_ | refine PickV.now rfl ?_ | refine Pick.now rfl ?_ | refine Chk.mk rfl ?_ | refine PickW.w rfl ?_
      | (refine Ret.mk rfl))
theorem s_checkKey (n : Int) : Fc E n_priority_checkKey [I n] (I (rng n 1 2147483646)) := by
  refine g.fn code_priority_checkKey rfl ?_
  have h := s_pwithin g n 1 2147483646
  repeat' ((conv => whnf); first
  | refine Br.tt ?_ | refine Br.ff ?_ | refine Need.w ?_ | refine Wr.w ?_ | refine Cmp.t ?_ | refine Cmp.f ?_ | refine Rem.w ?_ | refine Quo.w ?_ | refine PickV.now rfl ?_ | refine Pick.now rfl ?_ | refine Chk.mk rfl ?_ | refine PickW.w rfl ?_
    | (apply CallI.of; assumption)
    | (refine Ret.mk rfl))
theorem s_Lots (key : Int) (l : List Clm) (hl : l.length ≤ 12) (h : firstI [rng key 1 2147483646, chkCms l] = 0) : Fc E n_priority_Lots [I key, LM l] (.tup [LI (lotL key l), I 0]) := by
  have e1 : rng key 1 2147483646 = 0 := (firstI_zero _).1 h _ (by simp)
  have e2 : chkCms l = 0 := (firstI_zero _).1 h _ (by simp)
  have h1 := s_checkKey g key
  have h2 := s_checkClaims g l (by omega)
  have h3 := s_pfirst2 g (rng key 1 2147483646) (chkCms l)
  have h4 := s_lots g key l (rng_zero.1 e1) hl (chkCms_zero e2).2.2
  rw [h] at h3
  refine g.fn code_priority_Lots rfl ?_
  repeat' ((conv => whnf); first
  | refine Br.tt ?_ | refine Br.ff ?_ | refine Need.w ?_ | refine Wr.w ?_ | refine Cmp.t ?_ | refine Cmp.f ?_ | refine Rem.w ?_ | refine Quo.w ?_ | refine PickV.now rfl ?_ | refine Pick.now rfl ?_ | refine Chk.mk rfl ?_ | refine PickW.w rfl ?_
    | (apply CallI.of; assumption)
    | (refine Ret.mk rfl))
theorem s_Lots_bad (key : Int) (l : List Clm) (hl : l.length ≤ 1000000) (h : firstI [rng key 1 2147483646, chkCms l] ≠ 0) : Fc E n_priority_Lots [I key, LM l] (.tup [.d (.list 0 []), I (firstI [rng key 1 2147483646, chkCms l])]) := by
  have h1 := s_checkKey g key
  have h2 := s_checkClaims g l hl
  have h3 := s_pfirst2 g (rng key 1 2147483646) (chkCms l)
  refine g.fn code_priority_Lots rfl ?_
  generalize firstI [rng key 1 2147483646, chkCms l] = r at *
  repeat' ((conv => whnf); first
  | refine Br.tt ?_ | refine Br.ff ?_ | refine Need.w ?_ | refine Wr.w ?_ | refine Cmp.t ?_ | refine Cmp.f ?_ | refine Rem.w ?_ | refine Quo.w ?_ | refine PickV.now rfl ?_ | refine Pick.now rfl ?_ | refine Chk.mk rfl ?_ | refine PickW.w rfl ?_
    | (apply CallI.of; assumption)
    | (refine Cmp.tt h ?_)
    | (refine Ret.mk rfl))
def chkLt (key : Int) (l : List Clm) (o : List Int) : Int := if o.length ≠ l.length then 2 else if o = lotL key l then 0 else 21
theorem s_CheckLots (key : Int) (l : List Clm) (o : List Int) (hl : l.length ≤ 12) (ho : o.length ≤ 100) (h : firstI [rng key 1 2147483646, chkCms l] = 0) : Fc E n_priority_CheckLots [I key, LM l, LI o] (I (chkLt key l o)) := by
  have e1 : rng key 1 2147483646 = 0 := (firstI_zero _).1 h _ (by simp)
  have e2 : chkCms l = 0 := (firstI_zero _).1 h _ (by simp)
  have h1 := s_checkKey g key
  have h2 := s_checkClaims g l (by omega)
  have h4 := s_lots g key l (rng_zero.1 e1) hl (chkCms_zero e2).2.2
  have h5 := s_EqualI g o (lotL key l) (by omega)
  rw [e1] at h1
  rw [e2] at h2
  refine g.fn code_priority_CheckLots rfl ?_
  unfold chkLt
  by_cases hz : o.length = l.length
  · rw [if_neg (fun h => h hz)]
    by_cases he : o = lotL key l
    · rw [decide_eq_true he] at h5
      rw [if_pos he]
      repeat' ((conv => whnf); first
      | refine Br.tt ?_ | refine Br.ff ?_ | refine Need.w ?_ | refine Wr.w ?_ | refine Cmp.t ?_ | refine Cmp.f ?_ | refine Rem.w ?_ | refine Quo.w ?_ | refine PickV.now rfl ?_ | refine Pick.now rfl ?_ | refine Chk.mk rfl ?_ | refine PickW.w rfl ?_
        | (apply CallI.of; assumption)
        | (refine CallI.of (s_pwhen g _ _) ?_)
        | (refine CallI.of (s_pfirst3 g _ _ _) ?_)
        | (refine Ret.mk rfl))
    · rw [decide_eq_false he] at h5
      rw [if_neg he]
      repeat' ((conv => whnf); first
      | refine Br.tt ?_ | refine Br.ff ?_ | refine Need.w ?_ | refine Wr.w ?_ | refine Cmp.t ?_ | refine Cmp.f ?_ | refine Rem.w ?_ | refine Quo.w ?_ | refine PickV.now rfl ?_ | refine Pick.now rfl ?_ | refine Chk.mk rfl ?_ | refine PickW.w rfl ?_
        | (apply CallI.of; assumption)
        | (refine CallI.of (s_pwhen g _ _) ?_)
        | (refine CallI.of (s_pfirst3 g _ _ _) ?_)
        | (refine Ret.mk rfl))
  · rw [if_pos hz]
    repeat' ((conv => whnf); first
    | refine Br.tt ?_ | refine Br.ff ?_ | refine Need.w ?_ | refine Wr.w ?_ | refine Cmp.t ?_ | refine Cmp.f ?_ | refine Rem.w ?_ | refine Quo.w ?_ | refine PickV.now rfl ?_ | refine Pick.now rfl ?_ | refine Chk.mk rfl ?_ | refine PickW.w rfl ?_
      | (apply CallI.of; assumption)
      | (refine CallI.of (s_pwhen g _ _) ?_)
      | (refine CallI.of (s_pfirst3 g _ _ _) ?_)
      | (refine Ret.mk rfl))
theorem s_CheckLots_bad (key : Int) (l : List Clm) (o : List Int) (hl : l.length ≤ 1000000) (h : firstI [rng key 1 2147483646, chkCms l] ≠ 0) : Fc E n_priority_CheckLots [I key, LM l, LI o] (I (firstI [rng key 1 2147483646, chkCms l])) := by
  have h1 := s_checkKey g key
  have h2 := s_checkClaims g l hl
  have hf : ∀ x, firstI [rng key 1 2147483646, chkCms l, x] = firstI [rng key 1 2147483646, chkCms l] := fun x => by
    rw [firstI_two, if_neg h]
  refine g.fn code_priority_CheckLots rfl ?_
  have h3 : ∀ x, Fc E n_priority_first [.d (.list 3 [DI (rng key 1 2147483646), DI (chkCms l), DI x])] (I (firstI [rng key 1 2147483646, chkCms l])) := fun x => by
    rw [← hf x]
    exact s_pfirst3 g _ _ _
  clear hf
  generalize firstI [rng key 1 2147483646, chkCms l] = r at *
  by_cases hz : o.length = l.length
  all_goals repeat' ((conv => whnf); first
  | refine Br.tt ?_ | refine Br.ff ?_ | refine Need.w ?_ | refine Wr.w ?_ | refine Cmp.t ?_ | refine Cmp.f ?_ | refine Rem.w ?_ | refine Quo.w ?_ | refine PickV.now rfl ?_ | refine Pick.now rfl ?_ | refine Chk.mk rfl ?_ | refine PickW.w rfl ?_
    | (apply CallI.of; assumption)
    | (refine CallI.of (s_pwhen g _ _) ?_)
    | (refine CallI.of (h3 _) ?_)
    | (refine Cmp.tt h ?_)
    | (refine Ret.mk rfl))
set_option maxHeartbeats 8000000 in
theorem w_PriorityLots (key : Int) (l : List Clm) (o : List Int) (hL : l.length ≤ 9223372036854775807) (hO : o.length ≤ 9223372036854775807) : Fc E n_law05_PriorityLots [I key, LM l, LI o] (B true) := by
  have aw := s_awake g
  have h0 := r_ShortClaims g l 8 hL
  refine g.fn code_law05_PriorityLots rfl ?_
  by_cases hs : ((l.length : Int) ≤ 8 ∨ l.length = 65) ∧ ∀ c ∈ l, briefB c.rq = true
  · rw [decide_eq_true hs] at h0
    have hl := hs.1
    have hl2 : l.length ≤ 65 := by omega
    by_cases ho : o.length ≤ 9
    · have c0 := w_claims g l (by omega)
      have c1 := r_CheckRange g key 1 2147483646
      have c2 := r_CheckClaims g l (by omega)
      have c3 := r_First2 g (rng key 1 2147483646) (chkCms l)
      by_cases hz : firstI [rng key 1 2147483646, chkCms l] = 0
      · have e1 : rng key 1 2147483646 = 0 := (firstI_zero _).1 hz _ (by simp)
        have e2 : chkCms l = 0 := (firstI_zero _).1 hz _ (by simp)
        have hl3 := (chkCms_zero e2).1
        have hl4 : l.length ≤ 8 := by omega
        have p1 := s_Lots g key l (by omega) hz
        have p2 : ∀ {n : Nat} {cs : List D}, n = o.length → cs = o.map DI → Fc E n_priority_CheckLots [I key, LM l, .d (.list n cs)] (I (chkLt key l o)) := fun h1 h2 => by subst h1 h2; exact s_CheckLots g key l o (by omega) (by omega) hz
        have p3 := r_Lots g key l (rng_zero.1 e1) (by omega)
        have p4 := r_SameInts g o (lotL key l) (by omega)
        have p5 := r_SameInts g (lotL key l) (lotL key l) (by rw [lotL_length]; omega)
        rw [decide_eq_true rfl] at p5
        rw [hz] at c3
        unfold chkLt at p2
        by_cases hq : o.length = l.length
        · rw [if_neg (fun h => h hq)] at p2
          by_cases he : o = lotL key l
          · rw [if_pos he] at p2
            rw [decide_eq_true he] at p4
            clear he
            generalize lotL key l = w at *
            repeat' ((conv => whnf); first
            | refine Br.tt ?_ | refine Br.ff ?_ | refine Need.w ?_ | refine Wr.w ?_ | refine Cmp.t ?_ | refine Cmp.f ?_ | refine Rem.w ?_ | refine Quo.w ?_ | refine PickV.now rfl ?_ | refine Pick.now rfl ?_ | refine Chk.mk rfl ?_ | refine PickW.w rfl ?_
              | (apply CallI.of; assumption)
              | (refine Need.mk ⟨rfl, rfl, rfl, rfl, rfl, by simp, by show (0 + o.length) * 8 ≤ _; omega, by omega⟩ ?_)
              | (refine CallI.of (p2 (Nat.zero_add _) (if_pos ⟨rfl, rfl⟩)) ?_)
              | (refine Ret.mk rfl))
          · rw [if_neg he] at p2
            rw [decide_eq_false he] at p4
            clear he
            generalize lotL key l = w at *
            repeat' ((conv => whnf); first
            | refine Br.tt ?_ | refine Br.ff ?_ | refine Need.w ?_ | refine Wr.w ?_ | refine Cmp.t ?_ | refine Cmp.f ?_ | refine Rem.w ?_ | refine Quo.w ?_ | refine PickV.now rfl ?_ | refine Pick.now rfl ?_ | refine Chk.mk rfl ?_ | refine PickW.w rfl ?_
              | (apply CallI.of; assumption)
              | (refine Need.mk ⟨rfl, rfl, rfl, rfl, rfl, by simp, by show (0 + o.length) * 8 ≤ _; omega, by omega⟩ ?_)
              | (refine CallI.of (p2 (Nat.zero_add _) (if_pos ⟨rfl, rfl⟩)) ?_)
              | (refine Ret.mk rfl))
        · rw [if_pos hq] at p2
          generalize lotL key l = w at *
          repeat' ((conv => whnf); first
          | refine Br.tt ?_ | refine Br.ff ?_ | refine Need.w ?_ | refine Wr.w ?_ | refine Cmp.t ?_ | refine Cmp.f ?_ | refine Rem.w ?_ | refine Quo.w ?_ | refine PickV.now rfl ?_ | refine Pick.now rfl ?_ | refine Chk.mk rfl ?_ | refine PickW.w rfl ?_
            | (apply CallI.of; assumption)
            | (refine Need.mk ⟨rfl, rfl, rfl, rfl, rfl, by simp, by show (0 + o.length) * 8 ≤ _; omega, by omega⟩ ?_)
            | (refine CallI.of (p2 (Nat.zero_add _) (if_pos ⟨rfl, rfl⟩)) ?_)
            | (refine Ret.mk rfl))
      · have p1 := s_Lots_bad g key l (by omega) hz
        have p2 : ∀ {n : Nat} {cs : List D}, n = o.length → cs = o.map DI → Fc E n_priority_CheckLots [I key, LM l, .d (.list n cs)] (I (firstI [rng key 1 2147483646, chkCms l])) := fun h1 h2 => by subst h1 h2; exact s_CheckLots_bad g key l o (by omega) hz
        have p5 := r_SameInts g [] [] (by decide)
        rw [decide_eq_true rfl] at p5
        generalize firstI [rng key 1 2147483646, chkCms l] = r at *
        repeat' ((conv => whnf); first
        | refine Br.tt ?_ | refine Br.ff ?_ | refine Need.w ?_ | refine Wr.w ?_ | refine Cmp.t ?_ | refine Cmp.f ?_ | refine Rem.w ?_ | refine Quo.w ?_ | refine PickV.now rfl ?_ | refine Pick.now rfl ?_ | refine Chk.mk rfl ?_ | refine PickW.w rfl ?_
          | (apply CallI.of; assumption)
          | (refine Need.mk ⟨rfl, rfl, rfl, rfl, rfl, by simp, by show (0 + o.length) * 8 ≤ _; omega, by omega⟩ ?_)
          | (refine CallI.of (p2 (Nat.zero_add _) (if_pos ⟨rfl, rfl⟩)) ?_)
          | (refine Cmp.tt rfl ?_)
          | (refine Cmp.ff hz ?_)
          | (refine Ret.mk rfl))
    · repeat' ((conv => whnf); first
    | refine Br.tt ?_ | refine Br.ff ?_ | refine Need.w ?_ | refine Wr.w ?_ | refine Cmp.t ?_ | refine Cmp.f ?_ | refine Rem.w ?_ | refine Quo.w ?_ | refine PickV.now rfl ?_ | refine Pick.now rfl ?_ | refine Chk.mk rfl ?_ | refine PickW.w rfl ?_
        | (apply CallI.of; assumption)
        | (refine Ret.mk rfl))
  · rw [decide_eq_false hs] at h0
    repeat' ((conv => whnf); first
    | refine Br.tt ?_ | refine Br.ff ?_ | refine Need.w ?_ | refine Wr.w ?_ | refine Cmp.t ?_ | refine Cmp.f ?_ | refine Rem.w ?_ | refine Quo.w ?_ | refine PickV.now rfl ?_ | refine Pick.now rfl ?_ | refine Chk.mk rfl ?_ | refine PickW.w rfl ?_
      | (apply CallI.of; assumption)
      | (refine Ret.mk rfl))
end
theorem s_PriorityLots {E : Oracle} (g : Good E) {xs : List D} (h : fitArgs Tryz.prog [3, 81, 48] xs) : Fc E n_law05_PriorityLots (asV xs) (B true) := by
  obtain ⟨x, y, z, rfl, h1, h2, h3⟩ := args3 h
  obtain ⟨k, rfl, _⟩ := arg_int h1
  obtain ⟨l, rfl, hl⟩ := arg_Claims h2
  obtain ⟨o, rfl, ho⟩ := arg_intL h3
  exact w_PriorityLots g k l o hl ho
end Go.Proofs.YtcephlgejkngiaaGreatDoor.Co
