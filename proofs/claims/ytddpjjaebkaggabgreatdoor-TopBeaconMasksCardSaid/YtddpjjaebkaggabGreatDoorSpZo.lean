
/-
  Zones: errors, offsets, local moments.
-/
import Derived.Test.YtddpjjaebkaggabGreatDoorSpSun
import Derived.Test.YtddpjjaebkaggabGreatDoorSpGen
namespace Go.Proofs.YtddpjjaebkaggabGreatDoor.Co
open Go Go.Evl
theorem cellC_len (c : Int × Int) : (cellC c).length = 2 := rfl
section
variable (o : Int) (l : List (Int × Int))
def offK : Nat → Int
  | 0 => o
  | k + 1 => (l.getD k (0, 0)).2
def momK : Nat → Int
  | 0 => 0
  | k + 1 => (l.getD k (0, 0)).1
def errZ (k : Nat) : Int :=
  if rng (l.getD k (0, 0)).1 0 143999999 ≠ 0 ∨ rng (l.getD k (0, 0)).2 (-720) 840 ≠ 0 then 3
  else if 180 < (l.getD k (0, 0)).2 - offK o l k ∨ 180 < offK o l k - (l.getD k (0, 0)).2 then 4
  else if 0 < k ∧ (l.getD k (0, 0)).1 - momK l k < 1440 then 11 else 0
def chkZone : Int := if rng o (-720) 840 ≠ 0 then 3 else if 64 < l.length then 5 else firstN (errZ o l) 0 (l.length - 0)
def atN (m : Int) : Nat → Int
  | 0 => o
  | k + 1 => if (l.getD k (0, 0)).1 ≤ m then (l.getD k (0, 0)).2 else atN m k
end
theorem chkZone_zero {o : Int} {l : List (Int × Int)} : chkZone o l = 0 ↔ (-720 ≤ o ∧ o ≤ 840) ∧ l.length ≤ 64 ∧ ∀ i, i < l.length → errZ o l i = 0 := by
  have h1 := @rng_zero o (-720) 840
  unfold chkZone
  split
  · constructor
    · intro h; cases h
    · intro h; omega
  · split
    · constructor
      · intro h; cases h
      · intro h; omega
    · rw [firstN_zero]
      constructor
      · intro h; exact ⟨by omega, by omega, fun i hi => h i (Nat.zero_le _) (by omega)⟩
      · intro h i _ hi; exact h.2.2 i (by omega)
theorem errZ_zero {o : Int} {l : List (Int × Int)} {k : Nat} : errZ o l k = 0 ↔ (0 ≤ (l.getD k (0, 0)).1 ∧ (l.getD k (0, 0)).1 ≤ 143999999) ∧ (-720 ≤ (l.getD k (0, 0)).2 ∧ (l.getD k (0, 0)).2 ≤ 840) ∧ ((l.getD k (0, 0)).2 - offK o l k ≤ 180 ∧ offK o l k - (l.getD k (0, 0)).2 ≤ 180) ∧ (0 < k → 1440 ≤ (l.getD k (0, 0)).1 - momK l k) := by
  have h1 := @rng_zero (l.getD k (0, 0)).1 0 143999999
  have h2 := @rng_zero (l.getD k (0, 0)).2 (-720) 840
  unfold errZ
  split
  · constructor
    · intro h; cases h
    · intro h; omega
  · split
    · constructor
      · intro h; cases h
      · intro h; omega
    · split
      · constructor
        · intro h; cases h
        · intro h; omega
      · constructor
        · intro h; omega
        · intro h; rfl
theorem atN_range {o : Int} {l : List (Int × Int)} (h : chkZone o l = 0) (m : Int) : ∀ k, k ≤ l.length → -720 ≤ atN o l m k ∧ atN o l m k ≤ 840
  | 0, _ => (chkZone_zero.1 h).1
  | k + 1, hk => by
    have h1 := errZ_zero.1 ((chkZone_zero.1 h).2.2 k (by omega))
    have h2 := atN_range h m k (by omega)
    simp only [atN]
    split
    · exact h1.2.1
    · exact h2
section
variable {E : Oracle} (g : Good E)
include g
theorem s_checkMoment (n : Int) : Fc E n_calendar_checkMoment [I n] (I (rng n 0 143999999)) := by
  refine g.fn code_calendar_checkMoment rfl ?_
  repeat' ((conv => whnf); first
  | refine Br.tt ?_
  | refine Br.ff ?_
  | refine Need.w ?_
  | refine Wr.w ?_
  | refine Cmp.t ?_
  | refine Cmp.f ?_
  | refine Rem.w ?_
  | refine Quo.w ?_
  | refine PickV.now rfl ?_
  | refine Pick.now rfl ?_
  | refine Chk.mk rfl ?_
  | refine PickW.w rfl ?_
    | (refine CallI.of (s_within g _ _ _) ?_)
    | (refine Ret.mk rfl))
omit g in
theorem offK_succ {o : Int} {l : List (Int × Int)} {k : Nat} (h : k < l.length) : offK o l (k + 1) = l[k].2 := by
  simp [offK, h]
omit g in
theorem momK_succ {l : List (Int × Int)} {k : Nat} (h : k < l.length) : momK l (k + 1) = l[k].1 := by
  simp [momK, h]
omit g in
theorem getD_lt {l : List (Int × Int)} {k : Nat} (h : k < l.length) : l.getD k (0, 0) = l[k] := by
  simp [h]
omit g in
def invZ (o : Int) (l : List (Int × Int)) (k : Nat) : Prop :=
  firstN (errZ o l) 0 (l.length - 0) = firstN (errZ o l) k (l.length - k) ∧ (-720 ≤ offK o l k ∧ offK o l k ≤ 840) ∧ 0 ≤ momK l k ∧ momK l k ≤ 143999999
omit g in
theorem invZ_bad {o : Int} {l : List (Int × Int)} {k : Nat} (h : k < l.length) (hi : invZ o l k) (he : errZ o l k ≠ 0) : firstN (errZ o l) 0 (l.length - 0) = errZ o l k := by
  rw [hi.1, firstN_step _ h, if_neg he]
omit g in
theorem invZ_good {o : Int} {l : List (Int × Int)} {k : Nat} (h : k < l.length) (hi : invZ o l k) (he : errZ o l k = 0) : invZ o l (k + 1) := by
  have h1 := errZ_zero.1 he
  refine ⟨?_, ?_, ?_⟩
  · rw [hi.1, firstN_step _ h, if_pos he]
  · exact h1.2.1
  · exact h1.1
omit g in
theorem two_rng (a b c d e f : Int) : (firstI [rng a b c, rng d e f] = 0 ↔ (b ≤ a ∧ a ≤ c) ∧ e ≤ d ∧ d ≤ f) ∧ (firstI [rng a b c, rng d e f] ≠ 0 → firstI [rng a b c, rng d e f] = 3) := by
  by_cases p : b ≤ a ∧ a ≤ c <;> by_cases q : e ≤ d ∧ d ≤ f
  · simp [firstI, rng_zero.2 p, rng_zero.2 q, p, q]
  · have : rng d e f = 3 := if_pos (by omega)
    simp [firstI, rng_zero.2 p, this, q]
  · have : rng a b c = 3 := if_pos (by omega)
    simp [firstI, this]; omega
  · have : rng a b c = 3 := if_pos (by omega)
    simp [firstI, this]; omega
set_option maxHeartbeats 4000000 in
theorem s_CheckZone (o : Int) (l : List (Int × Int)) (hl : l.length ≤ 1048576) : Fc E n_calendar_CheckZone [Zo o l] (I (chkZone o l)) := by
  refine g.fn code_calendar_CheckZone rfl ?_
  by_cases h1 : rng o (-720) 840 = 0
  · by_cases h2 : 64 < l.length
    · repeat' ((conv => whnf); first
    | refine Br.tt ?_
    | refine Br.ff ?_
    | refine Need.w ?_
    | refine Wr.w ?_
    | refine Cmp.t ?_
    | refine Cmp.f ?_
    | refine Rem.w ?_
    | refine Quo.w ?_
    | refine PickV.now rfl ?_
    | refine Pick.now rfl ?_
    | refine Chk.mk rfl ?_
    | refine PickW.w rfl ?_
        | (refine CallI.of (s_within g _ _ _) ?_)
        | (refine CallI.of (s_when g _ _) ?_)
        | (refine CallI.of (s_first2 g _ _) ?_)
        | (rw [h1])
        | (refine Ret.mk ?_))
      simp [chkZone, h1, h2, firstI]
    · repeat' ((conv => whnf); first
    | refine Br.tt ?_
    | refine Br.ff ?_
    | refine Need.w ?_
    | refine Wr.w ?_
    | refine Cmp.t ?_
    | refine Cmp.f ?_
    | refine Rem.w ?_
    | refine Quo.w ?_
    | refine PickV.now rfl ?_
    | refine Pick.now rfl ?_
    | refine Chk.mk rfl ?_
    | refine PickW.w rfl ?_
        | (refine CallI.of (s_within g _ _ _) ?_)
        | (refine CallI.of (s_when g _ _) ?_)
        | (refine CallI.of (s_first2 g _ _) ?_)
        | (rw [h1]))
      refine LoopW.to (LoopW.upP g (fun k => [(1, .ptr ⟨0, 1, 0⟩ 0 0), (4, I (offK o l k)), (26, .d (.list l.length (l.flatMap cellC))), (27, I l.length), (28, I k)]) (fun _ => [(⟨0, 1, 0⟩, .cells ty_calendar_Zone [I o, .d (.list l.length (l.flatMap cellC))])]) (invZ o l) l.length (fun k hk hp ih => ?_) 0 (Nat.zero_le _) ?_) rfl rfl
      · by_cases hlt : k < l.length
        · have hz := @errZ_zero o l k
          have hg := getD_lt hlt
          have hb := invZ_bad hlt hp
          have hgd := invZ_good hlt hp
          have hc : chkZone o l = firstN (errZ o l) 0 (l.length - 0) := by simp [chkZone, h1, h2]
          have hs := @offK_succ o l k hlt
          have r1 := two_rng l[k].1 0 143999999 l[k].2 (-720) 840
          have z1 := @rng_zero l[k].1 0 143999999
          have z2 := @rng_zero l[k].2 (-720) 840
          have hp1 := hp.2.1
          have hp2 := hp.2.2
          rw [hg] at hz
          cases k with
          | zero =>
            repeat' ((conv => whnf); first
            | refine Br.tt ?_
            | refine Br.ff ?_
            | refine Need.w ?_
            | refine Wr.w ?_
            | refine Cmp.t ?_
            | refine Cmp.f ?_
            | refine Rem.w ?_
            | refine Quo.w ?_
            | refine PickV.now rfl ?_
            | refine Pick.now rfl ?_
            | refine Chk.mk rfl ?_
            | refine PickW.w rfl ?_
              | (refine CallI.of (s_checkMoment g _) ?_)
              | (refine CallI.of (s_within g _ _ _) ?_)
              | (refine CallI.of (s_when g _ _) ?_)
              | (refine CallI.of (s_first2 g _ _) ?_)
              | (refine PickW.rec cellC_len 0 (by omega) hlt ?_)
              | (refine Cmp.mk (fun h => ?_) (fun h => ?_))
              | (refine Rem.any (by omega) (fun r hr he => ?_))
              | (refine Br.mk (fun h => ?_) (fun h => ?_))
              | (refine LoopW.to (ih hlt ?_) ?_ ?_)
              | (refine Ret.mk ?_))
            all_goals first
              | exact hgd (by rw [hz]; omega)
              | (rw [hs] <;> rfl)
              | rfl
              | (rw [hc, hb (by rw [ne_eq, hz]; omega)]; simp only [V.d.injEq, D.int.injEq, true_and, errZ, hg]; (first | change (4 : Int) = _ | change (11 : Int) = _ | skip); repeat' split; all_goals omega)
          | succ j =>
            have hm := @momK_succ l j (by omega)
            repeat' ((conv => whnf); first
            | refine Br.tt ?_
            | refine Br.ff ?_
            | refine Need.w ?_
            | refine Wr.w ?_
            | refine Cmp.t ?_
            | refine Cmp.f ?_
            | refine Rem.w ?_
            | refine Quo.w ?_
            | refine PickV.now rfl ?_
            | refine Pick.now rfl ?_
            | refine Chk.mk rfl ?_
            | refine PickW.w rfl ?_
              | (refine CallI.of (s_checkMoment g _) ?_)
              | (refine CallI.of (s_within g _ _ _) ?_)
              | (refine CallI.of (s_when g _ _) ?_)
              | (refine CallI.of (s_first2 g _ _) ?_)
              | (refine PickW.rec cellC_len (j + 1) (by omega) hlt ?_)
              | (refine Pick.rec cellC_len j (by omega) (by omega) rfl ?_)
              | (refine Cmp.mk (fun h => ?_) (fun h => ?_))
              | (refine Rem.any (by omega) (fun r hr he => ?_))
              | (refine Br.mk (fun h => ?_) (fun h => ?_))
              | (refine LoopW.to (ih hlt ?_) ?_ ?_)
              | (refine Ret.mk ?_))
            all_goals first
              | exact hgd (by rw [hz]; omega)
              | (rw [hs] <;> rfl)
              | rfl
              | (rw [hc, hb (by rw [ne_eq, hz]; omega)]; simp only [V.d.injEq, D.int.injEq, true_and, errZ, hg]; (first | change (4 : Int) = _ | change (11 : Int) = _ | skip); repeat' split; all_goals omega)
        · have hk' : k = l.length := by omega
          repeat' ((conv => whnf); first
          | refine Br.tt ?_
          | refine Br.ff ?_
          | refine Need.w ?_
          | refine Wr.w ?_
          | refine Cmp.t ?_
          | refine Cmp.f ?_
          | refine Rem.w ?_
          | refine Quo.w ?_
          | refine PickV.now rfl ?_
          | refine Pick.now rfl ?_
          | refine Chk.mk rfl ?_
          | refine PickW.w rfl ?_
            | (refine Ret.mk ?_))
          have : chkZone o l = firstN (errZ o l) 0 (l.length - 0) := by simp [chkZone, h1, h2]
          rw [this, hp.1, firstN_end _ (by omega)]
      · have := rng_zero.1 h1
        exact ⟨rfl, this, by simp [momK], by simp [momK]⟩
  · have e3 : rng o (-720) 840 = 3 := by unfold rng at h1 ⊢; split at h1 <;> simp_all
    have hb : ¬ (-720 ≤ o ∧ o ≤ 840) := fun h => h1 (rng_zero.2 h)
    repeat' ((conv => whnf); first
    | refine Br.tt ?_
    | refine Br.ff ?_
    | refine Need.w ?_
    | refine Wr.w ?_
    | refine Cmp.t ?_
    | refine Cmp.f ?_
    | refine Rem.w ?_
    | refine Quo.w ?_
    | refine PickV.now rfl ?_
    | refine Pick.now rfl ?_
    | refine Chk.mk rfl ?_
    | refine PickW.w rfl ?_
      | (refine CallI.of (s_within g _ _ _) ?_)
      | (refine CallI.of (s_when g _ _) ?_)
      | (refine CallI.of (s_first2 g _ _) ?_)
      | (rw [e3])
      | (refine Cmp.mk (fun h => ?_) (fun h => ?_))
      | (refine Rem.any (by omega) (fun r hr he => ?_))
      | (refine Br.mk (fun h => ?_) (fun h => ?_))
      | (refine Ret.mk ?_))
    all_goals simp [chkZone, e3, firstI]
theorem s_at (o : Int) (l : List (Int × Int)) (m : Int) (hl : l.length ≤ 1048576) : Fc E n_calendar_Zone_at [Zo o l, I m] (I (atN o l m l.length)) := by
  refine g.fn code_calendar_Zone_at rfl ?_
  repeat' ((conv => whnf); first
  | refine Br.tt ?_
  | refine Br.ff ?_
  | refine Need.w ?_
  | refine Wr.w ?_
  | refine Cmp.t ?_
  | refine Cmp.f ?_
  | refine Rem.w ?_
  | refine Quo.w ?_
  | refine PickV.now rfl ?_
  | refine Pick.now rfl ?_
  | refine Chk.mk rfl ?_
  | refine PickW.w rfl ?_)
  refine LoopW.to (LoopW.up g (fun k => [(1, I m), (5, I (atN o l m k)), (11, .d (.list l.length (l.flatMap cellC))), (12, I l.length), (13, I k)]) (fun _ => [(⟨0, 2, 0⟩, .cells ty_calendar_Zone [I o, .d (.list l.length (l.flatMap cellC))])]) l.length (fun k hk ih => ?_) 0 (Nat.zero_le _)) rfl rfl
  by_cases hlt : k < l.length
  · have hg := getD_lt hlt
    repeat' ((conv => whnf); first
    | refine Br.tt ?_
    | refine Br.ff ?_
    | refine Need.w ?_
    | refine Wr.w ?_
    | refine Cmp.t ?_
    | refine Cmp.f ?_
    | refine Rem.w ?_
    | refine Quo.w ?_
    | refine PickV.now rfl ?_
    | refine Pick.now rfl ?_
    | refine Chk.mk rfl ?_
    | refine PickW.w rfl ?_
      | (refine PickW.rec cellC_len k (by omega) hlt ?_)
      | (refine Cmp.mk (fun h => ?_) (fun h => ?_))
      | (refine Rem.any (by omega) (fun r hr he => ?_))
      | (refine Br.mk (fun h => ?_) (fun h => ?_))
      | (refine LoopW.to (ih hlt) ?_ rfl))
    all_goals (simp only [atN, hg]; first | (rw [if_pos h] <;> rfl) | (rw [if_neg h] <;> rfl))
  · have hk' : k = l.length := by omega
    repeat' ((conv => whnf); first
    | refine Br.tt ?_
    | refine Br.ff ?_
    | refine Need.w ?_
    | refine Wr.w ?_
    | refine Cmp.t ?_
    | refine Cmp.f ?_
    | refine Rem.w ?_
    | refine Quo.w ?_
    | refine PickV.now rfl ?_
    | refine Pick.now rfl ?_
    | refine Chk.mk rfl ?_
    | refine PickW.w rfl ?_
      | (refine Ret.mk ?_))
    rw [hk']
theorem s_Local_ok (o : Int) (l : List (Int × Int)) (m : Int) (hl : l.length ≤ 1048576) (hz : chkZone o l = 0) (hm : rng m 0 143999999 = 0) : Fc E n_calendar_Local [Zo o l, I m] (.tup (if rng (m + atN o l m l.length) 0 143999999 = 0 then [I (m + atN o l m l.length), I 0] else [I 0, I 30])) := by
  refine g.fn code_calendar_Local rfl ?_
  have h := atN_range hz m l.length (Nat.le_refl _)
  have hm' := rng_zero.1 hm
  have c1 := s_CheckZone g o l hl
  have c2 := s_checkMoment g m
  have c3 := s_at g o l m hl
  rw [hz] at c1
  rw [hm] at c2
  generalize atN o l m l.length = a at *
  have c4 := s_checkMoment g (m + a)
  generalize rng (m + a) 0 143999999 = e at *
  repeat' ((conv => whnf); first
  | refine Br.tt ?_
  | refine Br.ff ?_
  | refine Need.w ?_
  | refine Wr.w ?_
  | refine Cmp.t ?_
  | refine Cmp.f ?_
  | refine Rem.w ?_
  | refine Quo.w ?_
  | refine PickV.now rfl ?_
  | refine Pick.now rfl ?_
  | refine Chk.mk rfl ?_
  | refine PickW.w rfl ?_
    | (refine CallI.of c1 ?_)
    | (refine CallI.of c2 ?_)
    | (refine CallI.of c3 ?_)
    | (refine CallI.of c4 ?_)
    | (refine CallI.of (s_first2 g _ _) ?_)
    | (refine Cmp.mk (fun h => ?_) (fun h => ?_))
    | (refine Rem.any (by omega) (fun r hr he => ?_))
    | (refine Br.mk (fun h => ?_) (fun h => ?_))
    | (refine Ret.mk ?_))
  all_goals simp_all
theorem s_Local_bad (o : Int) (l : List (Int × Int)) (m : Int) (hl : l.length ≤ 1048576) (h : firstI [chkZone o l, rng m 0 143999999] ≠ 0) : Fc E n_calendar_Local [Zo o l, I m] (.tup [I 0, I (firstI [chkZone o l, rng m 0 143999999])]) := by
  refine g.fn code_calendar_Local rfl ?_
  repeat' ((conv => whnf); first
  | refine Br.tt ?_
  | refine Br.ff ?_
  | refine Need.w ?_
  | refine Wr.w ?_
  | refine Cmp.t ?_
  | refine Cmp.f ?_
  | refine Rem.w ?_
  | refine Quo.w ?_
  | refine PickV.now rfl ?_
  | refine Pick.now rfl ?_
  | refine Chk.mk rfl ?_
  | refine PickW.w rfl ?_
    | (refine CallI.of (s_CheckZone g o l hl) ?_)
    | (refine CallI.of (s_checkMoment g _) ?_)
    | (refine CallI.of (s_first2 g _ _) ?_)
    | (refine Ret.mk rfl))
end
end Go.Proofs.YtddpjjaebkaggabGreatDoor.Co
