
/-
  Periods: errors, masks, moves: what the program's functions and the reference's give.
-/
import Derived.Test.YtcephlgejkngiaaGreatDoorSpBase
namespace Go.Proofs.YtcephlgejkngiaaGreatDoor.Co
open Go Go.Evl
def rng (n a b : Int) : Int := if n < a ∨ b < n then 3 else 0
def firstI : List Int → Int
  | [] => 0
  | x :: r => if x = 0 then firstI r else x
theorem rng_range (n a b : Int) : 0 ≤ rng n a b ∧ rng n a b ≤ 3 := by unfold rng; split <;> omega
theorem rng_zero {n a b : Int} : rng n a b = 0 ↔ a ≤ n ∧ n ≤ b := by unfold rng; split <;> omega
section
variable {E : Oracle} (g : Good E)
include g
theorem s_when (b : Bool) (e : Int) : Fc E n_calendar_when [B b, I e] (I (if b then e else 0)) := by
  refine g.fn code_calendar_when rfl ?_
  cases b
  all_goals repeat' ((conv => whnf); first
  | refine Br.tt ?_ | refine Br.ff ?_ | refine Need.w ?_ | refine Wr.w ?_ | refine Cmp.t ?_ | refine Cmp.f ?_ | refine Rem.w ?_ | refine Quo.w ?_ | refine PickV.now rfl ?_ | refine Pick.now rfl ?_ | refine Chk.mk rfl ?_ | refine PickW.w rfl ?_
    | (refine Ret.mk rfl))
theorem s_within (n a b : Int) : Fc E n_calendar_within [I n, I a, I b] (I (rng n a b)) := by
  refine g.fn code_calendar_within rfl ?_
  repeat' ((conv => whnf); first
  | refine Br.tt ?_ | refine Br.ff ?_ | refine Need.w ?_ | refine Wr.w ?_ | refine Cmp.t ?_ | refine Cmp.f ?_ | refine Rem.w ?_ | refine Quo.w ?_ | refine PickV.now rfl ?_ | refine Pick.now rfl ?_ | refine Chk.mk rfl ?_ | refine PickW.w rfl ?_
    | (refine Cmp.mk (fun h => ?_) (fun h => ?_)) | (refine Rem.any (by omega) (fun r hr he => ?_)) | (refine Br.mk (fun h => ?_) (fun h => ?_))
    | (refine CallI.of (s_when g _ _) ?_)
    | (refine Ret.mk ?_))
  all_goals (simp only [V.d.injEq, D.int.injEq, true_and, rng]; simp_all)
omit g in
theorem firstI_drop (l : List Int) (k : Nat) (h : k < l.length) : firstI (l.drop k) = if l.getD k 0 = 0 then firstI (l.drop (k + 1)) else l.getD k 0 := by
  rw [List.drop_eq_getElem_cons h]
  simp [firstI, List.getD, h]
theorem s_first (l : List Int) (hl : l.length ≤ 140737488355328) : Fc E n_calendar_first [LI l] (I (firstI l)) := by
  refine g.fn code_calendar_first rfl ?_
  conv => whnf
  refine LoopW.upP g (fun k => [(5, LI l), (6, I l.length), (7, I k)]) (fun _ => []) (fun k => firstI l = firstI (l.drop k)) l.length (fun k hk hp ih => ?_) 0 (Nat.zero_le _) (by simp)
  by_cases hlt : k < l.length
  · have hd := firstI_drop l k hlt
    repeat' ((conv => whnf); first
    | refine Br.tt ?_ | refine Br.ff ?_ | refine Need.w ?_ | refine Wr.w ?_ | refine Cmp.t ?_ | refine Cmp.f ?_ | refine Rem.w ?_ | refine Quo.w ?_ | refine PickV.now rfl ?_ | refine Pick.now rfl ?_ | refine Chk.mk rfl ?_ | refine PickW.w rfl ?_
      | (refine Pick.int (by omega) ?_)
      | (refine Cmp.mk (fun h => ?_) (fun h => ?_)) | (refine Rem.any (by omega) (fun r hr he => ?_)) | (refine Br.mk (fun h => ?_) (fun h => ?_))
      | (refine LoopW.to (ih hlt ?_) ?_ rfl)
      | (refine Ret.mk ?_))
    all_goals simp_all
  · have : l.drop k = [] := List.drop_eq_nil_of_le (by omega)
    repeat' ((conv => whnf); first
    | refine Br.tt ?_ | refine Br.ff ?_ | refine Need.w ?_ | refine Wr.w ?_ | refine Cmp.t ?_ | refine Cmp.f ?_ | refine Rem.w ?_ | refine Quo.w ?_ | refine PickV.now rfl ?_ | refine Pick.now rfl ?_ | refine Chk.mk rfl ?_ | refine PickW.w rfl ?_
      | (refine Ret.mk ?_))
    simp [hp, this, firstI]
theorem s_first2 (a b : Int) : Fc E n_calendar_first [.d (.list 2 [DI a, DI b])] (I (firstI [a, b])) := s_first g [a, b] (by simp)
theorem s_first3 (a b c : Int) : Fc E n_calendar_first [.d (.list 3 [DI a, DI b, DI c])] (I (firstI [a, b, c])) := s_first g [a, b, c] (by simp)
theorem s_first4 (a b c d : Int) : Fc E n_calendar_first [.d (.list 4 [DI a, DI b, DI c, DI d])] (I (firstI [a, b, c, d])) := s_first g [a, b, c, d] (by simp)
theorem s_checkDay (n : Int) : Fc E n_calendar_checkDay [I n] (I (rng n 0 99999)) := by
  refine g.fn code_calendar_checkDay rfl ?_
  repeat' ((conv => whnf); first
  | refine Br.tt ?_ | refine Br.ff ?_ | refine Need.w ?_ | refine Wr.w ?_ | refine Cmp.t ?_ | refine Cmp.f ?_ | refine Rem.w ?_ | refine Quo.w ?_ | refine PickV.now rfl ?_ | refine Pick.now rfl ?_ | refine Chk.mk rfl ?_ | refine PickW.w rfl ?_
    | (refine CallI.of (s_within g _ _ _) ?_)
    | (refine Ret.mk rfl))
theorem r_CheckRange (n a b : Int) : Fc E n_ref01_CheckRange [I n, I a, I b] (I (rng n a b)) := by
  refine g.fn code_ref01_CheckRange rfl ?_
  repeat' ((conv => whnf); first
  | refine Br.tt ?_ | refine Br.ff ?_ | refine Need.w ?_ | refine Wr.w ?_ | refine Cmp.t ?_ | refine Cmp.f ?_ | refine Rem.w ?_ | refine Quo.w ?_ | refine PickV.now rfl ?_ | refine Pick.now rfl ?_ | refine Chk.mk rfl ?_ | refine PickW.w rfl ?_
    | (refine Cmp.mk (fun h => ?_) (fun h => ?_)) | (refine Rem.any (by omega) (fun r hr he => ?_)) | (refine Br.mk (fun h => ?_) (fun h => ?_))
    | (refine Ret.mk ?_))
  all_goals (simp only [V.d.injEq, D.int.injEq, true_and, rng]; simp_all)
theorem r_CheckDay (n : Int) : Fc E n_ref01_CheckDay [I n] (I (rng n 0 99999)) := by
  refine g.fn code_ref01_CheckDay rfl ?_
  repeat' ((conv => whnf); first
  | refine Br.tt ?_ | refine Br.ff ?_ | refine Need.w ?_ | refine Wr.w ?_ | refine Cmp.t ?_ | refine Cmp.f ?_ | refine Rem.w ?_ | refine Quo.w ?_ | refine PickV.now rfl ?_ | refine Pick.now rfl ?_ | refine Chk.mk rfl ?_ | refine PickW.w rfl ?_
    | (refine CallI.of (r_CheckRange g _ _ _) ?_)
    | (refine Ret.mk rfl))
theorem r_First (l : List Int) (hl : l.length ≤ 140737488355328) : Fc E n_ref01_First [LI l] (I (firstI l)) := by
  refine g.fn code_ref01_First rfl ?_
  conv => whnf
  refine LoopW.upP g (fun k => [(0, LI l), (3, I k)]) (fun _ => []) (fun k => firstI l = firstI (l.drop k)) l.length (fun k hk hp ih => ?_) 0 (Nat.zero_le _) (by simp)
  by_cases hlt : k < l.length
  · have hd := firstI_drop l k hlt
    repeat' ((conv => whnf); first
    | refine Br.tt ?_ | refine Br.ff ?_ | refine Need.w ?_ | refine Wr.w ?_ | refine Cmp.t ?_ | refine Cmp.f ?_ | refine Rem.w ?_ | refine Quo.w ?_ | refine PickV.now rfl ?_ | refine Pick.now rfl ?_ | refine Chk.mk rfl ?_ | refine PickW.w rfl ?_
      | (refine Pick.int (by omega) ?_)
      | (refine Cmp.mk (fun h => ?_) (fun h => ?_)) | (refine Rem.any (by omega) (fun r hr he => ?_)) | (refine Br.mk (fun h => ?_) (fun h => ?_))
      | (refine LoopW.to (ih hlt ?_) ?_ rfl)
      | (refine Ret.mk ?_))
    all_goals simp_all
  · have : l.drop k = [] := List.drop_eq_nil_of_le (by omega)
    repeat' ((conv => whnf); first
    | refine Br.tt ?_ | refine Br.ff ?_ | refine Need.w ?_ | refine Wr.w ?_ | refine Cmp.t ?_ | refine Cmp.f ?_ | refine Rem.w ?_ | refine Quo.w ?_ | refine PickV.now rfl ?_ | refine Pick.now rfl ?_ | refine Chk.mk rfl ?_ | refine PickW.w rfl ?_
      | (refine Ret.mk ?_))
    simp [hp, this, firstI]
omit g in
def chkPer (f t d : Int) : Int := if f < 0 ∨ 99999 < f ∨ t < 0 ∨ 99999 < t then 3 else if t < f then 11 else if 400 < t - f then 4 else rng d 1 127
omit g in
theorem chkPer_zero {f t d : Int} : chkPer f t d = 0 ↔ 0 ≤ f ∧ f ≤ t ∧ t ≤ 99999 ∧ t - f ≤ 400 ∧ 1 ≤ d ∧ d ≤ 127 := by
  unfold chkPer rng
  repeat' split
  all_goals omega
omit g in
theorem two_zero (f t : Int) : firstI [rng f 0 99999, rng t 0 99999] = 0 ↔ (0 ≤ f ∧ f ≤ 99999 ∧ 0 ≤ t ∧ t ≤ 99999) := by
  simp only [firstI]; unfold rng
  repeat' split
  all_goals omega
omit g in
theorem two_val (f t : Int) (h : firstI [rng f 0 99999, rng t 0 99999] ≠ 0) : firstI [rng f 0 99999, rng t 0 99999] = 3 := by
  simp only [firstI] at h ⊢; unfold rng at h ⊢
  repeat' split
  all_goals (try omega)
  all_goals simp_all
theorem s_CheckPeriod (f t d : Int) : Fc E n_calendar_CheckPeriod [Per f t d] (I (chkPer f t d)) := by
  refine g.fn code_calendar_CheckPeriod rfl ?_
  have k1 := two_zero f t
  have k2 := two_val f t
  have k3 := rng_range d 1 127
  repeat' ((conv => whnf); first
  | refine Br.tt ?_ | refine Br.ff ?_ | refine Need.w ?_ | refine Wr.w ?_ | refine Cmp.t ?_ | refine Cmp.f ?_ | refine Rem.w ?_ | refine Quo.w ?_ | refine PickV.now rfl ?_ | refine Pick.now rfl ?_ | refine Chk.mk rfl ?_ | refine PickW.w rfl ?_
    | (refine CallI.of (s_checkDay g _) ?_)
    | (refine CallI.of (s_first2 g _ _) ?_)
    | (refine CallI.of (s_when g _ _) ?_)
    | (refine CallI.of (s_within g _ _ _) ?_)
    | (refine CallI.of (s_first3 g _ _ _) ?_)
    | (refine Cmp.mk (fun h => ?_) (fun h => ?_)) | (refine Rem.any (by omega) (fun r hr he => ?_)) | (refine Br.mk (fun h => ?_) (fun h => ?_))
    | (refine Ret.mk ?_))
  all_goals (simp only [V.d.injEq, D.int.injEq, true_and, chkPer])
  all_goals first
    | (rw [if_pos (by omega)]; omega)
    | (simp [firstI]; repeat' split; all_goals omega)
theorem r_CheckPeriod (f t d : Int) : Fc E n_ref01_CheckPeriod [Per f t d] (I (chkPer f t d)) := by
  refine g.fn code_ref01_CheckPeriod rfl ?_
  have k1 := @rng_zero f 0 99999
  have k2 := @rng_zero t 0 99999
  repeat' ((conv => whnf); first
  | refine Br.tt ?_ | refine Br.ff ?_ | refine Need.w ?_ | refine Wr.w ?_ | refine Cmp.t ?_ | refine Cmp.f ?_ | refine Rem.w ?_ | refine Quo.w ?_ | refine PickV.now rfl ?_ | refine Pick.now rfl ?_ | refine Chk.mk rfl ?_ | refine PickW.w rfl ?_
    | (refine CallI.of (r_CheckDay g _) ?_)
    | (refine CallI.of (r_CheckRange g _ _ _) ?_)
    | (refine Cmp.mk (fun h => ?_) (fun h => ?_)) | (refine Rem.any (by omega) (fun r hr he => ?_)) | (refine Br.mk (fun h => ?_) (fun h => ?_))
    | (refine Ret.mk ?_))
  all_goals (simp only [V.d.injEq, D.int.injEq, true_and, chkPer])
  all_goals (repeat' split)
  all_goals first
    | rfl
    | omega
omit g in
def inM (m w : Int) : Bool := decide (m / 2 ^ w.toNat % 2 = 1)
theorem r_InMask (m w : Int) (hm : 0 ≤ m ∧ m ≤ 127) (hw : 0 ≤ w ∧ w ≤ 6) : Fc E n_ref01_InMask [I m, I w] (B (inM m w)) := by
  refine g.fn code_ref01_InMask rfl ?_
  conv => whnf
  refine LoopW.to (LoopW.up g (fun k => [(0, I (m / 2 ^ k)), (1, I w), (5, I k)]) (fun _ => []) w.toNat (fun k hk ih => ?_) 0 (Nat.zero_le _)) ?_ rfl
  · have h0 : 0 ≤ m / 2 ^ k := Int.ediv_nonneg hm.1 (Int.pow_nonneg (by decide))
    have h1 : m / 2 ^ k ≤ m := Int.ediv_le_self _ hm.1
    have h2 : m / 2 ^ k / 2 = m / 2 ^ (k + 1) := by rw [Int.pow_succ, Int.ediv_ediv_of_nonneg (Int.pow_nonneg (by decide))]
    by_cases hlt : k < w.toNat
    · repeat' ((conv => whnf); first
    | refine Br.tt ?_ | refine Br.ff ?_ | refine Need.w ?_ | refine Wr.w ?_ | refine Cmp.t ?_ | refine Cmp.f ?_ | refine Rem.w ?_ | refine Quo.w ?_ | refine PickV.now rfl ?_ | refine Pick.now rfl ?_ | refine Chk.mk rfl ?_ | refine PickW.w rfl ?_
        | (refine LoopW.to (ih hlt) ?_ rfl)
        | (refine Ret.mk ?_))
      simp [h2]
    · have : k = w.toNat := by omega
      subst this
      repeat' ((conv => whnf); first
      | refine Br.tt ?_ | refine Br.ff ?_ | refine Need.w ?_ | refine Wr.w ?_ | refine Cmp.t ?_ | refine Cmp.f ?_ | refine Rem.w ?_ | refine Quo.w ?_ | refine PickV.now rfl ?_ | refine Pick.now rfl ?_ | refine Chk.mk rfl ?_ | refine PickW.w rfl ?_
        | (refine Cmp.mk (fun h => ?_) (fun h => ?_)) | (refine Rem.any (by omega) (fun r hr he => ?_)) | (refine Br.mk (fun h => ?_) (fun h => ?_))
        | (refine Ret.mk ?_))
      all_goals simp_all [inM]
  · simp
end
end Go.Proofs.YtcephlgejkngiaaGreatDoor.Co
