
/-
  Days, dates, and their texts: what the program's functions and the reference's give.
-/
import Derived.Test.YtddpjjaebkaggabGreatDoorSpYear
import Derived.Test.YtddpjjaebkaggabGreatDoorSpDateR
import Derived.Test.YtddpjjaebkaggabGreatDoorSpDig
namespace Go.Proofs.YtddpjjaebkaggabGreatDoor.Co
open Go Go.Evl
def chkDate (y m d : Int) : Int := if rng y 2000 2273 ≠ 0 ∨ rng m 1 12 ≠ 0 ∨ rng d 1 31 ≠ 0 then 3 else if lenM y m < d ∨ 99999 < dayN y m d then 7 else 0
def dateL (y m d : Int) : List UInt8 := wideL 4 y ++ [45] ++ wideL 2 m ++ [45] ++ wideL 2 d
theorem year_digits : ∀ n : Fin 400, digitsF 20 (2000 + (n.val : Int)).toNat = wideL 4 (2000 + (n.val : Int)) := by decide +kernel
section
variable {E : Oracle} (g : Good E)
include g
theorem s_Day_ok (y m d : Int) (h : chkDate y m d = 0) : Fc E n_calendar_Day [I y, I m, I d] (.tup [I (dayN y m d), I 0]) := by
  refine g.fn code_calendar_Day rfl ?_
  have k1 := @rng_zero y 2000 2273
  have k2 := @rng_zero m 1 12
  have k3 := @rng_zero d 1 31
  unfold chkDate at h
  split at h
  · omega
  · split at h
    · omega
    · rename_i h1 h2
      have k4 : firstI [rng y 2000 2273, rng m 1 12, rng d 1 31] = 0 := by simp only [firstI]; repeat' split; all_goals omega
      repeat' ((conv => whnf); first
      | refine Br.tt ?_
      | refine Br.ff ?_
      | refine Need.w ?_
      | refine Wr.w ?_
      | refine Cmp.t ?_
      | refine Cmp.f ?_
      | refine Rem.w ?_
      | refine Quo.w ?_
      | refine PickV.now rfl ?_
      | refine Pick.now rfl ?_
      | refine Chk.mk rfl ?_
      | refine PickW.w rfl ?_
        | (refine CallI.of (s_within g _ _ _) ?_)
        | (refine CallI.of (s_first3 g _ _ _) ?_)
        | (refine CallI.of (s_number g _ _ _ (by omega) (by omega) (by omega)) ?_)
        | (refine CallI.of (s_length g _ _ (by omega) (by omega)) ?_)
        | (refine Ret.mk rfl))
theorem s_Day_bad (y m d : Int) (h : chkDate y m d ≠ 0) : Fc E n_calendar_Day [I y, I m, I d] (.tup [I 0, I (chkDate y m d)]) := by
  refine g.fn code_calendar_Day rfl ?_
  have k1 := @rng_zero y 2000 2273
  have k2 := @rng_zero m 1 12
  have k3 := @rng_zero d 1 31
  have r1 : rng y 2000 2273 = 0 ∨ rng y 2000 2273 = 3 := by unfold rng; split <;> simp
  have r2 : rng m 1 12 = 0 ∨ rng m 1 12 = 3 := by unfold rng; split <;> simp
  have r3 : rng d 1 31 = 0 ∨ rng d 1 31 = 3 := by unfold rng; split <;> simp
  unfold chkDate at h ⊢
  split
  · rename_i h1
    have k4 : firstI [rng y 2000 2273, rng m 1 12, rng d 1 31] = 3 := by simp only [firstI]; repeat' split; all_goals omega
    repeat' ((conv => whnf); first
    | refine Br.tt ?_
    | refine Br.ff ?_
    | refine Need.w ?_
    | refine Wr.w ?_
    | refine Cmp.t ?_
    | refine Cmp.f ?_
    | refine Rem.w ?_
    | refine Quo.w ?_
    | refine PickV.now rfl ?_
    | refine Pick.now rfl ?_
    | refine Chk.mk rfl ?_
    | refine PickW.w rfl ?_
      | (refine CallI.of (s_within g _ _ _) ?_)
      | (refine CallI.of (s_first3 g _ _ _) ?_)
      | (refine Ret.mk ?_))
    rw [k4]
  · rename_i h1
    rw [if_neg h1] at h
    have k4 : firstI [rng y 2000 2273, rng m 1 12, rng d 1 31] = 0 := by simp only [firstI]; repeat' split; all_goals omega
    split
    · rename_i h2
      by_cases h3 : lenM y m < d
      all_goals repeat' ((conv => whnf); first
      | refine Br.tt ?_
      | refine Br.ff ?_
      | refine Need.w ?_
      | refine Wr.w ?_
      | refine Cmp.t ?_
      | refine Cmp.f ?_
      | refine Rem.w ?_
      | refine Quo.w ?_
      | refine PickV.now rfl ?_
      | refine Pick.now rfl ?_
      | refine Chk.mk rfl ?_
      | refine PickW.w rfl ?_
        | (refine CallI.of (s_within g _ _ _) ?_)
        | (refine CallI.of (s_first3 g _ _ _) ?_)
        | (refine CallI.of (s_number g _ _ _ (by omega) (by omega) (by omega)) ?_)
        | (refine CallI.of (s_length g _ _ (by omega) (by omega)) ?_)
        | (refine Ret.mk rfl))
    · rename_i h2
      rw [if_neg h2] at h
      exact absurd rfl h
theorem s_Date_ok {day y m d : Int} (h : IsDate day y m d) (h0 : 0 ≤ day ∧ day ≤ 99999) : Fc E n_calendar_Date [I day] (.tup [Dt y m d, I 0]) := by
  refine g.fn code_calendar_Date rfl ?_
  have hc := s_checkDay g day
  rw [rng_zero.2 h0] at hc
  repeat' ((conv => whnf); first
  | refine Br.tt ?_
  | refine Br.ff ?_
  | refine Need.w ?_
  | refine Wr.w ?_
  | refine Cmp.t ?_
  | refine Cmp.f ?_
  | refine Rem.w ?_
  | refine Quo.w ?_
  | refine PickV.now rfl ?_
  | refine Pick.now rfl ?_
  | refine Chk.mk rfl ?_
  | refine PickW.w rfl ?_
    | (refine CallI.of hc ?_)
    | (refine CallI.of (s_date g h) ?_)
    | (refine Need.mk (by simp [win]; done) ?_)
    | (refine Ret.mk rfl))
theorem s_Date_bad (day : Int) (h : rng day 0 99999 ≠ 0) : Fc E n_calendar_Date [I day] (.tup [Dt 0 0 0, I (rng day 0 99999)]) := by
  refine g.fn code_calendar_Date rfl ?_
  repeat' ((conv => whnf); first
  | refine Br.tt ?_
  | refine Br.ff ?_
  | refine Need.w ?_
  | refine Wr.w ?_
  | refine Cmp.t ?_
  | refine Cmp.f ?_
  | refine Rem.w ?_
  | refine Quo.w ?_
  | refine PickV.now rfl ?_
  | refine Pick.now rfl ?_
  | refine Chk.mk rfl ?_
  | refine PickW.w rfl ?_
    | (refine CallI.of (s_checkDay g _) ?_)
    | (refine Need.mk (by simp [win]; done) ?_)
    | (refine Ret.mk rfl))
theorem s_Weekday_ok (day : Int) (h0 : 0 ≤ day ∧ day ≤ 99999) : Fc E n_calendar_Weekday [I day] (.tup [I ((day + 5) % 7), I 0]) := by
  refine g.fn code_calendar_Weekday rfl ?_
  have hc := s_checkDay g day
  rw [rng_zero.2 h0] at hc
  repeat' ((conv => whnf); first
  | refine Br.tt ?_
  | refine Br.ff ?_
  | refine Need.w ?_
  | refine Wr.w ?_
  | refine Cmp.t ?_
  | refine Cmp.f ?_
  | refine Rem.w ?_
  | refine Quo.w ?_
  | refine PickV.now rfl ?_
  | refine Pick.now rfl ?_
  | refine Chk.mk rfl ?_
  | refine PickW.w rfl ?_
    | (refine CallI.of hc ?_)
    | (refine CallI.of (s_weekday g _ (by omega)) ?_)
    | (refine Ret.mk rfl))
theorem s_Weekday_bad (day : Int) (h : rng day 0 99999 ≠ 0) : Fc E n_calendar_Weekday [I day] (.tup [I 0, I (rng day 0 99999)]) := by
  refine g.fn code_calendar_Weekday rfl ?_
  repeat' ((conv => whnf); first
  | refine Br.tt ?_
  | refine Br.ff ?_
  | refine Need.w ?_
  | refine Wr.w ?_
  | refine Cmp.t ?_
  | refine Cmp.f ?_
  | refine Rem.w ?_
  | refine Quo.w ?_
  | refine PickV.now rfl ?_
  | refine Pick.now rfl ?_
  | refine Chk.mk rfl ?_
  | refine PickW.w rfl ?_
    | (refine CallI.of (s_checkDay g _) ?_)
    | (refine Ret.mk rfl))
theorem s_two (n : Int) (h : 0 ≤ n ∧ n ≤ 99) : Fc E n_calendar_two [I n] (S (wideL 2 n)) := by
  refine g.fn code_calendar_two rfl ?_
  have h2 := two_digits ⟨n.toNat, by omega⟩
  simp only [Int.toNat_of_nonneg h.1] at h2
  have hl := congrArg List.length h2
  rw [wideL_length, List.length_append] at hl
  repeat' ((conv => whnf); first
  | refine Br.tt ?_
  | refine Br.ff ?_
  | refine Need.w ?_
  | refine Wr.w ?_
  | refine Cmp.t ?_
  | refine Cmp.f ?_
  | refine Rem.w ?_
  | refine Quo.w ?_
  | refine PickV.now rfl ?_
  | refine Pick.now rfl ?_
  | refine Chk.mk rfl ?_
  | refine PickW.w rfl ?_
    | (refine CallI.of (s_Itoa g _ (by omega)) ?_)
    | (refine Need.mk (by simp only [maxStr]; omega) ?_)
    | (refine Ret.mk ?_))
  rw [h2]
theorem s_PrintDate_ok {day y m d : Int} (h : IsDate day y m d) (h0 : 0 ≤ day ∧ day ≤ 99999) : Fc E n_calendar_PrintDate [I day] (.tup [S (dateL y m d), I 0]) := by
  refine g.fn code_calendar_PrintDate rfl ?_
  have hc := s_checkDay g day
  rw [rng_zero.2 h0] at hc
  have hy := h.hy
  have hm := h.hm
  have hd := h.hd
  have hM := lenM_le y m
  have e1 := year_digits ⟨(y - 2000).toNat, by omega⟩
  simp only [Int.toNat_of_nonneg (show 0 ≤ y - 2000 by omega), show 2000 + (y - 2000) = y by omega] at e1
  have hi := s_Itoa g y (by omega)
  rw [e1] at hi
  repeat' ((conv => whnf); first
  | refine Br.tt ?_
  | refine Br.ff ?_
  | refine Need.w ?_
  | refine Wr.w ?_
  | refine Cmp.t ?_
  | refine Cmp.f ?_
  | refine Rem.w ?_
  | refine Quo.w ?_
  | refine PickV.now rfl ?_
  | refine Pick.now rfl ?_
  | refine Chk.mk rfl ?_
  | refine PickW.w rfl ?_
    | (refine CallI.of hc ?_)
    | (refine CallI.of (s_date g h) ?_)
    | (refine CallI.of hi ?_)
    | (refine CallI.of (s_two g _ (by omega)) ?_)
    | (refine Need.mk (by simp [wideL_length, maxStr]; done) ?_)
    | (refine Ret.mk rfl))
theorem s_PrintDate_bad (day : Int) (h : rng day 0 99999 ≠ 0) : Fc E n_calendar_PrintDate [I day] (.tup [S [], I (rng day 0 99999)]) := by
  refine g.fn code_calendar_PrintDate rfl ?_
  repeat' ((conv => whnf); first
  | refine Br.tt ?_
  | refine Br.ff ?_
  | refine Need.w ?_
  | refine Wr.w ?_
  | refine Cmp.t ?_
  | refine Cmp.f ?_
  | refine Rem.w ?_
  | refine Quo.w ?_
  | refine PickV.now rfl ?_
  | refine Pick.now rfl ?_
  | refine Chk.mk rfl ?_
  | refine PickW.w rfl ?_
    | (refine CallI.of (s_checkDay g _) ?_)
    | (refine Ret.mk rfl))
end
end Go.Proofs.YtddpjjaebkaggabGreatDoor.Co
