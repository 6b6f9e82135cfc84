
/-
  Days, dates, and their texts: what the program's functions and the reference's give.
-/
import Derived.Test.YtlboecjgelnabaaGreatDoorSpYear
import Derived.Test.YtlboecjgelnabaaGreatDoorSpDateR
namespace Go.Proofs.YtlboecjgelnabaaGreatDoor.Co
open Go Go.Evl

/-- The error of a date. -/
def chkDate (y m d : Int) : Int := if rng y 2000 2273 ≠ 0 ∨ rng m 1 12 ≠ 0 ∨ rng d 1 31 ≠ 0 then 3 else if lenM y m < d ∨ 99999 < dayN y m d then 7 else 0

/-- A digit's byte. -/
def dig (n : Int) : UInt8 := UInt8.ofNat (48 + n.toNat)
/-- A number in so many digits. -/
def wideL : Nat → Int → List UInt8
  | 0, _ => []
  | k + 1, n => wideL k (n / 10) ++ [dig (n % 10)]
theorem wideL_length : ∀ (k : Nat) (n : Int), (wideL k n).length = k
  | 0, _ => rfl
  | k + 1, n => by simp [wideL, wideL_length k]

/-- A date's text. -/
def dateL (y m d : Int) : List UInt8 := wideL 4 y ++ [45] ++ wideL 2 m ++ [45] ++ wideL 2 d

theorem two_digits : ∀ n : Fin 100, digitsF 20 ((n.val : Int) / 10).toNat ++ digitsF 20 ((n.val : Int) % 10).toNat = wideL 2 n.val := by decide +kernel
theorem year_digits : ∀ n : Fin 400, digitsF 20 (2000 + (n.val : Int)).toNat = wideL 4 (2000 + (n.val : Int)) := by decide +kernel

section
variable {E : Oracle} (g : Good E)
include g

theorem s_Day_ok (y m d : Int) (h : chkDate y m d = 0) : Fc E n_calendar_Day [I y, I m, I d] (.tup [I (dayN y m d), I 0]) := by
  refine g.fn code_calendar_Day rfl ?_
  have k1 := @rng_zero y 2000 2273
  have k2 := @rng_zero m 1 12
  have k3 := @rng_zero d 1 31
  unfold chkDate at h
  split at h
  · omega
  · split at h
    · omega
    · rename_i h1 h2
      have k4 : firstI [rng y 2000 2273, rng m 1 12, rng d 1 31] = 0 := by simp only [firstI]; repeat' split; all_goals omega
      repeat' ((conv => whnf); first
        | (refine Br.tt ?_)
        | (refine Br.ff ?_)
        | (refine Need.mk (by first | omega | (simp; done) | (simp; omega)) ?_)
        | (refine Wr.keep (by omega) ?_)
        | (refine Cmp.tt (by first | omega | decide) ?_)
        | (refine Cmp.ff (by first | omega | decide) ?_)
        | (refine Rem.pos (by omega) ?_)
        | (refine Quo.pos (by omega) ?_)
        | (refine PickV.now rfl ?_)
        | (refine Pick.now rfl ?_)
        | (refine PickW.now (by first | omega | decide) rfl ?_)
        | (refine CallI.of (s_within g _ _ _) ?_)
        | (refine CallI.of (s_first3 g _ _ _) ?_)
        | (refine CallI.of (s_number g _ _ _ (by omega) (by omega) (by omega)) ?_)
        | (refine CallI.of (s_length g _ _ (by omega) (by omega)) ?_)
        | (refine Ret.mk rfl))

theorem s_Day_bad (y m d : Int) (h : chkDate y m d ≠ 0) : Fc E n_calendar_Day [I y, I m, I d] (.tup [I 0, I (chkDate y m d)]) := by
  refine g.fn code_calendar_Day rfl ?_
  have k1 := @rng_zero y 2000 2273
  have k2 := @rng_zero m 1 12
  have k3 := @rng_zero d 1 31
  have r1 : rng y 2000 2273 = 0 ∨ rng y 2000 2273 = 3 := by unfold rng; split <;> simp
  have r2 : rng m 1 12 = 0 ∨ rng m 1 12 = 3 := by unfold rng; split <;> simp
  have r3 : rng d 1 31 = 0 ∨ rng d 1 31 = 3 := by unfold rng; split <;> simp
  unfold chkDate at h ⊢
  split
  · rename_i h1
    have k4 : firstI [rng y 2000 2273, rng m 1 12, rng d 1 31] = 3 := by simp only [firstI]; repeat' split; all_goals omega
    repeat' ((conv => whnf); first
      | (refine Br.tt ?_)
      | (refine Br.ff ?_)
      | (refine Need.mk (by first | omega | (simp; done) | (simp; omega)) ?_)
      | (refine Wr.keep (by omega) ?_)
      | (refine Cmp.tt (by first | omega | decide) ?_)
      | (refine Cmp.ff (by first | omega | decide) ?_)
      | (refine Rem.pos (by omega) ?_)
      | (refine Quo.pos (by omega) ?_)
      | (refine PickV.now rfl ?_)
      | (refine Pick.now rfl ?_)
      | (refine PickW.now (by first | omega | decide) rfl ?_)
      | (refine CallI.of (s_within g _ _ _) ?_)
      | (refine CallI.of (s_first3 g _ _ _) ?_)
      | (refine Ret.mk ?_))
    rw [k4]
  · rename_i h1
    rw [if_neg h1] at h
    have k4 : firstI [rng y 2000 2273, rng m 1 12, rng d 1 31] = 0 := by simp only [firstI]; repeat' split; all_goals omega
    split
    · rename_i h2
      by_cases h3 : lenM y m < d
      all_goals repeat' ((conv => whnf); first
        | (refine Br.tt ?_)
        | (refine Br.ff ?_)
        | (refine Need.mk (by first | omega | (simp; done) | (simp; omega)) ?_)
        | (refine Wr.keep (by omega) ?_)
        | (refine Cmp.tt (by first | omega | decide) ?_)
        | (refine Cmp.ff (by first | omega | decide) ?_)
        | (refine Rem.pos (by omega) ?_)
        | (refine Quo.pos (by omega) ?_)
        | (refine PickV.now rfl ?_)
        | (refine Pick.now rfl ?_)
        | (refine PickW.now (by first | omega | decide) rfl ?_)
        | (refine CallI.of (s_within g _ _ _) ?_)
        | (refine CallI.of (s_first3 g _ _ _) ?_)
        | (refine CallI.of (s_number g _ _ _ (by omega) (by omega) (by omega)) ?_)
        | (refine CallI.of (s_length g _ _ (by omega) (by omega)) ?_)
        | (refine Ret.mk rfl))
    · rename_i h2
      rw [if_neg h2] at h
      exact absurd rfl h

theorem r_CheckDate (y m d : Int) : Fc E n_ref01_CheckDate [I y, I m, I d] (I (chkDate y m d)) := by
  refine g.fn code_ref01_CheckDate rfl ?_
  have k1 := @rng_zero y 2000 2273
  have k2 := @rng_zero m 1 12
  have k3 := @rng_zero d 1 31
  unfold chkDate
  by_cases c1 : rng y 2000 2273 = 0
  · by_cases c2 : rng m 1 12 = 0
    · by_cases c3 : rng d 1 31 = 0
      · rw [if_neg (by omega)]
        by_cases h3 : lenM y m < d
        · rw [if_pos (.inl h3)]
          repeat' ((conv => whnf); first
            | (refine Br.tt ?_)
            | (refine Br.ff ?_)
            | (refine Need.mk (by first | omega | (simp; done) | (simp; omega)) ?_)
            | (refine Wr.keep (by omega) ?_)
            | (refine Cmp.tt (by first | omega | decide) ?_)
            | (refine Cmp.ff (by first | omega | decide) ?_)
            | (refine Rem.pos (by omega) ?_)
            | (refine Quo.pos (by omega) ?_)
            | (refine PickV.now rfl ?_)
            | (refine Pick.now rfl ?_)
            | (refine PickW.now (by first | omega | decide) rfl ?_)
            | (refine CallI.of (r_CheckRange g _ _ _) ?_)
            | (refine CallI.of (r_Day g _ _ _ (by omega) (by omega) (by omega)) ?_)
            | (refine CallI.of (r_Length g _ _ (by omega) (by omega)) ?_)
            | (refine Ret.mk rfl))
        · by_cases h4 : 99999 < dayN y m d
          · rw [if_pos (.inr h4)]
            repeat' ((conv => whnf); first
              | (refine Br.tt ?_)
              | (refine Br.ff ?_)
              | (refine Need.mk (by first | omega | (simp; done) | (simp; omega)) ?_)
              | (refine Wr.keep (by omega) ?_)
              | (refine Cmp.tt (by first | omega | decide) ?_)
              | (refine Cmp.ff (by first | omega | decide) ?_)
              | (refine Rem.pos (by omega) ?_)
              | (refine Quo.pos (by omega) ?_)
              | (refine PickV.now rfl ?_)
              | (refine Pick.now rfl ?_)
              | (refine PickW.now (by first | omega | decide) rfl ?_)
              | (refine CallI.of (r_CheckRange g _ _ _) ?_)
              | (refine CallI.of (r_Day g _ _ _ (by omega) (by omega) (by omega)) ?_)
              | (refine CallI.of (r_Length g _ _ (by omega) (by omega)) ?_)
              | (refine Ret.mk rfl))
          · rw [if_neg (by omega)]
            repeat' ((conv => whnf); first
              | (refine Br.tt ?_)
              | (refine Br.ff ?_)
              | (refine Need.mk (by first | omega | (simp; done) | (simp; omega)) ?_)
              | (refine Wr.keep (by omega) ?_)
              | (refine Cmp.tt (by first | omega | decide) ?_)
              | (refine Cmp.ff (by first | omega | decide) ?_)
              | (refine Rem.pos (by omega) ?_)
              | (refine Quo.pos (by omega) ?_)
              | (refine PickV.now rfl ?_)
              | (refine Pick.now rfl ?_)
              | (refine PickW.now (by first | omega | decide) rfl ?_)
              | (refine CallI.of (r_CheckRange g _ _ _) ?_)
              | (refine CallI.of (r_Day g _ _ _ (by omega) (by omega) (by omega)) ?_)
              | (refine CallI.of (r_Length g _ _ (by omega) (by omega)) ?_)
              | (refine Ret.mk rfl))
      · rw [if_pos (by omega)]
        repeat' ((conv => whnf); first
          | (refine Br.tt ?_)
          | (refine Br.ff ?_)
          | (refine Need.mk (by first | omega | (simp; done) | (simp; omega)) ?_)
          | (refine Wr.keep (by omega) ?_)
          | (refine Cmp.tt (by first | omega | decide) ?_)
          | (refine Cmp.ff (by first | omega | decide) ?_)
          | (refine Rem.pos (by omega) ?_)
          | (refine Quo.pos (by omega) ?_)
          | (refine PickV.now rfl ?_)
          | (refine Pick.now rfl ?_)
          | (refine PickW.now (by first | omega | decide) rfl ?_)
          | (refine CallI.of (r_CheckRange g _ _ _) ?_)
          | (refine Ret.mk rfl))
    · rw [if_pos (by omega)]
      repeat' ((conv => whnf); first
        | (refine Br.tt ?_)
        | (refine Br.ff ?_)
        | (refine Need.mk (by first | omega | (simp; done) | (simp; omega)) ?_)
        | (refine Wr.keep (by omega) ?_)
        | (refine Cmp.tt (by first | omega | decide) ?_)
        | (refine Cmp.ff (by first | omega | decide) ?_)
        | (refine Rem.pos (by omega) ?_)
        | (refine Quo.pos (by omega) ?_)
        | (refine PickV.now rfl ?_)
        | (refine Pick.now rfl ?_)
        | (refine PickW.now (by first | omega | decide) rfl ?_)
        | (refine CallI.of (r_CheckRange g _ _ _) ?_)
        | (refine Ret.mk rfl))
  · rw [if_pos (by omega)]
    repeat' ((conv => whnf); first
      | (refine Br.tt ?_)
      | (refine Br.ff ?_)
      | (refine Need.mk (by first | omega | (simp; done) | (simp; omega)) ?_)
      | (refine Wr.keep (by omega) ?_)
      | (refine Cmp.tt (by first | omega | decide) ?_)
      | (refine Cmp.ff (by first | omega | decide) ?_)
      | (refine Rem.pos (by omega) ?_)
      | (refine Quo.pos (by omega) ?_)
      | (refine PickV.now rfl ?_)
      | (refine Pick.now rfl ?_)
      | (refine PickW.now (by first | omega | decide) rfl ?_)
      | (refine CallI.of (r_CheckRange g _ _ _) ?_)
      | (refine Ret.mk rfl))

theorem s_Date_ok {day y m d : Int} (h : IsDate day y m d) (h0 : 0 ≤ day ∧ day ≤ 99999) : Fc E n_calendar_Date [I day] (.tup [Dt y m d, I 0]) := by
  refine g.fn code_calendar_Date rfl ?_
  have hc := s_checkDay g day
  rw [rng_zero.2 h0] at hc
  repeat' ((conv => whnf); first
    | (refine Br.tt ?_)
    | (refine Br.ff ?_)
    | (refine Need.mk (by first | omega | (simp; done) | (simp; omega)) ?_)
    | (refine Wr.keep (by omega) ?_)
    | (refine Cmp.tt (by first | omega | decide) ?_)
    | (refine Cmp.ff (by first | omega | decide) ?_)
    | (refine Rem.pos (by omega) ?_)
    | (refine Quo.pos (by omega) ?_)
    | (refine PickV.now rfl ?_)
    | (refine Pick.now rfl ?_)
    | (refine PickW.now (by first | omega | decide) rfl ?_)
    | (refine CallI.of hc ?_)
    | (refine CallI.of (s_date g h) ?_)
    | (refine Need.mk (by simp [win]; done) ?_)
    | (refine Ret.mk rfl))
theorem s_Date_bad (day : Int) (h : rng day 0 99999 ≠ 0) : Fc E n_calendar_Date [I day] (.tup [Dt 0 0 0, I (rng day 0 99999)]) := by
  refine g.fn code_calendar_Date rfl ?_
  repeat' ((conv => whnf); first
    | (refine Br.tt ?_)
    | (refine Br.ff ?_)
    | (refine Need.mk (by first | omega | (simp; done) | (simp; omega)) ?_)
    | (refine Wr.keep (by omega) ?_)
    | (refine Cmp.tt (by first | omega | decide) ?_)
    | (refine Cmp.ff (by first | omega | decide) ?_)
    | (refine Rem.pos (by omega) ?_)
    | (refine Quo.pos (by omega) ?_)
    | (refine PickV.now rfl ?_)
    | (refine Pick.now rfl ?_)
    | (refine PickW.now (by first | omega | decide) rfl ?_)
    | (refine CallI.of (s_checkDay g _) ?_)
    | (refine Need.mk (by simp [win]; done) ?_)
    | (refine Ret.mk rfl))

theorem s_Weekday_ok (day : Int) (h0 : 0 ≤ day ∧ day ≤ 99999) : Fc E n_calendar_Weekday [I day] (.tup [I ((day + 5) % 7), I 0]) := by
  refine g.fn code_calendar_Weekday rfl ?_
  have hc := s_checkDay g day
  rw [rng_zero.2 h0] at hc
  repeat' ((conv => whnf); first
    | (refine Br.tt ?_)
    | (refine Br.ff ?_)
    | (refine Need.mk (by first | omega | (simp; done) | (simp; omega)) ?_)
    | (refine Wr.keep (by omega) ?_)
    | (refine Cmp.tt (by first | omega | decide) ?_)
    | (refine Cmp.ff (by first | omega | decide) ?_)
    | (refine Rem.pos (by omega) ?_)
    | (refine Quo.pos (by omega) ?_)
    | (refine PickV.now rfl ?_)
    | (refine Pick.now rfl ?_)
    | (refine PickW.now (by first | omega | decide) rfl ?_)
    | (refine CallI.of hc ?_)
    | (refine CallI.of (s_weekday g _ (by omega)) ?_)
    | (refine Ret.mk rfl))
theorem s_Weekday_bad (day : Int) (h : rng day 0 99999 ≠ 0) : Fc E n_calendar_Weekday [I day] (.tup [I 0, I (rng day 0 99999)]) := by
  refine g.fn code_calendar_Weekday rfl ?_
  repeat' ((conv => whnf); first
    | (refine Br.tt ?_)
    | (refine Br.ff ?_)
    | (refine Need.mk (by first | omega | (simp; done) | (simp; omega)) ?_)
    | (refine Wr.keep (by omega) ?_)
    | (refine Cmp.tt (by first | omega | decide) ?_)
    | (refine Cmp.ff (by first | omega | decide) ?_)
    | (refine Rem.pos (by omega) ?_)
    | (refine Quo.pos (by omega) ?_)
    | (refine PickV.now rfl ?_)
    | (refine Pick.now rfl ?_)
    | (refine PickW.now (by first | omega | decide) rfl ?_)
    | (refine CallI.of (s_checkDay g _) ?_)
    | (refine Ret.mk rfl))

theorem r_Date {day y m d : Int} (h : IsDate day y m d) : Fc E n_ref01_Date [I day] (Dt y m d) := by
  refine g.fn code_ref01_Date rfl ?_
  have hb := h.year
  obtain ⟨hy, hm, hd, e⟩ := h
  have hbm := daysM_le y (m - 1).toNat
  have hY2 := lenY_le y
  have hM2 := lenM_le y m
  simp only [dayN] at e
  have hY := daysY_le (y - 2000).toNat
  repeat' ((conv => whnf); first
    | (refine Br.tt ?_)
    | (refine Br.ff ?_)
    | (refine Need.mk (by first | omega | (simp; done) | (simp; omega)) ?_)
    | (refine Wr.keep (by omega) ?_)
    | (refine Cmp.tt (by first | omega | decide) ?_)
    | (refine Cmp.ff (by first | omega | decide) ?_)
    | (refine Rem.pos (by omega) ?_)
    | (refine Quo.pos (by omega) ?_)
    | (refine PickV.now rfl ?_)
    | (refine Pick.now rfl ?_)
    | (refine PickW.now (by first | omega | decide) rfl ?_))
  refine LoopW.to (LoopW.up g (fun k => [(0, I (day - daysY k)), (2, .ptr ⟨0, 2, 0⟩ 0 0), (3, I (2000 + k)), (4, I 1)]) (fun _ => [(⟨0, 2, 0⟩, .cells ty_3_int [I 0, I 0, I 0])]) (y - 2000).toNat (fun k hk ih => ?_) 0 (Nat.zero_le _)) (by simp [daysY]) rfl
  have h1 := daysY_le k
  by_cases hlt : k < (y - 2000).toNat
  · have h2 := lenY_le (2000 + k)
    have h3 : daysY (k + 1) ≤ daysY (y - 2000).toNat := daysY_mono (by omega)
    simp only [daysY] at h3
    repeat' ((conv => whnf); first
      | (refine Br.tt ?_)
      | (refine Br.ff ?_)
      | (refine Need.mk (by first | omega | (simp; done) | (simp; omega)) ?_)
      | (refine Wr.keep (by omega) ?_)
      | (refine Cmp.tt (by first | omega | decide) ?_)
      | (refine Cmp.ff (by first | omega | decide) ?_)
      | (refine Rem.pos (by omega) ?_)
      | (refine Quo.pos (by omega) ?_)
      | (refine PickV.now rfl ?_)
      | (refine Pick.now rfl ?_)
      | (refine PickW.now (by first | omega | decide) rfl ?_)
      | (refine CallI.of (r_yearLength g _ (by omega)) ?_)
      | (refine LoopW.to (ih hlt) ?_ rfl))
    simp [daysY]; omega
  · have hk : (2000 : Int) + k = y := by omega
    have hk' : k = (y - 2000).toNat := by omega
    repeat' ((conv => whnf); first
      | (refine Br.tt ?_)
      | (refine Br.ff ?_)
      | (refine Need.mk (by first | omega | (simp; done) | (simp; omega)) ?_)
      | (refine Wr.keep (by omega) ?_)
      | (refine Cmp.tt (by first | omega | decide) ?_)
      | (refine Cmp.ff (by first | omega | decide) ?_)
      | (refine Rem.pos (by omega) ?_)
      | (refine Quo.pos (by omega) ?_)
      | (refine PickV.now rfl ?_)
      | (refine Pick.now rfl ?_)
      | (refine PickW.now (by first | omega | decide) rfl ?_)
      | (refine CallI.of (r_yearLength g _ (by omega)) ?_)
      | (refine Cmp.ff (by rw [hk, hk']; omega) ?_))
    refine LoopW.to (LoopW.up g (fun j => [(0, I (day - daysY (y - 2000).toNat - daysM y j)), (2, .ptr ⟨0, 2, 0⟩ 0 0), (3, I y), (4, I (1 + j))]) (fun _ => [(⟨0, 2, 0⟩, .cells ty_3_int [I 0, I 0, I 0])]) (m - 1).toNat (fun j hj ih => ?_) 0 (Nat.zero_le _)) (by rw [hk]; simp [daysM, hk']) rfl
    have h4 := daysM_le y j
    by_cases hlt : j < (m - 1).toNat
    · have h2 := lenM_le y (j + 1)
      have h3 : daysM y (j + 1) ≤ daysM y (m - 1).toNat := daysM_mono y (by omega)
      simp only [daysM] at h3
      have e3 : (1 : Int) + j = j + 1 := by omega
      repeat' ((conv => whnf); first
        | (refine Br.tt ?_)
        | (refine Br.ff ?_)
        | (refine Need.mk (by first | omega | (simp; done) | (simp; omega)) ?_)
        | (refine Wr.keep (by omega) ?_)
        | (refine Cmp.tt (by first | omega | decide) ?_)
        | (refine Cmp.ff (by first | omega | decide) ?_)
        | (refine Rem.pos (by omega) ?_)
        | (refine Quo.pos (by omega) ?_)
        | (refine PickV.now rfl ?_)
        | (refine Pick.now rfl ?_)
        | (refine PickW.now (by first | omega | decide) rfl ?_)
        | (refine CallI.of (r_Length g _ _ (by omega) (by omega)) ?_)
        | (refine Cmp.tt (by rw [e3]; omega) ?_)
        | (refine Wr.keep (by rw [e3]; omega) ?_)
        | (refine LoopW.to (ih hlt) ?_ rfl))
      simp [daysM, e3]; omega
    · have hj : (1 : Int) + j = m := by omega
      have hj' : j = (m - 1).toNat := by omega
      repeat' ((conv => whnf); first
        | (refine Br.tt ?_)
        | (refine Br.ff ?_)
        | (refine Need.mk (by first | omega | (simp; done) | (simp; omega)) ?_)
        | (refine Wr.keep (by omega) ?_)
        | (refine Cmp.tt (by first | omega | decide) ?_)
        | (refine Cmp.ff (by first | omega | decide) ?_)
        | (refine Rem.pos (by omega) ?_)
        | (refine Quo.pos (by omega) ?_)
        | (refine PickV.now rfl ?_)
        | (refine Pick.now rfl ?_)
        | (refine PickW.now (by first | omega | decide) rfl ?_)
        | (refine CallI.of (r_Length g _ _ (by omega) (by omega)) ?_)
        | (refine Cmp.ff (by rw [hj, hj']; omega) ?_)
        | (refine Need.mk (by simp [win]; done) ?_)
        | (refine Ret.mk ?_))
      simp only [V.d.injEq, D.agg.injEq, List.cons.injEq, D.int.injEq, true_and, and_true]
      refine ⟨hj, ?_⟩
      rw [hj']; omega

theorem s_Itoa (n : Int) (h : 0 ≤ n ∧ n ≤ 9223372036854775807) : Fc E n_strconv_Itoa [I n] (S (digitsF 20 n.toNat)) :=
  Fc.extern g.lim (x := itoaX) rfl (v := S (digitsF 20 n.toNat)) (m' := []) (by simp only [itoaX]; rw [if_pos h]) rfl

theorem s_two (n : Int) (h : 0 ≤ n ∧ n ≤ 99) : Fc E n_calendar_two [I n] (S (wideL 2 n)) := by
  refine g.fn code_calendar_two rfl ?_
  have h2 := two_digits ⟨n.toNat, by omega⟩
  simp only [Int.toNat_of_nonneg h.1] at h2
  have hl := congrArg List.length h2
  rw [wideL_length, List.length_append] at hl
  repeat' ((conv => whnf); first
    | (refine Br.tt ?_)
    | (refine Br.ff ?_)
    | (refine Need.mk (by first | omega | (simp; done) | (simp; omega)) ?_)
    | (refine Wr.keep (by omega) ?_)
    | (refine Cmp.tt (by first | omega | decide) ?_)
    | (refine Cmp.ff (by first | omega | decide) ?_)
    | (refine Rem.pos (by omega) ?_)
    | (refine Quo.pos (by omega) ?_)
    | (refine PickV.now rfl ?_)
    | (refine Pick.now rfl ?_)
    | (refine PickW.now (by first | omega | decide) rfl ?_)
    | (refine CallI.of (s_Itoa g _ (by omega)) ?_)
    | (refine Need.mk (by simp only [maxStr]; omega) ?_)
    | (refine Ret.mk ?_))
  rw [h2]

theorem r_digit (n : Int) (h : 0 ≤ n ∧ n ≤ 9) : Fc E n_ref01_digit [I n] (S [dig n]) := by
  refine g.fn code_ref01_digit rfl ?_
  have hc : n = 0 ∨ n = 1 ∨ n = 2 ∨ n = 3 ∨ n = 4 ∨ n = 5 ∨ n = 6 ∨ n = 7 ∨ n = 8 ∨ n = 9 := by omega
  rcases hc with rfl | rfl | rfl | rfl | rfl | rfl | rfl | rfl | rfl | rfl
  all_goals repeat' ((conv => whnf); first
    | (refine Br.tt ?_)
    | (refine Br.ff ?_)
    | (refine Need.mk (by first | omega | (simp; done) | (simp; omega)) ?_)
    | (refine Wr.keep (by omega) ?_)
    | (refine Cmp.tt (by first | omega | decide) ?_)
    | (refine Cmp.ff (by first | omega | decide) ?_)
    | (refine Rem.pos (by omega) ?_)
    | (refine Quo.pos (by omega) ?_)
    | (refine PickV.now rfl ?_)
    | (refine Pick.now rfl ?_)
    | (refine PickW.now (by first | omega | decide) rfl ?_)
    | (refine Bounds.mk (by decide) ?_)
    | (refine Ret.mk rfl))

theorem r_wide : ∀ (k : Nat) (n : Int), k ≤ 100 → 0 ≤ n ∧ n ≤ 1000000 → Fc E n_ref01_wide [I n, I k] (S (wideL k n))
  | 0, n, _, h => by
    refine g.fn code_ref01_wide rfl ?_
    repeat' ((conv => whnf); first
      | (refine Br.tt ?_)
      | (refine Br.ff ?_)
      | (refine Need.mk (by first | omega | (simp; done) | (simp; omega)) ?_)
      | (refine Wr.keep (by omega) ?_)
      | (refine Cmp.tt (by first | omega | decide) ?_)
      | (refine Cmp.ff (by first | omega | decide) ?_)
      | (refine Rem.pos (by omega) ?_)
      | (refine Quo.pos (by omega) ?_)
      | (refine PickV.now rfl ?_)
      | (refine Pick.now rfl ?_)
      | (refine PickW.now (by first | omega | decide) rfl ?_)
      | (refine Ret.mk rfl))
  | k + 1, n, hk, h => by
    refine g.fn code_ref01_wide rfl ?_
    have hm := wideL_length k (n / 10)
    have ih := r_wide k (n / 10) (by omega) (by omega)
    rw [show (k : Int) = ((k + 1 : Nat) : Int) - 1 by omega] at ih
    repeat' ((conv => whnf); first
      | (refine Br.tt ?_)
      | (refine Br.ff ?_)
      | (refine Need.mk (by first | omega | (simp; done) | (simp; omega)) ?_)
      | (refine Wr.keep (by omega) ?_)
      | (refine Cmp.tt (by first | omega | decide) ?_)
      | (refine Cmp.ff (by first | omega | decide) ?_)
      | (refine Rem.pos (by omega) ?_)
      | (refine Quo.pos (by omega) ?_)
      | (refine PickV.now rfl ?_)
      | (refine Pick.now rfl ?_)
      | (refine PickW.now (by first | omega | decide) rfl ?_)
      | (refine CallI.of ih ?_)
      | (refine CallI.of (r_digit g _ (by omega)) ?_)
      | (refine Need.mk (by simp [hm, maxStr]; omega) ?_)
      | (refine Ret.mk rfl))

theorem s_PrintDate_ok {day y m d : Int} (h : IsDate day y m d) (h0 : 0 ≤ day ∧ day ≤ 99999) : Fc E n_calendar_PrintDate [I day] (.tup [S (dateL y m d), I 0]) := by
  refine g.fn code_calendar_PrintDate rfl ?_
  have hc := s_checkDay g day
  rw [rng_zero.2 h0] at hc
  have hy := h.hy
  have hm := h.hm
  have hd := h.hd
  have hM := lenM_le y m
  have e1 := year_digits ⟨(y - 2000).toNat, by omega⟩
  simp only [Int.toNat_of_nonneg (show 0 ≤ y - 2000 by omega), show 2000 + (y - 2000) = y by omega] at e1
  have hi := s_Itoa g y (by omega)
  rw [e1] at hi
  repeat' ((conv => whnf); first
    | (refine Br.tt ?_)
    | (refine Br.ff ?_)
    | (refine Need.mk (by first | omega | (simp; done) | (simp; omega)) ?_)
    | (refine Wr.keep (by omega) ?_)
    | (refine Cmp.tt (by first | omega | decide) ?_)
    | (refine Cmp.ff (by first | omega | decide) ?_)
    | (refine Rem.pos (by omega) ?_)
    | (refine Quo.pos (by omega) ?_)
    | (refine PickV.now rfl ?_)
    | (refine Pick.now rfl ?_)
    | (refine PickW.now (by first | omega | decide) rfl ?_)
    | (refine CallI.of hc ?_)
    | (refine CallI.of (s_date g h) ?_)
    | (refine CallI.of hi ?_)
    | (refine CallI.of (s_two g _ (by omega)) ?_)
    | (refine Need.mk (by simp [wideL_length, maxStr]; done) ?_)
    | (refine Ret.mk rfl))
theorem s_PrintDate_bad (day : Int) (h : rng day 0 99999 ≠ 0) : Fc E n_calendar_PrintDate [I day] (.tup [S [], I (rng day 0 99999)]) := by
  refine g.fn code_calendar_PrintDate rfl ?_
  repeat' ((conv => whnf); first
    | (refine Br.tt ?_)
    | (refine Br.ff ?_)
    | (refine Need.mk (by first | omega | (simp; done) | (simp; omega)) ?_)
    | (refine Wr.keep (by omega) ?_)
    | (refine Cmp.tt (by first | omega | decide) ?_)
    | (refine Cmp.ff (by first | omega | decide) ?_)
    | (refine Rem.pos (by omega) ?_)
    | (refine Quo.pos (by omega) ?_)
    | (refine PickV.now rfl ?_)
    | (refine Pick.now rfl ?_)
    | (refine PickW.now (by first | omega | decide) rfl ?_)
    | (refine CallI.of (s_checkDay g _) ?_)
    | (refine Ret.mk rfl))

theorem r_PrintDate {day y m d : Int} (h : IsDate day y m d) : Fc E n_ref01_PrintDate [I day] (S (dateL y m d)) := by
  refine g.fn code_ref01_PrintDate rfl ?_
  have hy := h.hy
  have hm := h.hm
  have hd := h.hd
  have hM := lenM_le y m
  have w4 := r_wide g 4 y (by omega) (by omega)
  have wm := r_wide g 2 m (by omega) (by omega)
  have wd := r_wide g 2 d (by omega) (by omega)
  repeat' ((conv => whnf); first
    | (refine Br.tt ?_)
    | (refine Br.ff ?_)
    | (refine Need.mk (by first | omega | (simp; done) | (simp; omega)) ?_)
    | (refine Wr.keep (by omega) ?_)
    | (refine Cmp.tt (by first | omega | decide) ?_)
    | (refine Cmp.ff (by first | omega | decide) ?_)
    | (refine Rem.pos (by omega) ?_)
    | (refine Quo.pos (by omega) ?_)
    | (refine PickV.now rfl ?_)
    | (refine Pick.now rfl ?_)
    | (refine PickW.now (by first | omega | decide) rfl ?_)
    | (refine CallI.of (r_Date g h) ?_)
    | (refine CallI.of w4 ?_)
    | (refine CallI.of wm ?_)
    | (refine CallI.of wd ?_)
    | (refine Need.mk (by simp [wideL_length, maxStr]; done) ?_)
    | (refine Ret.mk rfl))
end
end Go.Proofs.YtlboecjgelnabaaGreatDoor.Co

