
/-
  Years, months, days: what the program's functions and the reference's give.
-/
import Derived.Test.YtddpjjaebkaggabGreatDoorSpOne
namespace Go.Proofs.YtddpjjaebkaggabGreatDoor.Co
open Go Go.Evl
def leapB (y : Int) : Bool := decide (y % 4 = 0 ∧ (y % 100 ≠ 0 ∨ y % 400 = 0))
def lenM (y m : Int) : Int := if m = 2 then (if leapB y then 29 else 28) else if m = 4 ∨ m = 6 ∨ m = 9 ∨ m = 11 then 30 else 31
def lenY (y : Int) : Int := if leapB y then 366 else 365
def daysY : Nat → Int
  | 0 => 0
  | n + 1 => daysY n + lenY (2000 + n)
def daysM (y : Int) : Nat → Int
  | 0 => 0
  | n + 1 => daysM y n + lenM y (n + 1)
theorem lenY_le (y : Int) : 365 ≤ lenY y ∧ lenY y ≤ 366 := by unfold lenY; split <;> omega
theorem lenM_le (y m : Int) : 28 ≤ lenM y m ∧ lenM y m ≤ 31 := by unfold lenM; repeat' split; all_goals omega
theorem daysY_le : ∀ n : Nat, 365 * (n : Int) ≤ daysY n ∧ daysY n ≤ 366 * n
  | 0 => by simp [daysY]
  | n + 1 => by
    have := daysY_le n
    have := lenY_le (2000 + n)
    simp only [daysY]; omega
theorem daysM_le (y : Int) : ∀ n : Nat, 28 * (n : Int) ≤ daysM y n ∧ daysM y n ≤ 31 * n
  | 0 => by simp [daysM]
  | n + 1 => by
    have := daysM_le y n
    have := lenM_le y (n + 1)
    simp only [daysM]; omega
theorem daysM_12 (y : Int) : daysM y 12 = lenY y := by
  simp [daysM, lenM, lenY]
  split <;> rfl
def dayN (y m d : Int) : Int := d - 1 + daysY (y - 2000).toNat + daysM y (m - 1).toNat
section
variable {E : Oracle} (g : Good E)
include g
theorem s_leap (y : Int) (h : 0 ≤ y ∧ y ≤ 9223372036854775807) : Fc E n_calendar_leap [I y] (B (leapB y)) := by
  refine g.fn code_calendar_leap rfl ?_
  repeat' ((conv => whnf); first
  | refine Br.tt ?_
  | refine Br.ff ?_
  | refine Need.w ?_
  | refine Wr.w ?_
  | refine Cmp.t ?_
  | refine Cmp.f ?_
  | refine Rem.w ?_
  | refine Quo.w ?_
  | refine PickV.now rfl ?_
  | refine Pick.now rfl ?_
  | refine Chk.mk rfl ?_
  | refine PickW.w rfl ?_
    | (refine Cmp.mk (fun h => ?_) (fun h => ?_))
    | (refine Rem.any (by omega) (fun r hr he => ?_))
    | (refine Br.mk (fun h => ?_) (fun h => ?_))
    | (refine Ret.mk ?_))
  all_goals (simp only [leapB, V.d.injEq, D.bool.injEq]; rw [eq_comm]; simp; omega)
theorem s_span (y : Int) (h : 0 ≤ y ∧ y ≤ 9223372036854775807) : Fc E n_calendar_span [I y] (I (lenY y)) := by
  refine g.fn code_calendar_span rfl ?_
  have hs := s_leap g y h
  unfold lenY
  generalize leapB y = b at hs ⊢
  cases b
  all_goals repeat' ((conv => whnf); first
  | refine Br.tt ?_
  | refine Br.ff ?_
  | refine Need.w ?_
  | refine Wr.w ?_
  | refine Cmp.t ?_
  | refine Cmp.f ?_
  | refine Rem.w ?_
  | refine Quo.w ?_
  | refine PickV.now rfl ?_
  | refine Pick.now rfl ?_
  | refine Chk.mk rfl ?_
  | refine PickW.w rfl ?_
    | (refine CallI.of hs ?_)
    | (refine Ret.mk rfl))
theorem s_length (y m : Int) (h : 0 ≤ y ∧ y ≤ 9223372036854775807) (hm : 1 ≤ m ∧ m ≤ 12) : Fc E n_calendar_length [I y, I m] (I (lenM y m)) := by
  refine g.fn code_calendar_length rfl ?_
  have hs := s_leap g y h
  have hc : m = 1 ∨ m = 2 ∨ m = 3 ∨ m = 4 ∨ m = 5 ∨ m = 6 ∨ m = 7 ∨ m = 8 ∨ m = 9 ∨ m = 10 ∨ m = 11 ∨ m = 12 := by omega
  unfold lenM
  generalize leapB y = b at hs ⊢
  cases b
  all_goals rcases hc with rfl | rfl | rfl | rfl | rfl | rfl | rfl | rfl | rfl | rfl | rfl | rfl
  all_goals repeat' ((conv => whnf); first
  | refine Br.tt ?_
  | refine Br.ff ?_
  | refine Need.w ?_
  | refine Wr.w ?_
  | refine Cmp.t ?_
  | refine Cmp.f ?_
  | refine Rem.w ?_
  | refine Quo.w ?_
  | refine PickV.now rfl ?_
  | refine Pick.now rfl ?_
  | refine Chk.mk rfl ?_
  | refine PickW.w rfl ?_
    | (refine CallI.of hs ?_)
    | (refine Ret.mk rfl))
theorem s_number (y m d : Int) (hy : 2000 ≤ y ∧ y ≤ 3000) (hm : 1 ≤ m ∧ m ≤ 12) (hd : 0 ≤ d ∧ d ≤ 100) : Fc E n_calendar_number [I y, I m, I d] (I (dayN y m d)) := by
  refine g.fn code_calendar_number rfl ?_
  repeat' ((conv => whnf); first
  | refine Br.tt ?_
  | refine Br.ff ?_
  | refine Need.w ?_
  | refine Wr.w ?_
  | refine Cmp.t ?_
  | refine Cmp.f ?_
  | refine Rem.w ?_
  | refine Quo.w ?_
  | refine PickV.now rfl ?_
  | refine Pick.now rfl ?_
  | refine Chk.mk rfl ?_
  | refine PickW.w rfl ?_)
  refine LoopW.to (LoopW.up g (fun k => [(0, I y), (1, I m), (7, I (d - 1 + daysY k)), (13, I (y - 2000)), (14, I k)]) (fun _ => []) (y - 2000).toNat (fun k hk ih => ?_) 0 (Nat.zero_le _)) (by simp [daysY]) rfl
  have h1 := daysY_le k
  by_cases hlt : k < (y - 2000).toNat
  · have h2 := lenY_le (2000 + k)
    repeat' ((conv => whnf); first
    | refine Br.tt ?_
    | refine Br.ff ?_
    | refine Need.w ?_
    | refine Wr.w ?_
    | refine Cmp.t ?_
    | refine Cmp.f ?_
    | refine Rem.w ?_
    | refine Quo.w ?_
    | refine PickV.now rfl ?_
    | refine Pick.now rfl ?_
    | refine Chk.mk rfl ?_
    | refine PickW.w rfl ?_
      | (refine CallI.of (s_span g _ (by omega)) ?_)
      | (refine LoopW.to (ih hlt) ?_ rfl))
    simp [daysY]; omega
  · have hk : k = (y - 2000).toNat := by omega
    have h1' := daysY_le (y - 2000).toNat
    repeat' ((conv => whnf); first
    | refine Br.tt ?_
    | refine Br.ff ?_
    | refine Need.w ?_
    | refine Wr.w ?_
    | refine Cmp.t ?_
    | refine Cmp.f ?_
    | refine Rem.w ?_
    | refine Quo.w ?_
    | refine PickV.now rfl ?_
    | refine Pick.now rfl ?_
    | refine Chk.mk rfl ?_
    | refine PickW.w rfl ?_)
    refine LoopW.to (LoopW.up g (fun j => [(0, I y), (1, I m), (7, I (d - 1 + daysY (y - 2000).toNat + daysM y j)), (9, I (j + 1))]) (fun _ => []) (m - 1).toNat (fun j hj ih' => ?_) 0 (Nat.zero_le _)) (by simp [daysM, hk]) rfl
    have h3 := daysM_le y j
    by_cases hlt' : j < (m - 1).toNat
    · have h2 := lenM_le y (j + 1)
      repeat' ((conv => whnf); first
      | refine Br.tt ?_
      | refine Br.ff ?_
      | refine Need.w ?_
      | refine Wr.w ?_
      | refine Cmp.t ?_
      | refine Cmp.f ?_
      | refine Rem.w ?_
      | refine Quo.w ?_
      | refine PickV.now rfl ?_
      | refine Pick.now rfl ?_
      | refine Chk.mk rfl ?_
      | refine PickW.w rfl ?_
        | (refine CallI.of (s_length g _ _ (by omega) (by omega)) ?_)
        | (refine LoopW.to (ih' hlt') ?_ rfl))
      simp [daysM]; omega
    · have hj : j = (m - 1).toNat := by omega
      repeat' ((conv => whnf); first
      | refine Br.tt ?_
      | refine Br.ff ?_
      | refine Need.w ?_
      | refine Wr.w ?_
      | refine Cmp.t ?_
      | refine Cmp.f ?_
      | refine Rem.w ?_
      | refine Quo.w ?_
      | refine PickV.now rfl ?_
      | refine Pick.now rfl ?_
      | refine Chk.mk rfl ?_
      | refine PickW.w rfl ?_
        | (refine Ret.mk ?_))
      simp [dayN, hj]
theorem s_weekday (day : Int) (h : 0 ≤ day ∧ day ≤ 1000000) : Fc E n_calendar_weekday [I day] (I ((day + 5) % 7)) := by
  refine g.fn code_calendar_weekday rfl ?_
  repeat' ((conv => whnf); first
  | refine Br.tt ?_
  | refine Br.ff ?_
  | refine Need.w ?_
  | refine Wr.w ?_
  | refine Cmp.t ?_
  | refine Cmp.f ?_
  | refine Rem.w ?_
  | refine Quo.w ?_
  | refine PickV.now rfl ?_
  | refine Pick.now rfl ?_
  | refine Chk.mk rfl ?_
  | refine PickW.w rfl ?_
    | (refine Ret.mk rfl))
end
end Go.Proofs.YtddpjjaebkaggabGreatDoor.Co
