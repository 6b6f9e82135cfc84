
/-
  Years, months, days: what the program's functions and the reference's give.
-/
import Derived.Test.YtcephlgejkngiaaGreatDoorSpOne
namespace Go.Proofs.YtcephlgejkngiaaGreatDoor.Co
open Go Go.Evl
def leapB (y : Int) : Bool := decide (y % 4 = 0 ∧ (y % 100 ≠ 0 ∨ y % 400 = 0))
def lenM (y m : Int) : Int := if m = 2 then (if leapB y then 29 else 28) else if m = 4 ∨ m = 6 ∨ m = 9 ∨ m = 11 then 30 else 31
def lenY (y : Int) : Int := if leapB y then 366 else 365
def daysY : Nat → Int
  | 0 => 0
  | n + 1 => daysY n + lenY (2000 + n)
def daysM (y : Int) : Nat → Int
  | 0 => 0
  | n + 1 => daysM y n + lenM y (n + 1)
theorem lenY_le (y : Int) : 365 ≤ lenY y ∧ lenY y ≤ 366 := by unfold lenY; split <;> omega
theorem lenM_le (y m : Int) : 28 ≤ lenM y m ∧ lenM y m ≤ 31 := by unfold lenM; repeat' split; all_goals omega
theorem daysY_le : ∀ n : Nat, 365 * (n : Int) ≤ daysY n ∧ daysY n ≤ 366 * n
  | 0 => by simp [daysY]
  | n + 1 => by
    have := daysY_le n
    have := lenY_le (2000 + n)
    simp only [daysY]; omega
theorem daysM_le (y : Int) : ∀ n : Nat, 28 * (n : Int) ≤ daysM y n ∧ daysM y n ≤ 31 * n
  | 0 => by simp [daysM]
  | n + 1 => by
    have := daysM_le y n
    have := lenM_le y (n + 1)
    simp only [daysM]; omega
theorem daysM_12 (y : Int) : daysM y 12 = lenY y := by
  simp [daysM, lenM, lenY]
  split <;> rfl
def dayN (y m d : Int) : Int := d - 1 + daysY (y - 2000).toNat + daysM y (m - 1).toNat
section
variable {E : Oracle} (g : Good E)
include g
theorem s_weekday (day : Int) (h : 0 ≤ day ∧ day ≤ 1000000) : Fc E n_calendar_weekday [I day] (I ((day + 5) % 7)) := by
  refine g.fn code_calendar_weekday rfl ?_
  repeat' ((conv => whnf); first
  | refine Br.tt ?_ | refine Br.ff ?_ | refine Need.w ?_ | refine Wr.w ?_ | refine Cmp.t ?_ | refine Cmp.f ?_ | refine Rem.w ?_ | refine Quo.w ?_ | refine PickV.now rfl ?_ | refine Pick.now rfl ?_ | refine Chk.mk rfl ?_ | refine PickW.w rfl ?_
    | (refine Ret.mk rfl))
theorem r_Weekday (day : Int) (h : 0 ≤ day ∧ day ≤ 1000000) : Fc E n_ref01_Weekday [I day] (I ((day + 5) % 7)) := by
  refine g.fn code_ref01_Weekday rfl ?_
  repeat' ((conv => whnf); first
  | refine Br.tt ?_ | refine Br.ff ?_ | refine Need.w ?_ | refine Wr.w ?_ | refine Cmp.t ?_ | refine Cmp.f ?_ | refine Rem.w ?_ | refine Quo.w ?_ | refine PickV.now rfl ?_ | refine Pick.now rfl ?_ | refine Chk.mk rfl ?_ | refine PickW.w rfl ?_
    | (refine Ret.mk rfl))
end
end Go.Proofs.YtcephlgejkngiaaGreatDoor.Co
