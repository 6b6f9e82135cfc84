
/-
  Dates, the plain law: the next date, and Zeller's congruence.
-/
import Derived.Test.YtddpjjaebkaggabGreatDoorSpTxt
namespace Go.Proofs.YtddpjjaebkaggabGreatDoor.Co
open Go Go.Evl
theorem chkDate_of {day y m d : Int} (h : IsDate day y m d) (h1 : day ≤ 99999) : chkDate y m d = 0 := by
  have k1 := (@rng_zero y 2000 2273).2 h.hy
  have k2 := (@rng_zero m 1 12).2 h.hm
  have k3 := (@rng_zero d 1 31).2 ⟨h.hd.1, by have := lenM_le y m; have := h.hd.2; omega⟩
  unfold chkDate
  rw [if_neg (by simp [k1, k2, k3]), if_neg (by have := h.hd.2; have := h.e; omega)]
theorem dig_nat {n : Int} (h : 0 ≤ n ∧ n ≤ 9) : ((dig n).toNat : Int) = 48 + n := by
  unfold dig
  have : (UInt8.ofNat (48 + n.toNat)).toNat = 48 + n.toNat := by
    rw [UInt8.toNat_ofNat']
    omega
  rw [this]; omega
theorem dateL_eq (y m d : Int) : dateL y m d = [dig (y / 10 / 10 / 10 % 10), dig (y / 10 / 10 % 10), dig (y / 10 % 10), dig (y % 10), 45, dig (m / 10 % 10), dig (m % 10), 45, dig (d / 10 % 10), dig (d % 10)] := by
  simp [dateL, wideL]
theorem dateL_parse {day y m d n e : Int} (h : IsDate day y m d) (h1 : day ≤ 99999) (hp : ParsedD (dateL y m d) n e) : n = day ∧ e = 0 := by
  have hl := lenM_le y m
  have hy := h.hy
  have hm := h.hm
  have hd := h.hd
  rw [dateL_eq] at hp
  have q1 := dig_nat (show 0 ≤ y / 10 / 10 / 10 % 10 ∧ y / 10 / 10 / 10 % 10 ≤ 9 by omega)
  have q2 := dig_nat (show 0 ≤ y / 10 / 10 % 10 ∧ y / 10 / 10 % 10 ≤ 9 by omega)
  have q3 := dig_nat (show 0 ≤ y / 10 % 10 ∧ y / 10 % 10 ≤ 9 by omega)
  have q4 := dig_nat (show 0 ≤ y % 10 ∧ y % 10 ≤ 9 by omega)
  have q5 := dig_nat (show 0 ≤ m / 10 % 10 ∧ m / 10 % 10 ≤ 9 by omega)
  have q6 := dig_nat (show 0 ≤ m % 10 ∧ m % 10 ≤ 9 by omega)
  have q7 := dig_nat (show 0 ≤ d / 10 % 10 ∧ d / 10 % 10 ≤ 9 by omega)
  have q8 := dig_nat (show 0 ≤ d % 10 ∧ d % 10 ≤ 9 by omega)
  have hf : formD [dig (y / 10 / 10 / 10 % 10), dig (y / 10 / 10 % 10), dig (y / 10 % 10), dig (y % 10), 45, dig (m / 10 % 10), dig (m % 10), 45, dig (d / 10 % 10), dig (d % 10)] := by
    refine ⟨?_, ?_, ?_, ?_, rfl, ?_, ?_, rfl, ?_, ?_⟩ <;> omega
  obtain ⟨g1, g2⟩ := hp.good hf
  simp only [dateOf] at g1 g2
  have ey : num4 (dig (y / 10 / 10 / 10 % 10)) (dig (y / 10 / 10 % 10)) (dig (y / 10 % 10)) (dig (y % 10)) = y := by
    simp only [num4, q1, q2, q3, q4]; omega
  have em : num2 (dig (m / 10 % 10)) (dig (m % 10)) = m := by
    simp only [num2, q5, q6]; omega
  have ed : num2 (dig (d / 10 % 10)) (dig (d % 10)) = d := by
    simp only [num2, q7, q8]; omega
  rw [ey, em, ed] at g1 g2
  rw [chkDate_of h h1] at g1
  rw [if_pos g1, h.e] at g2
  exact ⟨g2, g1⟩
theorem daysY_next (y : Int) (h : 2000 ≤ y) : daysY (y + 1 - 2000).toNat = daysY (y - 2000).toNat + lenY y := by
  have e : (y + 1 - 2000).toNat = (y - 2000).toNat + 1 := by omega
  rw [e]
  show daysY (y - 2000).toNat + lenY (2000 + ((y - 2000).toNat : Int)) = _
  rw [show 2000 + ((y - 2000).toNat : Int) = y by omega]
theorem daysM_next (y m : Int) (h : 1 ≤ m) : daysM y m.toNat = daysM y (m - 1).toNat + lenM y m := by
  have e : m.toNat = (m - 1).toNat + 1 := by omega
  rw [e]
  show daysM y (m - 1).toNat + lenM y (((m - 1).toNat : Int) + 1) = _
  rw [show ((m - 1).toNat : Int) + 1 = m by omega]
theorem next_day {day y m d : Int} (h : IsDate day y m d) (hl : d < lenM y m) : IsDate (day + 1) y m (d + 1) := by
  have he := h.e
  unfold dayN at he
  exact ⟨h.hy, h.hm, ⟨by have := h.hd; omega, by omega⟩, by unfold dayN; omega⟩
theorem next_month {day y m d : Int} (h : IsDate day y m d) (hl : d = lenM y m) (hm : m < 12) : IsDate (day + 1) y (m + 1) 1 := by
  have he := h.e
  have hn := daysM_next y m h.hm.1
  have hle := lenM_le y (m + 1)
  unfold dayN at he
  refine ⟨h.hy, by have := h.hm; omega, ⟨by omega, by omega⟩, ?_⟩
  unfold dayN
  rw [show (m + 1 - 1).toNat = m.toNat by omega, hn]
  omega
theorem next_year {day y d : Int} (h : IsDate day y 12 d) (hl : d = lenM y 12) (h1 : day < 99999) : IsDate (day + 1) (y + 1) 1 1 := by
  have he := h.e
  have hn := daysY_next y h.hy.1
  have h12 := daysM_12 y
  have hm := daysM_next y 12 (by decide)
  have hle := lenM_le (y + 1) 1
  have h31 : lenM y 12 = 31 := by simp [lenM]
  unfold dayN at he
  have hy : y + 1 ≤ 2273 := by
    rcases Int.lt_or_le y 2273 with hh | hh
    · omega
    · exfalso
      have : y = 2273 := by have := h.hy; omega
      subst this
      have e1 : daysY (2273 - 2000 : Int).toNat = 99712 := by decide +kernel
      have e2 : daysM 2273 (12 - 1 : Int).toNat = 334 := by decide +kernel
      omega
  have e0 : daysM (y + 1) (1 - 1 : Int).toNat = 0 := rfl
  have ha : daysM y (12 : Int).toNat = lenY y := h12
  refine ⟨by have := h.hy; omega, by omega, ⟨by omega, by omega⟩, ?_⟩
  unfold dayN
  rw [e0, hn]
  omega
theorem last_date : IsDate 99999 2273 10 15 := ⟨by omega, by omega, by decide +kernel, by decide +kernel⟩
theorem daysY_closed : ∀ n : Nat, daysY n = 365 * (n : Int) + ((1999 + (n : Int)) / 4 - (1999 + (n : Int)) / 100 + (1999 + (n : Int)) / 400) - 484
  | 0 => by decide
  | n + 1 => by
    show daysY n + lenY (2000 + (n : Int)) = _
    rw [daysY_closed n]
    unfold lenY leapB
    split
    · rename_i h
      simp only [decide_eq_true_eq] at h
      omega
    · rename_i h
      simp only [decide_eq_true_eq] at h
      omega
theorem leap_step (y : Int) (_ : 2000 ≤ y) : y / 4 - y / 100 + y / 400 = (y - 1) / 4 - (y - 1) / 100 + (y - 1) / 400 + if leapB y then 1 else 0 := by
  unfold leapB
  split
  · rename_i h
    simp only [decide_eq_true_eq] at h
    omega
  · rename_i h
    simp only [decide_eq_true_eq] at h
    omega
def cumM : Nat → Int
  | 0 => 0 | 1 => 31 | 2 => 59 | 3 => 90 | 4 => 120 | 5 => 151 | 6 => 181 | 7 => 212 | 8 => 243 | 9 => 273 | 10 => 304 | 11 => 334 | _ => 0
theorem daysM_cum (y : Int) : ∀ n : Nat, n < 12 → daysM y n = cumM n + if 2 ≤ n ∧ leapB y then 1 else 0 := by
  intro n hn
  have hl : lenM y 2 = 28 + if leapB y then 1 else 0 := by
    show (if (2 : Int) = 2 then (if leapB y then 29 else 28) else _) = _
    rw [if_pos rfl]; split <;> rfl
  match n, hn with
  | 0, _ => rfl
  | 1, _ => rfl
  | 2, _ => show 0 + 31 + lenM y 2 = _; rw [hl]; simp [cumM]; split <;> rfl
  | 3, _ => show 0 + 31 + lenM y 2 + 31 = _; rw [hl]; simp [cumM]; split <;> rfl
  | 4, _ => show 0 + 31 + lenM y 2 + 31 + 30 = _; rw [hl]; simp [cumM]; split <;> rfl
  | 5, _ => show 0 + 31 + lenM y 2 + 31 + 30 + 31 = _; rw [hl]; simp [cumM]; split <;> rfl
  | 6, _ => show 0 + 31 + lenM y 2 + 31 + 30 + 31 + 30 = _; rw [hl]; simp [cumM]; split <;> rfl
  | 7, _ => show 0 + 31 + lenM y 2 + 31 + 30 + 31 + 30 + 31 = _; rw [hl]; simp [cumM]; split <;> rfl
  | 8, _ => show 0 + 31 + lenM y 2 + 31 + 30 + 31 + 30 + 31 + 31 = _; rw [hl]; simp [cumM]; split <;> rfl
  | 9, _ => show 0 + 31 + lenM y 2 + 31 + 30 + 31 + 30 + 31 + 31 + 30 = _; rw [hl]; simp [cumM]; split <;> rfl
  | 10, _ => show 0 + 31 + lenM y 2 + 31 + 30 + 31 + 30 + 31 + 31 + 30 + 31 = _; rw [hl]; simp [cumM]; split <;> rfl
  | 11, _ => show 0 + 31 + lenM y 2 + 31 + 30 + 31 + 30 + 31 + 31 + 30 + 31 + 30 = _; rw [hl]; simp [cumM]; split <;> rfl
theorem zeller_hi {day y m d : Int} (h : IsDate day y m d) (hm : ¬ m < 3) : (d + 13 * (m + 1) / 5 + y + y / 4 - y / 100 + y / 400 + 5) % 7 = (day + 5) % 7 := by
  have he := h.e
  have hy := h.hy
  have hm2 := h.hm
  have h1 := daysY_closed (y - 2000).toNat
  have h2 := daysM_cum y (m - 1).toNat (by omega)
  have h3 := leap_step y hy.1
  unfold dayN at he
  rw [show ((y - 2000).toNat : Int) = y - 2000 by omega, show 1999 + (y - 2000) = y - 1 by omega] at h1
  have hm3 : m = 3 ∨ m = 4 ∨ m = 5 ∨ m = 6 ∨ m = 7 ∨ m = 8 ∨ m = 9 ∨ m = 10 ∨ m = 11 ∨ m = 12 := by omega
  have hlp : (if 2 ≤ (m - 1).toNat ∧ leapB y = true then (1 : Int) else 0) = if leapB y then 1 else 0 := by
    cases leapB y
    · simp
    · simp; omega
  rw [hlp] at h2
  generalize (if leapB y then (1 : Int) else 0) = q at *
  generalize daysY (y - 2000).toNat = a at *
  generalize daysM y (m - 1).toNat = b at *
  rcases hm3 with rfl | rfl | rfl | rfl | rfl | rfl | rfl | rfl | rfl | rfl <;> (simp [cumM] at h2; omega)
theorem zeller_lo {day y m d : Int} (h : IsDate day y m d) (hm : m < 3) : (d + 13 * (m + 12 + 1) / 5 + (y - 1) + (y - 1) / 4 - (y - 1) / 100 + (y - 1) / 400 + 5) % 7 = (day + 5) % 7 := by
  have he := h.e
  have hy := h.hy
  have hm2 := h.hm
  have h1 := daysY_closed (y - 2000).toNat
  have h2 := daysM_cum y (m - 1).toNat (by omega)
  unfold dayN at he
  rw [show ((y - 2000).toNat : Int) = y - 2000 by omega, show 1999 + (y - 2000) = y - 1 by omega] at h1
  have hm3 : m = 1 ∨ m = 2 := by omega
  have hlp : (if 2 ≤ (m - 1).toNat ∧ leapB y = true then (1 : Int) else 0) = 0 := if_neg (by omega)
  rw [hlp] at h2
  generalize daysY (y - 2000).toNat = a at *
  generalize daysM y (m - 1).toNat = b at *
  rcases hm3 with rfl | rfl <;> (simp [cumM] at h2; omega)
end Go.Proofs.YtddpjjaebkaggabGreatDoor.Co
