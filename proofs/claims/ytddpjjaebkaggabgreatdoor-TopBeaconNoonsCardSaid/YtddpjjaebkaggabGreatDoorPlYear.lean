
/-
  Dates, the plain law: texts are in the order of the days; the same date 28 years later; the months of a year.
-/
import Derived.Test.YtddpjjaebkaggabGreatDoorPlTurn
namespace Go.Proofs.YtddpjjaebkaggabGreatDoor.Co
open Go Go.Evl
theorem dig_u {a : Int} (ha : 0 ≤ a ∧ a ≤ 9) : (dig a).toNat = 48 + a.toNat := by
  have h1 := dig_nat ha
  omega
theorem dig_lt {a b : Int} (ha : 0 ≤ a ∧ a ≤ 9) (hb : 0 ≤ b ∧ b ≤ 9) : (dig a < dig b) ↔ a < b := by
  have h1 := dig_u ha
  have h2 := dig_u hb
  rw [UInt8.lt_iff_toNat_lt]
  omega
theorem dig_eq {a b : Int} (ha : 0 ≤ a ∧ a ≤ 9) (hb : 0 ≤ b ∧ b ≤ 9) : (dig a = dig b) ↔ a = b := by
  have h1 := dig_u ha
  have h2 := dig_u hb
  rw [← UInt8.toNat_inj]
  omega
theorem less_dig {a b : Int} (ha : 0 ≤ a ∧ a ≤ 9) (hb : 0 ≤ b ∧ b ≤ 9) (s t : List UInt8) : strLess (dig a :: s) (dig b :: t) = true ↔ a < b ∨ (a = b ∧ strLess s t = true) := by
  simp only [strLess, Bool.or_eq_true, Bool.and_eq_true, decide_eq_true_eq, beq_iff_eq, dig_lt ha hb, dig_eq ha hb]
theorem less_same (c : UInt8) (s t : List UInt8) : strLess (c :: s) (c :: t) = true ↔ strLess s t = true := by
  have h : ¬ c < c := by rw [UInt8.lt_iff_toNat_lt]; omega
  simp [strLess, h]
theorem less_wide : ∀ (w : Nat) (a b : Int) (s t : List UInt8), 0 ≤ a ∧ a < 10 ^ w → 0 ≤ b ∧ b < 10 ^ w → (strLess (wideL w a ++ s) (wideL w b ++ t) = true ↔ a < b ∨ (a = b ∧ strLess s t = true))
  | 0, a, b, s, t, ha, hb => by
    have h1 : a = 0 := by omega
    have h2 : b = 0 := by omega
    subst h1 h2
    simp [wideL]
  | w + 1, a, b, s, t, ha, hb => by
    have hp : (10 : Int) ^ (w + 1) = 10 * 10 ^ w := by rw [Int.pow_succ, Int.mul_comm]
    rw [hp] at ha hb
    have ih := less_wide w (a / 10) (b / 10) (dig (a % 10) :: s) (dig (b % 10) :: t) (by omega) (by omega)
    simp only [wideL, List.append_assoc, List.singleton_append]
    rw [ih, less_dig (by omega) (by omega)]
    constructor
    · rintro (h | ⟨h1, h | ⟨h, h2⟩⟩)
      · exact .inl (by omega)
      · exact .inl (by omega)
      · exact .inr ⟨by omega, h2⟩
    · rintro (h | ⟨h, h2⟩)
      · by_cases e : a / 10 < b / 10
        · exact .inl e
        · exact .inr ⟨by omega, .inl (by omega)⟩
      · subst h; exact .inr ⟨rfl, .inr ⟨rfl, h2⟩⟩
theorem less_nil : strLess [] [] = false := rfl
theorem date_less {y m d y2 m2 d2 : Int} (hy : 0 ≤ y ∧ y < 10000) (hm : 0 ≤ m ∧ m < 100) (hd : 0 ≤ d ∧ d < 100) (hy2 : 0 ≤ y2 ∧ y2 < 10000) (hm2 : 0 ≤ m2 ∧ m2 < 100) (hd2 : 0 ≤ d2 ∧ d2 < 100) :
    strLess (dateL y m d) (dateL y2 m2 d2) = true ↔ y < y2 ∨ (y = y2 ∧ (m < m2 ∨ (m = m2 ∧ d < d2))) := by
  have e : ∀ y m d, dateL y m d = wideL 4 y ++ (45 :: (wideL 2 m ++ (45 :: (wideL 2 d ++ [])))) := fun y m d => by simp [dateL]
  rw [e, e, less_wide 4 _ _ _ _ hy hy2, less_same, less_wide 2 _ _ _ _ hm hm2, less_same, less_wide 2 _ _ _ _ hd hd2]
  simp [strLess]
theorem IsDate.lt {a y m d b y2 m2 d2 : Int} (h : IsDate a y m d) (h2 : IsDate b y2 m2 d2) : (y < y2 ∨ (y = y2 ∧ (m < m2 ∨ (m = m2 ∧ d < d2)))) ↔ a < b := by
  have key : ∀ {a y m d b y2 m2 d2 : Int}, IsDate a y m d → IsDate b y2 m2 d2 → (y < y2 ∨ (y = y2 ∧ (m < m2 ∨ (m = m2 ∧ d < d2)))) → a < b := by
    intro a y m d b y2 m2 d2 h h2 hc
    rcases hc with hc | ⟨rfl, hc | ⟨rfl, hc⟩⟩
    · have k1 := h.year
      have k2 := h2.year
      have k3 : daysY ((y - 2000).toNat + 1) ≤ daysY (y2 - 2000).toNat := daysY_mono (by have := h.hy; have := h2.hy; omega)
      simp only [daysY] at k3
      rw [show (2000 : Int) + ((y - 2000).toNat : Nat) = y by have := h.hy; omega] at k3
      omega
    · have k1 := h.e
      have k2 := h2.e
      have k3 : daysM y ((m - 1).toNat + 1) ≤ daysM y (m2 - 1).toNat := daysM_mono y (by have := h.hm; have := h2.hm; omega)
      simp only [daysM] at k3
      rw [show (((m - 1).toNat : Nat) : Int) + 1 = m by have := h.hm; omega] at k3
      have := h.hd
      have := h2.hd
      unfold dayN at k1 k2
      omega
    · have k1 := h.e
      have k2 := h2.e
      unfold dayN at k1 k2
      omega
  refine ⟨key h h2, fun hlt => ?_⟩
  by_cases e : y < y2 ∨ (y = y2 ∧ (m < m2 ∨ (m = m2 ∧ d < d2)))
  · exact e
  · exfalso
    by_cases e2 : y2 < y ∨ (y2 = y ∧ (m2 < m ∨ (m2 = m ∧ d2 < d)))
    · have := key h2 h e2; omega
    · have e3 : y = y2 := by omega
      have e4 : m = m2 := by omega
      have e5 : d = d2 := by omega
      subst e3 e4 e5
      have k1 := h.e
      have k2 := h2.e
      omega
theorem IsDate.small {a y m d : Int} (h : IsDate a y m d) : (0 ≤ y ∧ y < 10000) ∧ (0 ≤ m ∧ m < 100) ∧ 0 ≤ d ∧ d < 100 := by
  have h1 := h.hy
  have h2 := h.hm
  have h3 := h.hd
  have h4 := lenM_le y m
  omega
theorem texts_less {a y m d b y2 m2 d2 : Int} (h : IsDate a y m d) (h2 : IsDate b y2 m2 d2) : strLess (dateL y m d) (dateL y2 m2 d2) = decide (a < b) := by
  have k1 := h.small
  have k2 := h2.small
  have := (date_less k1.1 k1.2.1 k1.2.2 k2.1 k2.2.1 k2.2.2).trans (h.lt h2)
  by_cases e : a < b
  · rw [decide_eq_true e]; exact this.2 e
  · rw [decide_eq_false e]; exact Bool.eq_false_iff.2 fun hh => e (this.1 hh)
theorem texts_eq {a y m d b y2 m2 d2 : Int} (h : IsDate a y m d) (h2 : IsDate b y2 m2 d2) : dateL y m d = dateL y2 m2 d2 ↔ a = b := by
  constructor
  · intro e
    have k1 := texts_less h h2
    have k2 := texts_less h2 h
    have k3 := texts_less h h
    rw [e] at k2
    rw [e] at k1
    rw [e] at k3
    have e1 := k1.symm.trans k3
    have e2 := k2.symm.trans (k3.trans (by simp : decide (a < a) = false))
    simp only [decide_eq_decide, decide_eq_false_iff_not] at e1 e2
    omega
  · rintro rfl
    obtain ⟨rfl, rfl, rfl⟩ := h.uniq h2
    rfl
theorem lenM_28 (y m : Int) (hy : 2000 ≤ y ∧ y ≤ 2071) : lenM (y + 28) m = lenM y m := by
  have : leapB (y + 28) = leapB y := by unfold leapB; rw [decide_eq_decide]; omega
  unfold lenM
  rw [this]
theorem daysM_28 (y : Int) (hy : 2000 ≤ y ∧ y ≤ 2071) : ∀ n, daysM (y + 28) n = daysM y n
  | 0 => rfl
  | n + 1 => by simp only [daysM]; rw [daysM_28 y hy n, lenM_28 y _ hy]
theorem later {a y m d : Int} (h : IsDate a y m d) (hy : y ≤ 2071) : IsDate (a + 10227) (y + 28) m d := by
  have h0 := h.hy
  refine ⟨by omega, h.hm, by rw [lenM_28 y m (by omega)]; exact h.hd, ?_⟩
  have he := h.e
  unfold dayN at he ⊢
  rw [daysM_28 y (by omega)]
  have h1 := daysY_closed (y - 2000).toNat
  have h2 := daysY_closed (y + 28 - 2000).toNat
  omega
theorem later_chk {a y m d : Int} (h : IsDate a y m d) (hy : y ≤ 2071) : 0 ≤ a + 10227 ∧ a + 10227 ≤ 99999 := by
  have h1 := h.year
  have h2 := daysY_le (y - 2000).toNat
  have h3 := lenY_le y
  have h0 := h.hy
  omega
theorem daysY_273 : daysY 273 = 99712 := by decide +kernel
theorem chk_month (y m d : Int) (hy : 2000 ≤ y ∧ y ≤ 2272) (hm : 1 ≤ m ∧ m ≤ 12) (hd : 28 ≤ d ∧ d ≤ 31) : chkDate y m d = 0 ↔ d ≤ lenM y m := by
  constructor
  · intro h
    unfold chkDate at h
    split at h
    · cases h
    · split at h
      · cases h
      · omega
  · intro h
    have hd' : IsDate (dayN y m d) y m d := ⟨by omega, hm, ⟨by omega, h⟩, rfl⟩
    have h1 := hd'.year
    have h2 : daysY ((y - 2000).toNat + 1) ≤ daysY 273 := daysY_mono (by omega)
    rw [daysY_273] at h2
    simp only [daysY] at h2
    rw [show (2000 : Int) + ((y - 2000).toNat : Nat) = y by omega] at h2
    exact chkDate_of hd' (by omega)
theorem new_year (y : Int) (hy : 2000 ≤ y ∧ y ≤ 2273) : IsDate (daysY (y - 2000).toNat) y 1 1 := by
  refine ⟨hy, by omega, ⟨by omega, by have := lenM_le y 1; omega⟩, ?_⟩
  unfold dayN
  rw [show (1 - 1 : Int).toNat = 0 from rfl]
  simp [daysM]
theorem new_year_le (y : Int) (hy : 2000 ≤ y ∧ y ≤ 2273) : 0 ≤ daysY (y - 2000).toNat ∧ daysY (y - 2000).toNat ≤ 99999 := by
  have h1 := daysY_le (y - 2000).toNat
  have h2 : daysY (y - 2000).toNat ≤ daysY 273 := daysY_mono (by omega)
  rw [daysY_273] at h2
  omega
end Go.Proofs.YtddpjjaebkaggabGreatDoor.Co
