
/-
  Canonical periods cover the days: the plain law.
-/
import Derived.Test.YtddpjjaebkaggabGreatDoorSpJoin
import Derived.Test.YtddpjjaebkaggabGreatDoorSpPes
import Derived.Test.YtddpjjaebkaggabGreatDoorSpTwo
namespace Go.Proofs.YtddpjjaebkaggabGreatDoor.Co
open Go Go.Evl
theorem bit_add : ∀ a : Fin 128, ∀ p w : Fin 7, a.val < 2 ^ p.val → inM (((a.val : Nat) : Int) + 2 ^ p.val) w.val = (inM ((a.val : Nat) : Int) w.val || decide (w.val = p.val)) := by decide +kernel
theorem bit_zero : ∀ w : Fin 7, inM 0 w.val = false := by decide +kernel
section
variable {l : List Int} (hz : chkDays l = 0)
include hz
theorem mask_bit (w : Int) (b : Nat) (hb : b < 7) : ∀ k, k ≤ l.length → (inM (maskN l w k) b = true ↔ ∃ j, j < k ∧ wkD (l.getD j 0) = w ∧ (l.getD j 0 + 5) % 7 = b)
  | 0, _ => by
    have := bit_zero ⟨b, hb⟩
    simp only [maskN]
    rw [this]
    simp
  | k + 1, hk => by
    have ih := mask_bit w b hb k (by omega)
    have hd := day_range hz (show k < l.length by omega)
    simp only [maskN]
    by_cases e : wkD (l.getD k 0) = w
    · rw [if_pos e]
      have hlt := mask_lt hz w (l.getD k 0) ⟨e, hd.1⟩ k (by omega) (fun i hi => day_lt hz hi (by omega))
      have hbd := mask_bound hz w k (by omega)
      have hp : ((l.getD k 0 + 5) % 7).toNat < 7 := by omega
      have h1 := bit_add ⟨(maskN l w k).toNat, by omega⟩ ⟨_, hp⟩ ⟨b, hb⟩ (by
        have : ((maskN l w k).toNat : Int) < 2 ^ ((l.getD k 0 + 5) % 7).toNat := by omega
        exact_mod_cast this)
      simp only [show (((maskN l w k).toNat : Nat) : Int) = maskN l w k by omega] at h1
      rw [h1, Bool.or_eq_true, ih, decide_eq_true_eq]
      constructor
      · rintro (⟨j, h2, h3, h4⟩ | h2)
        · exact ⟨j, by omega, h3, h4⟩
        · exact ⟨k, by omega, e, by omega⟩
      · rintro ⟨j, h2, h3, h4⟩
        by_cases ej : j = k
        · subst ej; exact .inr (by omega)
        · exact .inl ⟨j, by omega, h3, h4⟩
    · rw [if_neg e, Int.add_zero, ih]
      constructor
      · rintro ⟨j, h2, h3⟩; exact ⟨j, by omega, h3⟩
      · rintro ⟨j, h2, h3, h4⟩
        by_cases ej : j = k
        · subst ej; exact absurd h3 e
        · exact ⟨j, by omega, h3, h4⟩
omit hz in
structure Open (l : List Int) (i k : Nat) (p : Int × Int × Int) (n : Int) : Prop where
  le : i ≤ k
  lt : k < l.length
  f : p.1 = l.getD i 0
  t : p.2.1 = l.getD k 0
  first : i = 0 ∨ wkD (l.getD (i - 1) 0) ≠ wkD (l.getD i 0)
  mask : ∀ j, i ≤ j → j ≤ k → maskW l (wkD (l.getD j 0)) = p.2.2
  step : ∀ j, i ≤ j → j < k → wkD (l.getD (j + 1) 0) = wkD (l.getD j 0) ∨ wkD (l.getD (j + 1) 0) = wkD (l.getD j 0) + 1
  weeks : n = wkD (l.getD k 0) - wkD (l.getD i 0) + 1 ∧ n ≤ 57
theorem wk_mono {i j : Nat} (hij : i ≤ j) (hj : j < l.length) : wkD (l.getD i 0) ≤ wkD (l.getD j 0) := by
  have e1 := wkD_def (l.getD i 0)
  have e2 := wkD_def (l.getD j 0)
  by_cases e : i = j
  · subst e; omega
  · have := day_lt hz (show i < j by omega) hj; omega
omit hz in
theorem open_week {i k : Nat} {p : Int × Int × Int} {n : Int} (h : Open l i k p n) (w : Int) : ∀ j, i ≤ j → j ≤ k → wkD (l.getD i 0) ≤ w → w ≤ wkD (l.getD j 0) → ∃ r, i ≤ r ∧ r ≤ k ∧ wkD (l.getD r 0) = w := by
  intro j
  induction j with
  | zero =>
    intro h1 h2 h3 h4
    obtain rfl : i = 0 := by omega
    exact ⟨0, Nat.le_refl _, h2, by omega⟩
  | succ j ih =>
    intro h1 h2 h3 h4
    by_cases e : i = j + 1
    · subst e; exact ⟨j + 1, Nat.le_refl _, h2, by omega⟩
    · have hs := h.step j (by omega) (by omega)
      by_cases e2 : w = wkD (l.getD (j + 1) 0)
      · exact ⟨j + 1, h1, h2, e2.symm⟩
      · exact ih (by omega) (by omega) h3 (by omega)
omit hz in
theorem seg_mem {i k : Nat} (hik : i ≤ k) (hk : k < l.length) (x : Int) : x ∈ (l.drop i).take (k + 1 - i) ↔ ∃ j, i ≤ j ∧ j ≤ k ∧ l.getD j 0 = x := by
  rw [List.mem_iff_getElem]
  constructor
  · rintro ⟨r, hr, e⟩
    simp only [List.length_take, List.length_drop] at hr
    rw [List.getElem_take, List.getElem_drop] at e
    exact ⟨i + r, by omega, by omega, by rw [List.getD, List.getElem?_eq_getElem (by omega)]; exact e⟩
  · rintro ⟨j, h1, h2, e⟩
    refine ⟨j - i, by simp only [List.length_take, List.length_drop]; omega, ?_⟩
    rw [List.getElem_take, List.getElem_drop]
    rw [List.getD, List.getElem?_eq_getElem (by omega)] at e
    simpa [show i + (j - i) = j by omega] using e
theorem seg_strict (i n : Nat) : ((l.drop i).take n).Pairwise (· < ·) := by
  refine List.Pairwise.sublist (List.Sublist.trans (List.take_sublist _ _) (List.drop_sublist _ _)) ?_
  rw [List.pairwise_iff_getElem]
  intro a b ha hb hab
  have := day_lt hz hab hb
  rw [List.getD, List.getD, List.getElem?_eq_getElem ha, List.getElem?_eq_getElem hb] at this
  exact this
omit hz in
theorem daysP_spec (f d : Int) : ∀ n : Nat, (daysP f d n).Pairwise (· < ·) ∧ ∀ x, x ∈ daysP f d n ↔ (f ≤ x ∧ x < f + n) ∧ inM d ((x + 5) % 7) = true
  | 0 => ⟨by simp [daysP], fun x => by simp [daysP]; intro h1 h2; omega⟩
  | n + 1 => by
    obtain ⟨h1, h2⟩ := daysP_spec f d n
    have hs : daysP f d (n + 1) = daysP f d n ++ if inM d ((f + n + 5) % 7) then [f + (n : Int)] else [] := rfl
    rw [hs]
    refine ⟨List.pairwise_append.2 ⟨h1, by split <;> simp, fun x hx y hy => ?_⟩, fun x => ?_⟩
    · have := (h2 x).1 hx
      split at hy
      · rw [List.mem_singleton] at hy; omega
      · simp at hy
    · rw [List.mem_append, h2]
      by_cases hp : inM d ((f + n + 5) % 7) = true
      · rw [if_pos hp, List.mem_singleton]
        constructor
        · rintro (h | h)
          · exact ⟨by omega, h.2⟩
          · subst h; exact ⟨by omega, hp⟩
        · rintro ⟨h3, h4⟩
          by_cases e : x = f + n
          · exact .inr e
          · exact .inl ⟨by omega, h4⟩
      · rw [if_neg hp]
        constructor
        · rintro (h | h)
          · exact ⟨by omega, h.2⟩
          · simp at h
        · rintro ⟨h3, h4⟩
          by_cases e : x = f + n
          · subst e; exact absurd h4 hp
          · exact .inl ⟨by omega, h4⟩
theorem open_days {i k : Nat} {p : Int × Int × Int} {n : Int} (h : Open l i k p n) : daysP p.1 p.2.2 (p.2.1 - p.1 + 1).toNat = (l.drop i).take (k + 1 - i) := by
  obtain ⟨h1, h2⟩ := daysP_spec p.1 p.2.2 (p.2.1 - p.1 + 1).toNat
  refine strict_ext h1 (seg_strict hz i _) fun x => ?_
  rw [h2, seg_mem h.le h.lt]
  have hle : l.getD i 0 ≤ l.getD k 0 := by
    by_cases e : i = k
    · subst e; exact Int.le_refl _
    · have := day_lt hz (show i < k by have := h.le; omega) h.lt; omega
  have hi0 := day_range hz (show i < l.length by have := h.le; have := h.lt; omega)
  have hk0 := day_range hz h.lt
  rw [h.f, h.t]
  constructor
  · rintro ⟨h3, h4⟩
    have e1 := wkD_def (l.getD i 0)
    have e2 := wkD_def (l.getD k 0)
    have e3 := wkD_def x
    obtain ⟨r, h5, h6, h7⟩ := open_week h (wkD x) k h.le (Nat.le_refl _) (by omega) (by omega)
    have hm := h.mask r h5 h6
    rw [← hm, h7] at h4
    have hb : ((x + 5) % 7).toNat < 7 := by omega
    have hbe : (((x + 5) % 7).toNat : Int) = (x + 5) % 7 := by omega
    rw [← hbe] at h4
    obtain ⟨j, h8, h9, h10⟩ := (mask_bit hz (wkD x) _ hb l.length (Nat.le_refl _)).1 h4
    have e4 := wkD_def (l.getD j 0)
    have hx : l.getD j 0 = x := by omega
    refine ⟨j, ?_, ?_, hx⟩
    · rcases Nat.lt_or_ge j i with hlt | hge
      · have := day_lt hz hlt (by have := h.le; have := h.lt; omega); omega
      · exact hge
    · rcases Nat.lt_or_ge k j with hlt | hge
      · have := day_lt hz hlt h8; omega
      · exact hge
  · rintro ⟨j, h3, h4, rfl⟩
    have hm := h.mask j h3 h4
    have hj := h.lt
    have hd := day_range hz (show j < l.length by omega)
    have k1 : l.getD i 0 ≤ l.getD j 0 := by
      by_cases e : i = j
      · subst e; exact Int.le_refl _
      · have := day_lt hz (show i < j by omega) (by omega); omega
    have k2 : l.getD j 0 ≤ l.getD k 0 := by
      by_cases e : j = k
      · subst e; exact Int.le_refl _
      · have := day_lt hz (show j < k by omega) h.lt; omega
    refine ⟨by omega, ?_⟩
    rw [← hm]
    have hb : ((l.getD j 0 + 5) % 7).toNat < 7 := by omega
    have hbe : (((l.getD j 0 + 5) % 7).toNat : Int) = (l.getD j 0 + 5) % 7 := by omega
    rw [← hbe]
    exact (mask_bit hz _ _ hb l.length (Nat.le_refl _)).2 ⟨j, by omega, rfl, by omega⟩
theorem open_chk {i k : Nat} {p : Int × Int × Int} {n : Int} (h : Open l i k p n) : chkPer p.1 p.2.1 p.2.2 = 0 := by
  have hle : l.getD i 0 ≤ l.getD k 0 := by
    by_cases e : i = k
    · subst e; exact Int.le_refl _
    · have := day_lt hz (show i < k by have := h.le; omega) h.lt; omega
  have hi0 := day_range hz (show i < l.length by have := h.le; have := h.lt; omega)
  have hk0 := day_range hz h.lt
  have e1 := wkD_def (l.getD i 0)
  have e2 := wkD_def (l.getD k 0)
  have hw := h.weeks
  have hm := h.mask k h.le (Nat.le_refl _)
  have hb := mask_bound hz (wkD (l.getD k 0)) l.length (Nat.le_refl _)
  have hpos : maskN l (wkD (l.getD k 0)) l.length ≠ 0 := fun e => by
    have hb7 : ((l.getD k 0 + 5) % 7).toNat < 7 := by omega
    have := (mask_bit hz (wkD (l.getD k 0)) _ hb7 l.length (Nat.le_refl _)).2 ⟨k, h.lt, rfl, by omega⟩
    rw [e, bit_zero ⟨_, hb7⟩] at this
    cases this
  have hm' : maskN l (wkD (l.getD k 0)) l.length = p.2.2 := hm
  rw [chkPer_zero, h.f, h.t]
  omega
omit hz in
inductive Cov (l : List Int) : List (Int × Int × Int) → Nat → Prop
  | nil : Cov l [] 0
  | add {ps : List (Int × Int × Int)} {i k : Nat} {p : Int × Int × Int} {w : Int} : Cov l ps i → Open l i k p w → Cov l (ps ++ [p]) (k + 1)
omit hz in
theorem jn_open : ∀ k, k < l.length → ∃ i, Cov l (jn l k).1 i ∧ Open l i k (jn l k).2.1 (jn l k).2.2
  | 0, hk => ⟨0, .nil, ⟨Nat.le_refl _, hk, rfl, rfl, .inl rfl, fun j h1 h2 => (by
      obtain rfl : j = 0 := by omega
      rfl), fun j h1 h2 => by omega, by simp [jn]⟩⟩
  | k + 1, hk => by
    obtain ⟨i, hc, ho⟩ := jn_open k (by omega)
    have hjn : jn l (k + 1) = if wkD (l.getD k 0) = wkD (l.getD (k + 1) 0) then ((jn l k).1, ((jn l k).2.1.1, l.getD (k + 1) 0, (jn l k).2.1.2.2), (jn l k).2.2)
      else if wkD (l.getD k 0) = wkD (l.getD (k + 1) 0) - 1 ∧ (jn l k).2.1.2.2 = maskW l (wkD (l.getD (k + 1) 0)) ∧ (jn l k).2.2 < 57 then ((jn l k).1, ((jn l k).2.1.1, l.getD (k + 1) 0, (jn l k).2.1.2.2), (jn l k).2.2 + 1)
      else ((jn l k).1 ++ [(jn l k).2.1], (l.getD (k + 1) 0, l.getD (k + 1) 0, maskW l (wkD (l.getD (k + 1) 0))), 1) := rfl
    rw [hjn]
    have hle := ho.le
    have hw := ho.weeks
    by_cases c1 : wkD (l.getD k 0) = wkD (l.getD (k + 1) 0)
    · rw [if_pos c1]
      refine ⟨i, hc, ⟨by omega, hk, ho.f, rfl, ho.first, fun j h1 h2 => ?_, fun j h1 h2 => ?_, by simp only; omega⟩⟩
      · by_cases e : j = k + 1
        · subst e; rw [← c1]; exact ho.mask k hle (Nat.le_refl _)
        · exact ho.mask j h1 (by omega)
      · by_cases e : j = k
        · subst e; exact .inl c1.symm
        · exact ho.step j h1 (by omega)
    · rw [if_neg c1]
      by_cases c2 : wkD (l.getD k 0) = wkD (l.getD (k + 1) 0) - 1 ∧ (jn l k).2.1.2.2 = maskW l (wkD (l.getD (k + 1) 0)) ∧ (jn l k).2.2 < 57
      · rw [if_pos c2]
        refine ⟨i, hc, ⟨by omega, hk, ho.f, rfl, ho.first, fun j h1 h2 => ?_, fun j h1 h2 => ?_, by simp only; omega⟩⟩
        · by_cases e : j = k + 1
          · subst e; exact c2.2.1.symm
          · exact ho.mask j h1 (by omega)
        · by_cases e : j = k
          · subst e; exact .inr (by omega)
          · exact ho.step j h1 (by omega)
      · rw [if_neg c2]
        refine ⟨k + 1, .add hc ho, ⟨Nat.le_refl _, hk, rfl, rfl, .inr (by rw [Nat.add_sub_cancel]; exact c1), fun j h1 h2 => ?_, fun j h1 h2 => by omega, by simp⟩⟩
        obtain rfl : j = k + 1 := by omega
        rfl
omit hz in
theorem join_cov : Cov l (joinL l) l.length := by
  unfold joinL
  cases hl : l.length with
  | zero => exact .nil
  | succ k =>
    obtain ⟨i, h1, h2⟩ := jn_open (l := l) k (by omega)
    exact .add h1 h2
end
end Go.Proofs.YtddpjjaebkaggabGreatDoor.Co
