
/-
  Lists in ascending order; the universal moments of a local one, as lists.
-/
import Derived.Test.YtddpjjaebkaggabGreatDoorSpZo
namespace Go.Proofs.YtddpjjaebkaggabGreatDoor.Co
open Go Go.Evl
theorem strict_ext : ∀ {a b : List Int}, a.Pairwise (· < ·) → b.Pairwise (· < ·) → (∀ x, x ∈ a ↔ x ∈ b) → a = b
  | [], [], _, _, _ => rfl
  | [], y :: s, _, _, h => absurd ((h y).2 (List.mem_cons_self ..)) (by simp)
  | x :: r, [], _, _, h => absurd ((h x).1 (List.mem_cons_self ..)) (by simp)
  | x :: r, y :: s, ha, hb, h => by
    rw [List.pairwise_cons] at ha hb
    have e : x = y := by
      have h1 := (h x).1 (List.mem_cons_self ..)
      have h2 := (h y).2 (List.mem_cons_self ..)
      rcases List.mem_cons.1 h1 with h1 | h1
      · exact h1
      · rcases List.mem_cons.1 h2 with h2 | h2
        · exact h2.symm
        · have := ha.1 _ h2; have := hb.1 _ h1; omega
    subst e
    rw [strict_ext ha.2 hb.2 fun z => ?_]
    have hz := h z
    simp only [List.mem_cons] at hz
    constructor
    · intro k
      rcases hz.1 (.inr k) with e | e
      · subst e; exact absurd (ha.1 _ k) (by omega)
      · exact e
    · intro k
      rcases hz.2 (.inr k) with e | e
      · subst e; exact absurd (hb.1 _ k) (by omega)
      · exact e
def ddL (l : List Int) : Nat → List Int
  | 0 => []
  | k + 1 => ddL l k ++ if k = 0 ∨ l.getD k 0 ≠ l.getD (k - 1) 0 then [l.getD k 0] else []
theorem ddL_le (l : List Int) : ∀ k, (ddL l k).length ≤ k
  | 0 => by simp [ddL]
  | k + 1 => by
    have := ddL_le l k
    simp only [ddL, List.length_append]
    split <;> simp <;> omega
theorem getD_le_of_sorted {l : List Int} (h : l.Pairwise (· ≤ ·)) {i j : Nat} (hij : i < j) (hj : j < l.length) : l.getD i 0 ≤ l.getD j 0 := by
  have := List.pairwise_iff_getElem.1 h i j (by omega) hj hij
  simp only [List.getD, List.getElem?_eq_getElem (show i < l.length by omega), List.getElem?_eq_getElem hj, Option.getD_some]
  exact this
theorem ddL_spec {l : List Int} (h : l.Pairwise (· ≤ ·)) : ∀ k, k ≤ l.length → (ddL l k).Pairwise (· < ·) ∧ (∀ x, x ∈ ddL l k ↔ ∃ i, i < k ∧ l.getD i 0 = x) ∧ (∀ x ∈ ddL l k, x ≤ l.getD (k - 1) 0)
  | 0, _ => by simp [ddL]
  | k + 1, hk => by
    obtain ⟨h1, h2, h3⟩ := ddL_spec h k (by omega)
    simp only [ddL]
    by_cases hc : k = 0 ∨ l.getD k 0 ≠ l.getD (k - 1) 0
    · rw [if_pos hc]
      have hlt : ∀ x ∈ ddL l k, x < l.getD k 0 := by
        intro x hx
        rcases hc with hc | hc
        · subst hc; simp [ddL] at hx
        · by_cases h0 : k = 0
          · subst h0; simp [ddL] at hx
          · have := h3 x hx
            have := getD_le_of_sorted h (show k - 1 < k by omega) (by omega)
            omega
      refine ⟨List.pairwise_append.2 ⟨h1, by simp, fun a ha b hb => ?_⟩, fun x => ?_, fun x hx => ?_⟩
      · rw [List.mem_singleton] at hb; subst hb; exact hlt a ha
      · simp only [List.mem_append, List.mem_singleton, h2]
        constructor
        · rintro (⟨i, hi, e⟩ | e)
          · exact ⟨i, by omega, e⟩
          · exact ⟨k, by omega, e.symm⟩
        · rintro ⟨i, hi, e⟩
          by_cases hik : i = k
          · subst hik; exact .inr e.symm
          · exact .inl ⟨i, by omega, e⟩
      · rw [Nat.add_sub_cancel]
        rcases List.mem_append.1 hx with hx | hx
        · have := hlt x hx; omega
        · rw [List.mem_singleton] at hx; omega
    · rw [if_neg hc, List.append_nil]
      have hk0 : k ≠ 0 := fun e => hc (.inl e)
      have he : l.getD k 0 = l.getD (k - 1) 0 := Classical.byContradiction fun e => hc (.inr e)
      refine ⟨h1, fun x => ?_, fun x hx => ?_⟩
      · rw [h2]
        constructor
        · rintro ⟨i, hi, e⟩; exact ⟨i, by omega, e⟩
        · rintro ⟨i, hi, e⟩
          by_cases hik : i = k
          · subst hik; exact ⟨i - 1, by omega, by rw [← he]; exact e⟩
          · exact ⟨i, by omega, e⟩
      · rw [Nat.add_sub_cancel, he]; exact h3 x hx
def scanL (p : Int → Bool) (a : Int) : Nat → List Int
  | 0 => []
  | n + 1 => scanL p a n ++ if p (a + n) then [a + n] else []
theorem scanL_length (p : Int → Bool) (a : Int) : ∀ n, (scanL p a n).length ≤ n
  | 0 => by simp [scanL]
  | n + 1 => by
    have := scanL_length p a n
    simp only [scanL, List.length_append]
    split <;> simp <;> omega
theorem scanL_spec (p : Int → Bool) (a : Int) : ∀ n : Nat, (scanL p a n).Pairwise (· < ·) ∧ ∀ x, x ∈ scanL p a n ↔ (a ≤ x ∧ x < a + n) ∧ p x = true
  | 0 => ⟨by simp [scanL], fun x => by simp [scanL]; intro h1 h2; omega⟩
  | n + 1 => by
    obtain ⟨h1, h2⟩ := scanL_spec p a n
    simp only [scanL]
    refine ⟨List.pairwise_append.2 ⟨h1, by split <;> simp, fun x hx y hy => ?_⟩, fun x => ?_⟩
    · have := (h2 x).1 hx
      split at hy
      · rw [List.mem_singleton] at hy; omega
      · simp at hy
    · rw [List.mem_append, h2]
      by_cases hp : p (a + n) = true
      · rw [if_pos hp, List.mem_singleton]
        constructor
        · rintro (h | h)
          · exact ⟨by omega, h.2⟩
          · subst h; exact ⟨by omega, hp⟩
        · rintro ⟨h3, h4⟩
          by_cases e : x = a + n
          · exact .inr e
          · exact .inl ⟨by omega, h4⟩
      · rw [if_neg hp]
        constructor
        · rintro (h | h)
          · exact ⟨by omega, h.2⟩
          · simp at h
        · rintro ⟨h3, h4⟩
          by_cases e : x = a + n
          · subst e; exact absurd h4 hp
          · exact .inl ⟨by omega, h4⟩
section
variable (o : Int) (l : List (Int × Int)) (m : Int)
def hitU (u : Int) : Bool := decide (u + atN o l u l.length = m)
def uniL : Nat → List Int
  | 0 => []
  | k + 1 => uniL k ++ if rng (m - offK o l k) 0 143999999 = 0 ∧ atN o l (m - offK o l k) l.length = offK o l k then [m - offK o l k] else []
def uniA : List Int := ddL (Evl.sortI (uniL o l m (l.length + 1))) (uniL o l m (l.length + 1)).length
def loU : Int := if m - 840 > 0 then m - 840 else 0
def hiU : Int := if m - (-720) < 143999999 then m - (-720) else 143999999
def uniR : List Int := scanL (hitU o l m) (loU m) (hiU m - loU m + 1).toNat
end
theorem uniL_length (o : Int) (l : List (Int × Int)) (m : Int) : ∀ k, (uniL o l m k).length ≤ k
  | 0 => by simp [uniL]
  | k + 1 => by
    have := uniL_length o l m k
    simp only [uniL, List.length_append]
    split <;> simp <;> omega
theorem uniL_mem (o : Int) (l : List (Int × Int)) (m : Int) (x : Int) : ∀ k, x ∈ uniL o l m k ↔ ∃ i, i < k ∧ x = m - offK o l i ∧ rng x 0 143999999 = 0 ∧ atN o l x l.length = offK o l i
  | 0 => by simp [uniL]
  | k + 1 => by
    simp only [uniL, List.mem_append, uniL_mem o l m x k]
    constructor
    · rintro (⟨i, h1, h2⟩ | h)
      · exact ⟨i, by omega, h2⟩
      · split at h
        · rename_i hc
          rw [List.mem_singleton] at h
          subst h
          exact ⟨k, by omega, rfl, hc⟩
        · simp at h
    · rintro ⟨i, h1, h2, h3, h4⟩
      by_cases e : i = k
      · subst e; subst h2; right; rw [if_pos ⟨h3, h4⟩]; simp
      · exact .inl ⟨i, by omega, h2, h3, h4⟩
theorem atN_off (o : Int) (l : List (Int × Int)) (x : Int) : ∀ k, ∃ i, i ≤ k ∧ atN o l x k = offK o l i
  | 0 => ⟨0, Nat.le_refl _, rfl⟩
  | k + 1 => by
    simp only [atN]
    split
    · exact ⟨k + 1, Nat.le_refl _, rfl⟩
    · obtain ⟨i, h1, h2⟩ := atN_off o l x k
      exact ⟨i, by omega, h2⟩
theorem uniA_mem {o : Int} {l : List (Int × Int)} {m x : Int} : x ∈ uniA o l m ↔ (0 ≤ x ∧ x ≤ 143999999) ∧ x + atN o l x l.length = m := by
  have hp := Evl.sortI_perm (uniL o l m (l.length + 1))
  have hs := Evl.sortI_sorted (uniL o l m (l.length + 1))
  have hl := hp.length_eq
  unfold uniA
  rw [(ddL_spec hs _ (by omega)).2.1]
  have hr := @rng_zero x 0 143999999
  constructor
  · rintro ⟨i, hi, e⟩
    have : x ∈ Evl.sortI (uniL o l m (l.length + 1)) := by
      rw [← e, List.getD, List.getElem?_eq_getElem (by omega)]
      exact List.getElem_mem _
    obtain ⟨j, h1, h2, h3, h4⟩ := (uniL_mem o l m x _).1 (hp.mem_iff.1 this)
    exact ⟨hr.1 h3, by omega⟩
  · rintro ⟨h1, h2⟩
    obtain ⟨i, h3, h4⟩ := atN_off o l x l.length
    have : x ∈ Evl.sortI (uniL o l m (l.length + 1)) := hp.mem_iff.2 ((uniL_mem o l m x _).2 ⟨i, by omega, by omega, hr.2 h1, h4⟩)
    obtain ⟨j, hj, e⟩ := List.mem_iff_getElem.1 this
    exact ⟨j, by omega, by rw [List.getD, List.getElem?_eq_getElem hj]; exact e⟩
theorem uniA_strict (o : Int) (l : List (Int × Int)) (m : Int) : (uniA o l m).Pairwise (· < ·) := by
  have hs := Evl.sortI_sorted (uniL o l m (l.length + 1))
  have hl := (Evl.sortI_perm (uniL o l m (l.length + 1))).length_eq
  exact (ddL_spec hs _ (by omega)).1
theorem uniR_eq {o : Int} {l : List (Int × Int)} (m : Int) (h : chkZone o l = 0) : uniR o l m = uniA o l m := by
  refine strict_ext (scanL_spec _ _ _).1 (uniA_strict o l m) fun x => ?_
  have hr := atN_range h x l.length (Nat.le_refl _)
  unfold uniR
  rw [(scanL_spec _ _ _).2, uniA_mem]
  unfold hitU loU hiU
  rw [decide_eq_true_eq]
  constructor
  · rintro ⟨h1, h2⟩
    refine ⟨?_, h2⟩
    split at h1 <;> split at h1 <;> omega
  · rintro ⟨h1, h2⟩
    refine ⟨?_, h2⟩
    split <;> split <;> omega
end Go.Proofs.YtddpjjaebkaggabGreatDoor.Co
