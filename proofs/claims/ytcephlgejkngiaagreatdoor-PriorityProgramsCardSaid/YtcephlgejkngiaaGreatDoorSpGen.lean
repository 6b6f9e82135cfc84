
/-
  Rows of records; the first of errors.
-/
import Derived.Test.YtcephlgejkngiaaGreatDoorSpOne
namespace Go.Proofs.YtcephlgejkngiaaGreatDoor.Co
open Go Go.Evl
theorem flatR_length {α : Type} (cell : α → List D) (w : Nat) (hw : ∀ a, (cell a).length = w) : ∀ l : List α, (l.flatMap cell).length = l.length * w
  | [] => by simp
  | c :: r => by rw [List.flatMap_cons, List.length_append, hw, flatR_length cell w hw r, List.length_cons, Nat.succ_mul]; omega
theorem flatR_drop {α : Type} (cell : α → List D) (w : Nat) (hw : ∀ a, (cell a).length = w) : ∀ (l : List α) (k : Nat), (l.flatMap cell).drop (k * w) = (l.drop k).flatMap cell
  | l, 0 => by simp
  | [], k + 1 => by simp
  | c :: r, k + 1 => by
    rw [List.flatMap_cons, List.drop_succ_cons, ← flatR_drop cell w hw r k, Nat.succ_mul, Nat.add_comm, ← List.drop_drop]
    congr 1
    rw [List.drop_append_of_le_length (by rw [hw]; exact Nat.le_refl _), List.drop_of_length_le (by rw [hw]; exact Nat.le_refl _)]
    rfl
theorem flatR_win {α : Type} (cell : α → List D) (w : Nat) (hw : ∀ a, (cell a).length = w) (l : List α) (k : Nat) (h : k < l.length) : win (l.flatMap cell) (k * w) w = cell l[k] := by
  unfold win
  rw [flatR_drop cell w hw, List.drop_eq_getElem_cons h, List.flatMap_cons, List.take_append_of_le_length (by rw [hw]; exact Nat.le_refl _), List.take_of_length_le (by rw [hw]; exact Nat.le_refl _)]
theorem flatR_get {α : Type} (cell : α → List D) (w : Nat) (hw : ∀ a, (cell a).length = w) (l : List α) (k j : Nat) (h : k < l.length) (hj : j < w) : (l.flatMap cell)[k * w + j]? = (cell l[k])[j]? := by
  rw [← List.getElem?_drop, flatR_drop cell w hw, List.drop_eq_getElem_cons h, List.flatMap_cons, List.getElem?_append_left (by rw [hw]; exact hj)]
theorem flatR_take {α : Type} (cell : α → List D) (l : List α) (k : Nat) (h : k < l.length) : (l.take (k + 1)).flatMap cell = (l.take k).flatMap cell ++ cell l[k] := by
  rw [List.take_add_one, List.flatMap_append, List.getElem?_eq_getElem h]
  simp
theorem PickW.rec {α : Type} {cell : α → List D} {w : Nat} (hw : ∀ a, (cell a).length = w) {l : List α} {i : Int} {K : List D → Prop} (k : Nat) (hi : i = k) (h : k < l.length) (hk : K (cell l[k])) : PickW (l.flatMap cell) (i.toNat * w) w K := by
  subst hi
  rw [Int.toNat_natCast]
  have h1 := flatR_length cell w hw l
  refine ⟨?_, by rw [flatR_win cell w hw l k h]; exact hk⟩
  have h2 : (k + 1) * w ≤ l.length * w := Nat.mul_le_mul_right _ h
  rw [Nat.succ_mul] at h2
  omega
theorem PickW.rec0 {α : Type} {cell : α → List D} {w : Nat} (hw : ∀ a, (cell a).length = w) {l : List α} {i : Int} {K : List D → Prop} (k : Nat) (hi : i = k) (h : k < l.length) (hk : K (cell l[k])) : PickW (l.flatMap cell) ((0 + i.toNat) * w) w K := by
  rw [Nat.zero_add]; exact PickW.rec hw k hi h hk
theorem Pick.rec {α : Type} {cell : α → List D} {w : Nat} (hw : ∀ a, (cell a).length = w) {l : List α} {i : Int} {j : Nat} {K : D → Prop} {d : D} (k : Nat) (hi : i = k) (h : k < l.length) (hj : (cell l[k])[j]? = some d) (hk : K d) : Pick (l.flatMap cell) (i.toNat * w + j) K := by
  subst hi
  rw [Int.toNat_natCast]
  have hlt : j < w := by
    have := (List.getElem?_eq_some_iff.1 hj).1
    rwa [hw] at this
  exact ⟨⟨d, by rw [flatR_get cell w hw l k j h hlt]; exact hj, hk⟩⟩
theorem Pick.rec0 {α : Type} {cell : α → List D} {w : Nat} (hw : ∀ a, (cell a).length = w) {l : List α} {i : Int} {j : Nat} {K : D → Prop} {d : D} (k : Nat) (hi : i = k) (h : k < l.length) (hj : (cell l[k])[j]? = some d) (hk : K d) : Pick (l.flatMap cell) ((0 + i.toNat) * w + j) K := by
  rw [Nat.zero_add]; exact Pick.rec hw k hi h hj hk
theorem Pick.intI {l : List Int} {i : Int} {K : D → Prop} (k : Nat) (hi : i = k) (h : k < l.length) (hk : K (DI l[k])) : Pick (l.map DI) (i.toNat * 1) K := by
  subst hi
  refine ⟨⟨_, ?_, hk⟩⟩
  simp [h]
theorem Pick.intI0 {l : List Int} {i : Int} {K : D → Prop} (k : Nat) (hi : i = k) (h : k < l.length) (hk : K (DI l[k])) : Pick (l.map DI) ((0 + i.toNat) * 1) K := by
  subst hi
  refine ⟨⟨_, ?_, hk⟩⟩
  simp [h]
def firstN (f : Nat → Int) : Nat → Nat → Int
  | _, 0 => 0
  | k, n + 1 => if f k = 0 then firstN f (k + 1) n else f k
theorem firstN_step (f : Nat → Int) {k b : Nat} (h : k < b) : firstN f k (b - k) = if f k = 0 then firstN f (k + 1) (b - (k + 1)) else f k := by
  have e : b - k = (b - (k + 1)) + 1 := by omega
  rw [e]
  rfl
theorem firstN_end (f : Nat → Int) {k b : Nat} (h : b ≤ k) : firstN f k (b - k) = 0 := by
  rw [show b - k = 0 by omega]; rfl
theorem firstN_zero (f : Nat → Int) : ∀ (n k : Nat), firstN f k n = 0 ↔ ∀ i, k ≤ i → i < k + n → f i = 0
  | 0, k => by simp [firstN]; intro i h1 h2; omega
  | n + 1, k => by
    simp only [firstN]
    split
    · rename_i h
      rw [firstN_zero f n (k + 1)]
      constructor
      · intro h2 i h3 h4
        by_cases e : i = k
        · subst e; exact h
        · exact h2 i (by omega) (by omega)
      · intro h2 i h3 h4
        exact h2 i (by omega) (by omega)
    · rename_i h
      constructor
      · intro h2; exact absurd h2 h
      · intro h2; exact absurd (h2 k (Nat.le_refl _) (by omega)) h
theorem firstN_congr (f h : Nat → Int) : ∀ (n k : Nat), (∀ i, k ≤ i → i < k + n → f i = h i) → firstN f k n = firstN h k n
  | 0, _, _ => rfl
  | n + 1, k, e => by
    simp only [firstN]
    rw [e k (Nat.le_refl _) (by omega), firstN_congr f h n (k + 1) fun i h1 h2 => e i (by omega) (by omega)]
end Go.Proofs.YtcephlgejkngiaaGreatDoor.Co
