
/-
  The parts of a text between the places of one byte: strings.Split's, told by recursion.
-/
import Derived.Test.YtcephlgejkngiaaGreatDoorEvX
import Derived.Lib.SplitLaws
namespace Go.Evl
open Go Go.Lib
def parts (b : UInt8) : List UInt8 → List (List UInt8)
  | [] => [[]]
  | x :: r => if x = b then [] :: parts b r else
    match parts b r with
    | [] => [[x]]
    | p :: q => (x :: p) :: q
theorem parts_ne (b : UInt8) (s : List UInt8) : parts b s ≠ [] := by
  cases s with
  | nil => simp [parts]
  | cons x r =>
    unfold parts
    split
    · simp
    · split <;> simp
theorem splitK_parts (b : UInt8) : ∀ s : List UInt8, splitK [b] 0 (count s [b]) s = parts b s
  | [] => by
    have : count ([] : List UInt8) [b] = 0 := count_miss (by rw [index_one]; rfl)
    rw [this]; rfl
  | x :: r => by
    have ih := splitK_parts b r
    unfold parts
    by_cases h : x = b
    · subst h
      have hi : index (x :: r) [x] = ((0 : Nat) : Int) := by rw [index_one]; simp [indexByte]
      have hc := count_hit (by simp) hi
      simp only [List.length_cons, List.length_nil, Nat.zero_add, List.drop_succ_cons, List.drop_zero] at hc
      rw [hc, Nat.add_comm 1, if_pos rfl, ← ih]
      simp only [splitK, hi, List.length_cons, List.length_nil]
      rfl
    · rw [count_cons_ne x b r h, if_neg h, ← ih]
      have hx : (x == b) = false := by simpa using h
      generalize count r [b] = k
      cases k with
      | zero => rfl
      | succ k =>
        have hr : index (x :: r) [b] = if indexByte r b == -1 then -1 else indexByte r b + 1 := by rw [index_one]; simp [indexByte, hx]
        have hq : index r [b] = indexByte r b := index_one r b
        simp only [splitK, hr, hq]
        have hge := indexByte_ge r b
        by_cases hm : indexByte r b = -1
        · simp [hm]
        · obtain ⟨i, hi⟩ : ∃ i : Nat, indexByte r b = i := ⟨(indexByte r b).toNat, by omega⟩
          rw [hi]
          have e1 : (((i : Nat) : Int) == -1) = false := by simp
          have e2 : (((i : Nat) : Int) + 1 == -1) = false := by simp; omega
          have e3 : (((i : Nat) : Int) + 1).toNat = i + 1 := by omega
          simp only [e1, e2, e3, Bool.false_eq_true, if_false, Int.toNat_natCast, Nat.add_zero, List.take_succ_cons, List.length_cons, List.length_nil, Nat.zero_add, List.drop_succ_cons]
theorem splitD_parts (s : List UInt8) (b : UInt8) : splitD s [b] = parts b s := by
  unfold splitD
  rw [splitB_data]
  exact splitK_parts b s
def joined (b : UInt8) : List (List UInt8) → List UInt8
  | [] => []
  | [x] => x
  | x :: y :: r => x ++ b :: joined b (y :: r)
theorem join_joined (b : UInt8) : ∀ l : List (List UInt8), Lib.join l [b] = joined b l
  | [] => rfl
  | [x] => Lib.join_one x [b]
  | x :: y :: r => by
    have ih := join_joined b (y :: r)
    simp only [Lib.join, List.intercalate] at ih ⊢
    simp only [List.intersperse_cons_cons, List.flatten_cons, ih, joined]
    simp
theorem joined_cons (b x : UInt8) (p : List UInt8) (q : List (List UInt8)) : joined b ((x :: p) :: q) = x :: joined b (p :: q) := by
  cases q <;> rfl
theorem joined_parts (b : UInt8) : ∀ s : List UInt8, joined b (parts b s) = s
  | [] => rfl
  | x :: r => by
    have ih := joined_parts b r
    unfold parts
    by_cases h : x = b
    · rw [if_pos h]
      cases hp : parts b r with
      | nil => exact absurd hp (parts_ne b r)
      | cons p q => rw [joined, ← hp, ih, h]; rfl
    · rw [if_neg h]
      cases hp : parts b r with
      | nil => exact absurd hp (parts_ne b r)
      | cons p q =>
        rw [hp] at ih
        rw [joined_cons, ih]
theorem parts_word (b : UInt8) : ∀ w : List UInt8, b ∉ w → parts b w = [w]
  | [], _ => rfl
  | x :: r, h => by
    have hx : ¬ x = b := fun e => h (by simp [e])
    have hr : b ∉ r := fun e => h (by simp [e])
    unfold parts
    rw [if_neg hx, parts_word b r hr]
theorem parts_append (b : UInt8) (s : List UInt8) : ∀ w : List UInt8, b ∉ w → parts b (w ++ b :: s) = w :: parts b s
  | [], _ => by simp [parts]
  | x :: r, h => by
    have hx : ¬ x = b := fun e => h (by simp [e])
    have hr : b ∉ r := fun e => h (by simp [e])
    rw [List.cons_append, parts, if_neg hx, parts_append b s r hr]
theorem parts_joined (b : UInt8) : ∀ l : List (List UInt8), l ≠ [] → (∀ w ∈ l, b ∉ w) → parts b (joined b l) = l
  | [], h, _ => absurd rfl h
  | [x], _, h => parts_word b x (h x (by simp))
  | x :: y :: r, _, h => by
    rw [joined, parts_append b _ x (h x (by simp)), parts_joined b (y :: r) (by simp) fun w hw => h w (by simp at hw ⊢; exact .inr hw)]
end Go.Evl
