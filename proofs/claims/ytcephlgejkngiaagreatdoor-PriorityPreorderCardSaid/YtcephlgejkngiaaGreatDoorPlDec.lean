
/-
  Priority: which of two claims comes first; the plain law.
-/
import Derived.Test.YtcephlgejkngiaaGreatDoorPcCof
namespace Go.Proofs.YtcephlgejkngiaaGreatDoor.Co
open Go Go.Evl
def dcF (f h : List UInt8 → Int) : List Kyt → Int × List UInt8
  | [] => (0, [])
  | k :: r => if f k.fa = h k.fa then dcF f h r else (if (decide (f k.fa < h k.fa) != k.dn) = true then -1 else 1, k.fa)
def dcC (c : Int → Option (List Kyt)) (i k : Int) (f h : List UInt8 → Int) : Int × List UInt8 :=
  if i < k then (-1, [99, 108, 97, 115, 115]) else if k < i then (1, [99, 108, 97, 115, 115]) else match c i with
    | some l => dcF f h l
    | none => (0, [])
def keyC (p : Prg) (i : Int) : Option (List Kyt) := (p.cl[i.toNat]?).map Cls.ky
def dcP (p : Prg) (a b : Clm) : Int × List UInt8 := dcC (keyC p) (clsG a 0 p.cl) (clsG b 0 p.cl) (factV a) (factV b)
theorem dcF_fst (f h : List UInt8 → Int) (k : Kyt) (r : List Kyt) : (dcF f h (k :: r)).1 = if f k.fa = h k.fa then (dcF f h r).1 else if f k.fa < h k.fa then (if k.dn = true then 1 else -1) else (if k.dn = true then -1 else 1) := by
  rw [dcF]
  generalize k.dn = d
  by_cases h1 : f k.fa = h k.fa
  · rw [if_pos h1, if_pos h1]
  · rw [if_neg h1, if_neg h1]
    by_cases h2 : f k.fa < h k.fa
    · rw [decide_eq_true h2, if_pos h2]
      cases d <;> rfl
    · rw [decide_eq_false h2, if_neg h2]
      cases d <;> rfl
theorem dcF_self (f : List UInt8 → Int) : ∀ l : List Kyt, dcF f f l = (0, [])
  | [] => rfl
  | k :: r => by rw [dcF, if_pos rfl, dcF_self f r]
theorem dcF_range (f h : List UInt8 → Int) : ∀ l : List Kyt, -1 ≤ (dcF f h l).1 ∧ (dcF f h l).1 ≤ 1
  | [] => by simp [dcF]
  | k :: r => by
    have := dcF_range f h r
    rw [dcF_fst]
    split
    · exact this
    · split <;> split <;> omega
theorem dcF_swap (f h : List UInt8 → Int) : ∀ l : List Kyt, (dcF f h l).1 = -(dcF h f l).1
  | [] => rfl
  | k :: r => by
    have := dcF_swap f h r
    rw [dcF_fst, dcF_fst]
    cases k.dn
    · simp only [Bool.false_eq_true, if_false]
      split <;> split <;> (try split) <;> (try split) <;> omega
    · simp only [if_true]
      split <;> split <;> (try split) <;> (try split) <;> omega
theorem dcF_trans (f h q : List UInt8 → Int) : ∀ l : List Kyt, (dcF f h l).1 ≤ 0 → (dcF h q l).1 ≤ 0 → (dcF f q l).1 ≤ 0
  | [] => fun _ _ => by simp [dcF]
  | k :: r => by
    have ih := dcF_trans f h q r
    rw [dcF_fst, dcF_fst, dcF_fst]
    generalize f k.fa = x
    generalize h k.fa = y
    generalize q k.fa = z
    generalize (dcF f h r).1 = u at *
    generalize (dcF h q r).1 = v at *
    generalize (dcF f q r).1 = w at *
    intro h1 h2
    generalize k.dn = d at *
    cases d
    · simp only [Bool.false_eq_true, if_false] at *
      by_cases e1 : x = y
      · by_cases e2 : y = z
        · rw [if_pos e1] at h1
          rw [if_pos e2] at h2
          rw [if_pos (e1.trans e2)]
          exact ih h1 h2
        · omega
      · omega
    · simp only [if_true] at *
      by_cases e1 : x = y
      · by_cases e2 : y = z
        · rw [if_pos e1] at h1
          rw [if_pos e2] at h2
          rw [if_pos (e1.trans e2)]
          exact ih h1 h2
        · omega
      · omega
theorem dcC_fst (c : Int → Option (List Kyt)) (i k : Int) (f h : List UInt8 → Int) : (dcC c i k f h).1 = if i < k then -1 else if k < i then 1 else (dcF f h ((c i).getD [])).1 := by
  unfold dcC
  split
  · rfl
  · split
    · rfl
    · cases c i <;> rfl
theorem dcC_self (c : Int → Option (List Kyt)) (i : Int) (f : List UInt8 → Int) : dcC c i i f f = (0, []) := by
  unfold dcC
  rw [if_neg (by omega), if_neg (by omega)]
  cases c i with
  | none => rfl
  | some l => exact dcF_self f l
theorem dcC_range (c : Int → Option (List Kyt)) (i k : Int) (f h : List UInt8 → Int) : -1 ≤ (dcC c i k f h).1 ∧ (dcC c i k f h).1 ≤ 1 := by
  have := dcF_range f h ((c i).getD [])
  rw [dcC_fst]
  split <;> (try split) <;> omega
theorem dcC_swap (c : Int → Option (List Kyt)) (i k : Int) (f h : List UInt8 → Int) : (dcC c i k f h).1 = -(dcC c k i h f).1 := by
  rw [dcC_fst, dcC_fst]
  rcases Int.lt_trichotomy i k with e | e | e
  · rw [if_pos e, if_neg (by omega), if_pos e]
  · subst e
    rw [if_neg (Int.lt_irrefl i), if_neg (Int.lt_irrefl i), if_neg (Int.lt_irrefl i), if_neg (Int.lt_irrefl i)]
    exact dcF_swap f h _
  · rw [if_neg (by omega), if_pos e, if_pos e]
    rfl
theorem dcC_trans (c : Int → Option (List Kyt)) (i k j : Int) (f h q : List UInt8 → Int) (h1 : (dcC c i k f h).1 ≤ 0) (h2 : (dcC c k j h q).1 ≤ 0) : (dcC c i j f q).1 ≤ 0 := by
  rw [dcC_fst] at *
  rcases Int.lt_trichotomy i k with e1 | e1 | e1
  · rcases Int.lt_trichotomy k j with e2 | e2 | e2
    · rw [if_pos (by omega)]; decide
    · rw [if_pos (by omega)]; decide
    · rw [if_neg (by omega), if_pos e2] at h2
      exact absurd h2 (by decide)
  · subst e1
    rcases Int.lt_trichotomy i j with e2 | e2 | e2
    · rw [if_pos (by omega)]; decide
    · subst e2
      rw [if_neg (by omega), if_neg (by omega)] at *
      exact dcF_trans f h q _ h1 h2
    · rw [if_neg (by omega), if_pos e2] at h2
      exact absurd h2 (by decide)
  · rw [if_neg (by omega), if_pos e1] at h1
    exact absurd h1 (by decide)
theorem dcC_same (c : Int → Option (List Kyt)) (i : Int) (f h : List UInt8 → Int) : dcC c i i f h = dcF f h ((c i).getD []) := by
  unfold dcC
  rw [if_neg (Int.lt_irrefl i), if_neg (Int.lt_irrefl i)]
  cases c i <;> rfl
theorem dcC_lt (c : Int → Option (List Kyt)) {i k : Int} (f h : List UInt8 → Int) (e : i < k) : dcC c i k f h = (-1, [99, 108, 97, 115, 115]) := if_pos e
theorem dcC_gt (c : Int → Option (List Kyt)) {i k : Int} (f h : List UInt8 → Int) (e : k < i) : dcC c i k f h = (1, [99, 108, 97, 115, 115]) := by
  unfold dcC
  rw [if_neg (by omega), if_pos e]
theorem keyC_in {p : Prg} {n : Nat} (h : n < p.cl.length) : (keyC p (n : Int)).getD [] = p.cl[n].ky := by
  unfold keyC
  rw [Int.toNat_natCast, List.getElem?_eq_getElem h]
  rfl
theorem keyC_out {p : Prg} {n : Nat} (h : p.cl.length ≤ n) : (keyC p (n : Int)).getD [] = [] := by
  unfold keyC
  rw [Int.toNat_natCast, List.getElem?_eq_none h]
  rfl
theorem dcP_self (p : Prg) (a : Clm) : dcP p a a = (0, []) := dcC_self _ _ _
theorem dcP_range (p : Prg) (a b : Clm) : -1 ≤ (dcP p a b).1 ∧ (dcP p a b).1 ≤ 1 := dcC_range _ _ _ _ _
theorem dcP_swap (p : Prg) (a b : Clm) : (dcP p a b).1 = -(dcP p b a).1 := dcC_swap _ _ _ _ _
theorem dcP_trans (p : Prg) (a b c : Clm) (h1 : (dcP p a b).1 ≤ 0) (h2 : (dcP p b c).1 ≤ 0) : (dcP p a c).1 ≤ 0 := dcC_trans _ _ _ _ _ _ _ h1 h2
end Go.Proofs.YtcephlgejkngiaaGreatDoor.Co
