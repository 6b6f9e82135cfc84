
/-
  Canonical periods, the plain law: the weeks' masks, and the state after each day.
-/
import Derived.Test.YtddpjjaebkaggabGreatDoorSpGen
namespace Go.Proofs.YtddpjjaebkaggabGreatDoor.Co
open Go Go.Evl
def wkD (x : Int) : Int := (x + 5) / 7
theorem wkD_def (x : Int) : wkD x = (x + 5) / 7 := rfl
section
variable (l : List Int)
def errD (k : Nat) : Int := if rng (l.getD k 0) 0 99999 ≠ 0 then 3 else if 0 < k ∧ l.getD k 0 ≤ l.getD (k - 1) 0 then 11 else 0
def chkDays : Int := if 512 < l.length then 5 else firstN (errD l) 0 (l.length - 0)
def maskN (w : Int) : Nat → Int
  | 0 => 0
  | k + 1 => maskN w k + if wkD (l.getD k 0) = w then 2 ^ ((l.getD k 0 + 5) % 7).toNat else 0
def maskW (w : Int) : Int := maskN l w l.length
end
theorem errD_zero {l : List Int} {k : Nat} : errD l k = 0 ↔ (0 ≤ l.getD k 0 ∧ l.getD k 0 ≤ 99999) ∧ (0 < k → l.getD (k - 1) 0 < l.getD k 0) := by
  have h := @rng_zero (l.getD k 0) 0 99999
  unfold errD
  split
  · constructor
    · intro h; cases h
    · intro h; omega
  · split
    · constructor
      · intro h; cases h
      · intro h; omega
    · constructor
      · intro _; omega
      · intro _; rfl
theorem chkDays_zero {l : List Int} : chkDays l = 0 ↔ l.length ≤ 512 ∧ ∀ i, i < l.length → errD l i = 0 := by
  unfold chkDays
  split
  · constructor
    · intro h; cases h
    · intro h; omega
  · rw [firstN_zero]
    constructor
    · intro h; exact ⟨by omega, fun i hi => h i (Nat.zero_le _) (by omega)⟩
    · intro h i _ hi; exact h.2 i (by omega)
section
variable {l : List Int} (hz : chkDays l = 0)
include hz
theorem day_range {k : Nat} (hk : k < l.length) : 0 ≤ l.getD k 0 ∧ l.getD k 0 ≤ 99999 := (errD_zero.1 ((chkDays_zero.1 hz).2 k hk)).1
theorem day_lt {i j : Nat} (hij : i < j) (hj : j < l.length) : l.getD i 0 < l.getD j 0 := by
  induction j with
  | zero => omega
  | succ j ih =>
    have h1 := (errD_zero.1 ((chkDays_zero.1 hz).2 (j + 1) hj)).2 (by omega)
    rw [Nat.add_sub_cancel] at h1
    by_cases e : i = j
    · subst e; exact h1
    · have := ih (by omega) (by omega); omega
omit hz in
theorem pow_le7 {a b : Nat} (h : a ≤ b) : (2 : Int) ^ a ≤ 2 ^ b := by
  have := Nat.pow_le_pow_right (show 0 < 2 by decide) h
  exact_mod_cast this
theorem mask_lt (w x : Int) (hx : wkD x = w ∧ 0 ≤ x) : ∀ k, k ≤ l.length → (∀ i, i < k → l.getD i 0 < x) → 0 ≤ maskN l w k ∧ maskN l w k < 2 ^ ((x + 5) % 7).toNat
  | 0, _, _ => ⟨Int.le_refl _, Int.pow_pos (by decide)⟩
  | k + 1, hk, hi => by
    obtain ⟨h1, h2⟩ := mask_lt w x hx k (by omega) (fun i hi' => hi i (by omega))
    simp only [maskN]
    split
    · rename_i e
      have hd := day_range hz (show k < l.length by omega)
      have h3 := mask_lt w (l.getD k 0) ⟨e, hd.1⟩ k (by omega) (fun i hi' => day_lt hz hi' (by omega))
      have h4 := hi k (by omega)
      have e1 := wkD_def (l.getD k 0)
      have e2 := wkD_def x
      have h5 : ((l.getD k 0 + 5) % 7).toNat + 1 ≤ ((x + 5) % 7).toNat := by omega
      have h6 := pow_le7 h5
      rw [Int.pow_succ] at h6
      have h7 : (0 : Int) < 2 ^ ((l.getD k 0 + 5) % 7).toNat := Int.pow_pos (by decide)
      omega
    · rw [Int.add_zero]; exact ⟨h1, h2⟩
theorem mask_bound (w : Int) (k : Nat) (hk : k ≤ l.length) : 0 ≤ maskN l w k ∧ maskN l w k < 128 := by
  induction k with
  | zero => simp [maskN]
  | succ k ih =>
    have ih := ih (by omega)
    simp only [maskN]
    split
    · rename_i e
      have hd := day_range hz (show k < l.length by omega)
      have h3 := mask_lt hz w (l.getD k 0) ⟨e, hd.1⟩ k (by omega) (fun i hi' => day_lt hz hi' (by omega))
      have h6 := pow_le7 (show ((l.getD k 0 + 5) % 7).toNat ≤ 6 by omega)
      have h7 : (0 : Int) < 2 ^ ((l.getD k 0 + 5) % 7).toNat := Int.pow_pos (by decide)
      omega
    · rw [Int.add_zero]; exact ih
end
def setA (w x : Int) : List (Int × Int) → List (Int × Int)
  | [] => [(w, x)]
  | (u, y) :: r => if w = u then (u, x) :: r else (u, y) :: setA w x r
def lookA (w : Int) : List (Int × Int) → Option Int
  | [] => none
  | (u, y) :: r => if w = u then some y else lookA w r
theorem lookA_set (w u x : Int) : ∀ m, lookA w (setA u x m) = if w = u then some x else lookA w m
  | [] => by simp [setA, lookA]
  | (v, y) :: r => by
    simp only [setA]
    split
    · rename_i e; subst e
      simp only [lookA]
      split <;> rfl
    · rename_i e
      simp only [lookA, lookA_set w u x r]
      split
      · rename_i e2
        rw [if_neg (by omega)]
      · rfl
def toE (m : List (Int × Int)) : List (D × V) := m.map fun p => (DI p.1, I p.2)
theorem idsM_toE : ∀ m, Evl.idsM (toE m) = []
  | [] => rfl
  | (_, _) :: r => by
    show [] ++ Evl.idsM (toE r) = []
    rw [idsM_toE r]; rfl
theorem findE_toE (w : Int) : ∀ m, findE (DI w) (toE m) = some ((lookA w m).map fun x => I x)
  | [] => rfl
  | (u, y) :: r => by
    show (match eqD (DI w) (DI u) with | some true => some (some (I y)) | some false => findE (DI w) (toE r) | none => none) = _
    have e : eqD (DI w) (DI u) = some (decide (w = u)) := by simp [eqD]
    rw [e]
    by_cases h : w = u
    · simp [lookA, h]
    · simp [lookA, h, findE_toE w r]
theorem setE_toE (w x : Int) : ∀ m, setE (DI w) (I x) (toE m) = some (toE (setA w x m))
  | [] => rfl
  | (u, y) :: r => by
    show (match eqD (DI w) (DI u) with | some true => some ((DI u, I x) :: toE r) | some false => (setE (DI w) (I x) (toE r)).map ((DI u, I y) :: ·) | none => none) = _
    have e : eqD (DI w) (DI u) = some (decide (w = u)) := by simp [eqD]
    rw [e]
    by_cases h : w = u
    · simp [setA, h, toE]
    · have := setE_toE w x r
      simp only [toE] at this
      simp [setA, h, this, toE]
theorem outV_toE (o : Option Int) : outV (.int .i64 0) false (o.map fun x => I x) = I (o.getD 0) := by cases o <;> rfl
section
variable (l : List Int)
def mapN : Nat → List (Int × Int)
  | 0 => []
  | k + 1 => setA (wkD (l.getD k 0)) (maskN l (wkD (l.getD k 0)) (k + 1)) (mapN k)
theorem mapN_look (w : Int) : ∀ k, (lookA w (mapN l k)).getD 0 = maskN l w k
  | 0 => rfl
  | k + 1 => by
    simp only [mapN, lookA_set]
    split
    · rename_i e; rw [e]; rfl
    · rename_i e
      rw [mapN_look w k]
      simp only [maskN]
      rw [if_neg (fun h => e h.symm), Int.add_zero]
def jn : Nat → List (Int × Int × Int) × (Int × Int × Int) × Int
  | 0 => ([], (l.getD 0 0, l.getD 0 0, maskW l (wkD (l.getD 0 0))), 1)
  | k + 1 =>
    if wkD (l.getD k 0) = wkD (l.getD (k + 1) 0) then ((jn k).1, ((jn k).2.1.1, l.getD (k + 1) 0, (jn k).2.1.2.2), (jn k).2.2)
    else if wkD (l.getD k 0) = wkD (l.getD (k + 1) 0) - 1 ∧ (jn k).2.1.2.2 = maskW l (wkD (l.getD (k + 1) 0)) ∧ (jn k).2.2 < 57 then ((jn k).1, ((jn k).2.1.1, l.getD (k + 1) 0, (jn k).2.1.2.2), (jn k).2.2 + 1)
    else ((jn k).1 ++ [(jn k).2.1], (l.getD (k + 1) 0, l.getD (k + 1) 0, maskW l (wkD (l.getD (k + 1) 0))), 1)
def outs : Nat → List (Int × Int × Int)
  | 0 => []
  | k + 1 => (jn l k).1 ++ [(jn l k).2.1]
def weeksN : Nat → Int
  | 0 => 0
  | k + 1 => (jn l k).2.2
def joinL : List (Int × Int × Int) := outs l l.length
theorem jn_length : ∀ k, (jn l k).1.length ≤ k
  | 0 => by simp [jn]
  | k + 1 => by
    have := jn_length k
    simp only [jn]
    split
    · simp only; omega
    · split
      · simp only; omega
      · simp; omega
theorem outs_length : ∀ k, (outs l k).length ≤ k
  | 0 => by simp [outs]
  | k + 1 => by have := jn_length l k; simp [outs]; omega
theorem jn_weeks : ∀ k, 1 ≤ (jn l k).2.2 ∧ (jn l k).2.2 ≤ 57
  | 0 => by simp [jn]
  | k + 1 => by
    have := jn_weeks k
    simp only [jn]
    split
    · exact this
    · split
      · rename_i h; simp only; omega
      · simp
end
end Go.Proofs.YtddpjjaebkaggabGreatDoor.Co
