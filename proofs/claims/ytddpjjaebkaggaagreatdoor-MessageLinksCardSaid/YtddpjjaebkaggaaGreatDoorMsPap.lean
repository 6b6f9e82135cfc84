
/-
  Linked requests: the pairs, plainly.
-/
import Derived.Test.YtddpjjaebkaggaaGreatDoorMsRqs
namespace Go.Proofs.YtddpjjaebkaggaaGreatDoor.Co
open Go Go.Evl
def cellN (p : Nat × Nat) : List D := [DI p.1, DI p.2]
theorem cellN_length (p : Nat × Nat) : (cellN p).length = 2 := rfl
abbrev LP (l : List (Nat × Nat)) : V := .d (.list l.length (l.flatMap cellN))
def unfit (o q : Rqt) : Bool := !decide (o.li = q.nm) || decide (o.ki = q.ki) || !decide (o.ca = q.ca)
def prsG (l : List Rqt) (acc : List (Nat × Nat)) : Nat → List Rqt → List (Nat × Nat) × Int
  | _, [] => (acc, 0)
  | i, q :: r =>
    if q.li = [] then prsG l acc (i + 1) r
    else match l[(atG q.li 0 l).toNat]? with
      | none => ([], 10)
      | some o => if atG q.li 0 l < 0 then ([], 10) else if unfit o q = true then ([], 32) else if q.ki = [65] then prsG l (acc ++ [(i, (atG q.li 0 l).toNat)]) (i + 1) r else prsG l acc (i + 1) r
theorem prsG_none {l : List Rqt} {acc : List (Nat × Nat)} {i : Nat} {q : Rqt} {r : List Rqt} (h0 : q.li ≠ []) (h : atG q.li 0 l = -1) : prsG l acc i (q :: r) = ([], 10) := by
  rw [prsG, if_neg h0, h]
  split
  · rfl
  · exact if_pos (by decide)
theorem prsG_some {l : List Rqt} {acc : List (Nat × Nat)} {i k : Nat} {q : Rqt} {r : List Rqt} (h0 : q.li ≠ []) (hk : k < l.length) (h : atG q.li 0 l = k) : prsG l acc i (q :: r) = if unfit l[k] q = true then ([], 32) else if q.ki = [65] then prsG l (acc ++ [(i, k)]) (i + 1) r else prsG l acc (i + 1) r := by
  rw [prsG, if_neg h0, h, Int.toNat_natCast, List.getElem?_eq_getElem hk]
  exact if_neg (by omega)
theorem prsG_len {l : List Rqt} : ∀ (r : List Rqt) (acc : List (Nat × Nat)) (i : Nat), (prsG l acc i r).1.length ≤ acc.length + r.length
  | [], acc, i => by simp [prsG]
  | q :: r, acc, i => by
    have i1 := prsG_len (l := l) r acc (i + 1)
    have i2 := prsG_len (l := l) r (acc ++ [(i, (atG q.li 0 l).toNat)]) (i + 1)
    rw [List.length_append, List.length_cons, List.length_nil] at i2
    rw [prsG, List.length_cons]
    split
    · omega
    · split
      · simp
      · split
        · simp
        · split
          · simp
          · split <;> omega
end Go.Proofs.YtddpjjaebkaggaaGreatDoor.Co
