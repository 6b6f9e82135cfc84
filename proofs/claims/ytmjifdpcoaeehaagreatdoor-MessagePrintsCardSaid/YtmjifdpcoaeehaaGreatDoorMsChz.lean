
/-
  Plain facts on the lines of a message, one behind another.
-/
import Derived.Test.YtmjifdpcoaeehaaGreatDoorMsChk
namespace Go.Proofs.YtmjifdpcoaeehaaGreatDoor.Co
open Go Go.Evl
theorem chkLs_step {kind : List UInt8} {ls : List Lnt} {k : Nat} (h : k < ls.length) : chkLs kind (prevO ls k) k (ls.drop k) = if lnE kind (prevO ls k) ls[k] = 0 then chkLs kind (prevO ls (k + 1)) (k + 1) (ls.drop (k + 1)) else (k, lnE kind (prevO ls k) ls[k]) := by
  rw [List.drop_eq_getElem_cons h, chkLs, prevO_succ h]
theorem chkLs_end {kind : List UInt8} {ls : List Lnt} : chkLs kind (prevO ls ls.length) ls.length (ls.drop ls.length) = if openO (prevO ls ls.length) then (ls.length - 1, 11) else (0, 0) := by
  rw [List.drop_length, chkLs]
theorem act_asks {s : List UInt8} (h : actB s = true) (kind : List UInt8) (hk : kind = REQ ∨ kind = ANS) : actK s = kind ↔ asksB s = decide (kind = REQ) := by
  unfold actK
  unfold actB at h
  cases ha : asksB s with
  | true =>
    rcases hk with rfl | rfl
    · simp
    · simp
  | false =>
    rw [ha, Bool.false_or] at h
    rw [h]
    rcases hk with rfl | rfl
    · simp
    · simp
theorem Pick.rec2 {α : Type} {cell : α → List D} {w : Nat} (hw : ∀ a, (cell a).length = w) {l : List α} {i : Int} {a b : Nat} {K : D → Prop} {d : D} (k : Nat) (hi : i = k) (h : k < l.length) (hj : (cell l[k])[a + b]? = some d) (hk : K d) : Pick (l.flatMap cell) (i.toNat * w + a + b) K := by
  rw [Nat.add_assoc]
  exact Pick.rec hw k hi h hj hk
theorem Pick.gate2 {cs : List D} {x a b : Nat} {K : D → Prop} (h : Pick cs (x + a + b) K) : Pick cs (x + a + b) K := h
end Go.Proofs.YtmjifdpcoaeehaaGreatDoor.Co
