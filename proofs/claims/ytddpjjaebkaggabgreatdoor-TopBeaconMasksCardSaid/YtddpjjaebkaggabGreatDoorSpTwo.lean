
/-
  Moved periods: what the program's function and the reference's give.
-/
import Derived.Test.YtddpjjaebkaggabGreatDoorSpOne
namespace Go.Proofs.YtddpjjaebkaggabGreatDoor.Co
open Go Go.Evl
def refMask (d b : Int) : Nat → Int
  | 0 => 0
  | w + 1 => refMask d b w + (if inM d (((w : Int) - b) % 7) then 2 ^ w else 0)
theorem refMask_le (d b : Int) : ∀ n : Nat, 0 ≤ refMask d b n ∧ refMask d b n < 2 ^ n
  | 0 => by simp [refMask]
  | n + 1 => by
    have := refMask_le d b n
    simp only [refMask, Int.pow_succ]
    split <;> omega
theorem tm7 (x : Int) : (x.tmod 7 + 7).tmod 7 = x % 7 := by
  have h1 : x.tmod 7 = x % 7 - (if 0 ≤ x ∨ (7 : Int) ∣ x then 0 else 7) := by
    rw [Int.tmod_eq_emod]; split <;> rfl
  have h2 : 0 ≤ x.tmod 7 + 7 := by rw [h1]; split <;> omega
  rw [Int.tmod_eq_emod_of_nonneg h2, h1]
  split <;> omega
theorem tm7' {x r : Int} (h : r = x.tmod 7) : (r + 7) % 7 = x % 7 := by
  have := tm7 x
  have h1 : x.tmod 7 = x % 7 - (if 0 ≤ x ∨ (7 : Int) ∣ x then 0 else 7) := by
    rw [Int.tmod_eq_emod]; split <;> rfl
  rw [h, h1]
  split <;> omega
theorem refMask_mod (d b : Int) : ∀ n : Nat, refMask d b n = refMask d (b % 7) n
  | 0 => rfl
  | n + 1 => by
    simp only [refMask, refMask_mod d b n]
    have : ((n : Int) - b) % 7 = ((n : Int) - b % 7) % 7 := by omega
    rw [this]
def progMask (d t : Int) : Int :=
  IntKind.i64.wrap ((BitVec.ofInt IntKind.i64.bits (IntKind.i64.wrap ((BitVec.ofInt IntKind.i64.bits (IntKind.i64.wrap (d * 2 ^ min t.toNat IntKind.i64.bits)) ||| BitVec.ofInt IntKind.i64.bits (d.fdiv (2 ^ min (7 - t).toNat IntKind.i64.bits))).toNat)) &&& BitVec.ofInt IntKind.i64.bits 127).toNat)
theorem progMask_fin : ∀ n : Fin 128, ∀ m : Fin 7, progMask (n.val : Int) (m.val : Int) = refMask (n.val : Int) (m.val : Int) 7 := by decide +kernel
theorem progMask_eq (d t : Int) (hd : 1 ≤ d ∧ d ≤ 127) (ht : 0 ≤ t ∧ t < 7) : progMask d t = refMask d t 7 := by
  have := progMask_fin ⟨d.toNat, by omega⟩ ⟨t.toNat, by omega⟩
  simpa [show ((d.toNat : Nat) : Int) = d by omega, show ((t.toNat : Nat) : Int) = t by omega] using this
theorem pow7 : ∀ k : Nat, k ≤ 7 → (1 : Int) ≤ 2 ^ k ∧ (2 : Int) ^ k ≤ 128 := by decide
section
variable {E : Oracle} (g : Good E)
include g
end
end Go.Proofs.YtddpjjaebkaggabGreatDoor.Co
