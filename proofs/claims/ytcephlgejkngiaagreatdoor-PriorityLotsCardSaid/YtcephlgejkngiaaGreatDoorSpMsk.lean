
/-
  Texts of masks: printed (all 128, computed by the kernel) and read.
-/
import Derived.Test.YtcephlgejkngiaaGreatDoorSpOne
import Derived.Test.YtcephlgejkngiaaGreatDoorSpName
import Derived.Test.YtcephlgejkngiaaGreatDoorSpDig
import Derived.Test.YtcephlgejkngiaaGreatDoorSpInm
namespace Go.Proofs.YtcephlgejkngiaaGreatDoor.Co
open Go Go.Evl
def maskL (m : Nat) : List UInt8 := (List.range 7).map fun w => if m / 2 ^ w % 2 = 1 then UInt8.ofNat (49 + w) else 48
def maskOf (s : List UInt8) : Nat → Nat
  | 0 => 0
  | k + 1 => if s.getD k 0 = 48 then maskOf s k else maskOf s k + 2 ^ k
def maskS (s : List UInt8) : Nat := maskOf s (min 7 s.length)
theorem maskOf_lt (s : List UInt8) : ∀ k, maskOf s k < 2 ^ k
  | 0 => by simp [maskOf]
  | k + 1 => by
    have := maskOf_lt s k
    simp only [maskOf]
    rw [Nat.pow_succ]
    split <;> omega
theorem maskL_back : ∀ m : Fin 128, maskS (maskL m.val) = m.val := by decide +kernel
theorem maskS_lt (s : List UInt8) : maskS s < 128 := by
  have h1 := maskOf_lt s (min 7 s.length)
  have h2 : 2 ^ (min 7 s.length) ≤ 2 ^ 7 := Nat.pow_le_pow_right (by decide) (by omega)
  unfold maskS
  omega
def isMaskT (s : List UInt8) : Prop := maskS s ≠ 0 ∧ maskL (maskS s) = s
instance (s : List UInt8) : Decidable (isMaskT s) := by unfold isMaskT; infer_instance
theorem isMaskT_of {s : List UInt8} {m : Nat} (h1 : 1 ≤ m) (h2 : m < 128) (h : maskL m = s) : isMaskT s ∧ maskS s = m := by
  have := maskL_back ⟨m, h2⟩
  simp only at this
  rw [h] at this
  exact ⟨⟨by omega, by rw [this]; exact h⟩, this⟩
theorem or_bitN : ∀ a : Fin 128, ∀ w : Fin 7, a.val < 2 ^ w.val → IntKind.i64.wrap ((BitVec.ofInt IntKind.i64.bits (a.val : Int) ||| BitVec.ofInt IntKind.i64.bits (1 * 2 ^ (min ((w.val : Int)).toNat IntKind.i64.bits))).toNat) = ((a.val + 2 ^ w.val : Nat) : Int) := by decide +kernel
section
variable {E : Oracle} (g : Good E)
include g
set_option maxRecDepth 100000
omit g in
theorem digit1 {k : Nat} (h : k < 7) : digitsF 20 ((k : Int) + 1).toNat = [UInt8.ofNat (49 + k)] := by
  have e : ((k : Int) + 1).toNat = k + 1 := by omega
  rw [e]
  show (if k + 1 < 10 then [UInt8.ofNat (48 + (k + 1))] else _) = _
  rw [if_pos (by omega), show 48 + (k + 1) = 49 + k by omega]
omit g in
def maskK (m : Nat) (k : Nat) : List UInt8 := (List.range k).map fun w => if m / 2 ^ w % 2 = 1 then UInt8.ofNat (49 + w) else 48
omit g in
theorem maskK_succ (m k : Nat) : maskK m (k + 1) = maskK m k ++ [if m / 2 ^ k % 2 = 1 then UInt8.ofNat (49 + k) else 48] := by simp [maskK, List.range_succ]
omit g in
theorem maskK_length (m k : Nat) : (maskK m k).length = k := by simp [maskK]
omit g in
def byD (l : List UInt8) : List D := l.map fun b => D.int .u8 b.toNat
omit g in
theorem bytesOf_byD : ∀ l : List UInt8, Evl.bytesOf (byD l) = some l
  | [] => rfl
  | b :: r => by
    have h := b.toNat_lt
    show (if 0 ≤ (b.toNat : Int) ∧ (b.toNat : Int) < 256 then (Evl.bytesOf (byD r)).map (UInt8.ofNat ((b.toNat : Int)).toNat :: ·) else none) = _
    rw [if_pos (by omega), bytesOf_byD r]
    simp
omit g in
theorem inM_nat (m k : Nat) : inM m k = decide (m / 2 ^ k % 2 = 1) := by
  unfold inM
  rw [Int.toNat_natCast]
  apply decide_eq_decide.2
  have e : ((m : Int) / 2 ^ k % 2) = ((m / 2 ^ k % 2 : Nat) : Int) := by
    rw [Int.natCast_emod, Int.natCast_ediv, Int.natCast_pow]; rfl
  rw [e]
  omega
end
end Go.Proofs.YtcephlgejkngiaaGreatDoor.Co
