
/-
  Digits: their bytes, numbers in so many digits; bytes that are added and taken away.
-/
import Derived.Test.YtcephlgejkngiaaGreatDoorSpOne
namespace Go.Proofs.YtcephlgejkngiaaGreatDoor.Co
open Go Go.Evl
def dig (n : Int) : UInt8 := UInt8.ofNat (48 + n.toNat)
def wideL : Nat → Int → List UInt8
  | 0, _ => []
  | k + 1, n => wideL k (n / 10) ++ [dig (n % 10)]
theorem wideL_length : ∀ (k : Nat) (n : Int), (wideL k n).length = k
  | 0, _ => rfl
  | k + 1, n => by simp [wideL, wideL_length k]
def dg (b : UInt8) : Prop := 48 ≤ b.toNat ∧ b.toNat ≤ 57
instance (b : UInt8) : Decidable (dg b) := by unfold dg; infer_instance
theorem two_digits : ∀ n : Fin 100, digitsF 20 ((n.val : Int) / 10).toNat ++ digitsF 20 ((n.val : Int) % 10).toNat = wideL 2 n.val := by decide +kernel
theorem Wr.keep8 {x : Int} {K : Int → Prop} (h : 0 ≤ x ∧ x ≤ 255) (k : K x) : Wr .u8 x K := ⟨by
  have : IntKind.u8.wrap x = x := by
    have hb : IntKind.u8.wrap x = x % 256 := by simp [IntKind.wrap, IntKind.signed, IntKind.bits]
    rw [hb]; omega
  rw [this]; exact k⟩
section
variable {E : Oracle} (g : Good E)
include g
theorem s_Itoa (n : Int) (h : 0 ≤ n ∧ n ≤ 9223372036854775807) : Fc E n_strconv_Itoa [I n] (S (digitsF 20 n.toNat)) :=
  Fc.extern g.lim (x := itoaX) rfl (v := S (digitsF 20 n.toNat)) (m' := []) (by simp only [itoaX]; rw [if_pos h]) rfl
theorem r_digit (n : Int) (h : 0 ≤ n ∧ n ≤ 9) : Fc E n_ref01_digit [I n] (S [dig n]) := by
  refine g.fn code_ref01_digit rfl ?_
  have hc : n = 0 ∨ n = 1 ∨ n = 2 ∨ n = 3 ∨ n = 4 ∨ n = 5 ∨ n = 6 ∨ n = 7 ∨ n = 8 ∨ n = 9 := by omega
  rcases hc with rfl | rfl | rfl | rfl | rfl | rfl | rfl | rfl | rfl | rfl
  all_goals repeat' ((conv => whnf); first
  | refine Br.tt ?_ | refine Br.ff ?_ | refine Need.w ?_ | refine Wr.w ?_ | refine Cmp.t ?_ | refine Cmp.f ?_ | refine Rem.w ?_ | refine Quo.w ?_ | refine PickV.now rfl ?_ | refine Pick.now rfl ?_ | refine Chk.mk rfl ?_ | refine PickW.w rfl ?_
    | (refine Bounds.mk (by decide) ?_)
    | (refine Ret.mk rfl))
end
end Go.Proofs.YtcephlgejkngiaaGreatDoor.Co
