
/-
  Names: what both IsName give.
-/
import Derived.Test.YtddpjjaebkaggabGreatDoorSpOne
import Derived.Laws.RangeAny
namespace Go.Proofs.YtddpjjaebkaggabGreatDoor.Co
open Go Go.Evl
theorem PickB.at {s : List UInt8} {i : Nat} {K : UInt8 → Prop} (k : Nat) (hi : i = k) (h : k < s.length) (hk : K (s.getD k 0)) : PickB s i K := by
  subst hi
  exact ⟨⟨_, by simp [List.getD, h], hk⟩⟩
theorem NextW.asc {s : List UInt8} {k : Nat} {a : Int → Nat → Prop} {b : Prop} (h : k < s.length) (ha : (s.getD k 0).toNat < 128) (hk : a (s.getD k 0).toNat 1) : NextW s k a b := by
  refine ⟨fun _ => ?_, fun hn => absurd h hn⟩
  have e : (s.getD k 0) = s[k] := by simp [List.getD, h]
  have hd := decode_ascii ⟨s.toArray⟩ k (by simpa [ByteArray.size] using h) (by rw [e] at ha; exact ha)
  rw [hd]
  rw [e] at hk
  exact hk
theorem NextW.high {s : List UInt8} {k : Nat} {a : Int → Nat → Prop} {b : Prop} (h : k < s.length) (ha : 128 ≤ (s.getD k 0).toNat) (hk : ∀ (c : Int) (w : Nat), 128 ≤ c → 1 ≤ w → a c w) : NextW s k a b := by
  refine ⟨fun _ => ?_, fun hn => absurd h hn⟩
  have e : (s.getD k 0) = s[k] := by simp [List.getD, h]
  have hd := decode_high ⟨s.toArray⟩ k (by simpa [ByteArray.size] using h) (by rw [e] at ha; exact ha)
  exact hk _ _ (by omega) hd.2
theorem NextW.end' {s : List UInt8} {k : Nat} {a : Int → Nat → Prop} {b : Prop} (h : s.length ≤ k) (hk : b) : NextW s k a b := ⟨fun hn => absurd hn (by omega), fun _ => hk⟩
def okCh (k : Nat) (b : UInt8) : Prop := (65 ≤ b.toNat ∧ b.toNat ≤ 90) ∨ (97 ≤ b.toNat ∧ b.toNat ≤ 122) ∨ (0 < k ∧ (b.toNat = 95 ∨ (48 ≤ b.toNat ∧ b.toNat ≤ 57)))
instance (k : Nat) (b : UInt8) : Decidable (okCh k b) := by unfold okCh; infer_instance
def nameP (s : List UInt8) : Prop := 0 < s.length ∧ s.length ≤ 24 ∧ ∀ i, i < s.length → okCh i (s.getD i 0)
instance (s : List UInt8) : Decidable (nameP s) := by unfold nameP; infer_instance
def isNameB (s : List UInt8) : Bool := decide (nameP s)
theorem isName_no {s : List UInt8} {k : Nat} (hk : k < s.length) (h : ¬ okCh k (s.getD k 0)) : isNameB s = false := decide_eq_false fun hn => h (hn.2.2 k hk)
section
variable {E : Oracle} (g : Good E)
include g
end
end Go.Proofs.YtddpjjaebkaggabGreatDoor.Co
