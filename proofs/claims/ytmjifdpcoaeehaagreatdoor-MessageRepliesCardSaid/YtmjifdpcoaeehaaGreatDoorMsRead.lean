
/-
  Messages: a line is read: what comes out.
-/
import Derived.Test.YtmjifdpcoaeehaaGreatDoorMsFld
import Derived.Test.YtmjifdpcoaeehaaGreatDoorMsSplt
namespace Go.Proofs.YtmjifdpcoaeehaaGreatDoor.Co
open Go Go.Evl
def numV (s : List UInt8) (w : Nat) : Int := if numB s w then valA 0 s else 0
def minW (s : List UInt8) : Int := if minP s then minV s else 0
def mskV (s : List UInt8) : Int := if isMaskT s then maskS s else 0
def undash (s : List UInt8) : List UInt8 := if s = [45] then [] else s
def dfit (s : List UInt8) : Bool := decide (s = [45]) || isNameB s
structure W14 where
  (a0 a1 a2 a3 a4 a5 a6 a7 a8 a9 a10 a11 a12 a13 : List UInt8)
def W14.list (w : W14) : List (List UInt8) := [w.a0, w.a1, w.a2, w.a3, w.a4, w.a5, w.a6, w.a7, w.a8, w.a9, w.a10, w.a11, w.a12, w.a13]
theorem w14_of {l : List (List UInt8)} (h : l.length = 14) : ∃ w : W14, l = w.list := by
  match l, h with
  | [a0, a1, a2, a3, a4, a5, a6, a7, a8, a9, a10, a11, a12, a13], _ => exact ⟨⟨a0, a1, a2, a3, a4, a5, a6, a7, a8, a9, a10, a11, a12, a13⟩, rfl⟩
def W14.fits (w : W14) : List Bool := [actB w.a0, isNameB w.a1, isNameB w.a2, kindB w.a3, isNameB w.a4, numB w.a5 5, numB w.a6 5, decide (isMaskT w.a7), decide (minP w.a8), numB w.a9 3, numB w.a10 1, numB w.a11 2, dfit w.a12, dfit w.a13]
def W14.line (w : W14) : Lnt := ⟨w.a0, ⟨w.a2, w.a1, w.a3, undash w.a12, w.a4, undash w.a13, numV w.a5 5, numV w.a6 5, mskV w.a7, minW w.a8, numV w.a9 3, numV w.a10 1, numV w.a11 2⟩⟩
def firstF : List Bool → Nat
  | [] => 0
  | true :: r => firstF r + 1
  | false :: _ => 0
abbrev zeroL : List D := [.str [], .str [], .str [], .str [], .str [], .str [], .str [], DI 0, DI 0, DI 0, DI 0, DI 0, DI 0, DI 0]
def resF (bs : List Bool) (cs : List D) (c : Int) : V :=
  if firstF bs = 14 then (if c = 0 then .tup [.d (.agg cs), I 0, I 0] else .tup [.d (.agg zeroL), I 14, I c]) else .tup [.d (.agg zeroL), I (firstF bs : Nat), I 25]
def resW (w : W14) : V := resF w.fits w.line.cells (chkLn w.line)
theorem Br.not {b : Bool} {A B : Prop} (ht : b = false → A) (hf : b = true → B) : Br (!b) A B := by
  cases b
  · exact ⟨fun _ => ht rfl, fun h => nomatch h⟩
  · exact ⟨fun h => (nomatch h), fun _ => hf rfl⟩
theorem Cmp.b25 {b : Bool} {A B : Prop} (ht : b = true → A) (hf : b = false → B) : Cmp ((if b = true then (0 : Int) else 25) = 0) A B := by
  cases b
  · exact ⟨fun h => by simp at h, fun _ => hf rfl⟩
  · exact ⟨fun _ => ht rfl, fun h => by simp at h⟩
theorem Cmp.dash {a u : List UInt8} {d bn : Bool} {A B : Prop} (e : d = (decide (a = [45]) || bn)) (hu : u = undash a) (ht : a = [45] → d = true → u = [] → A) (hf : a ≠ [45] → d = bn → u = a → B) : Cmp (a = [45]) A B :=
  ⟨fun h => ht h (by rw [e, decide_eq_true h]; rfl) (by rw [hu, undash, if_pos h]), fun h => hf h (by rw [e, decide_eq_false h]; rfl) (by rw [hu, undash, if_neg h])⟩
end Go.Proofs.YtmjifdpcoaeehaaGreatDoor.Co
