
/-
  Is a weekday in a mask? Calls whose results live in the caller's memory.
-/
import Derived.Test.YtcephlgejkngiaaGreatDoorSpOne
namespace Go.Proofs.YtcephlgejkngiaaGreatDoor.Co
open Go Go.Evl
theorem and_one : ∀ (m : Fin 128) (w : Fin 7), IntKind.i64.wrap ((BitVec.ofInt IntKind.i64.bits ((m.val : Int).fdiv (2 ^ (min (w.val : Int).toNat IntKind.i64.bits))) &&& BitVec.ofInt IntKind.i64.bits 1).toNat) = (m.val : Int) / 2 ^ (w.val : Int).toNat % 2 := by decide +kernel
theorem CallS.of {E : Oracle} {f : Nat} {args : List V} {cx : Cx} {slot : Nat} {m : Mem} {K : V → Mem → Prop} (h : In E 0 f args [] fun v m' => Some' (Go.Evl.settle cx slot 0 m m' v) fun p => K p.1 p.2) : CallS E f args cx slot m K := by
  obtain ⟨v, m', h1, p, h2, h3⟩ := h
  exact ⟨v, m', p, h1, h2, h3⟩
section
variable {E : Oracle} (g : Good E)
include g
theorem s_inMask (m w : Int) (hm : 0 ≤ m ∧ m ≤ 127) (hw : 0 ≤ w ∧ w ≤ 6) : Fc E n_calendar_inMask [I m, I w] (B (inM m w)) := by
  refine g.fn code_calendar_inMask rfl ?_
  have h := and_one ⟨m.toNat, by omega⟩ ⟨w.toNat, by omega⟩
  simp only [Int.toNat_of_nonneg hm.1, Int.toNat_of_nonneg hw.1] at h
  unfold inM
  by_cases hc : m / 2 ^ w.toNat % 2 = 1
  · repeat' ((conv => whnf); first
  | refine Br.tt ?_ | refine Br.ff ?_ | refine Need.w ?_ | refine Wr.w ?_ | refine Cmp.t ?_ | refine Cmp.f ?_ | refine Rem.w ?_ | refine Quo.w ?_ | refine PickV.now rfl ?_ | refine Pick.now rfl ?_ | refine Chk.mk rfl ?_ | refine PickW.w rfl ?_
      | (refine Cmp.tt (h.trans hc) ?_)
      | (refine Ret.mk ?_))
    simp [hc]
  · repeat' ((conv => whnf); first
  | refine Br.tt ?_ | refine Br.ff ?_ | refine Need.w ?_ | refine Wr.w ?_ | refine Cmp.t ?_ | refine Cmp.f ?_ | refine Rem.w ?_ | refine Quo.w ?_ | refine PickV.now rfl ?_ | refine Pick.now rfl ?_ | refine Chk.mk rfl ?_ | refine PickW.w rfl ?_
      | (refine Cmp.ff (fun e => hc (h.symm.trans e)) ?_)
      | (refine Ret.mk ?_))
    simp [hc]
end
end Go.Proofs.YtcephlgejkngiaaGreatDoor.Co
