
/-
  A row that a call leaves comes into the caller's memory.
-/
import Derived.Test.YtgpgcadcpogcbaaGreatDoorSpBase
namespace Go.Proofs.YtgpgcadcpogcbaaGreatDoor.Co
open Go Go.Evl
theorem settle_row {cx : Cx} {slot lo : Nat} {old m : Mem} {o : Evl.Id} {off l top : Nat} {wr : Bool} {t sz n : Nat} {xs : List D} (hlo : lo ≤ o.lv) (hl : Evl.look m o = some (.row wr t sz n xs)) :
    Go.Evl.settle cx slot lo old m (.ref o off l top) = some (.ref ⟨cx.lv, slot, Go.Evl.freeK cx.lv slot old⟩ off l top, old ++ [(⟨cx.lv, slot, Go.Evl.freeK cx.lv slot old⟩, .row wr t sz n xs)]) := by
  have hr : Go.Evl.reach lo m 64 (Go.Evl.ids (.ref o off l top)) [] = [o] := by
    simp [Go.Evl.ids, Go.Evl.reach, hlo, hl, Go.Evl.idsO]
  unfold Go.Evl.settle
  simp only [hr]
  rw [if_pos (by simp [Go.Evl.within, Go.Evl.movable, Go.Evl.onceB, Go.Evl.ids, hl, hlo, Go.Evl.idsO, Go.Evl.isLoop])]
  simp [Go.Evl.number, Go.Evl.ren, Go.Evl.subst, Go.Evl.moved, hl, Go.Evl.renO]
theorem Some'.row {cx : Cx} {slot lo : Nat} {old m : Mem} {o : Evl.Id} {off l top : Nat} {wr : Bool} {t sz n : Nat} {xs : List D} {K : V × Mem → Prop} (hlo : lo ≤ o.lv) (hl : Evl.look m o = some (.row wr t sz n xs))
    (k : K (.ref ⟨cx.lv, slot, Go.Evl.freeK cx.lv slot old⟩ off l top, old ++ [(⟨cx.lv, slot, Go.Evl.freeK cx.lv slot old⟩, .row wr t sz n xs)])) : Some' (Go.Evl.settle cx slot lo old m (.ref o off l top)) K := ⟨_, settle_row hlo hl, k⟩
end Go.Proofs.YtgpgcadcpogcbaaGreatDoor.Co
