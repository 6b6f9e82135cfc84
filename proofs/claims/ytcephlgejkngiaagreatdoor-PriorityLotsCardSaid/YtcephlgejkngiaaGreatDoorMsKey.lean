
/-
  Names as the keys of a map, and the lists of names.
-/
import Derived.Test.YtcephlgejkngiaaGreatDoorSpBase
namespace Go.Proofs.YtcephlgejkngiaaGreatDoor.Co
open Go Go.Evl
def keysL (ns : List (List UInt8)) : List (D × V) := ns.map fun s => (.str s, B true)
theorem find_keys (s : List UInt8) : ∀ ns : List (List UInt8), findE (.str s) (keysL ns) = some (if s ∈ ns then some (B true) else none)
  | [] => rfl
  | t :: r => by
    have ih := find_keys s r
    unfold keysL at ih ⊢
    rw [List.map_cons, findE]
    simp only [eqD]
    by_cases h : s = t
    · subst h; simp
    · have e : (s == t) = false := beq_eq_false_iff_ne.2 h
      rw [e]
      simp only [ih, List.mem_cons, h, false_or]
theorem ids_keys : ∀ ns : List (List UInt8), Evl.idsM (keysL ns) = []
  | [] => rfl
  | _ :: r => by
    show [] ++ Evl.idsM (keysL r) = []
    rw [ids_keys r]; rfl
theorem set_keys (s : List UInt8) : ∀ ns : List (List UInt8), s ∉ ns → setE (.str s) (B true) (keysL ns) = some (keysL (ns ++ [s]))
  | [], _ => rfl
  | t :: r, h => by
    have ih := set_keys s r fun hm => h (List.mem_cons_of_mem _ hm)
    have hne : s ≠ t := fun e => h (by simp [e])
    unfold keysL at ih ⊢
    rw [List.map_cons, setE]
    have e : (s == t) = false := beq_eq_false_iff_ne.2 hne
    simp only [eqD, e, ih, Option.map_some, List.cons_append, List.map_cons]
open Go Go.Evl
theorem settle_row {cx : Cx} {slot lo : Nat} {old m : Mem} {o : Evl.Id} {off l top : Nat} {wr : Bool} {t sz n : Nat} {xs : List D} (hlo : lo ≤ o.lv) (hl : Evl.look m o = some (.row wr t sz n xs)) :
    Go.Evl.settle cx slot lo old m (.ref o off l top) = some (.ref ⟨cx.lv, slot, Go.Evl.freeK cx.lv slot old⟩ off l top, old ++ [(⟨cx.lv, slot, Go.Evl.freeK cx.lv slot old⟩, .row wr t sz n xs)]) := by
  have hr : Go.Evl.reach lo m 64 (Go.Evl.ids (.ref o off l top)) [] = [o] := by
    simp [Go.Evl.ids, Go.Evl.reach, hlo, hl, Go.Evl.idsO]
  unfold Go.Evl.settle
  simp only [hr]
  rw [if_pos (by simp [Go.Evl.within, Go.Evl.movable, Go.Evl.onceB, Go.Evl.ids, hl, hlo, Go.Evl.idsO, Go.Evl.isLoop])]
  simp [Go.Evl.number, Go.Evl.ren, Go.Evl.subst, Go.Evl.moved, hl, Go.Evl.renO]
theorem Some'.row {cx : Cx} {slot lo : Nat} {old m : Mem} {o : Evl.Id} {off l top : Nat} {wr : Bool} {t sz n : Nat} {xs : List D} {K : V × Mem → Prop} (hlo : lo ≤ o.lv) (hl : Evl.look m o = some (.row wr t sz n xs))
    (k : K (.ref ⟨cx.lv, slot, Go.Evl.freeK cx.lv slot old⟩ off l top, old ++ [(⟨cx.lv, slot, Go.Evl.freeK cx.lv slot old⟩, .row wr t sz n xs)])) : Some' (Go.Evl.settle cx slot lo old m (.ref o off l top)) K := ⟨_, settle_row hlo hl, k⟩
end Go.Proofs.YtcephlgejkngiaaGreatDoor.Co
