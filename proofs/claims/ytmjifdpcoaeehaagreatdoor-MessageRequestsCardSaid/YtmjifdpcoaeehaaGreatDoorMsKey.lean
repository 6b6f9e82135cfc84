
/-
  Names as the keys of a map, and the lists of names.
-/
import Derived.Test.YtmjifdpcoaeehaaGreatDoorSpBase
namespace Go.Proofs.YtmjifdpcoaeehaaGreatDoor.Co
open Go Go.Evl
def keysL (ns : List (List UInt8)) : List (D × V) := ns.map fun s => (.str s, B true)
theorem find_keys (s : List UInt8) : ∀ ns : List (List UInt8), findE (.str s) (keysL ns) = some (if s ∈ ns then some (B true) else none)
  | [] => rfl
  | t :: r => by
    have ih := find_keys s r
    unfold keysL at ih ⊢
    rw [List.map_cons, findE]
    simp only [eqD]
    by_cases h : s = t
    · subst h; simp
    · have e : (s == t) = false := beq_eq_false_iff_ne.2 h
      rw [e]
      simp only [ih, List.mem_cons, h, false_or]
theorem ids_keys : ∀ ns : List (List UInt8), Evl.idsM (keysL ns) = []
  | [] => rfl
  | _ :: r => by
    show [] ++ Evl.idsM (keysL r) = []
    rw [ids_keys r]; rfl
theorem set_keys (s : List UInt8) : ∀ ns : List (List UInt8), s ∉ ns → setE (.str s) (B true) (keysL ns) = some (keysL (ns ++ [s]))
  | [], _ => rfl
  | t :: r, h => by
    have ih := set_keys s r fun hm => h (List.mem_cons_of_mem _ hm)
    have hne : s ≠ t := fun e => h (by simp [e])
    unfold keysL at ih ⊢
    rw [List.map_cons, setE]
    have e : (s == t) = false := beq_eq_false_iff_ne.2 hne
    simp only [eqD, e, ih, Option.map_some, List.cons_append, List.map_cons]
end Go.Proofs.YtmjifdpcoaeehaaGreatDoor.Co
