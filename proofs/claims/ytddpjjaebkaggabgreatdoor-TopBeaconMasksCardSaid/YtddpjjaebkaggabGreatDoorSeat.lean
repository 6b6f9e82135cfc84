/-
  The seat's program and its form in the evaluator's syntax agree (computed by the kernel); the functions of Go's library that are given whole.
-/
import Derived.Test.YtddpjjaebkaggabGreatDoorEvExt
import Derived.Test.YtddpjjaebkaggabGreatDoorEvSrt
import Derived.Test.YtddpjjaebkaggabGreatDoorEvExu
import Derived.Test.YtddpjjaebkaggabGreatDoorEvExs
import Derived.Test.YtddpjjaebkaggabGreatDoorGood
import Derived.Test.YtddpjjaebkaggabGreatDoorShelf
namespace Go.Proofs.YtddpjjaebkaggabGreatDoor.Co
open Go Go.Evl
def globsM (_ : Int) : Globs := globs
set_option maxRecDepth 100000 in
theorem codes_ok (mx : Int) : (codes.all fun p => okCF Tryz.prog (globsM mx) p.1 p.2) = true := by kernel_rfl
theorem code_ok (mx : Int) : CodeOk Tryz.prog (globsM mx) code := fun f cf h => by
  have := List.all_eq_true.1 (codes_ok mx) _ (findC_mem f cf codes h)
  exact this
theorem enters (f : Nat) (h : (Tryz.prog.funcs[f]?.map fun fn => fn.name != "runtime.NumGoroutine" && fn.body.isSome) = some true) : Evl.Enters Tryz.prog f := by
  cases hf : Tryz.prog.funcs[f]? with
  | none => rw [hf] at h; cases h
  | some fn =>
    rw [hf] at h
    simp only [Option.map_some, Option.some.injEq, Bool.and_eq_true, bne_iff_ne, ne_eq] at h
    exact ⟨fn, hf, h.1, fun e => by rw [e] at h; simp at h⟩
theorem exts_ok (mx : Int) : ∀ p ∈ exts, GivenOk Tryz.prog (globsM mx) p.1 p.2 := by
  unfold exts
  refine List.forall_mem_cons.2 ⟨given_itoa Tryz.laysM171 (f := n_strconv_Itoa) rfl (enters _ (by kernel_rfl)) (g := 3) (by kernel_rfl) (by unfold globsM globs; repeat (first | exact List.Mem.head _ | apply List.Mem.tail)), ?_⟩
  refine List.forall_mem_cons.2 ⟨given_sort Tryz.lays189 (f := n_slices_Sort_Lint_int) rfl (enters _ (by kernel_rfl)), ?_⟩
  refine List.forall_mem_cons.2 ⟨given_atoi Tryz.lays172 (f := n_strconv_Atoi) rfl (enters _ (by kernel_rfl)), ?_⟩
  refine List.forall_mem_cons.2 ⟨given_trim Tryz.lays160 (by kernel_rfl) (f := n_strings_Trim) rfl (enters _ (by kernel_rfl)), ?_⟩
  refine List.forall_mem_cons.2 ⟨given_indexByte Tryz.lays217 (f := n_internal_stringslite_IndexByte) rfl (enters _ (by kernel_rfl)), ?_⟩
  exact fun _ h => absurd h List.not_mem_nil
theorem ext_ok (mx : Int) : ExternOk Tryz.prog (globsM mx) ext := fun f x h => exts_ok mx (f, x) (findC_mem f x exts h)
theorem mixed : Tryz.prog.follows .mixedOrders = true := by kernel_rfl
end Go.Proofs.YtddpjjaebkaggabGreatDoor.Co
