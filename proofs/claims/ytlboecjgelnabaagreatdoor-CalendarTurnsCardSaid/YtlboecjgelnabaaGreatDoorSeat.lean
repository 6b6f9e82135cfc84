
/-
  The seat's program and its form in the evaluator's syntax agree (computed by the kernel); the functions of Go's library that are given whole.
-/
import Derived.Test.YtlboecjgelnabaaGreatDoorEvExt
import Derived.Test.YtlboecjgelnabaaGreatDoorEvExu
import Derived.Test.YtlboecjgelnabaaGreatDoorCo
import Derived.Test.YtlboecjgelnabaaGreatDoorCopy
import Derived.Test.YtlboecjgelnabaaGreatDoorShelf
namespace Go.Proofs.YtlboecjgelnabaaGreatDoor.Co
open Go Go.Evl

def exts : List (Nat × (List V → Mem → Option (V × Mem))) := [
  (n_strconv_Itoa, itoaX),
  (n_strings_Builder_copyCheck, copyX ty_strings_Builder),
  (n_strings_Builder_String, stringX ty_strings_Builder ty_uint8),
  (n_slices_Sort_Lint_int, sortX),
  (n_strconv_Atoi, atoiX),
  (n_strings_Trim, trimX)]
def ext : Extern := fun f => findC f exts

set_option maxRecDepth 100000 in
theorem codes_ok : (codes.all fun p => okCF Tryz.prog globs p.1 p.2) = true := by decide +kernel
theorem code_ok : CodeOk Tryz.prog globs code := fun f cf h => by
  have := List.all_eq_true.1 codes_ok _ (findC_mem f cf codes h)
  exact this

theorem enters (f : Nat) (h : (Tryz.prog.funcs[f]?.map fun fn => fn.name != "runtime.NumGoroutine" && fn.body.isSome) = some true) : Evl.Enters Tryz.prog f := by
  cases hf : Tryz.prog.funcs[f]? with
  | none => rw [hf] at h; cases h
  | some fn =>
    rw [hf] at h
    simp only [Option.map_some, Option.some.injEq, Bool.and_eq_true, bne_iff_ne, ne_eq] at h
    exact ⟨fn, hf, h.1, fun e => by rw [e] at h; simp at h⟩

theorem ext_ok : ExternOk Tryz.prog globs ext := fun f x h => by
  have hm := findC_mem f x exts h
  simp only [exts, List.mem_cons, Prod.mk.injEq, List.not_mem_nil, or_false] at hm
  rcases hm with ⟨rfl, rfl⟩ | ⟨rfl, rfl⟩ | ⟨rfl, rfl⟩ | ⟨rfl, rfl⟩ | ⟨rfl, rfl⟩ | ⟨rfl, rfl⟩
  · exact given_itoa Tryz.laysM171 (f := n_strconv_Itoa) rfl (enters _ (by kernel_rfl)) (g := 3) (by kernel_rfl) (by unfold globs; repeat (first | exact List.Mem.head _ | apply List.Mem.tail))
  · exact given_copyCheck (enters _ (by kernel_rfl)) Copy.used Copy.fresh
  · exact given_string Tryz.lays169 Tryz.Builder_Extra_169 (f := n_strings_Builder_String) rfl rfl rfl (enters _ (by kernel_rfl))
  · exact given_sort Tryz.lays189 (f := n_slices_Sort_Lint_int) rfl (enters _ (by kernel_rfl))
  · exact given_atoi Tryz.lays172 (f := n_strconv_Atoi) rfl (enters _ (by kernel_rfl))
  · exact given_trim Tryz.lays160 (by kernel_rfl) (f := n_strings_Trim) rfl (enters _ (by kernel_rfl))

theorem mixed : Tryz.prog.follows .mixedOrders = true := by kernel_rfl

/-- What is asked of an oracle by the texts that follow. -/
structure Good (E : Oracle) : Prop where
  lim : Lim code ext E

theorem exists_good : ∃ E, Good E := (exists_lim code ext).imp fun _ h => ⟨h⟩

end Go.Proofs.YtlboecjgelnabaaGreatDoor.Co

