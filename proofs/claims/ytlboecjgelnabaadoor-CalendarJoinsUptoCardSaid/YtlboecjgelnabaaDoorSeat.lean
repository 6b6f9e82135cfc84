
/-
  The seat's program and its form in the evaluator's syntax agree (computed by the kernel); the functions of Go's library that are given whole.
-/
import Derived.Test.YtlboecjgelnabaaDoorEvExt
import Derived.Test.YtlboecjgelnabaaDoorCo
import Derived.Test.YtlboecjgelnabaaDoorCopy
import Derived.Test.YtlboecjgelnabaaDoorShelf
namespace Go.Proofs.YtlboecjgelnabaaDoor.Co
open Go Go.Evl

def exts : List (Nat × (List V → Mem → Option (V × Mem))) := [
  (n_strconv_Itoa, itoaX),
  (n_strings_Builder_copyCheck, copyX ty_strings_Builder),
  (n_strings_Builder_String, stringX ty_strings_Builder ty_uint8),
  (n_slices_Sort_Lint_int, sortX)]
def ext : Extern := fun f => findC f exts

set_option maxRecDepth 100000 in
theorem codes_ok : (codes.all fun p => okCF Tryd.prog globs p.1 p.2) = true := by decide +kernel
theorem code_ok : CodeOk Tryd.prog globs code := fun f cf h => by
  have := List.all_eq_true.1 codes_ok _ (findC_mem f cf codes h)
  exact this

theorem enters (f : Nat) (h : (Tryd.prog.funcs[f]?.map fun fn => fn.name != "runtime.NumGoroutine" && fn.body.isSome) = some true) : Evl.Enters Tryd.prog f := by
  cases hf : Tryd.prog.funcs[f]? with
  | none => rw [hf] at h; cases h
  | some fn =>
    rw [hf] at h
    simp only [Option.map_some, Option.some.injEq, Bool.and_eq_true, bne_iff_ne, ne_eq] at h
    exact ⟨fn, hf, h.1, fun e => by rw [e] at h; simp at h⟩

theorem ext_ok : ExternOk Tryd.prog globs ext := fun f x h => by
  have hm := findC_mem f x exts h
  simp only [exts, List.mem_cons, Prod.mk.injEq, List.not_mem_nil, or_false] at hm
  rcases hm with ⟨rfl, rfl⟩ | ⟨rfl, rfl⟩ | ⟨rfl, rfl⟩ | ⟨rfl, rfl⟩
  · exact given_itoa Tryd.laysM171 (f := n_strconv_Itoa) rfl (enters _ (by kernel_rfl)) (g := 1) (by kernel_rfl) (by unfold globs; repeat (first | exact List.Mem.head _ | apply List.Mem.tail))
  · exact given_copyCheck (enters _ (by kernel_rfl)) Copy.used Copy.fresh
  · exact given_string Tryd.lays169 Tryd.Builder_Extra_169 (f := n_strings_Builder_String) rfl rfl rfl (enters _ (by kernel_rfl))
  · exact given_sort Tryd.lays189 (f := n_slices_Sort_Lint_int) rfl (enters _ (by kernel_rfl))

theorem mixed : Tryd.prog.follows .mixedOrders = true := by kernel_rfl

/-- What is asked of an oracle by the texts that follow. -/
structure Good (E : Oracle) : Prop where
  lim : Lim code ext E

theorem exists_good : ∃ E, Good E := (exists_lim code ext).imp fun _ h => ⟨h⟩

end Go.Proofs.YtlboecjgelnabaaDoor.Co

