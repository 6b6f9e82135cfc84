
/-
  The seat's program and its form in the evaluator's syntax agree (computed by the kernel); the functions of Go's library that are given whole.
-/
import Derived.Test.YtlboecjgelnabaaDoorEvExt
import Derived.Test.YtlboecjgelnabaaDoorCo
import Derived.Test.YtlboecjgelnabaaDoorCopy
import Derived.Test.YtlboecjgelnabaaDoorShelf
namespace Go.Proofs.YtlboecjgelnabaaDoor.Co
open Go Go.Evl

def exts : List (Nat × (List V → Mem → Option (V × Mem))) := [
  (n_strconv_Itoa, itoaX),
  (n_strings_Builder_copyCheck, copyX ty_strings_Builder),
  (n_strings_Builder_String, stringX ty_strings_Builder ty_uint8),
  (n_slices_Sort_Lint_int, sortX)]
def ext : Extern := fun f => findC f exts

set_option maxRecDepth 100000 in
theorem codes_ok : (codes.all fun p => okCF Tryd.prog globs p.1 p.2) = true := by decide +kernel
theorem code_ok : CodeOk Tryd.prog globs code := fun f cf h => by
  have := List.all_eq_true.1 codes_ok _ (findC_mem f cf codes h)
  exact this

theorem enters (f : Nat) (h : (Tryd.prog.funcs[f]?.map fun fn => fn.name != "runtime.NumGoroutine" && fn.body.isSome) = some true) : Evl.Enters Tryd.prog f := by
  cases hf : Tryd.prog.funcs[f]? with
  | none => rw [hf] at h; cases h
  | some fn =>
    rw [hf] at h
    simp only [Option.map_some, Option.some.injEq, Bool.and_eq_true, bne_iff_ne, ne_eq] at h
    exact ⟨fn, hf, h.1, fun e => by rw [e] at h; simp at h⟩

theorem mixed : Tryd.prog.follows .mixedOrders = true := by kernel_rfl

/-- What is asked of an oracle by the texts that follow. -/
structure Good (E : Oracle) : Prop where
  lim : Lim code ext E

theorem exists_good : ∃ E, Good E := (exists_lim code ext).imp fun _ h => ⟨h⟩

end Go.Proofs.YtlboecjgelnabaaDoor.Co

