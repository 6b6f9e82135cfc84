/-
  The seat's program and its form in the evaluator's syntax agree (computed by the kernel); the functions of Go's library that are given whole.
-/
import Derived.Test.YtmbofbehkalgkaaGreatDoorEvExt
import Derived.Test.YtmbofbehkalgkaaGreatDoorEvSrs
import Derived.Test.YtmbofbehkalgkaaGreatDoorEvSf
import Derived.Test.YtmbofbehkalgkaaGreatDoorSfN
import Derived.Test.YtmbofbehkalgkaaGreatDoorEvExu
import Derived.Test.YtmbofbehkalgkaaGreatDoorEvExs
import Derived.Test.YtmbofbehkalgkaaGreatDoorEvExs
import Derived.Test.YtmbofbehkalgkaaGreatDoorEvExs
import Derived.Test.YtmbofbehkalgkaaGreatDoorGood
import Derived.Test.YtmbofbehkalgkaaGreatDoorCopy
import Derived.Test.YtmbofbehkalgkaaGreatDoorShelf
namespace Go.Proofs.YtmbofbehkalgkaaGreatDoor.Co
open Go Go.Evl
def globsM (mx : Int) : Globs := (0, [.int .i64 mx]) :: globs
set_option maxRecDepth 100000 in
theorem codes_ok (mx : Int) : (codes.all fun p => okCF Tryz.prog (globsM mx) p.1 p.2) = true := by kernel_rfl
theorem code_ok (mx : Int) : CodeOk Tryz.prog (globsM mx) code := fun f cf h => by
  have := List.all_eq_true.1 (codes_ok mx) _ (findC_mem f cf codes h)
  exact this
theorem enters (f : Nat) (h : (Tryz.prog.funcs[f]?.map fun fn => fn.name != "runtime.NumGoroutine" && fn.body.isSome) = some true) : Evl.Enters Tryz.prog f := by
  cases hf : Tryz.prog.funcs[f]? with
  | none => rw [hf] at h; cases h
  | some fn =>
    rw [hf] at h
    simp only [Option.map_some, Option.some.injEq, Bool.and_eq_true, bne_iff_ne, ne_eq] at h
    exact ⟨fn, hf, h.1, fun e => by rw [e] at h; simp at h⟩
theorem mixed : Tryz.prog.follows .mixedOrders = true := by kernel_rfl
theorem exts_ok (mx : Int) : ∀ p ∈ exts, GivenOk Tryz.prog (globsM mx) p.1 p.2 := by
  unfold exts
  refine List.forall_mem_cons.2 ⟨given_itoa Tryz.laysM171 (f := n_strconv_Itoa) rfl (enters _ (by kernel_rfl)) (g := 1) (by kernel_rfl) (by unfold globsM globs; repeat (first | exact List.Mem.head _ | apply List.Mem.tail)), ?_⟩
  refine List.forall_mem_cons.2 ⟨given_copyCheck (enters _ (by kernel_rfl)) Copy.used Copy.fresh, ?_⟩
  refine List.forall_mem_cons.2 ⟨given_string Tryz.lays169 Tryz.Builder_Extra_169 (f := n_strings_Builder_String) rfl rfl rfl (enters _ (by kernel_rfl)), ?_⟩
  refine List.forall_mem_cons.2 ⟨given_sortS Tryz.lays190 (f := n_slices_Sort_Lstring_string) rfl (enters _ (by kernel_rfl)), ?_⟩
  refine List.forall_mem_cons.2 ⟨given_sortF (cell := Nte.cells) (dec := decN) (k := 4) (cf := cfN) (f := n_office_Gather_1) (fun _ => rfl) (by decide) (fun x d hd => by simp only [Nte.cells, List.mem_cons, List.not_mem_nil, or_false] at hd; rcases hd with rfl | rfl | rfl | rfl <;> rfl) decN_eq swo_N Tryz.laySortN Tryz.isAgg29 Tryz.sizeOf29 mixed (code_ok mx) clos_N (fn := n_slices_SortFunc_Loffice_Note_office_Note) rfl (enters _ (by kernel_rfl)) (enters _ (by kernel_rfl)), ?_⟩
  refine List.forall_mem_cons.2 ⟨given_atoi Tryz.laysC172 (g1 := 2) (g2 := 3) (by kernel_rfl) (by kernel_rfl) (by unfold globsM globs; repeat (first | exact List.Mem.head _ | apply List.Mem.tail)) (by unfold globsM globs; repeat (first | exact List.Mem.head _ | apply List.Mem.tail)) (f := n_strconv_Atoi) rfl (enters _ (by kernel_rfl)) clkOff, ?_⟩
  refine List.forall_mem_cons.2 ⟨given_repeat Tryz.lays105 Tryz.Builder_Extra_105 (f := n_strings_Repeat) rfl (enters _ (by kernel_rfl)) clkOff, ?_⟩
  refine List.forall_mem_cons.2 ⟨given_split Tryz.lays146 (by kernel_rfl) (g := 0) (mx := mx) (by kernel_rfl) (List.Mem.head _) (f := n_strings_Split) rfl (enters _ (by kernel_rfl)), ?_⟩
  refine List.forall_mem_cons.2 ⟨given_join Tryz.lays156 Tryz.Builder_Extra_156 (f := n_strings_Join) rfl (enters _ (by kernel_rfl)) clkOff, ?_⟩
  refine List.forall_mem_cons.2 ⟨given_indexByte Tryz.lays217 (f := n_internal_stringslite_IndexByte) rfl (enters _ (by kernel_rfl)) clkOff, ?_⟩
  refine List.forall_mem_cons.2 ⟨given_suffixl Tryz.lays207 (f := n_internal_stringslite_HasSuffix) rfl (enters _ (by kernel_rfl)) clkOff, ?_⟩
  exact fun _ h => absurd h List.not_mem_nil
theorem ext_ok (mx : Int) : ExternOk Tryz.prog (globsM mx) ext := fun f x h => exts_ok mx (f, x) (findC_mem f x exts h)
end Go.Proofs.YtmbofbehkalgkaaGreatDoor.Co
