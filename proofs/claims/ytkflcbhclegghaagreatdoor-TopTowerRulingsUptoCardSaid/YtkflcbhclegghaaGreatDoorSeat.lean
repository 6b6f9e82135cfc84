/-
  The seat's program and its form in the evaluator's syntax agree (computed by the kernel); the functions of Go's library that are given whole.
-/
import Derived.Test.YtkflcbhclegghaaGreatDoorEvExt
import Derived.Test.YtkflcbhclegghaaGreatDoorEvSrs
import Derived.Test.YtkflcbhclegghaaGreatDoorEvSf
import Derived.Test.YtkflcbhclegghaaGreatDoorSfW
import Derived.Test.YtkflcbhclegghaaGreatDoorEvExu
import Derived.Test.YtkflcbhclegghaaGreatDoorEvKg
import Derived.Test.YtkflcbhclegghaaGreatDoorEvExs
import Derived.Test.YtkflcbhclegghaaGreatDoorEvExs
import Derived.Test.YtkflcbhclegghaaGreatDoorGood
import Derived.Test.YtkflcbhclegghaaGreatDoorCopy
import Derived.Test.YtkflcbhclegghaaGreatDoorShelf
namespace Go.Proofs.YtkflcbhclegghaaGreatDoor.Co
open Go Go.Evl
def globsM(mx:Int):Globs:=(0,[.int .i64 mx])::globs
set_option maxRecDepth 100000 in
theorem codes_ok(mx:Int):(codes.all λp=>okCF Tryz.prog (globsM mx) p.1 p.2)=true:=by kernel_rfl
theorem code_ok(mx:Int):CodeOk Tryz.prog (globsM mx) code:=λf cf h=>by
  have:=List.all_eq_true.1 (codes_ok mx) _ (findC_mem f cf codes h)
  exact this
theorem enters(f:Nat)(h:(Tryz.prog.funcs[f]?.map λfn=>fn.name != "runtime.NumGoroutine" && fn.body.isSome)=some true):Evl.Enters Tryz.prog f:=by
  cases hf:Tryz.prog.funcs[f]? with
  |none=>rw[hf]at h; cases h
  |some fn=>
    rw[hf]at h
    simp only[Option.map_some,Option.some.injEq,Bool.and_eq_true,bne_iff_ne,ne_eq]at h
    exact⟨fn,hf,h.1,λe=>by rw[e]at h; simp at h⟩
theorem mixed:Tryz.prog.follows .mixedOrders=true:=by kernel_rfl
theorem exts_ok(mx:Int):∀ p ∈ exts,GivenOk Tryz.prog (globsM mx) p.1 p.2:=by
  unfold exts
  refine List.forall_mem_cons.2 ⟨given_itoa Tryz.laysM171 (f:=n_strconv_Itoa) rfl (enters _ (by kernel_rfl)) (g:=1) (by kernel_rfl) (by unfold globsM globs; repeat(first|exact List.Mem.head _|apply List.Mem.tail)),?_⟩
  refine List.forall_mem_cons.2 ⟨given_copyCheck (enters _ (by kernel_rfl)) Copy.used Copy.fresh,?_⟩
  refine List.forall_mem_cons.2 ⟨given_string Tryz.lays169 Tryz.Builder_Extra_169 (f:=n_strings_Builder_String) rfl rfl rfl (enters _ (by kernel_rfl)),?_⟩
  refine List.forall_mem_cons.2 ⟨given_sortS Tryz.lays190 (f:=n_slices_Sort_Lstring_string) rfl (enters _ (by kernel_rfl)),?_⟩
  refine List.forall_mem_cons.2 ⟨given_sortF (cell:=wndC) (dec:=decW) (k:=2) (cf:=cfW) (f:=n_allocate_board_refusing_1) (λ_=>rfl) (by decide) (λx d hd=>by simp only[wndC,List.mem_cons,List.not_mem_nil,or_false]at hd; rcases hd with rfl|rfl <;>rfl) decW_eq swo_W Tryz.laySortW Tryz.isAgg160 Tryz.sizeOf160 mixed (code_ok mx) clos_W (fn:=n_slices_SortFunc_Lallocate_window_allocate_window) rfl (enters _ (by kernel_rfl)) (enters _ (by kernel_rfl)),?_⟩
  refine List.forall_mem_cons.2 ⟨given_atoi Tryz.laysC172 (g1:=2) (g2:=3) (by kernel_rfl) (by kernel_rfl) (by unfold globsM globs; repeat(first|exact List.Mem.head _|apply List.Mem.tail)) (by unfold globsM globs; repeat(first|exact List.Mem.head _|apply List.Mem.tail)) (f:=n_strconv_Atoi) rfl (enters _ (by kernel_rfl)) clkOff,?_⟩
  refine List.forall_mem_cons.2 ⟨given_compare Tryz.lays106 (f:=n_strings_Compare) rfl (enters _ (by kernel_rfl)) clkOff,?_⟩
  refine List.forall_mem_cons.2 ⟨given_split Tryz.lays146 (by kernel_rfl) (g:=0) (mx:=mx) (by kernel_rfl) (List.Mem.head _) (f:=n_strings_Split) rfl (enters _ (by kernel_rfl)),?_⟩
  refine List.forall_mem_cons.2 ⟨given_join Tryz.lays156 Tryz.Builder_Extra_156 (f:=n_strings_Join) rfl (enters _ (by kernel_rfl)) clkOff,?_⟩
  refine List.forall_mem_cons.2 ⟨given_indexByte Tryz.lays217 (f:=n_internal_stringslite_IndexByte) rfl (enters _ (by kernel_rfl)) clkOff,?_⟩
  exact λ_ h=>absurd h List.not_mem_nil
theorem ext_ok(mx:Int):ExternOk Tryz.prog (globsM mx) ext:=λf x h=>exts_ok mx (f,x) (findC_mem f x exts h)
end Go.Proofs.YtkflcbhclegghaaGreatDoor.Co
