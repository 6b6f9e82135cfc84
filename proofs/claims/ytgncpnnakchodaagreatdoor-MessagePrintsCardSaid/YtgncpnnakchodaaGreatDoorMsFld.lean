
/-
  Messages: the program's fields of a line, made by closures.
-/
import Derived.Test.YtgncpnnakchodaaGreatDoorMsWord
import Derived.KernelRfl
namespace Go.Proofs.YtgncpnnakchodaaGreatDoor.Co
open Go Go.Evl

/-- The fields, where they are made. -/
abbrev fldV0 : List V := [.fn n_message_text_1 [] [.ptr ⟨0, 1, 0⟩ 0 0], .fn n_message_text_2 [] [.ptr ⟨0, 1, 0⟩ 0 0, .ptr ⟨0, 1, 1⟩ 0 0], .fn n_message_text_1 [] [.ptr ⟨0, 2, 0⟩ 0 0], .fn n_message_text_2 [] [.ptr ⟨0, 2, 0⟩ 0 0, .ptr ⟨0, 2, 1⟩ 0 0], .fn n_message_text_1 [] [.ptr ⟨0, 3, 0⟩ 0 0], .fn n_message_text_2 [] [.ptr ⟨0, 3, 0⟩ 0 0, .ptr ⟨0, 3, 1⟩ 0 0], .fn n_message_text_1 [] [.ptr ⟨0, 4, 0⟩ 0 0], .fn n_message_text_2 [] [.ptr ⟨0, 4, 0⟩ 0 0, .ptr ⟨0, 4, 1⟩ 0 0], .fn n_message_text_1 [] [.ptr ⟨0, 5, 0⟩ 0 0], .fn n_message_text_2 [] [.ptr ⟨0, 5, 0⟩ 0 0, .ptr ⟨0, 5, 1⟩ 0 0], .fn n_message_digits_1 [] [.ptr ⟨0, 6, 0⟩ 0 0, .ptr ⟨0, 6, 1⟩ 0 0], .fn n_message_digits_2 [] [.ptr ⟨0, 6, 1⟩ 0 0, .ptr ⟨0, 6, 0⟩ 0 0], .fn n_message_digits_1 [] [.ptr ⟨0, 7, 0⟩ 0 0, .ptr ⟨0, 7, 1⟩ 0 0], .fn n_message_digits_2 [] [.ptr ⟨0, 7, 1⟩ 0 0, .ptr ⟨0, 7, 0⟩ 0 0], .fn n_message_fields_8 [] [], .fn n_message_fields_9 [] [], .fn n_message_fields_10 [] [], .fn n_message_fields_11 [] [], .fn n_message_digits_1 [] [.ptr ⟨0, 10, 0⟩ 0 0, .ptr ⟨0, 10, 1⟩ 0 0], .fn n_message_digits_2 [] [.ptr ⟨0, 10, 1⟩ 0 0, .ptr ⟨0, 10, 0⟩ 0 0], .fn n_message_digits_1 [] [.ptr ⟨0, 11, 0⟩ 0 0, .ptr ⟨0, 11, 1⟩ 0 0], .fn n_message_digits_2 [] [.ptr ⟨0, 11, 1⟩ 0 0, .ptr ⟨0, 11, 0⟩ 0 0], .fn n_message_digits_1 [] [.ptr ⟨0, 12, 0⟩ 0 0, .ptr ⟨0, 12, 1⟩ 0 0], .fn n_message_digits_2 [] [.ptr ⟨0, 12, 1⟩ 0 0, .ptr ⟨0, 12, 0⟩ 0 0], .fn n_message_dashed_1 [] [.ptr ⟨0, 13, 0⟩ 0 0], .fn n_message_dashed_2 [] [.ptr ⟨0, 13, 0⟩ 0 0], .fn n_message_dashed_1 [] [.ptr ⟨0, 14, 0⟩ 0 0], .fn n_message_dashed_2 [] [.ptr ⟨0, 14, 0⟩ 0 0]]
abbrev fldM0 : Mem := [(⟨0, 1, 0⟩, .cells ty_func_ptr_message_Line_ptr_string [.fn n_message_fields_1 [] []]), (⟨0, 1, 1⟩, .cells ty_func_string_bool [.fn n_message_isAction [] []]), (⟨0, 2, 0⟩, .cells ty_func_ptr_message_Line_ptr_string [.fn n_message_fields_2 [] []]), (⟨0, 2, 1⟩, .cells ty_func_string_bool [.fn n_calendar_IsName [] []]), (⟨0, 3, 0⟩, .cells ty_func_ptr_message_Line_ptr_string [.fn n_message_fields_3 [] []]), (⟨0, 3, 1⟩, .cells ty_func_string_bool [.fn n_calendar_IsName [] []]), (⟨0, 4, 0⟩, .cells ty_func_ptr_message_Line_ptr_string [.fn n_message_fields_4 [] []]), (⟨0, 4, 1⟩, .cells ty_func_string_bool [.fn n_message_isKind [] []]), (⟨0, 5, 0⟩, .cells ty_func_ptr_message_Line_ptr_string [.fn n_message_fields_5 [] []]), (⟨0, 5, 1⟩, .cells ty_func_string_bool [.fn n_calendar_IsName [] []]), (⟨0, 6, 0⟩, .cells ty_func_ptr_message_Line_ptr_int [.fn n_message_fields_6 [] []]), (⟨0, 6, 1⟩, .cells ty_int [.d (DI 5)]), (⟨0, 7, 0⟩, .cells ty_func_ptr_message_Line_ptr_int [.fn n_message_fields_7 [] []]), (⟨0, 7, 1⟩, .cells ty_int [.d (DI 5)]), (⟨0, 10, 0⟩, .cells ty_func_ptr_message_Line_ptr_int [.fn n_message_fields_12 [] []]), (⟨0, 10, 1⟩, .cells ty_int [.d (DI 3)]), (⟨0, 11, 0⟩, .cells ty_func_ptr_message_Line_ptr_int [.fn n_message_fields_13 [] []]), (⟨0, 11, 1⟩, .cells ty_int [.d (DI 1)]), (⟨0, 12, 0⟩, .cells ty_func_ptr_message_Line_ptr_int [.fn n_message_fields_14 [] []]), (⟨0, 12, 1⟩, .cells ty_int [.d (DI 2)]), (⟨0, 13, 0⟩, .cells ty_func_ptr_message_Line_ptr_string [.fn n_message_fields_15 [] []]), (⟨0, 14, 0⟩, .cells ty_func_ptr_message_Line_ptr_string [.fn n_message_fields_16 [] []])]
abbrev fldI0 : List Evl.Id := [⟨0, 1, 0⟩, ⟨0, 1, 1⟩, ⟨0, 2, 0⟩, ⟨0, 2, 1⟩, ⟨0, 3, 0⟩, ⟨0, 3, 1⟩, ⟨0, 4, 0⟩, ⟨0, 4, 1⟩, ⟨0, 5, 0⟩, ⟨0, 5, 1⟩, ⟨0, 6, 0⟩, ⟨0, 6, 1⟩, ⟨0, 7, 0⟩, ⟨0, 7, 1⟩, ⟨0, 10, 0⟩, ⟨0, 10, 1⟩, ⟨0, 11, 0⟩, ⟨0, 11, 1⟩, ⟨0, 12, 0⟩, ⟨0, 12, 1⟩, ⟨0, 13, 0⟩, ⟨0, 14, 0⟩]
/-- The fields, as a caller has them. -/
abbrev fldV (lv slot : Nat) : List V := [.fn n_message_text_1 [] [.ptr ⟨lv, slot, 0⟩ 0 0], .fn n_message_text_2 [] [.ptr ⟨lv, slot, 0⟩ 0 0, .ptr ⟨lv, slot, 1⟩ 0 0], .fn n_message_text_1 [] [.ptr ⟨lv, slot, 2⟩ 0 0], .fn n_message_text_2 [] [.ptr ⟨lv, slot, 2⟩ 0 0, .ptr ⟨lv, slot, 3⟩ 0 0], .fn n_message_text_1 [] [.ptr ⟨lv, slot, 4⟩ 0 0], .fn n_message_text_2 [] [.ptr ⟨lv, slot, 4⟩ 0 0, .ptr ⟨lv, slot, 5⟩ 0 0], .fn n_message_text_1 [] [.ptr ⟨lv, slot, 6⟩ 0 0], .fn n_message_text_2 [] [.ptr ⟨lv, slot, 6⟩ 0 0, .ptr ⟨lv, slot, 7⟩ 0 0], .fn n_message_text_1 [] [.ptr ⟨lv, slot, 8⟩ 0 0], .fn n_message_text_2 [] [.ptr ⟨lv, slot, 8⟩ 0 0, .ptr ⟨lv, slot, 9⟩ 0 0], .fn n_message_digits_1 [] [.ptr ⟨lv, slot, 10⟩ 0 0, .ptr ⟨lv, slot, 11⟩ 0 0], .fn n_message_digits_2 [] [.ptr ⟨lv, slot, 11⟩ 0 0, .ptr ⟨lv, slot, 10⟩ 0 0], .fn n_message_digits_1 [] [.ptr ⟨lv, slot, 12⟩ 0 0, .ptr ⟨lv, slot, 13⟩ 0 0], .fn n_message_digits_2 [] [.ptr ⟨lv, slot, 13⟩ 0 0, .ptr ⟨lv, slot, 12⟩ 0 0], .fn n_message_fields_8 [] [], .fn n_message_fields_9 [] [], .fn n_message_fields_10 [] [], .fn n_message_fields_11 [] [], .fn n_message_digits_1 [] [.ptr ⟨lv, slot, 14⟩ 0 0, .ptr ⟨lv, slot, 15⟩ 0 0], .fn n_message_digits_2 [] [.ptr ⟨lv, slot, 15⟩ 0 0, .ptr ⟨lv, slot, 14⟩ 0 0], .fn n_message_digits_1 [] [.ptr ⟨lv, slot, 16⟩ 0 0, .ptr ⟨lv, slot, 17⟩ 0 0], .fn n_message_digits_2 [] [.ptr ⟨lv, slot, 17⟩ 0 0, .ptr ⟨lv, slot, 16⟩ 0 0], .fn n_message_digits_1 [] [.ptr ⟨lv, slot, 18⟩ 0 0, .ptr ⟨lv, slot, 19⟩ 0 0], .fn n_message_digits_2 [] [.ptr ⟨lv, slot, 19⟩ 0 0, .ptr ⟨lv, slot, 18⟩ 0 0], .fn n_message_dashed_1 [] [.ptr ⟨lv, slot, 20⟩ 0 0], .fn n_message_dashed_2 [] [.ptr ⟨lv, slot, 20⟩ 0 0], .fn n_message_dashed_1 [] [.ptr ⟨lv, slot, 21⟩ 0 0], .fn n_message_dashed_2 [] [.ptr ⟨lv, slot, 21⟩ 0 0]]
abbrev fldM (lv slot : Nat) : Mem := [(⟨lv, slot, 0⟩, .cells ty_func_ptr_message_Line_ptr_string [.fn n_message_fields_1 [] []]), (⟨lv, slot, 1⟩, .cells ty_func_string_bool [.fn n_message_isAction [] []]), (⟨lv, slot, 2⟩, .cells ty_func_ptr_message_Line_ptr_string [.fn n_message_fields_2 [] []]), (⟨lv, slot, 3⟩, .cells ty_func_string_bool [.fn n_calendar_IsName [] []]), (⟨lv, slot, 4⟩, .cells ty_func_ptr_message_Line_ptr_string [.fn n_message_fields_3 [] []]), (⟨lv, slot, 5⟩, .cells ty_func_string_bool [.fn n_calendar_IsName [] []]), (⟨lv, slot, 6⟩, .cells ty_func_ptr_message_Line_ptr_string [.fn n_message_fields_4 [] []]), (⟨lv, slot, 7⟩, .cells ty_func_string_bool [.fn n_message_isKind [] []]), (⟨lv, slot, 8⟩, .cells ty_func_ptr_message_Line_ptr_string [.fn n_message_fields_5 [] []]), (⟨lv, slot, 9⟩, .cells ty_func_string_bool [.fn n_calendar_IsName [] []]), (⟨lv, slot, 10⟩, .cells ty_func_ptr_message_Line_ptr_int [.fn n_message_fields_6 [] []]), (⟨lv, slot, 11⟩, .cells ty_int [.d (DI 5)]), (⟨lv, slot, 12⟩, .cells ty_func_ptr_message_Line_ptr_int [.fn n_message_fields_7 [] []]), (⟨lv, slot, 13⟩, .cells ty_int [.d (DI 5)]), (⟨lv, slot, 14⟩, .cells ty_func_ptr_message_Line_ptr_int [.fn n_message_fields_12 [] []]), (⟨lv, slot, 15⟩, .cells ty_int [.d (DI 3)]), (⟨lv, slot, 16⟩, .cells ty_func_ptr_message_Line_ptr_int [.fn n_message_fields_13 [] []]), (⟨lv, slot, 17⟩, .cells ty_int [.d (DI 1)]), (⟨lv, slot, 18⟩, .cells ty_func_ptr_message_Line_ptr_int [.fn n_message_fields_14 [] []]), (⟨lv, slot, 19⟩, .cells ty_int [.d (DI 2)]), (⟨lv, slot, 20⟩, .cells ty_func_ptr_message_Line_ptr_string [.fn n_message_fields_15 [] []]), (⟨lv, slot, 21⟩, .cells ty_func_ptr_message_Line_ptr_string [.fn n_message_fields_16 [] []])]

section
variable {E : Oracle} (g : Good E)
include g
set_option maxRecDepth 100000

theorem s_fields : E (.call 0 n_message_fields [] []) = some (.val (.agg fldV0) ((⟨0, 0, 0⟩, .cells ty_14_message_field fldV0) :: fldM0)) := g.lim.of_iter 100 _ _ (by kernel_rfl)

omit g in
theorem settle_ptr {cx : Cx} {slot lo : Nat} {old m : Mem} {o : Evl.Id} {a b : Nat} (h : o.lv < lo) : Go.Evl.settle cx slot lo old m (.ptr o a b) = some (.ptr o a b, old) := by
  have h1 : ¬ lo ≤ o.lv := by omega
  have hr : Go.Evl.reach lo m 64 (Go.Evl.ids (.ptr o a b)) [] = [] := by
    simp [Go.Evl.ids, Go.Evl.reach, h1]
  unfold Go.Evl.settle
  simp only [hr]
  rw [if_pos (by simp [Go.Evl.within, Go.Evl.movable, Go.Evl.onceB, Go.Evl.ids, h])]
  simp [Go.Evl.number, Go.Evl.ren, Go.Evl.subst, Go.Evl.moved]
omit g in
theorem Some'.ptr {cx : Cx} {slot lo : Nat} {old m : Mem} {o : Evl.Id} {a b : Nat} {K : V × Mem → Prop} (h : o.lv < lo) (k : K (.ptr o a b, old)) : Some' (Go.Evl.settle cx slot lo old m (.ptr o a b)) K := ⟨_, settle_ptr h, k⟩

omit g in
theorem reach_fields : Go.Evl.reach 0 ((⟨0, 0, 0⟩, .cells ty_14_message_field fldV0) :: fldM0) 64 (Go.Evl.ids (.agg fldV0)) [] = fldI0 := by decide +kernel
omit g in
theorem fields_go : (Go.Evl.within fldI0 0 (Go.Evl.ids (.agg fldV0)) && Go.Evl.movable fldI0 0 ((⟨0, 0, 0⟩, .cells ty_14_message_field fldV0) :: fldM0)) = true := by decide +kernel
omit g in
theorem ren_fields (cx : Cx) (slot : Nat) : Go.Evl.ren (Go.Evl.number cx slot 0 fldI0) (.agg fldV0) = .agg (fldV cx.lv slot) := by rfl
omit g in
theorem moved_fields (cx : Cx) (slot : Nat) : Go.Evl.moved (Go.Evl.number cx slot 0 fldI0) ((⟨0, 0, 0⟩, .cells ty_14_message_field fldV0) :: fldM0) (Go.Evl.number cx slot 0 fldI0) = fldM cx.lv slot := by rfl
omit g in
theorem settle_fields {cx : Cx} {slot : Nat} {m : Mem} (hf : Go.Evl.freeK cx.lv slot m = 0) : Go.Evl.settle cx slot 0 m ((⟨0, 0, 0⟩, .cells ty_14_message_field fldV0) :: fldM0) (.agg fldV0) = some (.agg (fldV cx.lv slot), m ++ fldM cx.lv slot) := by
  unfold Go.Evl.settle
  simp only [reach_fields, hf, fields_go, if_true, ren_fields, moved_fields]
theorem CallS.fields {cx : Cx} {slot : Nat} {m : Mem} {K : V → Mem → Prop} (hf : Go.Evl.freeK cx.lv slot m = 0) (h : K (.agg (fldV cx.lv slot)) (m ++ fldM cx.lv slot)) : CallS E n_message_fields [] cx slot m K := by
  exact ⟨_, _, _, s_fields g, settle_fields hf, h⟩
end
end Go.Proofs.YtgncpnnakchodaaGreatDoor.Co

