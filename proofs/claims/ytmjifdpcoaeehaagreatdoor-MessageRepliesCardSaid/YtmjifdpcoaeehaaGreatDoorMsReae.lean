
/-
  Messages: how the program reads a line, field by field.
-/
import Derived.Test.YtmjifdpcoaeehaaGreatDoorMsRead
namespace Go.Proofs.YtmjifdpcoaeehaaGreatDoor.Co
open Go Go.Evl
abbrev envR (ws : List D) (i : Int) : Env := [(2, .ptr ⟨0, 2, 0⟩ 0 0), (5, .d (.list 14 ws)), (6, .ptr ⟨0, 6, 0⟩ 0 0), (7, .ptr ⟨0, 7, 0⟩ 0 0), (21, I i)]
abbrev memR (outs : List V) : Mem := (⟨0, 2, 0⟩, .cells ty_message_Line [.d (.str []), .d (.str []), .d (.str []), .d (.str []), .d (.str []), .d (.str []), .d (.str []), I 0, I 0, I 0, I 0, I 0, I 0, I 0]) :: (⟨0, 6, 0⟩, .cells ty_message_Line outs) :: (fldM 0 20 ++ [(⟨0, 7, 0⟩, .cells ty_14_message_field (fldV 0 20))])
abbrev keepR : List Evl.Id := [⟨0, 2, 0⟩, ⟨0, 6, 0⟩, ⟨0, 20, 0⟩, ⟨0, 20, 1⟩, ⟨0, 20, 2⟩, ⟨0, 20, 3⟩, ⟨0, 20, 4⟩, ⟨0, 20, 5⟩, ⟨0, 20, 6⟩, ⟨0, 20, 7⟩, ⟨0, 20, 8⟩, ⟨0, 20, 9⟩, ⟨0, 20, 10⟩, ⟨0, 20, 11⟩, ⟨0, 20, 12⟩, ⟨0, 20, 13⟩, ⟨0, 20, 14⟩, ⟨0, 20, 15⟩, ⟨0, 20, 16⟩, ⟨0, 20, 17⟩, ⟨0, 20, 18⟩, ⟨0, 20, 19⟩, ⟨0, 20, 20⟩, ⟨0, 20, 21⟩, ⟨0, 7, 0⟩]
abbrev ws14 (a0 a1 a2 a3 a4 a5 a6 a7 a8 a9 a10 a11 a12 a13 : List UInt8) : List D := [.str a0, .str a1, .str a2, .str a3, .str a4, .str a5, .str a6, .str a7, .str a8, .str a9, .str a10, .str a11, .str a12, .str a13]
section
variable {E : Oracle} (g : Good E)
include g
set_option maxRecDepth 100000
set_option maxHeartbeats 8000000 in
theorem rnd_R0 (a0 a1 a2 a3 a4 a5 a6 a7 a8 a9 a10 a11 a12 a13 : List UInt8) {b : Bool} {K : Ex → Env → Mem → Prop} {R : V} (hK : ∀ e m, K .ret e m = resultsW m e [.cell 2 (some 14), .tmp 3, .tmp 4] fun v => thawW m v fun d => Ret d R) (hs : Fc E n_message_isAction [S a0] (B b)) (hF : b = false → .tup [.d (.agg zeroL), I 0, I 25] = R)
    (ih : b = true → LoopW E ⟨0, 1⟩ [2, 5, 6, 7, 21] keepR b_message_ParseLine_1 (envR (ws14 a0 a1 a2 a3 a4 a5 a6 a7 a8 a9 a10 a11 a12 a13) 1) (memR [.d (.str a0), .d (.str []), .d (.str []), .d (.str []), .d (.str []), .d (.str []), .d (.str []), I 0, I 0, I 0, I 0, I 0, I 0, I 0]) K) : LoopW E ⟨0, 1⟩ [2, 5, 6, 7, 21] keepR b_message_ParseLine_1 (envR (ws14 a0 a1 a2 a3 a4 a5 a6 a7 a8 a9 a10 a11 a12 a13) 0) (memR [.d (.str []), .d (.str []), .d (.str []), .d (.str []), .d (.str []), .d (.str []), .d (.str []), I 0, I 0, I 0, I 0, I 0, I 0, I 0]) K := by
  refine LoopW.step g.lim ?_
  repeat' ((conv => whnf); first
  | refine Br.tt ?_
  | refine Br.ff ?_
  | refine Need.w ?_
  | refine Wr.w ?_
  | refine Cmp.t ?_
  | refine Cmp.f ?_
  | refine Rem.w ?_
  | refine Quo.w ?_
  | refine PickV.now rfl ?_
  | refine Pick.now rfl ?_
  | refine Chk.mk rfl ?_
  | refine PickW.w rfl ?_
    | (refine In.enter g.lim rfl code_message_text_2 ?_)
    | (refine In.enter g.lim rfl code_message_fields_1 ?_)
    | (refine Some'.ptr (by decide) ?_)
    | (refine CallI.of hs ?_)
    | (refine Need.mk ⟨rfl, by decide⟩ ?_)
    | (refine Br.not (fun hb => ?_) (fun hb => ?_))
    | (refine (hK _ _).mpr ?_)
    | (refine LoopW.to (ih (by assumption)) rfl rfl)
    | (refine Ret.mk (hF (by assumption))))
set_option maxHeartbeats 8000000 in
theorem rnd_R1 (a0 a1 a2 a3 a4 a5 a6 a7 a8 a9 a10 a11 a12 a13 : List UInt8) {b : Bool} {K : Ex → Env → Mem → Prop} {R : V} (hK : ∀ e m, K .ret e m = resultsW m e [.cell 2 (some 14), .tmp 3, .tmp 4] fun v => thawW m v fun d => Ret d R) (hs : Fc E n_calendar_IsName [S a1] (B b)) (hF : b = false → .tup [.d (.agg zeroL), I 1, I 25] = R)
    (ih : b = true → LoopW E ⟨0, 1⟩ [2, 5, 6, 7, 21] keepR b_message_ParseLine_1 (envR (ws14 a0 a1 a2 a3 a4 a5 a6 a7 a8 a9 a10 a11 a12 a13) 2) (memR [.d (.str a0), .d (.str []), .d (.str a1), .d (.str []), .d (.str []), .d (.str []), .d (.str []), I 0, I 0, I 0, I 0, I 0, I 0, I 0]) K) : LoopW E ⟨0, 1⟩ [2, 5, 6, 7, 21] keepR b_message_ParseLine_1 (envR (ws14 a0 a1 a2 a3 a4 a5 a6 a7 a8 a9 a10 a11 a12 a13) 1) (memR [.d (.str a0), .d (.str []), .d (.str []), .d (.str []), .d (.str []), .d (.str []), .d (.str []), I 0, I 0, I 0, I 0, I 0, I 0, I 0]) K := by
  refine LoopW.step g.lim ?_
  repeat' ((conv => whnf); first
  | refine Br.tt ?_
  | refine Br.ff ?_
  | refine Need.w ?_
  | refine Wr.w ?_
  | refine Cmp.t ?_
  | refine Cmp.f ?_
  | refine Rem.w ?_
  | refine Quo.w ?_
  | refine PickV.now rfl ?_
  | refine Pick.now rfl ?_
  | refine Chk.mk rfl ?_
  | refine PickW.w rfl ?_
    | (refine In.enter g.lim rfl code_message_text_2 ?_)
    | (refine In.enter g.lim rfl code_message_fields_2 ?_)
    | (refine Some'.ptr (by decide) ?_)
    | (refine CallI.of hs ?_)
    | (refine Need.mk ⟨rfl, by decide⟩ ?_)
    | (refine Br.not (fun hb => ?_) (fun hb => ?_))
    | (refine (hK _ _).mpr ?_)
    | (refine LoopW.to (ih (by assumption)) rfl rfl)
    | (refine Ret.mk (hF (by assumption))))
set_option maxHeartbeats 8000000 in
theorem rnd_R2 (a0 a1 a2 a3 a4 a5 a6 a7 a8 a9 a10 a11 a12 a13 : List UInt8) {b : Bool} {K : Ex → Env → Mem → Prop} {R : V} (hK : ∀ e m, K .ret e m = resultsW m e [.cell 2 (some 14), .tmp 3, .tmp 4] fun v => thawW m v fun d => Ret d R) (hs : Fc E n_calendar_IsName [S a2] (B b)) (hF : b = false → .tup [.d (.agg zeroL), I 2, I 25] = R)
    (ih : b = true → LoopW E ⟨0, 1⟩ [2, 5, 6, 7, 21] keepR b_message_ParseLine_1 (envR (ws14 a0 a1 a2 a3 a4 a5 a6 a7 a8 a9 a10 a11 a12 a13) 3) (memR [.d (.str a0), .d (.str a2), .d (.str a1), .d (.str []), .d (.str []), .d (.str []), .d (.str []), I 0, I 0, I 0, I 0, I 0, I 0, I 0]) K) : LoopW E ⟨0, 1⟩ [2, 5, 6, 7, 21] keepR b_message_ParseLine_1 (envR (ws14 a0 a1 a2 a3 a4 a5 a6 a7 a8 a9 a10 a11 a12 a13) 2) (memR [.d (.str a0), .d (.str []), .d (.str a1), .d (.str []), .d (.str []), .d (.str []), .d (.str []), I 0, I 0, I 0, I 0, I 0, I 0, I 0]) K := by
  refine LoopW.step g.lim ?_
  repeat' ((conv => whnf); first
  | refine Br.tt ?_
  | refine Br.ff ?_
  | refine Need.w ?_
  | refine Wr.w ?_
  | refine Cmp.t ?_
  | refine Cmp.f ?_
  | refine Rem.w ?_
  | refine Quo.w ?_
  | refine PickV.now rfl ?_
  | refine Pick.now rfl ?_
  | refine Chk.mk rfl ?_
  | refine PickW.w rfl ?_
    | (refine In.enter g.lim rfl code_message_text_2 ?_)
    | (refine In.enter g.lim rfl code_message_fields_3 ?_)
    | (refine Some'.ptr (by decide) ?_)
    | (refine CallI.of hs ?_)
    | (refine Need.mk ⟨rfl, by decide⟩ ?_)
    | (refine Br.not (fun hb => ?_) (fun hb => ?_))
    | (refine (hK _ _).mpr ?_)
    | (refine LoopW.to (ih (by assumption)) rfl rfl)
    | (refine Ret.mk (hF (by assumption))))
set_option maxHeartbeats 8000000 in
theorem rnd_R3 (a0 a1 a2 a3 a4 a5 a6 a7 a8 a9 a10 a11 a12 a13 : List UInt8) {b : Bool} {K : Ex → Env → Mem → Prop} {R : V} (hK : ∀ e m, K .ret e m = resultsW m e [.cell 2 (some 14), .tmp 3, .tmp 4] fun v => thawW m v fun d => Ret d R) (hs : Fc E n_message_isKind [S a3] (B b)) (hF : b = false → .tup [.d (.agg zeroL), I 3, I 25] = R)
    (ih : b = true → LoopW E ⟨0, 1⟩ [2, 5, 6, 7, 21] keepR b_message_ParseLine_1 (envR (ws14 a0 a1 a2 a3 a4 a5 a6 a7 a8 a9 a10 a11 a12 a13) 4) (memR [.d (.str a0), .d (.str a2), .d (.str a1), .d (.str a3), .d (.str []), .d (.str []), .d (.str []), I 0, I 0, I 0, I 0, I 0, I 0, I 0]) K) : LoopW E ⟨0, 1⟩ [2, 5, 6, 7, 21] keepR b_message_ParseLine_1 (envR (ws14 a0 a1 a2 a3 a4 a5 a6 a7 a8 a9 a10 a11 a12 a13) 3) (memR [.d (.str a0), .d (.str a2), .d (.str a1), .d (.str []), .d (.str []), .d (.str []), .d (.str []), I 0, I 0, I 0, I 0, I 0, I 0, I 0]) K := by
  refine LoopW.step g.lim ?_
  repeat' ((conv => whnf); first
  | refine Br.tt ?_
  | refine Br.ff ?_
  | refine Need.w ?_
  | refine Wr.w ?_
  | refine Cmp.t ?_
  | refine Cmp.f ?_
  | refine Rem.w ?_
  | refine Quo.w ?_
  | refine PickV.now rfl ?_
  | refine Pick.now rfl ?_
  | refine Chk.mk rfl ?_
  | refine PickW.w rfl ?_
    | (refine In.enter g.lim rfl code_message_text_2 ?_)
    | (refine In.enter g.lim rfl code_message_fields_4 ?_)
    | (refine Some'.ptr (by decide) ?_)
    | (refine CallI.of hs ?_)
    | (refine Need.mk ⟨rfl, by decide⟩ ?_)
    | (refine Br.not (fun hb => ?_) (fun hb => ?_))
    | (refine (hK _ _).mpr ?_)
    | (refine LoopW.to (ih (by assumption)) rfl rfl)
    | (refine Ret.mk (hF (by assumption))))
set_option maxHeartbeats 8000000 in
theorem rnd_R4 (a0 a1 a2 a3 a4 a5 a6 a7 a8 a9 a10 a11 a12 a13 : List UInt8) {b : Bool} {K : Ex → Env → Mem → Prop} {R : V} (hK : ∀ e m, K .ret e m = resultsW m e [.cell 2 (some 14), .tmp 3, .tmp 4] fun v => thawW m v fun d => Ret d R) (hs : Fc E n_calendar_IsName [S a4] (B b)) (hF : b = false → .tup [.d (.agg zeroL), I 4, I 25] = R)
    (ih : b = true → LoopW E ⟨0, 1⟩ [2, 5, 6, 7, 21] keepR b_message_ParseLine_1 (envR (ws14 a0 a1 a2 a3 a4 a5 a6 a7 a8 a9 a10 a11 a12 a13) 5) (memR [.d (.str a0), .d (.str a2), .d (.str a1), .d (.str a3), .d (.str []), .d (.str a4), .d (.str []), I 0, I 0, I 0, I 0, I 0, I 0, I 0]) K) : LoopW E ⟨0, 1⟩ [2, 5, 6, 7, 21] keepR b_message_ParseLine_1 (envR (ws14 a0 a1 a2 a3 a4 a5 a6 a7 a8 a9 a10 a11 a12 a13) 4) (memR [.d (.str a0), .d (.str a2), .d (.str a1), .d (.str a3), .d (.str []), .d (.str []), .d (.str []), I 0, I 0, I 0, I 0, I 0, I 0, I 0]) K := by
  refine LoopW.step g.lim ?_
  repeat' ((conv => whnf); first
  | refine Br.tt ?_
  | refine Br.ff ?_
  | refine Need.w ?_
  | refine Wr.w ?_
  | refine Cmp.t ?_
  | refine Cmp.f ?_
  | refine Rem.w ?_
  | refine Quo.w ?_
  | refine PickV.now rfl ?_
  | refine Pick.now rfl ?_
  | refine Chk.mk rfl ?_
  | refine PickW.w rfl ?_
    | (refine In.enter g.lim rfl code_message_text_2 ?_)
    | (refine In.enter g.lim rfl code_message_fields_5 ?_)
    | (refine Some'.ptr (by decide) ?_)
    | (refine CallI.of hs ?_)
    | (refine Need.mk ⟨rfl, by decide⟩ ?_)
    | (refine Br.not (fun hb => ?_) (fun hb => ?_))
    | (refine (hK _ _).mpr ?_)
    | (refine LoopW.to (ih (by assumption)) rfl rfl)
    | (refine Ret.mk (hF (by assumption))))
set_option maxHeartbeats 8000000 in
theorem rnd_R5 (a0 a1 a2 a3 a4 a5 a6 a7 a8 a9 a10 a11 a12 a13 : List UInt8) (n5 : Int) {b : Bool} {K : Ex → Env → Mem → Prop} {R : V} (hK : ∀ e m, K .ret e m = resultsW m e [.cell 2 (some 14), .tmp 3, .tmp 4] fun v => thawW m v fun d => Ret d R) (hs : Fc E n_message_number [S a5, I 5] (.tup [I n5, B b])) (hF : b = false → .tup [.d (.agg zeroL), I 5, I 25] = R)
    (ih : b = true → LoopW E ⟨0, 1⟩ [2, 5, 6, 7, 21] keepR b_message_ParseLine_1 (envR (ws14 a0 a1 a2 a3 a4 a5 a6 a7 a8 a9 a10 a11 a12 a13) 6) (memR [.d (.str a0), .d (.str a2), .d (.str a1), .d (.str a3), .d (.str []), .d (.str a4), .d (.str []), I n5, I 0, I 0, I 0, I 0, I 0, I 0]) K) : LoopW E ⟨0, 1⟩ [2, 5, 6, 7, 21] keepR b_message_ParseLine_1 (envR (ws14 a0 a1 a2 a3 a4 a5 a6 a7 a8 a9 a10 a11 a12 a13) 5) (memR [.d (.str a0), .d (.str a2), .d (.str a1), .d (.str a3), .d (.str []), .d (.str a4), .d (.str []), I 0, I 0, I 0, I 0, I 0, I 0, I 0]) K := by
  refine LoopW.step g.lim ?_
  repeat' ((conv => whnf); first
  | refine Br.tt ?_
  | refine Br.ff ?_
  | refine Need.w ?_
  | refine Wr.w ?_
  | refine Cmp.t ?_
  | refine Cmp.f ?_
  | refine Rem.w ?_
  | refine Quo.w ?_
  | refine PickV.now rfl ?_
  | refine Pick.now rfl ?_
  | refine Chk.mk rfl ?_
  | refine PickW.w rfl ?_
    | (refine In.enter g.lim rfl code_message_digits_2 ?_)
    | (refine In.enter g.lim rfl code_message_fields_6 ?_)
    | (refine Some'.ptr (by decide) ?_)
    | (refine CallI.of hs ?_)
    | (refine Need.mk ⟨rfl, by decide⟩ ?_)
    | (refine Br.not (fun hb => ?_) (fun hb => ?_))
    | (refine (hK _ _).mpr ?_)
    | (refine LoopW.to (ih (by assumption)) rfl rfl)
    | (refine Ret.mk (hF (by assumption))))
set_option maxHeartbeats 8000000 in
theorem rnd_R6 (a0 a1 a2 a3 a4 a5 a6 a7 a8 a9 a10 a11 a12 a13 : List UInt8) (n5 n6 : Int) {b : Bool} {K : Ex → Env → Mem → Prop} {R : V} (hK : ∀ e m, K .ret e m = resultsW m e [.cell 2 (some 14), .tmp 3, .tmp 4] fun v => thawW m v fun d => Ret d R) (hs : Fc E n_message_number [S a6, I 5] (.tup [I n6, B b])) (hF : b = false → .tup [.d (.agg zeroL), I 6, I 25] = R)
    (ih : b = true → LoopW E ⟨0, 1⟩ [2, 5, 6, 7, 21] keepR b_message_ParseLine_1 (envR (ws14 a0 a1 a2 a3 a4 a5 a6 a7 a8 a9 a10 a11 a12 a13) 7) (memR [.d (.str a0), .d (.str a2), .d (.str a1), .d (.str a3), .d (.str []), .d (.str a4), .d (.str []), I n5, I n6, I 0, I 0, I 0, I 0, I 0]) K) : LoopW E ⟨0, 1⟩ [2, 5, 6, 7, 21] keepR b_message_ParseLine_1 (envR (ws14 a0 a1 a2 a3 a4 a5 a6 a7 a8 a9 a10 a11 a12 a13) 6) (memR [.d (.str a0), .d (.str a2), .d (.str a1), .d (.str a3), .d (.str []), .d (.str a4), .d (.str []), I n5, I 0, I 0, I 0, I 0, I 0, I 0]) K := by
  refine LoopW.step g.lim ?_
  repeat' ((conv => whnf); first
  | refine Br.tt ?_
  | refine Br.ff ?_
  | refine Need.w ?_
  | refine Wr.w ?_
  | refine Cmp.t ?_
  | refine Cmp.f ?_
  | refine Rem.w ?_
  | refine Quo.w ?_
  | refine PickV.now rfl ?_
  | refine Pick.now rfl ?_
  | refine Chk.mk rfl ?_
  | refine PickW.w rfl ?_
    | (refine In.enter g.lim rfl code_message_digits_2 ?_)
    | (refine In.enter g.lim rfl code_message_fields_7 ?_)
    | (refine Some'.ptr (by decide) ?_)
    | (refine CallI.of hs ?_)
    | (refine Need.mk ⟨rfl, by decide⟩ ?_)
    | (refine Br.not (fun hb => ?_) (fun hb => ?_))
    | (refine (hK _ _).mpr ?_)
    | (refine LoopW.to (ih (by assumption)) rfl rfl)
    | (refine Ret.mk (hF (by assumption))))
set_option maxHeartbeats 8000000 in
theorem rnd_R7 (a0 a1 a2 a3 a4 a5 a6 a7 a8 a9 a10 a11 a12 a13 : List UInt8) (n5 n6 n7 : Int) {b : Bool} {K : Ex → Env → Mem → Prop} {R : V} (hK : ∀ e m, K .ret e m = resultsW m e [.cell 2 (some 14), .tmp 3, .tmp 4] fun v => thawW m v fun d => Ret d R) (hs : Fc E n_calendar_ParseMask [S a7] (.tup [I n7, I (if b = true then 0 else 25)])) (hF : b = false → .tup [.d (.agg zeroL), I 7, I 25] = R)
    (ih : b = true → LoopW E ⟨0, 1⟩ [2, 5, 6, 7, 21] keepR b_message_ParseLine_1 (envR (ws14 a0 a1 a2 a3 a4 a5 a6 a7 a8 a9 a10 a11 a12 a13) 8) (memR [.d (.str a0), .d (.str a2), .d (.str a1), .d (.str a3), .d (.str []), .d (.str a4), .d (.str []), I n5, I n6, I n7, I 0, I 0, I 0, I 0]) K) : LoopW E ⟨0, 1⟩ [2, 5, 6, 7, 21] keepR b_message_ParseLine_1 (envR (ws14 a0 a1 a2 a3 a4 a5 a6 a7 a8 a9 a10 a11 a12 a13) 7) (memR [.d (.str a0), .d (.str a2), .d (.str a1), .d (.str a3), .d (.str []), .d (.str a4), .d (.str []), I n5, I n6, I 0, I 0, I 0, I 0, I 0]) K := by
  refine LoopW.step g.lim ?_
  repeat' ((conv => whnf); first
  | refine Br.tt ?_
  | refine Br.ff ?_
  | refine Need.w ?_
  | refine Wr.w ?_
  | refine Cmp.t ?_
  | refine Cmp.f ?_
  | refine Rem.w ?_
  | refine Quo.w ?_
  | refine PickV.now rfl ?_
  | refine Pick.now rfl ?_
  | refine Chk.mk rfl ?_
  | refine PickW.w rfl ?_
    | (refine In.enter g.lim rfl code_message_fields_9 ?_)
    | (refine Some'.ptr (by decide) ?_)
    | (refine CallI.of hs ?_)
    | (refine Need.mk ⟨rfl, by decide⟩ ?_)
    | (refine Cmp.b25 (fun h => ?_) (fun h => ?_))
    | (refine Br.not (fun hb => ?_) (fun hb => ?_))
    | (refine (hK _ _).mpr ?_)
    | (refine LoopW.to (ih (by assumption)) rfl rfl)
    | (refine Ret.mk (hF (by assumption))))
set_option maxHeartbeats 8000000 in
theorem rnd_R8 (a0 a1 a2 a3 a4 a5 a6 a7 a8 a9 a10 a11 a12 a13 : List UInt8) (n5 n6 n7 n8 : Int) {b : Bool} {K : Ex → Env → Mem → Prop} {R : V} (hK : ∀ e m, K .ret e m = resultsW m e [.cell 2 (some 14), .tmp 3, .tmp 4] fun v => thawW m v fun d => Ret d R) (hs : Fc E n_message_ParseMinute [S a8] (.tup [I n8, I (if b = true then 0 else 25)])) (hF : b = false → .tup [.d (.agg zeroL), I 8, I 25] = R)
    (ih : b = true → LoopW E ⟨0, 1⟩ [2, 5, 6, 7, 21] keepR b_message_ParseLine_1 (envR (ws14 a0 a1 a2 a3 a4 a5 a6 a7 a8 a9 a10 a11 a12 a13) 9) (memR [.d (.str a0), .d (.str a2), .d (.str a1), .d (.str a3), .d (.str []), .d (.str a4), .d (.str []), I n5, I n6, I n7, I n8, I 0, I 0, I 0]) K) : LoopW E ⟨0, 1⟩ [2, 5, 6, 7, 21] keepR b_message_ParseLine_1 (envR (ws14 a0 a1 a2 a3 a4 a5 a6 a7 a8 a9 a10 a11 a12 a13) 8) (memR [.d (.str a0), .d (.str a2), .d (.str a1), .d (.str a3), .d (.str []), .d (.str a4), .d (.str []), I n5, I n6, I n7, I 0, I 0, I 0, I 0]) K := by
  refine LoopW.step g.lim ?_
  repeat' ((conv => whnf); first
  | refine Br.tt ?_
  | refine Br.ff ?_
  | refine Need.w ?_
  | refine Wr.w ?_
  | refine Cmp.t ?_
  | refine Cmp.f ?_
  | refine Rem.w ?_
  | refine Quo.w ?_
  | refine PickV.now rfl ?_
  | refine Pick.now rfl ?_
  | refine Chk.mk rfl ?_
  | refine PickW.w rfl ?_
    | (refine In.enter g.lim rfl code_message_fields_11 ?_)
    | (refine Some'.ptr (by decide) ?_)
    | (refine CallI.of hs ?_)
    | (refine Need.mk ⟨rfl, by decide⟩ ?_)
    | (refine Cmp.b25 (fun h => ?_) (fun h => ?_))
    | (refine Br.not (fun hb => ?_) (fun hb => ?_))
    | (refine (hK _ _).mpr ?_)
    | (refine LoopW.to (ih (by assumption)) rfl rfl)
    | (refine Ret.mk (hF (by assumption))))
set_option maxHeartbeats 8000000 in
theorem rnd_R9 (a0 a1 a2 a3 a4 a5 a6 a7 a8 a9 a10 a11 a12 a13 : List UInt8) (n5 n6 n7 n8 n9 : Int) {b : Bool} {K : Ex → Env → Mem → Prop} {R : V} (hK : ∀ e m, K .ret e m = resultsW m e [.cell 2 (some 14), .tmp 3, .tmp 4] fun v => thawW m v fun d => Ret d R) (hs : Fc E n_message_number [S a9, I 3] (.tup [I n9, B b])) (hF : b = false → .tup [.d (.agg zeroL), I 9, I 25] = R)
    (ih : b = true → LoopW E ⟨0, 1⟩ [2, 5, 6, 7, 21] keepR b_message_ParseLine_1 (envR (ws14 a0 a1 a2 a3 a4 a5 a6 a7 a8 a9 a10 a11 a12 a13) 10) (memR [.d (.str a0), .d (.str a2), .d (.str a1), .d (.str a3), .d (.str []), .d (.str a4), .d (.str []), I n5, I n6, I n7, I n8, I n9, I 0, I 0]) K) : LoopW E ⟨0, 1⟩ [2, 5, 6, 7, 21] keepR b_message_ParseLine_1 (envR (ws14 a0 a1 a2 a3 a4 a5 a6 a7 a8 a9 a10 a11 a12 a13) 9) (memR [.d (.str a0), .d (.str a2), .d (.str a1), .d (.str a3), .d (.str []), .d (.str a4), .d (.str []), I n5, I n6, I n7, I n8, I 0, I 0, I 0]) K := by
  refine LoopW.step g.lim ?_
  repeat' ((conv => whnf); first
  | refine Br.tt ?_
  | refine Br.ff ?_
  | refine Need.w ?_
  | refine Wr.w ?_
  | refine Cmp.t ?_
  | refine Cmp.f ?_
  | refine Rem.w ?_
  | refine Quo.w ?_
  | refine PickV.now rfl ?_
  | refine Pick.now rfl ?_
  | refine Chk.mk rfl ?_
  | refine PickW.w rfl ?_
    | (refine In.enter g.lim rfl code_message_digits_2 ?_)
    | (refine In.enter g.lim rfl code_message_fields_12 ?_)
    | (refine Some'.ptr (by decide) ?_)
    | (refine CallI.of hs ?_)
    | (refine Need.mk ⟨rfl, by decide⟩ ?_)
    | (refine Br.not (fun hb => ?_) (fun hb => ?_))
    | (refine (hK _ _).mpr ?_)
    | (refine LoopW.to (ih (by assumption)) rfl rfl)
    | (refine Ret.mk (hF (by assumption))))
set_option maxHeartbeats 8000000 in
theorem rnd_R10 (a0 a1 a2 a3 a4 a5 a6 a7 a8 a9 a10 a11 a12 a13 : List UInt8) (n10 n5 n6 n7 n8 n9 : Int) {b : Bool} {K : Ex → Env → Mem → Prop} {R : V} (hK : ∀ e m, K .ret e m = resultsW m e [.cell 2 (some 14), .tmp 3, .tmp 4] fun v => thawW m v fun d => Ret d R) (hs : Fc E n_message_number [S a10, I 1] (.tup [I n10, B b])) (hF : b = false → .tup [.d (.agg zeroL), I 10, I 25] = R)
    (ih : b = true → LoopW E ⟨0, 1⟩ [2, 5, 6, 7, 21] keepR b_message_ParseLine_1 (envR (ws14 a0 a1 a2 a3 a4 a5 a6 a7 a8 a9 a10 a11 a12 a13) 11) (memR [.d (.str a0), .d (.str a2), .d (.str a1), .d (.str a3), .d (.str []), .d (.str a4), .d (.str []), I n5, I n6, I n7, I n8, I n9, I n10, I 0]) K) : LoopW E ⟨0, 1⟩ [2, 5, 6, 7, 21] keepR b_message_ParseLine_1 (envR (ws14 a0 a1 a2 a3 a4 a5 a6 a7 a8 a9 a10 a11 a12 a13) 10) (memR [.d (.str a0), .d (.str a2), .d (.str a1), .d (.str a3), .d (.str []), .d (.str a4), .d (.str []), I n5, I n6, I n7, I n8, I n9, I 0, I 0]) K := by
  refine LoopW.step g.lim ?_
  repeat' ((conv => whnf); first
  | refine Br.tt ?_
  | refine Br.ff ?_
  | refine Need.w ?_
  | refine Wr.w ?_
  | refine Cmp.t ?_
  | refine Cmp.f ?_
  | refine Rem.w ?_
  | refine Quo.w ?_
  | refine PickV.now rfl ?_
  | refine Pick.now rfl ?_
  | refine Chk.mk rfl ?_
  | refine PickW.w rfl ?_
    | (refine In.enter g.lim rfl code_message_digits_2 ?_)
    | (refine In.enter g.lim rfl code_message_fields_13 ?_)
    | (refine Some'.ptr (by decide) ?_)
    | (refine CallI.of hs ?_)
    | (refine Need.mk ⟨rfl, by decide⟩ ?_)
    | (refine Br.not (fun hb => ?_) (fun hb => ?_))
    | (refine (hK _ _).mpr ?_)
    | (refine LoopW.to (ih (by assumption)) rfl rfl)
    | (refine Ret.mk (hF (by assumption))))
set_option maxHeartbeats 8000000 in
theorem rnd_R11 (a0 a1 a2 a3 a4 a5 a6 a7 a8 a9 a10 a11 a12 a13 : List UInt8) (n10 n11 n5 n6 n7 n8 n9 : Int) {b : Bool} {K : Ex → Env → Mem → Prop} {R : V} (hK : ∀ e m, K .ret e m = resultsW m e [.cell 2 (some 14), .tmp 3, .tmp 4] fun v => thawW m v fun d => Ret d R) (hs : Fc E n_message_number [S a11, I 2] (.tup [I n11, B b])) (hF : b = false → .tup [.d (.agg zeroL), I 11, I 25] = R)
    (ih : b = true → LoopW E ⟨0, 1⟩ [2, 5, 6, 7, 21] keepR b_message_ParseLine_1 (envR (ws14 a0 a1 a2 a3 a4 a5 a6 a7 a8 a9 a10 a11 a12 a13) 12) (memR [.d (.str a0), .d (.str a2), .d (.str a1), .d (.str a3), .d (.str []), .d (.str a4), .d (.str []), I n5, I n6, I n7, I n8, I n9, I n10, I n11]) K) : LoopW E ⟨0, 1⟩ [2, 5, 6, 7, 21] keepR b_message_ParseLine_1 (envR (ws14 a0 a1 a2 a3 a4 a5 a6 a7 a8 a9 a10 a11 a12 a13) 11) (memR [.d (.str a0), .d (.str a2), .d (.str a1), .d (.str a3), .d (.str []), .d (.str a4), .d (.str []), I n5, I n6, I n7, I n8, I n9, I n10, I 0]) K := by
  refine LoopW.step g.lim ?_
  repeat' ((conv => whnf); first
  | refine Br.tt ?_
  | refine Br.ff ?_
  | refine Need.w ?_
  | refine Wr.w ?_
  | refine Cmp.t ?_
  | refine Cmp.f ?_
  | refine Rem.w ?_
  | refine Quo.w ?_
  | refine PickV.now rfl ?_
  | refine Pick.now rfl ?_
  | refine Chk.mk rfl ?_
  | refine PickW.w rfl ?_
    | (refine In.enter g.lim rfl code_message_digits_2 ?_)
    | (refine In.enter g.lim rfl code_message_fields_14 ?_)
    | (refine Some'.ptr (by decide) ?_)
    | (refine CallI.of hs ?_)
    | (refine Need.mk ⟨rfl, by decide⟩ ?_)
    | (refine Br.not (fun hb => ?_) (fun hb => ?_))
    | (refine (hK _ _).mpr ?_)
    | (refine LoopW.to (ih (by assumption)) rfl rfl)
    | (refine Ret.mk (hF (by assumption))))
set_option maxHeartbeats 8000000 in
theorem rnd_R12 (a0 a1 a2 a3 a4 a5 a6 a7 a8 a9 a10 a11 a12 a13 u12 : List UInt8) (n10 n11 n5 n6 n7 n8 n9 : Int) {b j : Bool} {K : Ex → Env → Mem → Prop} {R : V} (hK : ∀ e m, K .ret e m = resultsW m e [.cell 2 (some 14), .tmp 3, .tmp 4] fun v => thawW m v fun d => Ret d R) (hs : Fc E n_calendar_IsName [S a12] (B j)) (he : b = (decide (a12 = [45]) || j)) (hu : u12 = undash a12) (hF : b = false → .tup [.d (.agg zeroL), I 12, I 25] = R)
    (ih : b = true → LoopW E ⟨0, 1⟩ [2, 5, 6, 7, 21] keepR b_message_ParseLine_1 (envR (ws14 a0 a1 a2 a3 a4 a5 a6 a7 a8 a9 a10 a11 a12 a13) 13) (memR [.d (.str a0), .d (.str a2), .d (.str a1), .d (.str a3), .d (.str u12), .d (.str a4), .d (.str []), I n5, I n6, I n7, I n8, I n9, I n10, I n11]) K) : LoopW E ⟨0, 1⟩ [2, 5, 6, 7, 21] keepR b_message_ParseLine_1 (envR (ws14 a0 a1 a2 a3 a4 a5 a6 a7 a8 a9 a10 a11 a12 a13) 12) (memR [.d (.str a0), .d (.str a2), .d (.str a1), .d (.str a3), .d (.str []), .d (.str a4), .d (.str []), I n5, I n6, I n7, I n8, I n9, I n10, I n11]) K := by
  by_cases h : a12 = [45]
  · have hb : b = true := by rw [he, decide_eq_true h]; rfl
    have hu' : u12 = [] := by rw [hu, undash, if_pos h]
    subst hb
    subst hu'
    refine LoopW.step g.lim ?_
    repeat' ((conv => whnf); first
    | refine Br.tt ?_
    | refine Br.ff ?_
    | refine Need.w ?_
    | refine Wr.w ?_
    | refine Cmp.t ?_
    | refine Cmp.f ?_
    | refine Rem.w ?_
    | refine Quo.w ?_
    | refine PickV.now rfl ?_
    | refine Pick.now rfl ?_
    | refine Chk.mk rfl ?_
    | refine PickW.w rfl ?_
      | (refine In.enter g.lim rfl code_message_dashed_2 ?_)
      | (refine In.enter g.lim rfl code_message_fields_15 ?_)
      | (refine Some'.ptr (by decide) ?_)
      | (refine Need.mk ⟨rfl, by decide⟩ ?_)
      | (refine Cmp.tt h ?_)
      | (refine Br.not (fun hb => ?_) (fun hb => ?_))
      | (refine (hK _ _).mpr ?_)
      | (refine LoopW.to (ih rfl) rfl rfl)
      | (refine Ret.mk (hF (by assumption))))
  · have hb : b = j := by rw [he, decide_eq_false h]; rfl
    have hu' : u12 = a12 := by rw [hu, undash, if_neg h]
    subst hb
    subst hu'
    refine LoopW.step g.lim ?_
    repeat' ((conv => whnf); first
    | refine Br.tt ?_
    | refine Br.ff ?_
    | refine Need.w ?_
    | refine Wr.w ?_
    | refine Cmp.t ?_
    | refine Cmp.f ?_
    | refine Rem.w ?_
    | refine Quo.w ?_
    | refine PickV.now rfl ?_
    | refine Pick.now rfl ?_
    | refine Chk.mk rfl ?_
    | refine PickW.w rfl ?_
      | (refine In.enter g.lim rfl code_message_dashed_2 ?_)
      | (refine In.enter g.lim rfl code_message_fields_15 ?_)
      | (refine Some'.ptr (by decide) ?_)
      | (refine CallI.of hs ?_)
      | (refine Need.mk ⟨rfl, by decide⟩ ?_)
      | (refine Cmp.ff h ?_)
      | (refine Br.not (fun hb => ?_) (fun hb => ?_))
      | (refine (hK _ _).mpr ?_)
      | (refine LoopW.to (ih (by assumption)) rfl rfl)
      | (refine Ret.mk (hF (by assumption))))
set_option maxHeartbeats 8000000 in
theorem rnd_R13 (a0 a1 a2 a3 a4 a5 a6 a7 a8 a9 a10 a11 a12 a13 u12 u13 : List UInt8) (n10 n11 n5 n6 n7 n8 n9 : Int) {b j : Bool} {K : Ex → Env → Mem → Prop} {R : V} (hK : ∀ e m, K .ret e m = resultsW m e [.cell 2 (some 14), .tmp 3, .tmp 4] fun v => thawW m v fun d => Ret d R) (hs : Fc E n_calendar_IsName [S a13] (B j)) (he : b = (decide (a13 = [45]) || j)) (hu : u13 = undash a13) (hF : b = false → .tup [.d (.agg zeroL), I 13, I 25] = R)
    (ih : b = true → LoopW E ⟨0, 1⟩ [2, 5, 6, 7, 21] keepR b_message_ParseLine_1 (envR (ws14 a0 a1 a2 a3 a4 a5 a6 a7 a8 a9 a10 a11 a12 a13) 14) (memR [.d (.str a0), .d (.str a2), .d (.str a1), .d (.str a3), .d (.str u12), .d (.str a4), .d (.str u13), I n5, I n6, I n7, I n8, I n9, I n10, I n11]) K) : LoopW E ⟨0, 1⟩ [2, 5, 6, 7, 21] keepR b_message_ParseLine_1 (envR (ws14 a0 a1 a2 a3 a4 a5 a6 a7 a8 a9 a10 a11 a12 a13) 13) (memR [.d (.str a0), .d (.str a2), .d (.str a1), .d (.str a3), .d (.str u12), .d (.str a4), .d (.str []), I n5, I n6, I n7, I n8, I n9, I n10, I n11]) K := by
  by_cases h : a13 = [45]
  · have hb : b = true := by rw [he, decide_eq_true h]; rfl
    have hu' : u13 = [] := by rw [hu, undash, if_pos h]
    subst hb
    subst hu'
    refine LoopW.step g.lim ?_
    repeat' ((conv => whnf); first
    | refine Br.tt ?_
    | refine Br.ff ?_
    | refine Need.w ?_
    | refine Wr.w ?_
    | refine Cmp.t ?_
    | refine Cmp.f ?_
    | refine Rem.w ?_
    | refine Quo.w ?_
    | refine PickV.now rfl ?_
    | refine Pick.now rfl ?_
    | refine Chk.mk rfl ?_
    | refine PickW.w rfl ?_
      | (refine In.enter g.lim rfl code_message_dashed_2 ?_)
      | (refine In.enter g.lim rfl code_message_fields_16 ?_)
      | (refine Some'.ptr (by decide) ?_)
      | (refine Need.mk ⟨rfl, by decide⟩ ?_)
      | (refine Cmp.tt h ?_)
      | (refine Br.not (fun hb => ?_) (fun hb => ?_))
      | (refine (hK _ _).mpr ?_)
      | (refine LoopW.to (ih rfl) rfl rfl)
      | (refine Ret.mk (hF (by assumption))))
  · have hb : b = j := by rw [he, decide_eq_false h]; rfl
    have hu' : u13 = a13 := by rw [hu, undash, if_neg h]
    subst hb
    subst hu'
    refine LoopW.step g.lim ?_
    repeat' ((conv => whnf); first
    | refine Br.tt ?_
    | refine Br.ff ?_
    | refine Need.w ?_
    | refine Wr.w ?_
    | refine Cmp.t ?_
    | refine Cmp.f ?_
    | refine Rem.w ?_
    | refine Quo.w ?_
    | refine PickV.now rfl ?_
    | refine Pick.now rfl ?_
    | refine Chk.mk rfl ?_
    | refine PickW.w rfl ?_
      | (refine In.enter g.lim rfl code_message_dashed_2 ?_)
      | (refine In.enter g.lim rfl code_message_fields_16 ?_)
      | (refine Some'.ptr (by decide) ?_)
      | (refine CallI.of hs ?_)
      | (refine Need.mk ⟨rfl, by decide⟩ ?_)
      | (refine Cmp.ff h ?_)
      | (refine Br.not (fun hb => ?_) (fun hb => ?_))
      | (refine (hK _ _).mpr ?_)
      | (refine LoopW.to (ih (by assumption)) rfl rfl)
      | (refine Ret.mk (hF (by assumption))))
set_option maxHeartbeats 8000000 in
theorem core_ParseLine (s : List UInt8) (a0 a1 a2 a3 a4 a5 a6 a7 a8 a9 a10 a11 a12 a13 u12 u13 : List UInt8) (b0 b1 b2 b3 b4 b5 b6 b7 b8 b9 b10 b11 b12 b13 i12 i13 : Bool) (n5 n6 n7 n8 n9 n10 n11 c : Int)
    (sp : Fc E n_strings_Split [S s, S [32]] (.d (.list 14 [.str a0, .str a1, .str a2, .str a3, .str a4, .str a5, .str a6, .str a7, .str a8, .str a9, .str a10, .str a11, .str a12, .str a13])))
    (h0 : Fc E n_message_isAction [S a0] (B b0)) (h1 : Fc E n_calendar_IsName [S a1] (B b1)) (h2 : Fc E n_calendar_IsName [S a2] (B b2)) (h3 : Fc E n_message_isKind [S a3] (B b3)) (h4 : Fc E n_calendar_IsName [S a4] (B b4))
    (h5 : Fc E n_message_number [S a5, I 5] (.tup [I n5, B b5])) (h6 : Fc E n_message_number [S a6, I 5] (.tup [I n6, B b6]))
    (h7 : Fc E n_calendar_ParseMask [S a7] (.tup [I n7, I (if b7 = true then 0 else 25)])) (h8 : Fc E n_message_ParseMinute [S a8] (.tup [I n8, I (if b8 = true then 0 else 25)]))
    (h9 : Fc E n_message_number [S a9, I 3] (.tup [I n9, B b9])) (h10 : Fc E n_message_number [S a10, I 1] (.tup [I n10, B b10])) (h11 : Fc E n_message_number [S a11, I 2] (.tup [I n11, B b11]))
    (h12 : Fc E n_calendar_IsName [S a12] (B i12)) (h13 : Fc E n_calendar_IsName [S a13] (B i13))
    (e12 : b12 = (decide (a12 = [45]) || i12)) (v12 : u12 = undash a12) (e13 : b13 = (decide (a13 = [45]) || i13)) (v13 : u13 = undash a13)
    (hc : Fc E n_message_CheckLine [.d (.agg [.str a0, .str a2, .str a1, .str a3, .str u12, .str a4, .str u13, DI n5, DI n6, DI n7, DI n8, DI n9, DI n10, DI n11])] (I c)) : Fc E n_message_ParseLine [S s] (resF [b0, b1, b2, b3, b4, b5, b6, b7, b8, b9, b10, b11, b12, b13] [.str a0, .str a2, .str a1, .str a3, .str u12, .str a4, .str u13, DI n5, DI n6, DI n7, DI n8, DI n9, DI n10, DI n11] c) := by
  refine g.fn code_message_ParseLine rfl ?_
  repeat' ((conv => whnf); first
  | refine Br.tt ?_
  | refine Br.ff ?_
  | refine Need.w ?_
  | refine Wr.w ?_
  | refine Cmp.t ?_
  | refine Cmp.f ?_
  | refine Rem.w ?_
  | refine Quo.w ?_
  | refine PickV.now rfl ?_
  | refine Pick.now rfl ?_
  | refine Chk.mk rfl ?_
  | refine PickW.w rfl ?_
    | (refine CallI.of sp ?_)
    | (refine CallS.fields g rfl ?_)
    | (refine Need.mk ⟨rfl, by decide⟩ ?_))
  refine LoopW.to (e1 := envR (ws14 a0 a1 a2 a3 a4 a5 a6 a7 a8 a9 a10 a11 a12 a13) 0) (m1 := memR [.d (.str []), .d (.str []), .d (.str []), .d (.str []), .d (.str []), .d (.str []), .d (.str []), I 0, I 0, I 0, I 0, I 0, I 0, I 0]) ?_ rfl rfl
  refine rnd_R0 g a0 a1 a2 a3 a4 a5 a6 a7 a8 a9 a10 a11 a12 a13 (fun _ _ => rfl) h0 (fun h => by subst h; rfl) (fun h => ?_)
  subst h
  refine rnd_R1 g a0 a1 a2 a3 a4 a5 a6 a7 a8 a9 a10 a11 a12 a13 (fun _ _ => rfl) h1 (fun h => by subst h; rfl) (fun h => ?_)
  subst h
  refine rnd_R2 g a0 a1 a2 a3 a4 a5 a6 a7 a8 a9 a10 a11 a12 a13 (fun _ _ => rfl) h2 (fun h => by subst h; rfl) (fun h => ?_)
  subst h
  refine rnd_R3 g a0 a1 a2 a3 a4 a5 a6 a7 a8 a9 a10 a11 a12 a13 (fun _ _ => rfl) h3 (fun h => by subst h; rfl) (fun h => ?_)
  subst h
  refine rnd_R4 g a0 a1 a2 a3 a4 a5 a6 a7 a8 a9 a10 a11 a12 a13 (fun _ _ => rfl) h4 (fun h => by subst h; rfl) (fun h => ?_)
  subst h
  refine rnd_R5 g a0 a1 a2 a3 a4 a5 a6 a7 a8 a9 a10 a11 a12 a13 n5 (fun _ _ => rfl) h5 (fun h => by subst h; rfl) (fun h => ?_)
  subst h
  refine rnd_R6 g a0 a1 a2 a3 a4 a5 a6 a7 a8 a9 a10 a11 a12 a13 n5 n6 (fun _ _ => rfl) h6 (fun h => by subst h; rfl) (fun h => ?_)
  subst h
  refine rnd_R7 g a0 a1 a2 a3 a4 a5 a6 a7 a8 a9 a10 a11 a12 a13 n5 n6 n7 (fun _ _ => rfl) h7 (fun h => by subst h; rfl) (fun h => ?_)
  subst h
  refine rnd_R8 g a0 a1 a2 a3 a4 a5 a6 a7 a8 a9 a10 a11 a12 a13 n5 n6 n7 n8 (fun _ _ => rfl) h8 (fun h => by subst h; rfl) (fun h => ?_)
  subst h
  refine rnd_R9 g a0 a1 a2 a3 a4 a5 a6 a7 a8 a9 a10 a11 a12 a13 n5 n6 n7 n8 n9 (fun _ _ => rfl) h9 (fun h => by subst h; rfl) (fun h => ?_)
  subst h
  refine rnd_R10 g a0 a1 a2 a3 a4 a5 a6 a7 a8 a9 a10 a11 a12 a13 n10 n5 n6 n7 n8 n9 (fun _ _ => rfl) h10 (fun h => by subst h; rfl) (fun h => ?_)
  subst h
  refine rnd_R11 g a0 a1 a2 a3 a4 a5 a6 a7 a8 a9 a10 a11 a12 a13 n10 n11 n5 n6 n7 n8 n9 (fun _ _ => rfl) h11 (fun h => by subst h; rfl) (fun h => ?_)
  subst h
  refine rnd_R12 g a0 a1 a2 a3 a4 a5 a6 a7 a8 a9 a10 a11 a12 a13 u12 n10 n11 n5 n6 n7 n8 n9 (fun _ _ => rfl) h12 e12 v12 (fun h => by subst h; rfl) (fun h => ?_)
  subst h
  refine rnd_R13 g a0 a1 a2 a3 a4 a5 a6 a7 a8 a9 a10 a11 a12 a13 u12 u13 n10 n11 n5 n6 n7 n8 n9 (fun _ _ => rfl) h13 e13 v13 (fun h => by subst h; rfl) (fun h => ?_)
  subst h
  refine LoopW.step g.lim ?_
  by_cases hz : c = 0
  · subst hz
    repeat' ((conv => whnf); first
    | refine Br.tt ?_
    | refine Br.ff ?_
    | refine Need.w ?_
    | refine Wr.w ?_
    | refine Cmp.t ?_
    | refine Cmp.f ?_
    | refine Rem.w ?_
    | refine Quo.w ?_
    | refine PickV.now rfl ?_
    | refine Pick.now rfl ?_
    | refine Chk.mk rfl ?_
    | refine PickW.w rfl ?_
      | (refine CallI.of hc ?_)
      | (refine Need.mk ⟨rfl, by decide⟩ ?_)
      | (refine Ret.mk rfl))
  · repeat' ((conv => whnf); first
  | refine Br.tt ?_
  | refine Br.ff ?_
  | refine Need.w ?_
  | refine Wr.w ?_
  | refine Cmp.t ?_
  | refine Cmp.f ?_
  | refine Rem.w ?_
  | refine Quo.w ?_
  | refine PickV.now rfl ?_
  | refine Pick.now rfl ?_
  | refine Chk.mk rfl ?_
  | refine PickW.w rfl ?_
      | (refine CallI.of hc ?_)
      | (refine Cmp.ff hz ?_)
      | (refine Need.mk ⟨rfl, by decide⟩ ?_)
      | (refine Ret.mk ?_))
    simp only [resF, firstF, if_true]
    rw [if_neg hz]
theorem s_ParseLine14 (s : List UInt8) (hs : s.length ≤ 1000000) (w : W14) (hp : parts 32 s = w.list) : Fc E n_message_ParseLine [S s] (resW w) := by
  have sp := s_Split g s hs
  rw [hp] at sp
  have m7 : Fc E n_calendar_ParseMask [S w.a7] (.tup [I (mskV w.a7), I (if decide (isMaskT w.a7) = true then 0 else 25)]) := by
    have := s_ParseMask g w.a7
    unfold mskV
    by_cases h : isMaskT w.a7
    · rw [if_pos h] at this; rw [if_pos h, if_pos (decide_eq_true h)]; exact this
    · rw [if_neg h] at this; rw [if_neg h, if_neg (by simpa using h)]; exact this
  have m8 : Fc E n_message_ParseMinute [S w.a8] (.tup [I (minW w.a8), I (if decide (minP w.a8) = true then 0 else 25)]) := by
    have := s_ParseMinute g w.a8
    unfold minW
    by_cases h : minP w.a8
    · rw [if_pos h, if_pos h] at this; rw [if_pos h, if_pos (decide_eq_true h)]; exact this
    · rw [if_neg h, if_neg h] at this; rw [if_neg h, if_neg (by simpa using h)]; exact this
  exact core_ParseLine g s w.a0 w.a1 w.a2 w.a3 w.a4 w.a5 w.a6 w.a7 w.a8 w.a9 w.a10 w.a11 w.a12 w.a13 (undash w.a12) (undash w.a13) _ _ _ _ _ _ _ _ _ _ _ _ (dfit w.a12) (dfit w.a13) _ _ _ _ _ _ _ _ _ _
    sp (s_isAction g w.a0) (s_IsName g w.a1) (s_IsName g w.a2) (s_isKind g w.a3) (s_IsName g w.a4) (s_number g w.a5 5 (by omega)) (s_number g w.a6 5 (by omega)) m7 m8 (s_number g w.a9 3 (by omega)) (s_number g w.a10 1 (by omega)) (s_number g w.a11 2 (by omega)) (s_IsName g w.a12) (s_IsName g w.a13) rfl rfl rfl rfl (s_CheckLine g w.line)
theorem s_ParseLine_no (s : List UInt8) (hs : s.length ≤ 1000000) (hp : (parts 32 s).length ≠ 14) : Fc E n_message_ParseLine [S s] (.tup [.d (.agg zeroL), I (if 13 < ((parts 32 s).length : Int) then 13 else ((parts 32 s).length : Int)), I 25]) := by
  refine g.fn code_message_ParseLine rfl ?_
  have sp := s_Split g s hs
  generalize parts 32 s = l at *
  by_cases h : 13 < (l.length : Int)
  · rw [if_pos h]
    repeat' ((conv => whnf); first
    | refine Br.tt ?_
    | refine Br.ff ?_
    | refine Need.w ?_
    | refine Wr.w ?_
    | refine Cmp.t ?_
    | refine Cmp.f ?_
    | refine Rem.w ?_
    | refine Quo.w ?_
    | refine PickV.now rfl ?_
    | refine Pick.now rfl ?_
    | refine Chk.mk rfl ?_
    | refine PickW.w rfl ?_
      | (apply CallI.of; assumption)
      | (refine Ret.mk ?_))
    rw [if_pos h]
  · rw [if_neg h]
    repeat' ((conv => whnf); first
    | refine Br.tt ?_
    | refine Br.ff ?_
    | refine Need.w ?_
    | refine Wr.w ?_
    | refine Cmp.t ?_
    | refine Cmp.f ?_
    | refine Rem.w ?_
    | refine Quo.w ?_
    | refine PickV.now rfl ?_
    | refine Pick.now rfl ?_
    | refine Chk.mk rfl ?_
    | refine PickW.w rfl ?_
      | (apply CallI.of; assumption)
      | (refine Ret.mk ?_))
    rw [if_neg h]
end
end Go.Proofs.YtmjifdpcoaeehaaGreatDoor.Co
