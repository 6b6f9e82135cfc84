
/-
  Messages: how the program prints a line, field by field.
-/
import Derived.Test.YtmjifdpcoaeehaaGreatDoorMsFld
namespace Go.Proofs.YtmjifdpcoaeehaaGreatDoor.Co
open Go Go.Evl
abbrev envP (k : Nat) (i : Int) : Env := [(1, .ptr ⟨0, 1, 0⟩ 0 0), (3, .ref ⟨0, 3, 0⟩ 0 k k), (6, .agg (fldV 0 6)), (7, I i)]
abbrev memP (l : Lnt) (k : Nat) (xs : List D) : Mem := (⟨0, 1, 0⟩, .cells ty_message_Line [.d (.str l.ac), .d (.str l.rq.nm), .d (.str l.rq.ca), .d (.str l.rq.ki), .d (.str l.rq.te), .d (.str l.rq.pa), .d (.str l.rq.li), I l.rq.fr, I l.rq.to, I l.rq.da, I l.rq.mi, I l.rq.se, I l.rq.si, I l.rq.no]) :: (⟨0, 3, 0⟩, .row false ty_string 1 k xs) :: fldM 0 6
abbrev keepP : List Evl.Id := [⟨0, 1, 0⟩, ⟨0, 3, 0⟩, ⟨0, 6, 0⟩, ⟨0, 6, 1⟩, ⟨0, 6, 2⟩, ⟨0, 6, 3⟩, ⟨0, 6, 4⟩, ⟨0, 6, 5⟩, ⟨0, 6, 6⟩, ⟨0, 6, 7⟩, ⟨0, 6, 8⟩, ⟨0, 6, 9⟩, ⟨0, 6, 10⟩, ⟨0, 6, 11⟩, ⟨0, 6, 12⟩, ⟨0, 6, 13⟩, ⟨0, 6, 14⟩, ⟨0, 6, 15⟩, ⟨0, 6, 16⟩, ⟨0, 6, 17⟩, ⟨0, 6, 18⟩, ⟨0, 6, 19⟩, ⟨0, 6, 20⟩, ⟨0, 6, 21⟩]
section
variable {E : Oracle} (g : Good E)
include g
set_option maxRecDepth 100000
set_option maxHeartbeats 8000000 in
theorem rnd_P0 (l : Lnt) (xs : List D)  {K : Ex → Env → Mem → Prop} (ih : LoopW E ⟨0, 1⟩ [1, 3, 6, 7] keepP b_message_printLine_1 (envP 1 1) (memP l 1 (xs ++ [.str l.ac])) K) : LoopW E ⟨0, 1⟩ [1, 3, 6, 7] keepP b_message_printLine_1 (envP 0 0) (memP l 0 xs) K := by
  refine LoopW.step g.lim ?_
  repeat' ((conv => whnf); first
  | refine Br.tt ?_
  | refine Br.ff ?_
  | refine Need.w ?_
  | refine Wr.w ?_
  | refine Cmp.t ?_
  | refine Cmp.f ?_
  | refine Rem.w ?_
  | refine Quo.w ?_
  | refine PickV.now rfl ?_
  | refine Pick.now rfl ?_
  | refine Chk.mk rfl ?_
  | refine PickW.w rfl ?_
    | (refine In.enter g.lim rfl code_message_text_1 ?_)
    | (refine In.enter g.lim rfl code_message_fields_1 ?_)
    | (refine Some'.ptr (by decide) ?_)
    | (refine Need.mk ⟨rfl, by decide⟩ ?_)
    | (refine LoopW.to ih rfl rfl))
set_option maxHeartbeats 8000000 in
theorem rnd_P1 (l : Lnt) (xs : List D)  {K : Ex → Env → Mem → Prop} (ih : LoopW E ⟨0, 1⟩ [1, 3, 6, 7] keepP b_message_printLine_1 (envP 2 2) (memP l 2 (xs ++ [.str l.rq.ca])) K) : LoopW E ⟨0, 1⟩ [1, 3, 6, 7] keepP b_message_printLine_1 (envP 1 1) (memP l 1 xs) K := by
  refine LoopW.step g.lim ?_
  repeat' ((conv => whnf); first
  | refine Br.tt ?_
  | refine Br.ff ?_
  | refine Need.w ?_
  | refine Wr.w ?_
  | refine Cmp.t ?_
  | refine Cmp.f ?_
  | refine Rem.w ?_
  | refine Quo.w ?_
  | refine PickV.now rfl ?_
  | refine Pick.now rfl ?_
  | refine Chk.mk rfl ?_
  | refine PickW.w rfl ?_
    | (refine In.enter g.lim rfl code_message_text_1 ?_)
    | (refine In.enter g.lim rfl code_message_fields_2 ?_)
    | (refine Some'.ptr (by decide) ?_)
    | (refine Need.mk ⟨rfl, by decide⟩ ?_)
    | (refine LoopW.to ih rfl rfl))
set_option maxHeartbeats 8000000 in
theorem rnd_P2 (l : Lnt) (xs : List D)  {K : Ex → Env → Mem → Prop} (ih : LoopW E ⟨0, 1⟩ [1, 3, 6, 7] keepP b_message_printLine_1 (envP 3 3) (memP l 3 (xs ++ [.str l.rq.nm])) K) : LoopW E ⟨0, 1⟩ [1, 3, 6, 7] keepP b_message_printLine_1 (envP 2 2) (memP l 2 xs) K := by
  refine LoopW.step g.lim ?_
  repeat' ((conv => whnf); first
  | refine Br.tt ?_
  | refine Br.ff ?_
  | refine Need.w ?_
  | refine Wr.w ?_
  | refine Cmp.t ?_
  | refine Cmp.f ?_
  | refine Rem.w ?_
  | refine Quo.w ?_
  | refine PickV.now rfl ?_
  | refine Pick.now rfl ?_
  | refine Chk.mk rfl ?_
  | refine PickW.w rfl ?_
    | (refine In.enter g.lim rfl code_message_text_1 ?_)
    | (refine In.enter g.lim rfl code_message_fields_3 ?_)
    | (refine Some'.ptr (by decide) ?_)
    | (refine Need.mk ⟨rfl, by decide⟩ ?_)
    | (refine LoopW.to ih rfl rfl))
set_option maxHeartbeats 8000000 in
theorem rnd_P3 (l : Lnt) (xs : List D)  {K : Ex → Env → Mem → Prop} (ih : LoopW E ⟨0, 1⟩ [1, 3, 6, 7] keepP b_message_printLine_1 (envP 4 4) (memP l 4 (xs ++ [.str l.rq.ki])) K) : LoopW E ⟨0, 1⟩ [1, 3, 6, 7] keepP b_message_printLine_1 (envP 3 3) (memP l 3 xs) K := by
  refine LoopW.step g.lim ?_
  repeat' ((conv => whnf); first
  | refine Br.tt ?_
  | refine Br.ff ?_
  | refine Need.w ?_
  | refine Wr.w ?_
  | refine Cmp.t ?_
  | refine Cmp.f ?_
  | refine Rem.w ?_
  | refine Quo.w ?_
  | refine PickV.now rfl ?_
  | refine Pick.now rfl ?_
  | refine Chk.mk rfl ?_
  | refine PickW.w rfl ?_
    | (refine In.enter g.lim rfl code_message_text_1 ?_)
    | (refine In.enter g.lim rfl code_message_fields_4 ?_)
    | (refine Some'.ptr (by decide) ?_)
    | (refine Need.mk ⟨rfl, by decide⟩ ?_)
    | (refine LoopW.to ih rfl rfl))
set_option maxHeartbeats 8000000 in
theorem rnd_P4 (l : Lnt) (xs : List D)  {K : Ex → Env → Mem → Prop} (ih : LoopW E ⟨0, 1⟩ [1, 3, 6, 7] keepP b_message_printLine_1 (envP 5 5) (memP l 5 (xs ++ [.str l.rq.pa])) K) : LoopW E ⟨0, 1⟩ [1, 3, 6, 7] keepP b_message_printLine_1 (envP 4 4) (memP l 4 xs) K := by
  refine LoopW.step g.lim ?_
  repeat' ((conv => whnf); first
  | refine Br.tt ?_
  | refine Br.ff ?_
  | refine Need.w ?_
  | refine Wr.w ?_
  | refine Cmp.t ?_
  | refine Cmp.f ?_
  | refine Rem.w ?_
  | refine Quo.w ?_
  | refine PickV.now rfl ?_
  | refine Pick.now rfl ?_
  | refine Chk.mk rfl ?_
  | refine PickW.w rfl ?_
    | (refine In.enter g.lim rfl code_message_text_1 ?_)
    | (refine In.enter g.lim rfl code_message_fields_5 ?_)
    | (refine Some'.ptr (by decide) ?_)
    | (refine Need.mk ⟨rfl, by decide⟩ ?_)
    | (refine LoopW.to ih rfl rfl))
set_option maxHeartbeats 8000000 in
theorem rnd_P5 (l : Lnt) (xs : List D) (hw : Fc E n_message_wide [I l.rq.fr, I 5] (S (wideL 5 l.rq.fr))) {K : Ex → Env → Mem → Prop} (ih : LoopW E ⟨0, 1⟩ [1, 3, 6, 7] keepP b_message_printLine_1 (envP 6 6) (memP l 6 (xs ++ [.str (wideL 5 l.rq.fr)])) K) : LoopW E ⟨0, 1⟩ [1, 3, 6, 7] keepP b_message_printLine_1 (envP 5 5) (memP l 5 xs) K := by
  refine LoopW.step g.lim ?_
  repeat' ((conv => whnf); first
  | refine Br.tt ?_
  | refine Br.ff ?_
  | refine Need.w ?_
  | refine Wr.w ?_
  | refine Cmp.t ?_
  | refine Cmp.f ?_
  | refine Rem.w ?_
  | refine Quo.w ?_
  | refine PickV.now rfl ?_
  | refine Pick.now rfl ?_
  | refine Chk.mk rfl ?_
  | refine PickW.w rfl ?_
    | (refine In.enter g.lim rfl code_message_digits_1 ?_)
    | (refine In.enter g.lim rfl code_message_fields_6 ?_)
    | (refine Some'.ptr (by decide) ?_)
    | (refine Need.mk ⟨rfl, by decide⟩ ?_)
    | (refine CallI.of hw ?_)
    | (refine LoopW.to ih rfl rfl))
set_option maxHeartbeats 8000000 in
theorem rnd_P6 (l : Lnt) (xs : List D) (hw : Fc E n_message_wide [I l.rq.to, I 5] (S (wideL 5 l.rq.to))) {K : Ex → Env → Mem → Prop} (ih : LoopW E ⟨0, 1⟩ [1, 3, 6, 7] keepP b_message_printLine_1 (envP 7 7) (memP l 7 (xs ++ [.str (wideL 5 l.rq.to)])) K) : LoopW E ⟨0, 1⟩ [1, 3, 6, 7] keepP b_message_printLine_1 (envP 6 6) (memP l 6 xs) K := by
  refine LoopW.step g.lim ?_
  repeat' ((conv => whnf); first
  | refine Br.tt ?_
  | refine Br.ff ?_
  | refine Need.w ?_
  | refine Wr.w ?_
  | refine Cmp.t ?_
  | refine Cmp.f ?_
  | refine Rem.w ?_
  | refine Quo.w ?_
  | refine PickV.now rfl ?_
  | refine Pick.now rfl ?_
  | refine Chk.mk rfl ?_
  | refine PickW.w rfl ?_
    | (refine In.enter g.lim rfl code_message_digits_1 ?_)
    | (refine In.enter g.lim rfl code_message_fields_7 ?_)
    | (refine Some'.ptr (by decide) ?_)
    | (refine Need.mk ⟨rfl, by decide⟩ ?_)
    | (refine CallI.of hw ?_)
    | (refine LoopW.to ih rfl rfl))
set_option maxHeartbeats 8000000 in
theorem rnd_P7 (l : Lnt) (xs : List D) (hw : Fc E n_calendar_PrintMask [I l.rq.da] (.tup [S (maskL l.rq.da.toNat), I 0])) {K : Ex → Env → Mem → Prop} (ih : LoopW E ⟨0, 1⟩ [1, 3, 6, 7] keepP b_message_printLine_1 (envP 8 8) (memP l 8 (xs ++ [.str (maskL l.rq.da.toNat)])) K) : LoopW E ⟨0, 1⟩ [1, 3, 6, 7] keepP b_message_printLine_1 (envP 7 7) (memP l 7 xs) K := by
  refine LoopW.step g.lim ?_
  repeat' ((conv => whnf); first
  | refine Br.tt ?_
  | refine Br.ff ?_
  | refine Need.w ?_
  | refine Wr.w ?_
  | refine Cmp.t ?_
  | refine Cmp.f ?_
  | refine Rem.w ?_
  | refine Quo.w ?_
  | refine PickV.now rfl ?_
  | refine Pick.now rfl ?_
  | refine Chk.mk rfl ?_
  | refine PickW.w rfl ?_
    | (refine In.enter g.lim rfl code_message_fields_8 ?_)
    | (refine Some'.ptr (by decide) ?_)
    | (refine Need.mk ⟨rfl, by decide⟩ ?_)
    | (refine CallI.of hw ?_)
    | (refine LoopW.to ih rfl rfl))
set_option maxHeartbeats 8000000 in
theorem rnd_P8 (l : Lnt) (xs : List D) (hw : Fc E n_message_PrintMinute [I l.rq.mi] (.tup [S (minL l.rq.mi), I 0])) {K : Ex → Env → Mem → Prop} (ih : LoopW E ⟨0, 1⟩ [1, 3, 6, 7] keepP b_message_printLine_1 (envP 9 9) (memP l 9 (xs ++ [.str (minL l.rq.mi)])) K) : LoopW E ⟨0, 1⟩ [1, 3, 6, 7] keepP b_message_printLine_1 (envP 8 8) (memP l 8 xs) K := by
  refine LoopW.step g.lim ?_
  repeat' ((conv => whnf); first
  | refine Br.tt ?_
  | refine Br.ff ?_
  | refine Need.w ?_
  | refine Wr.w ?_
  | refine Cmp.t ?_
  | refine Cmp.f ?_
  | refine Rem.w ?_
  | refine Quo.w ?_
  | refine PickV.now rfl ?_
  | refine Pick.now rfl ?_
  | refine Chk.mk rfl ?_
  | refine PickW.w rfl ?_
    | (refine In.enter g.lim rfl code_message_fields_10 ?_)
    | (refine Some'.ptr (by decide) ?_)
    | (refine Need.mk ⟨rfl, by decide⟩ ?_)
    | (refine CallI.of hw ?_)
    | (refine LoopW.to ih rfl rfl))
set_option maxHeartbeats 8000000 in
theorem rnd_P9 (l : Lnt) (xs : List D) (hw : Fc E n_message_wide [I l.rq.se, I 3] (S (wideL 3 l.rq.se))) {K : Ex → Env → Mem → Prop} (ih : LoopW E ⟨0, 1⟩ [1, 3, 6, 7] keepP b_message_printLine_1 (envP 10 10) (memP l 10 (xs ++ [.str (wideL 3 l.rq.se)])) K) : LoopW E ⟨0, 1⟩ [1, 3, 6, 7] keepP b_message_printLine_1 (envP 9 9) (memP l 9 xs) K := by
  refine LoopW.step g.lim ?_
  repeat' ((conv => whnf); first
  | refine Br.tt ?_
  | refine Br.ff ?_
  | refine Need.w ?_
  | refine Wr.w ?_
  | refine Cmp.t ?_
  | refine Cmp.f ?_
  | refine Rem.w ?_
  | refine Quo.w ?_
  | refine PickV.now rfl ?_
  | refine Pick.now rfl ?_
  | refine Chk.mk rfl ?_
  | refine PickW.w rfl ?_
    | (refine In.enter g.lim rfl code_message_digits_1 ?_)
    | (refine In.enter g.lim rfl code_message_fields_12 ?_)
    | (refine Some'.ptr (by decide) ?_)
    | (refine Need.mk ⟨rfl, by decide⟩ ?_)
    | (refine CallI.of hw ?_)
    | (refine LoopW.to ih rfl rfl))
set_option maxHeartbeats 8000000 in
theorem rnd_P10 (l : Lnt) (xs : List D) (hw : Fc E n_message_wide [I l.rq.si, I 1] (S (wideL 1 l.rq.si))) {K : Ex → Env → Mem → Prop} (ih : LoopW E ⟨0, 1⟩ [1, 3, 6, 7] keepP b_message_printLine_1 (envP 11 11) (memP l 11 (xs ++ [.str (wideL 1 l.rq.si)])) K) : LoopW E ⟨0, 1⟩ [1, 3, 6, 7] keepP b_message_printLine_1 (envP 10 10) (memP l 10 xs) K := by
  refine LoopW.step g.lim ?_
  repeat' ((conv => whnf); first
  | refine Br.tt ?_
  | refine Br.ff ?_
  | refine Need.w ?_
  | refine Wr.w ?_
  | refine Cmp.t ?_
  | refine Cmp.f ?_
  | refine Rem.w ?_
  | refine Quo.w ?_
  | refine PickV.now rfl ?_
  | refine Pick.now rfl ?_
  | refine Chk.mk rfl ?_
  | refine PickW.w rfl ?_
    | (refine In.enter g.lim rfl code_message_digits_1 ?_)
    | (refine In.enter g.lim rfl code_message_fields_13 ?_)
    | (refine Some'.ptr (by decide) ?_)
    | (refine Need.mk ⟨rfl, by decide⟩ ?_)
    | (refine CallI.of hw ?_)
    | (refine LoopW.to ih rfl rfl))
set_option maxHeartbeats 8000000 in
theorem rnd_P11 (l : Lnt) (xs : List D) (hw : Fc E n_message_wide [I l.rq.no, I 2] (S (wideL 2 l.rq.no))) {K : Ex → Env → Mem → Prop} (ih : LoopW E ⟨0, 1⟩ [1, 3, 6, 7] keepP b_message_printLine_1 (envP 12 12) (memP l 12 (xs ++ [.str (wideL 2 l.rq.no)])) K) : LoopW E ⟨0, 1⟩ [1, 3, 6, 7] keepP b_message_printLine_1 (envP 11 11) (memP l 11 xs) K := by
  refine LoopW.step g.lim ?_
  repeat' ((conv => whnf); first
  | refine Br.tt ?_
  | refine Br.ff ?_
  | refine Need.w ?_
  | refine Wr.w ?_
  | refine Cmp.t ?_
  | refine Cmp.f ?_
  | refine Rem.w ?_
  | refine Quo.w ?_
  | refine PickV.now rfl ?_
  | refine Pick.now rfl ?_
  | refine Chk.mk rfl ?_
  | refine PickW.w rfl ?_
    | (refine In.enter g.lim rfl code_message_digits_1 ?_)
    | (refine In.enter g.lim rfl code_message_fields_14 ?_)
    | (refine Some'.ptr (by decide) ?_)
    | (refine Need.mk ⟨rfl, by decide⟩ ?_)
    | (refine CallI.of hw ?_)
    | (refine LoopW.to ih rfl rfl))
set_option maxHeartbeats 8000000 in
theorem rnd_P12 (l : Lnt) (xs : List D)  {K : Ex → Env → Mem → Prop} (ih : LoopW E ⟨0, 1⟩ [1, 3, 6, 7] keepP b_message_printLine_1 (envP 13 13) (memP l 13 (xs ++ [.str (dashL l.rq.te)])) K) : LoopW E ⟨0, 1⟩ [1, 3, 6, 7] keepP b_message_printLine_1 (envP 12 12) (memP l 12 xs) K := by
  by_cases he : l.rq.te = []
  · rw [show dashL l.rq.te = [45] from if_pos he] at ih
    refine LoopW.step g.lim ?_
    repeat' ((conv => whnf); first
    | refine Br.tt ?_
    | refine Br.ff ?_
    | refine Need.w ?_
    | refine Wr.w ?_
    | refine Cmp.t ?_
    | refine Cmp.f ?_
    | refine Rem.w ?_
    | refine Quo.w ?_
    | refine PickV.now rfl ?_
    | refine Pick.now rfl ?_
    | refine Chk.mk rfl ?_
    | refine PickW.w rfl ?_
      | (refine In.enter g.lim rfl code_message_dashed_1 ?_)
      | (refine In.enter g.lim rfl code_message_fields_15 ?_)
      | (refine Some'.ptr (by decide) ?_)
      | (refine Need.mk ⟨rfl, by decide⟩ ?_)
      | (refine Cmp.tt he ?_)
      | (refine LoopW.to ih rfl rfl))
  · rw [show dashL l.rq.te = l.rq.te from if_neg he] at ih
    refine LoopW.step g.lim ?_
    repeat' ((conv => whnf); first
    | refine Br.tt ?_
    | refine Br.ff ?_
    | refine Need.w ?_
    | refine Wr.w ?_
    | refine Cmp.t ?_
    | refine Cmp.f ?_
    | refine Rem.w ?_
    | refine Quo.w ?_
    | refine PickV.now rfl ?_
    | refine Pick.now rfl ?_
    | refine Chk.mk rfl ?_
    | refine PickW.w rfl ?_
      | (refine In.enter g.lim rfl code_message_dashed_1 ?_)
      | (refine In.enter g.lim rfl code_message_fields_15 ?_)
      | (refine Some'.ptr (by decide) ?_)
      | (refine Need.mk ⟨rfl, by decide⟩ ?_)
      | (refine Cmp.ff he ?_)
      | (refine LoopW.to ih rfl rfl))
set_option maxHeartbeats 8000000 in
theorem rnd_P13 (l : Lnt) (xs : List D)  {K : Ex → Env → Mem → Prop} (ih : LoopW E ⟨0, 1⟩ [1, 3, 6, 7] keepP b_message_printLine_1 (envP 14 14) (memP l 14 (xs ++ [.str (dashL l.rq.li)])) K) : LoopW E ⟨0, 1⟩ [1, 3, 6, 7] keepP b_message_printLine_1 (envP 13 13) (memP l 13 xs) K := by
  by_cases he : l.rq.li = []
  · rw [show dashL l.rq.li = [45] from if_pos he] at ih
    refine LoopW.step g.lim ?_
    repeat' ((conv => whnf); first
    | refine Br.tt ?_
    | refine Br.ff ?_
    | refine Need.w ?_
    | refine Wr.w ?_
    | refine Cmp.t ?_
    | refine Cmp.f ?_
    | refine Rem.w ?_
    | refine Quo.w ?_
    | refine PickV.now rfl ?_
    | refine Pick.now rfl ?_
    | refine Chk.mk rfl ?_
    | refine PickW.w rfl ?_
      | (refine In.enter g.lim rfl code_message_dashed_1 ?_)
      | (refine In.enter g.lim rfl code_message_fields_16 ?_)
      | (refine Some'.ptr (by decide) ?_)
      | (refine Need.mk ⟨rfl, by decide⟩ ?_)
      | (refine Cmp.tt he ?_)
      | (refine LoopW.to ih rfl rfl))
  · rw [show dashL l.rq.li = l.rq.li from if_neg he] at ih
    refine LoopW.step g.lim ?_
    repeat' ((conv => whnf); first
    | refine Br.tt ?_
    | refine Br.ff ?_
    | refine Need.w ?_
    | refine Wr.w ?_
    | refine Cmp.t ?_
    | refine Cmp.f ?_
    | refine Rem.w ?_
    | refine Quo.w ?_
    | refine PickV.now rfl ?_
    | refine Pick.now rfl ?_
    | refine Chk.mk rfl ?_
    | refine PickW.w rfl ?_
      | (refine In.enter g.lim rfl code_message_dashed_1 ?_)
      | (refine In.enter g.lim rfl code_message_fields_16 ?_)
      | (refine Some'.ptr (by decide) ?_)
      | (refine Need.mk ⟨rfl, by decide⟩ ?_)
      | (refine Cmp.ff he ?_)
      | (refine LoopW.to ih rfl rfl))
set_option maxHeartbeats 8000000 in
theorem s_printLine (l : Lnt) (h : chkLn l = 0) : Fc E n_message_printLine [Lnv l] (S (lineL l)) := by
  refine g.fn code_message_printLine rfl ?_
  obtain ⟨ha, hq⟩ := chkLn_ok h
  obtain ⟨p1, p2, p3, p4, p5, p6⟩ := hq.per
  obtain ⟨m1, m2⟩ := hq.mi
  obtain ⟨s1, s2⟩ := hq.se
  obtain ⟨z1, z2⟩ := hq.si
  obtain ⟨o1, o2⟩ := hq.no
  have w1 := s_wide g l.rq.fr 5 (by omega) (by omega)
  have w2 := s_wide g l.rq.to 5 (by omega) (by omega)
  have w3 := s_wide g l.rq.se 3 (by omega) (by omega)
  have w4 := s_wide g l.rq.si 1 (by omega) (by omega)
  have w5 := s_wide g l.rq.no 2 (by omega) (by omega)
  have mk := s_PrintMask_ok g l.rq.da.toNat (by omega)
  rw [Int.toNat_of_nonneg (by omega)] at mk
  have mi := s_PrintMinute g l.rq.mi
  rw [rng_zero.2 ⟨m1, m2⟩, if_pos rfl] at mi
  have hj := s_Join g (wordsL l) (by simp [wordsL]) (by simp [wordsL]) (Nat.le_trans (lineL_len ha hq) (by decide))
  repeat' ((conv => whnf); first
  | refine Br.tt ?_
  | refine Br.ff ?_
  | refine Need.w ?_
  | refine Wr.w ?_
  | refine Cmp.t ?_
  | refine Cmp.f ?_
  | refine Rem.w ?_
  | refine Quo.w ?_
  | refine PickV.now rfl ?_
  | refine Pick.now rfl ?_
  | refine Chk.mk rfl ?_
  | refine PickW.w rfl ?_
    | (refine CallS.fields g rfl ?_))
  refine LoopW.to (e1 := envP 0 0) (m1 := memP l 0 []) ?_ rfl rfl
  refine rnd_P0 g l _ ?_
  refine rnd_P1 g l _ ?_
  refine rnd_P2 g l _ ?_
  refine rnd_P3 g l _ ?_
  refine rnd_P4 g l _ ?_
  refine rnd_P5 g l _ w1 ?_
  refine rnd_P6 g l _ w2 ?_
  refine rnd_P7 g l _ mk ?_
  refine rnd_P8 g l _ mi ?_
  refine rnd_P9 g l _ w3 ?_
  refine rnd_P10 g l _ w4 ?_
  refine rnd_P11 g l _ w5 ?_
  refine rnd_P12 g l _ ?_
  refine rnd_P13 g l _ ?_
  refine LoopW.step g.lim ?_
  repeat' ((conv => whnf); first
  | refine Br.tt ?_
  | refine Br.ff ?_
  | refine Need.w ?_
  | refine Wr.w ?_
  | refine Cmp.t ?_
  | refine Cmp.f ?_
  | refine Rem.w ?_
  | refine Quo.w ?_
  | refine PickV.now rfl ?_
  | refine Pick.now rfl ?_
  | refine Chk.mk rfl ?_
  | refine PickW.w rfl ?_
    | (refine CallI.of hj ?_)
    | (refine Ret.mk rfl))
theorem s_PrintLine (l : Lnt) : Fc E n_message_PrintLine [Lnv l] (.tup [S (if chkLn l = 0 then lineL l else []), I (chkLn l)]) := by
  refine g.fn code_message_PrintLine rfl ?_
  have h1 := s_CheckLine g l
  by_cases h : chkLn l = 0
  · have h2 := s_printLine g l h
    rw [h] at h1
    rw [if_pos h, h]
    repeat' ((conv => whnf); first
    | refine Br.tt ?_
    | refine Br.ff ?_
    | refine Need.w ?_
    | refine Wr.w ?_
    | refine Cmp.t ?_
    | refine Cmp.f ?_
    | refine Rem.w ?_
    | refine Quo.w ?_
    | refine PickV.now rfl ?_
    | refine Pick.now rfl ?_
    | refine Chk.mk rfl ?_
    | refine PickW.w rfl ?_
      | (apply CallI.of; assumption)
      | (refine Ret.mk rfl))
  · rw [if_neg h]
    repeat' ((conv => whnf); first
    | refine Br.tt ?_
    | refine Br.ff ?_
    | refine Need.w ?_
    | refine Wr.w ?_
    | refine Cmp.t ?_
    | refine Cmp.f ?_
    | refine Rem.w ?_
    | refine Quo.w ?_
    | refine PickV.now rfl ?_
    | refine Pick.now rfl ?_
    | refine Chk.mk rfl ?_
    | refine PickW.w rfl ?_
      | (apply CallI.of; assumption)
      | (refine Ret.mk rfl))
end
end Go.Proofs.YtmjifdpcoaeehaaGreatDoor.Co
