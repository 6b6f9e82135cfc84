/-
  The functions of the seat in the evaluator's syntax (printed by a program of mine; checked in a text that follows).
-/
import Derived.Test.YtgncpnnakchodaaGreatDoorCoa
namespace Go.Proofs.YtgncpnnakchodaaGreatDoor.Co
open Go.Evl

/-- "turnround/turnroundref02.IsSeason" -/
def c_ref02_IsSeason : CF := ⟨[.tmp 2],
  (.seq (.reg false [
⟨some 2, none, .mv (.k (.d (.bool false)))⟩] [2])
(.seq (.reg false [
⟨some 3, none, .mv (.t 0)⟩,
⟨some 4, none, .len .str (.t 3)⟩,
⟨some 5, none, .bin .eql (.t 4) (.k (.d (.int .i64 5)))⟩,
⟨some 6, none, .mv (.t 5)⟩,
⟨some 7, (some (6, true)), .mv (.t 0)⟩,
⟨some 8, (some (6, true)), .idxS (.t 7) (.k (.d (.int .i64 0)))⟩,
⟨some 9, (some (6, true)), .bin .eql (.t 8) (.k (.d (.int .u8 83)))⟩,
⟨some 10, (some (6, true)), .mv (.t 9)⟩,
⟨some 11, (some (10, false)), .mv (.t 0)⟩,
⟨some 12, (some (10, false)), .idxS (.t 11) (.k (.d (.int .i64 0)))⟩,
⟨some 13, (some (10, false)), .bin .eql (.t 12) (.k (.d (.int .u8 87)))⟩,
⟨some 14, (some (6, true)), .pick (.t 10) (.k (.d (.bool true))) (.t 13)⟩,
⟨some 15, none, .pick (.t 6) (.t 14) (.k (.d (.bool false)))⟩,
⟨some 16, none, .mv (.t 15)⟩,
⟨some 17, (some (16, true)), .mv (.t 0)⟩,
⟨some 18, (some (16, true)), .sliceS (.t 17) (some (.k (.d (.int .i64 1)))) none⟩,
⟨some 19, (some (16, true)), .call false true (.k (.fn n_ref02_digits [] [])) [.t 18, .k (.d (.int .i64 4))]⟩,
⟨some 20, (some (16, true)), .bin .geq (.t 19) (.k (.d (.int .i64 0)))⟩,
⟨some 21, none, .pick (.t 16) (.t 20) (.k (.d (.bool false)))⟩,
⟨some 2, none, .mv (.t 21)⟩] [0, 3, 4, 5, 6, 7, 8, 9, 10, 11, 12, 13, 14, 15, 16, 17, 18, 19, 20, 21])
.ret))⟩

/-- "turnround/turnroundref01.CheckDay" -/
def c_ref01_CheckDay : CF := ⟨[.tmp 2],
  (.seq (.reg false [
⟨some 2, none, .mv (.k (.d (.int .i64 0)))⟩] [2])
(.seq (.reg false [
⟨some 3, none, .mv (.t 0)⟩,
⟨some 4, none, .call false true (.k (.fn n_ref01_CheckRange [] [])) [.t 3, .k (.d (.int .i64 0)), .k (.d (.int .i64 99999))]⟩,
⟨some 2, none, .mv (.t 4)⟩] [0, 3, 4])
.ret))⟩

/-- "turnround/turnroundref02.CheckLine" -/
def c_ref02_CheckLine : CF := ⟨[.tmp 2],
  (.seq (.reg false [
⟨some 1, none, .box ty_turnroundref02_Line (.t 0)⟩,
⟨some 2, none, .mv (.k (.d (.int .i64 0)))⟩] [0, 2])
(.seq (.seq (.reg false [
⟨some 3, none, .fieldAddr 0 (.t 1)⟩,
⟨some 4, none, .load none (.t 3)⟩,
⟨some 5, none, .call false true (.k (.fn n_ref02_Asks [] [])) [.t 4]⟩,
⟨some 6, none, .un .not (.t 5)⟩,
⟨some 7, none, .mv (.t 6)⟩,
⟨some 8, (some (7, true)), .fieldAddr 0 (.t 1)⟩,
⟨some 9, (some (7, true)), .load none (.t 8)⟩,
⟨some 10, (some (7, true)), .call false true (.k (.fn n_ref02_Replies [] [])) [.t 9]⟩,
⟨some 11, (some (7, true)), .un .not (.t 10)⟩,
⟨some 12, none, .pick (.t 7) (.t 11) (.k (.d (.bool false)))⟩] [3, 4, 5, 6, 7, 8, 9, 10, 11])
(.cond (.t 12) (.seq (.reg false [
⟨some 2, none, .mv (.k (.d (.int .i64 13)))⟩] [])
.ret)
 .skip))
(.seq (.reg false [
⟨some 13, none, .fieldAddr 1 (.t 1)⟩,
⟨some 14, none, .load (some 13) (.t 13)⟩,
⟨some 15, none, .call false true (.k (.fn n_ref02_CheckRequest [] [])) [.t 14]⟩,
⟨some 2, none, .mv (.t 15)⟩] [1, 13, 14, 15])
.ret)))⟩

/-- "turnround/turnroundref02.Asks" -/
def c_ref02_Asks : CF := ⟨[.tmp 2],
  (.seq (.reg false [
⟨some 2, none, .mv (.k (.d (.bool false)))⟩] [2])
(.seq (.reg false [
⟨some 3, none, .mkList 1 5 [.k (.d (.str [78])), .k (.d (.str [72])), .k (.d (.str [67])), .k (.d (.str [82])), .k (.d (.str [68]))]⟩,
⟨some 4, none, .mv (.t 0)⟩,
⟨some 5, none, .call false true (.k (.fn n_ref01_HasWord [] [])) [.t 3, .t 4]⟩,
⟨some 2, none, .mv (.t 5)⟩] [0, 3, 4, 5])
.ret))⟩

/-- "turnround/turnroundref01.Text" -/
def c_ref01_Text : CF := ⟨[.tmp 2],
  (.seq (.reg false [
⟨some 2, none, .mv (.k (.d (.str [])))⟩] [2])
(.seq (.seq (.reg false [
⟨some 3, none, .mv (.t 0)⟩,
⟨some 4, none, .bin .lss (.t 3) (.k (.d (.int .i64 10)))⟩] [3])
(.cond (.t 4) (.seq (.reg false [
⟨some 5, none, .mv (.t 0)⟩,
⟨some 6, none, .call false true (.k (.fn n_ref01_digit [] [])) [.t 5]⟩,
⟨some 2, none, .mv (.t 6)⟩] [0, 5, 6])
.ret)
 .skip))
(.seq (.reg false [
⟨some 7, none, .mv (.t 0)⟩,
⟨some 8, none, .bin .quo (.t 7) (.k (.d (.int .i64 10)))⟩,
⟨some 9, none, .call false true (.k (.fn n_ref01_Text [] [])) [.t 8]⟩,
⟨some 10, none, .mv (.t 0)⟩,
⟨some 11, none, .bin .rem (.t 10) (.k (.d (.int .i64 10)))⟩,
⟨some 12, none, .call false true (.k (.fn n_ref01_digit [] [])) [.t 11]⟩,
⟨some 13, none, .bin .add (.t 9) (.t 12)⟩,
⟨some 2, none, .mv (.t 13)⟩] [0, 7, 8, 9, 10, 11, 12, 13])
.ret)))⟩

/-- "turnround/turnroundref02.Fields" -/
def c_ref02_Fields : CF := ⟨[.tmp 2],
  (.seq (.reg false [
⟨some 1, none, .box ty_turnroundref02_Line (.t 0)⟩,
⟨some 2, none, .mv (.k (.d (.list 0 [])))⟩] [0, 2])
(.seq (.reg false [
⟨some 4, none, .fieldAddr 1 (.t 1)⟩,
⟨some 5, none, .load (some 13) (.t 4)⟩,
⟨some 3, none, .alloc ty_api_Request [.z (.str []), .z (.str []), .z (.str []), .z (.str []), .z (.str []), .z (.str []), .z (.int .i64 0), .z (.int .i64 0), .z (.int .i64 0), .z (.int .i64 0), .z (.int .i64 0), .z (.int .i64 0), .z (.int .i64 0)]⟩,
⟨none, none, .store 13 (.t 3) (.t 5)⟩] [4, 5])
(.seq (.reg true [
⟨some 6, none, .fieldAddr 0 (.t 1)⟩,
⟨some 7, none, .load none (.t 6)⟩,
⟨some 8, none, .fieldAddr 1 (.t 3)⟩,
⟨some 9, none, .load none (.t 8)⟩,
⟨some 10, none, .fieldAddr 0 (.t 3)⟩,
⟨some 11, none, .load none (.t 10)⟩,
⟨some 12, none, .fieldAddr 2 (.t 3)⟩,
⟨some 13, none, .load none (.t 12)⟩,
⟨some 14, none, .fieldAddr 4 (.t 3)⟩,
⟨some 15, none, .load none (.t 14)⟩,
⟨some 16, none, .fieldAddr 6 (.t 3)⟩,
⟨some 17, none, .fieldAddr 0 (.t 16)⟩,
⟨some 18, none, .load none (.t 17)⟩,
⟨some 19, none, .call false true (.k (.fn n_ref02_wide [] [])) [.t 18, .k (.d (.int .i64 5))]⟩,
⟨some 20, none, .fieldAddr 6 (.t 3)⟩,
⟨some 21, none, .fieldAddr 1 (.t 20)⟩,
⟨some 22, none, .load none (.t 21)⟩,
⟨some 23, none, .call false true (.k (.fn n_ref02_wide [] [])) [.t 22, .k (.d (.int .i64 5))]⟩,
⟨some 24, none, .fieldAddr 6 (.t 3)⟩,
⟨some 25, none, .fieldAddr 2 (.t 24)⟩,
⟨some 26, none, .load none (.t 25)⟩,
⟨some 27, none, .call false true (.k (.fn n_ref01_PrintMask [] [])) [.t 26]⟩,
⟨some 28, none, .fieldAddr 9 (.t 3)⟩,
⟨some 29, none, .load none (.t 28)⟩,
⟨some 30, none, .call false true (.k (.fn n_ref02_PrintMinute [] [])) [.t 29]⟩,
⟨some 31, none, .fieldAddr 10 (.t 3)⟩,
⟨some 32, none, .load none (.t 31)⟩,
⟨some 33, none, .call false true (.k (.fn n_ref02_wide [] [])) [.t 32, .k (.d (.int .i64 3))]⟩,
⟨some 34, none, .fieldAddr 11 (.t 3)⟩,
⟨some 35, none, .load none (.t 34)⟩,
⟨some 36, none, .call false true (.k (.fn n_ref02_wide [] [])) [.t 35, .k (.d (.int .i64 1))]⟩,
⟨some 37, none, .fieldAddr 12 (.t 3)⟩,
⟨some 38, none, .load none (.t 37)⟩,
⟨some 39, none, .call false true (.k (.fn n_ref02_wide [] [])) [.t 38, .k (.d (.int .i64 2))]⟩,
⟨some 40, none, .fieldAddr 3 (.t 3)⟩,
⟨some 41, none, .load none (.t 40)⟩,
⟨some 42, none, .call false true (.k (.fn n_ref02_dashed [] [])) [.t 41]⟩,
⟨some 43, none, .fieldAddr 5 (.t 3)⟩,
⟨some 44, none, .load none (.t 43)⟩,
⟨some 45, none, .call false true (.k (.fn n_ref02_dashed [] [])) [.t 44]⟩,
⟨some 46, none, .mkList 1 14 [.t 7, .t 9, .t 11, .t 13, .t 15, .t 19, .t 23, .t 27, .t 30, .t 33, .t 36, .t 39, .t 42, .t 45]⟩,
⟨some 2, none, .mv (.t 46)⟩] [1, 3, 6, 7, 8, 9, 10, 11, 12, 13, 14, 15, 16, 17, 18, 19, 20, 21, 22, 23, 24, 25, 26, 27, 28, 29, 30, 31, 32, 33, 34, 35, 36, 37, 38, 39, 40, 41, 42, 43, 44, 45, 46])
.ret)))⟩

/-- "turnround/message.named" -/
def c_message_named : CF := ⟨[.tmp 2],
  (.seq (.reg false [
⟨some 2, none, .mv (.k (.d (.int .i64 0)))⟩] [2])
(.seq (.reg false [
⟨some 3, none, .mv (.t 0)⟩,
⟨some 4, none, .call false true (.k (.fn n_calendar_IsName [] [])) [.t 3]⟩,
⟨some 5, none, .un .not (.t 4)⟩,
⟨some 6, none, .call false true (.k (.fn n_message_when [] [])) [.t 5, .k (.d (.int .i64 8))]⟩,
⟨some 2, none, .mv (.t 6)⟩] [0, 3, 4, 5, 6])
.ret))⟩

def b_message_isSeason_1 : C :=
  (.seq (.reg false [
⟨some 21, none, .nextS (.t 20)⟩,
⟨some 22, none, .extract (.t 21) 0⟩] [])
(.seq (.cond (.t 22) .skip
 (.exit 0))
(.block 1 (.seq (.reg false [
⟨some 23, none, .extract (.t 21) 2⟩,
⟨some 4, none, .mv (.t 23)⟩] [21, 23])
(.seq (.reg false [
⟨some 24, none, .mv (.t 4)⟩,
⟨some 25, none, .bin .lss (.t 24) (.k (.d (.int .i32 48)))⟩,
⟨some 26, none, .mv (.t 25)⟩,
⟨some 27, (some (26, false)), .mv (.t 4)⟩,
⟨some 28, (some (26, false)), .bin .gtr (.t 27) (.k (.d (.int .i32 57)))⟩,
⟨some 29, none, .pick (.t 26) (.k (.d (.bool true))) (.t 28)⟩] [4, 24, 25, 26, 27, 28])
(.cond (.t 29) (.seq (.reg false [
⟨some 2, none, .mv (.k (.d (.bool false)))⟩] [])
.ret)
 .skip))))))

/-- "turnround/message.isSeason" -/
def c_message_isSeason : CF := ⟨[.tmp 2],
  (.seq (.reg false [
⟨some 2, none, .mv (.k (.d (.bool false)))⟩] [2])
(.seq (.seq (.reg false [
⟨some 5, none, .mv (.t 0)⟩,
⟨some 6, none, .len .str (.t 5)⟩,
⟨some 7, none, .bin .neq (.t 6) (.k (.d (.int .i64 5)))⟩,
⟨some 8, none, .mv (.t 7)⟩,
⟨some 9, (some (8, false)), .mv (.t 0)⟩,
⟨some 10, (some (8, false)), .idxS (.t 9) (.k (.d (.int .i64 0)))⟩,
⟨some 11, (some (8, false)), .bin .neq (.t 10) (.k (.d (.int .u8 83)))⟩,
⟨some 12, (some (8, false)), .mv (.t 11)⟩,
⟨some 13, (some (12, true)), .mv (.t 0)⟩,
⟨some 14, (some (12, true)), .idxS (.t 13) (.k (.d (.int .i64 0)))⟩,
⟨some 15, (some (12, true)), .bin .neq (.t 14) (.k (.d (.int .u8 87)))⟩,
⟨some 16, (some (8, false)), .pick (.t 12) (.t 15) (.k (.d (.bool false)))⟩,
⟨some 17, none, .pick (.t 8) (.k (.d (.bool true))) (.t 16)⟩] [5, 6, 7, 8, 9, 10, 11, 12, 13, 14, 15, 16])
(.cond (.t 17) (.seq (.reg false [
⟨some 2, none, .mv (.k (.d (.bool false)))⟩] [])
.ret)
 .skip))
(.seq (.seq (.reg false [
⟨some 18, none, .mv (.t 0)⟩,
⟨some 19, none, .sliceS (.t 18) (some (.k (.d (.int .i64 1)))) none⟩,
⟨some 20, none, .rangeS (.t 19)⟩] [0, 18, 19])
(.block 0 (.loop [20] b_message_isSeason_1)))
(.seq (.reg false [
⟨some 2, none, .mv (.k (.d (.bool true)))⟩] [])
.ret))))⟩

/-- "turnround/message.actions" -/
def c_message_actions : CF := ⟨[.tmp 0],
  (.seq (.reg false [
⟨some 0, none, .mv (.k (.d (.nilm)))⟩] [0])
(.seq (.reg false [
⟨some 1, none, .mkMap⟩,
⟨none, none, .mapSet .str (.t 1) (.k (.d (.str [78]))) (.k (.d (.str [82, 69, 81])))⟩,
⟨none, none, .mapSet .str (.t 1) (.k (.d (.str [72]))) (.k (.d (.str [82, 69, 81])))⟩,
⟨none, none, .mapSet .str (.t 1) (.k (.d (.str [67]))) (.k (.d (.str [82, 69, 81])))⟩,
⟨none, none, .mapSet .str (.t 1) (.k (.d (.str [82]))) (.k (.d (.str [82, 69, 81])))⟩,
⟨none, none, .mapSet .str (.t 1) (.k (.d (.str [68]))) (.k (.d (.str [82, 69, 81])))⟩,
⟨none, none, .mapSet .str (.t 1) (.k (.d (.str [75]))) (.k (.d (.str [65, 78, 83])))⟩,
⟨none, none, .mapSet .str (.t 1) (.k (.d (.str [79]))) (.k (.d (.str [65, 78, 83])))⟩,
⟨none, none, .mapSet .str (.t 1) (.k (.d (.str [85]))) (.k (.d (.str [65, 78, 83])))⟩,
⟨none, none, .mapSet .str (.t 1) (.k (.d (.str [88]))) (.k (.d (.str [65, 78, 83])))⟩,
⟨some 2, none, .mv (.t 1)⟩,
⟨some 0, none, .mv (.t 2)⟩] [1, 2])
.ret))⟩

def b_message_texts_1_1 : C :=
  (.seq (.seq (.reg false [
⟨some 5, none, .load none (.t 1)⟩,
⟨some 6, none, .bin .neq (.t 5) (.k (.d (.str [])))⟩] [5])
(.cond (.t 6) .skip
 (.exit 0)))
(.seq (.block 1 (.seq (.reg false [
⟨some 9, none, .load none (.t 1)⟩,
⟨some 10, none, .call false true (.k (.fn n_strings_IndexByte [] [])) [.t 9, .k (.d (.int .u8 10))]⟩,
⟨some 11, none, .bin .add (.t 10) (.k (.d (.int .i64 1)))⟩,
⟨some 4, none, .mv (.t 11)⟩] [9, 10, 11])
(.seq (.seq (.reg false [
⟨some 12, none, .mv (.t 4)⟩,
⟨some 13, none, .bin .eql (.t 12) (.k (.d (.int .i64 0)))⟩] [12])
(.cond (.t 13) (.reg false [
⟨some 14, none, .load none (.t 1)⟩,
⟨some 15, none, .len .str (.t 14)⟩,
⟨some 4, none, .mv (.t 15)⟩] [14, 15])
 .skip))
(.seq (.seq (.reg false [
⟨some 16, none, .mv (.t 0)⟩,
⟨some 17, none, .mv (.t 3)⟩,
⟨some 18, none, .load none (.t 1)⟩,
⟨some 19, none, .mv (.t 4)⟩,
⟨some 20, none, .sliceS (.t 18) none (some (.t 19))⟩,
⟨some 21, none, .call true true (.t 16) [.t 17, .t 20]⟩,
⟨some 22, none, .un .not (.t 21)⟩] [16, 17, 18, 19, 20, 21])
(.cond (.t 22) .ret
 .skip))
(.reg false [
⟨some 23, none, .load none (.t 1)⟩,
⟨some 24, none, .mv (.t 4)⟩,
⟨some 25, none, .sliceS (.t 23) (some (.t 24)) none⟩,
⟨none, none, .store 1 (.t 1) (.t 25)⟩] [4, 23, 24, 25])))))
(.reg false [
⟨some 7, none, .mv (.t 3)⟩,
⟨some 8, none, .bin .add (.t 7) (.k (.d (.int .i64 1)))⟩,
⟨some 3, none, .mv (.t 8)⟩] [7, 8])))

/-- "turnround/message.texts.1" -/
def c_message_texts_1 : CF := ⟨[],
  (.seq (.reg false [
⟨some 3, none, .mv (.k (.d (.int .i64 0)))⟩] [])
(.block 0 (.loop [0, 1, 3] b_message_texts_1_1)))⟩

/-- "strings.IndexByte" -/
def c_strings_IndexByte : CF := ⟨[.tmp 4],
  (.seq (.reg false [
⟨some 4, none, .mv (.k (.d (.int .i64 0)))⟩] [4])
(.seq (.reg false [
⟨some 5, none, .mv (.t 0)⟩,
⟨some 6, none, .mv (.t 1)⟩,
⟨some 7, none, .call false true (.k (.fn n_internal_stringslite_IndexByte [] [])) [.t 5, .t 6]⟩,
⟨some 4, none, .mv (.t 7)⟩] [0, 1, 5, 6, 7])
.ret))⟩

/-- "internal/stringslite.CutSuffix" -/
def c_internal_stringslite_CutSuffix : CF := ⟨[.tmp 4, .tmp 5],
  (.seq (.reg false [
⟨some 4, none, .mv (.k (.d (.str [])))⟩,
⟨some 5, none, .mv (.k (.d (.bool false)))⟩] [4, 5])
(.seq (.seq (.reg false [
⟨some 6, none, .mv (.t 0)⟩,
⟨some 7, none, .mv (.t 1)⟩,
⟨some 8, none, .call false true (.k (.fn n_internal_stringslite_HasSuffix [] [])) [.t 6, .t 7]⟩,
⟨some 9, none, .un .not (.t 8)⟩] [6, 7, 8])
(.cond (.t 9) (.seq (.reg false [
⟨some 10, none, .mv (.t 0)⟩,
⟨some 4, none, .mv (.t 10)⟩,
⟨some 5, none, .mv (.k (.d (.bool false)))⟩] [0, 10])
.ret)
 .skip))
(.seq (.reg false [
⟨some 11, none, .mv (.t 0)⟩,
⟨some 12, none, .mv (.t 0)⟩,
⟨some 13, none, .len .str (.t 12)⟩,
⟨some 14, none, .mv (.t 1)⟩,
⟨some 15, none, .len .str (.t 14)⟩,
⟨some 16, none, .bin .sub (.t 13) (.t 15)⟩,
⟨some 17, none, .sliceS (.t 11) none (some (.t 16))⟩,
⟨some 4, none, .mv (.t 17)⟩,
⟨some 5, none, .mv (.k (.d (.bool true)))⟩] [0, 1, 11, 12, 13, 14, 15, 16, 17])
.ret)))⟩

/-- "turnround/turnroundref02.fits" -/
def c_ref02_fits : CF := ⟨[.tmp 4],
  (.seq (.reg false [
⟨some 4, none, .mv (.k (.d (.bool false)))⟩] [4])
(.seq (.seq (.reg false [
⟨some 7, none, .mv (.t 0)⟩] [0])
(.block 0 (.seq (.reg false [
⟨some 9, none, .bin .eql (.t 7) (.k (.d (.int .i64 0)))⟩,
⟨some 8, none, .mv (.t 9)⟩] [9])
(.cond (.t 8) (.seq (.reg false [
⟨some 10, none, .mv (.t 1)⟩,
⟨some 11, none, .call false true (.k (.fn n_ref02_Asks [] [])) [.t 10]⟩,
⟨some 12, none, .mv (.t 11)⟩,
⟨some 13, (some (12, false)), .mv (.t 1)⟩,
⟨some 14, (some (12, false)), .call false true (.k (.fn n_ref02_Replies [] [])) [.t 13]⟩,
⟨some 15, none, .pick (.t 12) (.k (.d (.bool true))) (.t 14)⟩,
⟨some 4, none, .mv (.t 15)⟩] [1, 10, 11, 12, 13, 14, 15])
.ret)
 (.seq (.seq (.reg false [
⟨some 17, none, .bin .eql (.t 7) (.k (.d (.int .i64 1)))⟩,
⟨some 16, none, .mv (.t 17)⟩] [17])
(.cond (.t 16) .skip
 (.seq (.reg false [
⟨some 18, none, .bin .eql (.t 7) (.k (.d (.int .i64 2)))⟩,
⟨some 16, none, .mv (.t 18)⟩] [18])
(.cond (.t 16) .skip
 (.reg false [
⟨some 19, none, .bin .eql (.t 7) (.k (.d (.int .i64 4)))⟩,
⟨some 16, none, .mv (.t 19)⟩] [19])))))
(.cond (.t 16) (.seq (.reg false [
⟨some 20, none, .mv (.t 1)⟩,
⟨some 21, none, .call false true (.k (.fn n_ref01_IsName [] [])) [.t 20]⟩,
⟨some 4, none, .mv (.t 21)⟩] [1, 20, 21])
.ret)
 (.seq (.reg false [
⟨some 23, none, .bin .eql (.t 7) (.k (.d (.int .i64 3)))⟩,
⟨some 22, none, .mv (.t 23)⟩] [23])
(.cond (.t 22) (.seq (.reg false [
⟨some 24, none, .mv (.t 1)⟩,
⟨some 25, none, .bin .eql (.t 24) (.k (.d (.str [65])))⟩,
⟨some 26, none, .mv (.t 25)⟩,
⟨some 27, (some (26, false)), .mv (.t 1)⟩,
⟨some 28, (some (26, false)), .bin .eql (.t 27) (.k (.d (.str [68])))⟩,
⟨some 29, none, .pick (.t 26) (.k (.d (.bool true))) (.t 28)⟩,
⟨some 4, none, .mv (.t 29)⟩] [1, 24, 25, 26, 27, 28, 29])
.ret)
 (.seq (.seq (.reg false [
⟨some 31, none, .bin .eql (.t 7) (.k (.d (.int .i64 5)))⟩,
⟨some 30, none, .mv (.t 31)⟩] [31])
(.cond (.t 30) .skip
 (.reg false [
⟨some 32, none, .bin .eql (.t 7) (.k (.d (.int .i64 6)))⟩,
⟨some 30, none, .mv (.t 32)⟩] [32])))
(.cond (.t 30) (.seq (.reg false [
⟨some 33, none, .mv (.t 1)⟩,
⟨some 34, none, .call false true (.k (.fn n_ref02_digits [] [])) [.t 33, .k (.d (.int .i64 5))]⟩,
⟨some 35, none, .bin .geq (.t 34) (.k (.d (.int .i64 0)))⟩,
⟨some 4, none, .mv (.t 35)⟩] [1, 33, 34, 35])
.ret)
 (.seq (.reg false [
⟨some 37, none, .bin .eql (.t 7) (.k (.d (.int .i64 7)))⟩,
⟨some 36, none, .mv (.t 37)⟩] [37])
(.cond (.t 36) (.seq (.reg false [
⟨some 39, none, .mv (.t 1)⟩,
⟨some 40, none, .call false true (.k (.fn n_ref01_ParseMask [] [])) [.t 39]⟩,
⟨some 38, none, .mv (.t 40)⟩,
⟨some 41, none, .extract (.t 38) 0⟩,
⟨some 42, none, .extract (.t 38) 1⟩,
⟨some 5, none, .mv (.t 41)⟩,
⟨some 6, none, .mv (.t 42)⟩] [1, 5, 38, 39, 40, 41, 42])
(.seq (.reg false [
⟨some 43, none, .mv (.t 6)⟩,
⟨some 44, none, .bin .eql (.t 43) (.k (.d (.int .i64 0)))⟩,
⟨some 4, none, .mv (.t 44)⟩] [6, 43, 44])
.ret))
 (.seq (.reg false [
⟨some 46, none, .bin .eql (.t 7) (.k (.d (.int .i64 8)))⟩,
⟨some 45, none, .mv (.t 46)⟩] [46])
(.cond (.t 45) (.seq (.reg false [
⟨some 47, none, .mv (.t 1)⟩,
⟨some 48, none, .call false true (.k (.fn n_ref02_ParseMinute [] [])) [.t 47]⟩,
⟨some 49, none, .bin .geq (.t 48) (.k (.d (.int .i64 0)))⟩,
⟨some 4, none, .mv (.t 49)⟩] [1, 47, 48, 49])
.ret)
 (.seq (.reg false [
⟨some 51, none, .bin .eql (.t 7) (.k (.d (.int .i64 9)))⟩,
⟨some 50, none, .mv (.t 51)⟩] [51])
(.cond (.t 50) (.seq (.reg false [
⟨some 52, none, .mv (.t 1)⟩,
⟨some 53, none, .call false true (.k (.fn n_ref02_digits [] [])) [.t 52, .k (.d (.int .i64 3))]⟩,
⟨some 54, none, .bin .geq (.t 53) (.k (.d (.int .i64 0)))⟩,
⟨some 4, none, .mv (.t 54)⟩] [1, 52, 53, 54])
.ret)
 (.seq (.reg false [
⟨some 56, none, .bin .eql (.t 7) (.k (.d (.int .i64 10)))⟩,
⟨some 55, none, .mv (.t 56)⟩] [56])
(.cond (.t 55) (.seq (.reg false [
⟨some 57, none, .mv (.t 1)⟩,
⟨some 58, none, .call false true (.k (.fn n_ref02_digits [] [])) [.t 57, .k (.d (.int .i64 1))]⟩,
⟨some 59, none, .bin .geq (.t 58) (.k (.d (.int .i64 0)))⟩,
⟨some 4, none, .mv (.t 59)⟩] [1, 57, 58, 59])
.ret)
 (.seq (.reg false [
⟨some 61, none, .bin .eql (.t 7) (.k (.d (.int .i64 11)))⟩,
⟨some 60, none, .mv (.t 61)⟩] [7, 61])
(.cond (.t 60) (.seq (.reg false [
⟨some 62, none, .mv (.t 1)⟩,
⟨some 63, none, .call false true (.k (.fn n_ref02_digits [] [])) [.t 62, .k (.d (.int .i64 2))]⟩,
⟨some 64, none, .bin .geq (.t 63) (.k (.d (.int .i64 0)))⟩,
⟨some 4, none, .mv (.t 64)⟩] [1, 62, 63, 64])
.ret)
 .skip))))))))))))))))))))
(.seq (.reg false [
⟨some 65, none, .mv (.t 1)⟩,
⟨some 66, none, .bin .eql (.t 65) (.k (.d (.str [45])))⟩,
⟨some 67, none, .mv (.t 66)⟩,
⟨some 68, (some (67, false)), .mv (.t 1)⟩,
⟨some 69, (some (67, false)), .call false true (.k (.fn n_ref01_IsName [] [])) [.t 68]⟩,
⟨some 70, none, .pick (.t 67) (.k (.d (.bool true))) (.t 69)⟩,
⟨some 4, none, .mv (.t 70)⟩] [1, 65, 66, 67, 68, 69, 70])
.ret)))⟩

def b_ref01_ParseMask_1 : C :=
  (.seq (.seq (.reg false [
⟨some 5, none, .mv (.t 4)⟩,
⟨some 6, none, .bin .lss (.t 5) (.k (.d (.int .i64 128)))⟩] [5])
(.cond (.t 6) .skip
 (.exit 0)))
(.seq (.block 1 (.seq (.reg false [
⟨some 9, none, .mv (.t 4)⟩,
⟨some 10, none, .call false true (.k (.fn n_ref01_PrintMask [] [])) [.t 9]⟩,
⟨some 11, none, .mv (.t 0)⟩,
⟨some 12, none, .bin .eql (.t 10) (.t 11)⟩] [9, 10, 11])
(.cond (.t 12) (.seq (.reg false [
⟨some 13, none, .mv (.t 4)⟩,
⟨some 2, none, .mv (.t 13)⟩,
⟨some 3, none, .mv (.k (.d (.int .i64 0)))⟩] [4, 13])
.ret)
 .skip)))
(.reg false [
⟨some 7, none, .mv (.t 4)⟩,
⟨some 8, none, .bin .add (.t 7) (.k (.d (.int .i64 1)))⟩,
⟨some 4, none, .mv (.t 8)⟩] [7, 8])))

/-- "turnround/turnroundref01.ParseMask" -/
def c_ref01_ParseMask : CF := ⟨[.tmp 2, .tmp 3],
  (.seq (.reg false [
⟨some 2, none, .mv (.k (.d (.int .i64 0)))⟩,
⟨some 3, none, .mv (.k (.d (.int .i64 0)))⟩] [2, 3])
(.seq (.seq (.reg false [
⟨some 4, none, .mv (.k (.d (.int .i64 1)))⟩] [])
(.block 0 (.loop [0, 4] b_ref01_ParseMask_1)))
(.seq (.reg false [
⟨some 2, none, .mv (.k (.d (.int .i64 0)))⟩,
⟨some 3, none, .mv (.k (.d (.int .i64 25)))⟩] [])
.ret)))⟩

/-- "turnround/turnroundref02.undashed" -/
def c_ref02_undashed : CF := ⟨[.tmp 2],
  (.seq (.reg false [
⟨some 2, none, .mv (.k (.d (.str [])))⟩] [2])
(.seq (.seq (.reg false [
⟨some 3, none, .mv (.t 0)⟩,
⟨some 4, none, .bin .eql (.t 3) (.k (.d (.str [45])))⟩] [3])
(.cond (.t 4) (.seq (.reg false [
⟨some 2, none, .mv (.k (.d (.str [])))⟩] [])
.ret)
 .skip))
(.seq (.reg false [
⟨some 5, none, .mv (.t 0)⟩,
⟨some 2, none, .mv (.t 5)⟩] [0, 5])
.ret)))⟩

/-- "turnround/turnroundref02.ParseMinute" -/
def c_ref02_ParseMinute : CF := ⟨[.tmp 2],
  (.seq (.reg false [
⟨some 2, none, .mv (.k (.d (.int .i64 0)))⟩] [2])
(.seq (.reg false [
⟨some 4, none, .mv (.t 0)⟩,
⟨some 5, none, .call false true (.k (.fn n_ref02_digits [] [])) [.t 4, .k (.d (.int .i64 4))]⟩,
⟨some 3, none, .mv (.t 5)⟩] [0, 4, 5])
(.seq (.seq (.reg false [
⟨some 6, none, .mv (.t 3)⟩,
⟨some 7, none, .bin .lss (.t 6) (.k (.d (.int .i64 0)))⟩,
⟨some 8, none, .mv (.t 7)⟩,
⟨some 9, (some (8, false)), .mv (.t 3)⟩,
⟨some 10, (some (8, false)), .bin .quo (.t 9) (.k (.d (.int .i64 100)))⟩,
⟨some 11, (some (8, false)), .bin .gtr (.t 10) (.k (.d (.int .i64 23)))⟩,
⟨some 12, none, .pick (.t 8) (.k (.d (.bool true))) (.t 11)⟩,
⟨some 13, none, .mv (.t 12)⟩,
⟨some 14, (some (13, false)), .mv (.t 3)⟩,
⟨some 15, (some (13, false)), .bin .rem (.t 14) (.k (.d (.int .i64 100)))⟩,
⟨some 16, (some (13, false)), .bin .gtr (.t 15) (.k (.d (.int .i64 59)))⟩,
⟨some 17, none, .pick (.t 13) (.k (.d (.bool true))) (.t 16)⟩] [6, 7, 8, 9, 10, 11, 12, 13, 14, 15, 16])
(.cond (.t 17) (.seq (.reg false [
⟨some 2, none, .mv (.k (.d (.int .i64 (-1))))⟩] [])
.ret)
 .skip))
(.seq (.reg false [
⟨some 18, none, .mv (.t 3)⟩,
⟨some 19, none, .bin .quo (.t 18) (.k (.d (.int .i64 100)))⟩,
⟨some 20, none, .bin .mul (.t 19) (.k (.d (.int .i64 60)))⟩,
⟨some 21, none, .mv (.t 3)⟩,
⟨some 22, none, .bin .rem (.t 21) (.k (.d (.int .i64 100)))⟩,
⟨some 23, none, .bin .add (.t 20) (.t 22)⟩,
⟨some 2, none, .mv (.t 23)⟩] [3, 18, 19, 20, 21, 22, 23])
.ret))))⟩

/-- "turnround/message.find" -/
def c_message_find : CF := ⟨[.tmp 4],
  (.seq (.reg false [
⟨some 3, none, .box ty_string (.t 1)⟩,
⟨some 4, none, .mv (.k (.d (.int .i64 0)))⟩] [1, 4])
(.seq (.reg false [
⟨some 5, none, .mv (.t 0)⟩,
⟨some 6, none, .mkFunc n_message_find_1 [] [.t 3]⟩,
⟨some 7, none, .call true true (.k (.fn n_slices_IndexFunc_Lmessage_Entry_message_Entry [] [])) [.t 5, .t 6]⟩,
⟨some 4, none, .mv (.t 7)⟩] [0, 3, 5, 6, 7])
.ret))⟩

def b_ref02_place_1 : C :=
  (.seq (.seq (.reg false [
⟨some 6, none, .mv (.t 5)⟩,
⟨some 7, none, .mv (.t 0)⟩,
⟨some 8, none, .len .slc (.t 7)⟩,
⟨some 9, none, .bin .lss (.t 6) (.t 8)⟩] [6, 7, 8])
(.cond (.t 9) .skip
 (.exit 0)))
(.seq (.block 1 (.seq (.reg false [
⟨some 12, none, .mv (.t 0)⟩,
⟨some 13, none, .mv (.t 5)⟩,
⟨some 14, none, .idxAddr 15 (.t 12) (.t 13)⟩,
⟨some 15, none, .fieldAddr 0 (.t 14)⟩,
⟨some 16, none, .fieldAddr 0 (.t 15)⟩,
⟨some 17, none, .load none (.t 16)⟩,
⟨some 18, none, .mv (.t 1)⟩,
⟨some 19, none, .bin .eql (.t 17) (.t 18)⟩] [12, 13, 14, 15, 16, 17, 18])
(.cond (.t 19) (.seq (.reg false [
⟨some 20, none, .mv (.t 5)⟩,
⟨some 4, none, .mv (.t 20)⟩] [5, 20])
.ret)
 .skip)))
(.reg false [
⟨some 10, none, .mv (.t 5)⟩,
⟨some 11, none, .bin .add (.t 10) (.k (.d (.int .i64 1)))⟩,
⟨some 5, none, .mv (.t 11)⟩] [10, 11])))

/-- "turnround/turnroundref02.place" -/
def c_ref02_place : CF := ⟨[.tmp 4],
  (.seq (.reg false [
⟨some 4, none, .mv (.k (.d (.int .i64 0)))⟩] [4])
(.seq (.seq (.reg false [
⟨some 5, none, .mv (.k (.d (.int .i64 0)))⟩] [])
(.block 0 (.loop [0, 1, 5] b_ref02_place_1)))
(.seq (.reg false [
⟨some 4, none, .mv (.k (.d (.int .i64 (-1))))⟩] [])
.ret)))⟩

/-- "turnround/message.CheckRequest" -/
def c_message_CheckRequest : CF := ⟨[.tmp 2],
  (.seq (.reg false [
⟨some 1, none, .box ty_api_Request (.t 0)⟩,
⟨some 2, none, .mv (.k (.d (.int .i64 0)))⟩] [0, 2])
(.seq (.reg true [
⟨some 3, none, .fieldAddr 0 (.t 1)⟩,
⟨some 4, none, .load none (.t 3)⟩,
⟨some 5, none, .call false true (.k (.fn n_message_named [] [])) [.t 4]⟩,
⟨some 6, none, .fieldAddr 1 (.t 1)⟩,
⟨some 7, none, .load none (.t 6)⟩,
⟨some 8, none, .call false true (.k (.fn n_message_named [] [])) [.t 7]⟩,
⟨some 9, none, .fieldAddr 4 (.t 1)⟩,
⟨some 10, none, .load none (.t 9)⟩,
⟨some 11, none, .call false true (.k (.fn n_message_named [] [])) [.t 10]⟩,
⟨some 12, none, .fieldAddr 3 (.t 1)⟩,
⟨some 13, none, .load none (.t 12)⟩,
⟨some 14, none, .call false true (.k (.fn n_message_optional [] [])) [.t 13]⟩,
⟨some 15, none, .fieldAddr 5 (.t 1)⟩,
⟨some 16, none, .load none (.t 15)⟩,
⟨some 17, none, .call false true (.k (.fn n_message_optional [] [])) [.t 16]⟩,
⟨some 18, none, .fieldAddr 2 (.t 1)⟩,
⟨some 19, none, .load none (.t 18)⟩,
⟨some 20, none, .call false true (.k (.fn n_message_isKind [] [])) [.t 19]⟩,
⟨some 21, none, .un .not (.t 20)⟩,
⟨some 22, none, .call false true (.k (.fn n_message_when [] [])) [.t 21, .k (.d (.int .i64 13))]⟩,
⟨some 23, none, .fieldAddr 5 (.t 1)⟩,
⟨some 24, none, .load none (.t 23)⟩,
⟨some 25, none, .fieldAddr 0 (.t 1)⟩,
⟨some 26, none, .load none (.t 25)⟩,
⟨some 27, none, .bin .eql (.t 24) (.t 26)⟩,
⟨some 28, none, .call false true (.k (.fn n_message_when [] [])) [.t 27, .k (.d (.int .i64 32))]⟩,
⟨some 29, none, .fieldAddr 6 (.t 1)⟩,
⟨some 30, none, .load (some 3) (.t 29)⟩,
⟨some 31, none, .call false true (.k (.fn n_calendar_CheckPeriod [] [])) [.t 30]⟩,
⟨some 32, none, .fieldAddr 9 (.t 1)⟩,
⟨some 33, none, .load none (.t 32)⟩,
⟨some 34, none, .call false true (.k (.fn n_message_within [] [])) [.t 33, .k (.d (.int .i64 0)), .k (.d (.int .i64 1439))]⟩,
⟨some 35, none, .fieldAddr 10 (.t 1)⟩,
⟨some 36, none, .load none (.t 35)⟩,
⟨some 37, none, .call false true (.k (.fn n_message_within [] [])) [.t 36, .k (.d (.int .i64 0)), .k (.d (.int .i64 999))]⟩,
⟨some 38, none, .fieldAddr 11 (.t 1)⟩,
⟨some 39, none, .load none (.t 38)⟩,
⟨some 40, none, .call false true (.k (.fn n_message_within [] [])) [.t 39, .k (.d (.int .i64 1)), .k (.d (.int .i64 9))]⟩,
⟨some 41, none, .fieldAddr 12 (.t 1)⟩,
⟨some 42, none, .load none (.t 41)⟩,
⟨some 43, none, .call false true (.k (.fn n_message_within [] [])) [.t 42, .k (.d (.int .i64 0)), .k (.d (.int .i64 99))]⟩,
⟨some 44, none, .mkList 1 12 [.t 5, .t 8, .t 11, .t 14, .t 17, .t 22, .t 28, .t 31, .t 34, .t 37, .t 40, .t 43]⟩,
⟨some 45, none, .call false true (.k (.fn n_message_first [] [])) [.t 44]⟩,
⟨some 2, none, .mv (.t 45)⟩] [1, 3, 4, 5, 6, 7, 8, 9, 10, 11, 12, 13, 14, 15, 16, 17, 18, 19, 20, 21, 22, 23, 24, 25, 26, 27, 28, 29, 30, 31, 32, 33, 34, 35, 36, 37, 38, 39, 40, 41, 42, 43, 44, 45])
.ret))⟩

/-- "turnround/turnroundref02.optional" -/
def c_ref02_optional : CF := ⟨[.tmp 2],
  (.seq (.reg false [
⟨some 2, none, .mv (.k (.d (.bool false)))⟩] [2])
(.seq (.reg false [
⟨some 3, none, .mv (.t 0)⟩,
⟨some 4, none, .bin .eql (.t 3) (.k (.d (.str [])))⟩,
⟨some 5, none, .mv (.t 4)⟩,
⟨some 6, (some (5, false)), .mv (.t 0)⟩,
⟨some 7, (some (5, false)), .call false true (.k (.fn n_ref01_IsName [] [])) [.t 6]⟩,
⟨some 8, none, .pick (.t 5) (.k (.d (.bool true))) (.t 7)⟩,
⟨some 2, none, .mv (.t 8)⟩] [0, 3, 4, 5, 6, 7, 8])
.ret))⟩

/-- "turnround/turnroundref01.CheckPeriod" -/
def c_ref01_CheckPeriod : CF := ⟨[.tmp 2],
  (.seq (.reg false [
⟨some 1, none, .box ty_api_Period (.t 0)⟩,
⟨some 2, none, .mv (.k (.d (.int .i64 0)))⟩] [0, 2])
(.seq (.seq (.reg false [
⟨some 3, none, .fieldAddr 0 (.t 1)⟩,
⟨some 4, none, .load none (.t 3)⟩,
⟨some 5, none, .call false true (.k (.fn n_ref01_CheckDay [] [])) [.t 4]⟩,
⟨some 6, none, .bin .neq (.t 5) (.k (.d (.int .i64 0)))⟩,
⟨some 7, none, .mv (.t 6)⟩,
⟨some 8, (some (7, false)), .fieldAddr 1 (.t 1)⟩,
⟨some 9, (some (7, false)), .load none (.t 8)⟩,
⟨some 10, (some (7, false)), .call false true (.k (.fn n_ref01_CheckDay [] [])) [.t 9]⟩,
⟨some 11, (some (7, false)), .bin .neq (.t 10) (.k (.d (.int .i64 0)))⟩,
⟨some 12, none, .pick (.t 7) (.k (.d (.bool true))) (.t 11)⟩] [3, 4, 5, 6, 7, 8, 9, 10, 11])
(.cond (.t 12) (.seq (.reg false [
⟨some 2, none, .mv (.k (.d (.int .i64 3)))⟩] [])
.ret)
 .skip))
(.seq (.seq (.reg false [
⟨some 13, none, .fieldAddr 1 (.t 1)⟩,
⟨some 14, none, .load none (.t 13)⟩,
⟨some 15, none, .fieldAddr 0 (.t 1)⟩,
⟨some 16, none, .load none (.t 15)⟩,
⟨some 17, none, .bin .lss (.t 14) (.t 16)⟩] [13, 14, 15, 16])
(.cond (.t 17) (.seq (.reg false [
⟨some 2, none, .mv (.k (.d (.int .i64 11)))⟩] [])
.ret)
 .skip))
(.seq (.seq (.reg false [
⟨some 18, none, .fieldAddr 1 (.t 1)⟩,
⟨some 19, none, .load none (.t 18)⟩,
⟨some 20, none, .fieldAddr 0 (.t 1)⟩,
⟨some 21, none, .load none (.t 20)⟩,
⟨some 22, none, .bin .sub (.t 19) (.t 21)⟩,
⟨some 23, none, .bin .gtr (.t 22) (.k (.d (.int .i64 400)))⟩] [18, 19, 20, 21, 22])
(.cond (.t 23) (.seq (.reg false [
⟨some 2, none, .mv (.k (.d (.int .i64 4)))⟩] [])
.ret)
 .skip))
(.seq (.reg false [
⟨some 24, none, .fieldAddr 2 (.t 1)⟩,
⟨some 25, none, .load none (.t 24)⟩,
⟨some 26, none, .call false true (.k (.fn n_ref01_CheckRange [] [])) [.t 25, .k (.d (.int .i64 1)), .k (.d (.int .i64 127))]⟩,
⟨some 2, none, .mv (.t 26)⟩] [1, 24, 25, 26])
.ret)))))⟩

/-- "turnround/turnroundref01.CheckRange" -/
def c_ref01_CheckRange : CF := ⟨[.tmp 6],
  (.seq (.reg false [
⟨some 6, none, .mv (.k (.d (.int .i64 0)))⟩] [6])
(.seq (.seq (.reg false [
⟨some 7, none, .mv (.t 0)⟩,
⟨some 8, none, .mv (.t 1)⟩,
⟨some 9, none, .bin .lss (.t 7) (.t 8)⟩,
⟨some 10, none, .mv (.t 9)⟩,
⟨some 11, (some (10, false)), .mv (.t 0)⟩,
⟨some 12, (some (10, false)), .mv (.t 2)⟩,
⟨some 13, (some (10, false)), .bin .gtr (.t 11) (.t 12)⟩,
⟨some 14, none, .pick (.t 10) (.k (.d (.bool true))) (.t 13)⟩] [0, 1, 2, 7, 8, 9, 10, 11, 12, 13])
(.cond (.t 14) (.seq (.reg false [
⟨some 6, none, .mv (.k (.d (.int .i64 3)))⟩] [])
.ret)
 .skip))
(.seq (.reg false [
⟨some 6, none, .mv (.k (.d (.int .i64 0)))⟩] [])
.ret)))⟩

/-- "turnround/message.isAction" -/
def c_message_isAction : CF := ⟨[.tmp 2],
  (.seq (.reg false [
⟨some 2, none, .mv (.k (.d (.bool false)))⟩] [2])
(.seq (.reg false [
⟨some 3, none, .call false false (.k (.fn n_message_actions [] [])) []⟩,
⟨some 4, none, .mv (.t 0)⟩,
⟨some 5, none, .lookup .str (.str []) false (.t 3) (.t 4)⟩,
⟨some 6, none, .bin .neq (.t 5) (.k (.d (.str [])))⟩,
⟨some 2, none, .mv (.t 6)⟩] [0, 3, 4, 5, 6])
.ret))⟩

/-- "turnround/message.text" -/
def c_message_text : CF := ⟨[.cell 4 (some 2)],
  (.seq (.reg false [
⟨some 2, none, .box ty_func_ptr_message_Line_ptr_string (.t 0)⟩,
⟨some 3, none, .box ty_func_string_bool (.t 1)⟩,
⟨some 4, none, .alloc ty_message_field [.z (.nilf), .z (.nilf)]⟩] [0, 1])
(.seq (.reg false [
⟨some 5, none, .mkFunc n_message_text_1 [] [.t 2]⟩,
⟨some 6, none, .mkFunc n_message_text_2 [] [.t 2, .t 3]⟩,
⟨some 7, none, .build [.z (.nilf), .z (.nilf)] [(0, 1, .t 5), (1, 1, .t 6)]⟩,
⟨none, none, .store 2 (.t 4) (.t 7)⟩] [2, 3, 5, 6, 7])
.ret))⟩

/-- "turnround/message.fields.1" -/
def c_message_fields_1 : CF := ⟨[.tmp 2],
  (.seq (.reg false [
⟨some 2, none, .mv (.k (.d (.nilp)))⟩] [2])
(.seq (.reg false [
⟨some 3, none, .mv (.t 0)⟩,
⟨some 4, none, .nilCheck (.t 3)⟩,
⟨some 5, none, .fieldAddr 0 (.t 4)⟩,
⟨some 2, none, .mv (.t 5)⟩] [0, 3, 4, 5])
.ret))⟩

/-- "turnround/message.fields.2" -/
def c_message_fields_2 : CF := ⟨[.tmp 2],
  (.seq (.reg false [
⟨some 2, none, .mv (.k (.d (.nilp)))⟩] [2])
(.seq (.reg false [
⟨some 3, none, .mv (.t 0)⟩,
⟨some 4, none, .nilCheck (.t 3)⟩,
⟨some 5, none, .fieldAddr 1 (.t 4)⟩,
⟨some 6, none, .fieldAddr 1 (.t 5)⟩,
⟨some 2, none, .mv (.t 6)⟩] [0, 3, 4, 5, 6])
.ret))⟩

def b_calendar_IsName_1 : C :=
  (.seq (.reg false [
⟨some 16, none, .nextS (.t 15)⟩,
⟨some 17, none, .extract (.t 16) 0⟩] [])
(.seq (.cond (.t 17) .skip
 (.exit 0))
(.block 1 (.seq (.reg false [
⟨some 18, none, .extract (.t 16) 1⟩,
⟨some 19, none, .extract (.t 16) 2⟩,
⟨some 3, none, .mv (.t 18)⟩,
⟨some 4, none, .mv (.t 19)⟩] [16, 18, 19])
(.seq (.reg false [
⟨some 20, none, .mv (.t 4)⟩,
⟨some 21, none, .bin .geq (.t 20) (.k (.d (.int .i32 65)))⟩,
⟨some 22, none, .mv (.t 21)⟩,
⟨some 23, (some (22, true)), .mv (.t 4)⟩,
⟨some 24, (some (22, true)), .bin .leq (.t 23) (.k (.d (.int .i32 90)))⟩,
⟨some 25, none, .pick (.t 22) (.t 24) (.k (.d (.bool false)))⟩,
⟨some 26, none, .mv (.t 25)⟩,
⟨some 27, (some (26, false)), .mv (.t 4)⟩,
⟨some 28, (some (26, false)), .bin .geq (.t 27) (.k (.d (.int .i32 97)))⟩,
⟨some 29, (some (26, false)), .mv (.t 28)⟩,
⟨some 30, (some (29, true)), .mv (.t 4)⟩,
⟨some 31, (some (29, true)), .bin .leq (.t 30) (.k (.d (.int .i32 122)))⟩,
⟨some 32, (some (26, false)), .pick (.t 29) (.t 31) (.k (.d (.bool false)))⟩,
⟨some 33, none, .pick (.t 26) (.k (.d (.bool true))) (.t 32)⟩,
⟨some 5, none, .mv (.t 33)⟩] [20, 21, 22, 23, 24, 25, 26, 27, 28, 29, 30, 31, 32, 33])
(.seq (.reg false [
⟨some 34, none, .mv (.t 5)⟩,
⟨some 35, none, .un .not (.t 34)⟩,
⟨some 36, none, .mv (.t 35)⟩,
⟨some 37, (some (36, true)), .mv (.t 3)⟩,
⟨some 38, (some (36, true)), .bin .eql (.t 37) (.k (.d (.int .i64 0)))⟩,
⟨some 39, (some (36, true)), .mv (.t 38)⟩,
⟨some 40, (some (39, false)), .mv (.t 4)⟩,
⟨some 41, (some (39, false)), .bin .neq (.t 40) (.k (.d (.int .i32 95)))⟩,
⟨some 42, (some (39, false)), .mv (.t 41)⟩,
⟨some 43, (some (42, true)), .mv (.t 4)⟩,
⟨some 44, (some (42, true)), .bin .lss (.t 43) (.k (.d (.int .i32 48)))⟩,
⟨some 45, (some (42, true)), .mv (.t 44)⟩,
⟨some 46, (some (45, false)), .mv (.t 4)⟩,
⟨some 47, (some (45, false)), .bin .gtr (.t 46) (.k (.d (.int .i32 57)))⟩,
⟨some 48, (some (42, true)), .pick (.t 45) (.k (.d (.bool true))) (.t 47)⟩,
⟨some 49, (some (39, false)), .pick (.t 42) (.t 48) (.k (.d (.bool false)))⟩,
⟨some 50, (some (36, true)), .pick (.t 39) (.k (.d (.bool true))) (.t 49)⟩,
⟨some 51, none, .pick (.t 36) (.t 50) (.k (.d (.bool false)))⟩] [3, 4, 5, 34, 35, 36, 37, 38, 39, 40, 41, 42, 43, 44, 45, 46, 47, 48, 49, 50])
(.cond (.t 51) (.seq (.reg false [
⟨some 2, none, .mv (.k (.d (.bool false)))⟩] [])
.ret)
 .skip)))))))

/-- "turnround/calendar.IsName" -/
def c_calendar_IsName : CF := ⟨[.tmp 2],
  (.seq (.reg false [
⟨some 2, none, .mv (.k (.d (.bool false)))⟩] [2])
(.seq (.seq (.reg false [
⟨some 6, none, .mv (.t 0)⟩,
⟨some 7, none, .len .str (.t 6)⟩,
⟨some 8, none, .bin .eql (.t 7) (.k (.d (.int .i64 0)))⟩,
⟨some 9, none, .mv (.t 8)⟩,
⟨some 10, (some (9, false)), .mv (.t 0)⟩,
⟨some 11, (some (9, false)), .len .str (.t 10)⟩,
⟨some 12, (some (9, false)), .bin .gtr (.t 11) (.k (.d (.int .i64 24)))⟩,
⟨some 13, none, .pick (.t 9) (.k (.d (.bool true))) (.t 12)⟩] [6, 7, 8, 9, 10, 11, 12])
(.cond (.t 13) (.seq (.reg false [
⟨some 2, none, .mv (.k (.d (.bool false)))⟩] [])
.ret)
 .skip))
(.seq (.seq (.reg false [
⟨some 14, none, .mv (.t 0)⟩,
⟨some 15, none, .rangeS (.t 14)⟩] [0, 14])
(.block 0 (.loop [15] b_calendar_IsName_1)))
(.seq (.reg false [
⟨some 2, none, .mv (.k (.d (.bool true)))⟩] [])
.ret))))⟩

/-- "turnround/message.fields.3" -/
def c_message_fields_3 : CF := ⟨[.tmp 2],
  (.seq (.reg false [
⟨some 2, none, .mv (.k (.d (.nilp)))⟩] [2])
(.seq (.reg false [
⟨some 3, none, .mv (.t 0)⟩,
⟨some 4, none, .nilCheck (.t 3)⟩,
⟨some 5, none, .fieldAddr 1 (.t 4)⟩,
⟨some 6, none, .fieldAddr 0 (.t 5)⟩,
⟨some 2, none, .mv (.t 6)⟩] [0, 3, 4, 5, 6])
.ret))⟩

/-- "turnround/message.fields.4" -/
def c_message_fields_4 : CF := ⟨[.tmp 2],
  (.seq (.reg false [
⟨some 2, none, .mv (.k (.d (.nilp)))⟩] [2])
(.seq (.reg false [
⟨some 3, none, .mv (.t 0)⟩,
⟨some 4, none, .nilCheck (.t 3)⟩,
⟨some 5, none, .fieldAddr 1 (.t 4)⟩,
⟨some 6, none, .fieldAddr 2 (.t 5)⟩,
⟨some 2, none, .mv (.t 6)⟩] [0, 3, 4, 5, 6])
.ret))⟩

/-- "turnround/message.isKind" -/
def c_message_isKind : CF := ⟨[.tmp 2],
  (.seq (.reg false [
⟨some 2, none, .mv (.k (.d (.bool false)))⟩] [2])
(.seq (.reg false [
⟨some 3, none, .mv (.t 0)⟩,
⟨some 4, none, .bin .eql (.t 3) (.k (.d (.str [65])))⟩,
⟨some 5, none, .mv (.t 4)⟩,
⟨some 6, (some (5, false)), .mv (.t 0)⟩,
⟨some 7, (some (5, false)), .bin .eql (.t 6) (.k (.d (.str [68])))⟩,
⟨some 8, none, .pick (.t 5) (.k (.d (.bool true))) (.t 7)⟩,
⟨some 2, none, .mv (.t 8)⟩] [0, 3, 4, 5, 6, 7, 8])
.ret))⟩

/-- "turnround/message.fields.5" -/
def c_message_fields_5 : CF := ⟨[.tmp 2],
  (.seq (.reg false [
⟨some 2, none, .mv (.k (.d (.nilp)))⟩] [2])
(.seq (.reg false [
⟨some 3, none, .mv (.t 0)⟩,
⟨some 4, none, .nilCheck (.t 3)⟩,
⟨some 5, none, .fieldAddr 1 (.t 4)⟩,
⟨some 6, none, .fieldAddr 4 (.t 5)⟩,
⟨some 2, none, .mv (.t 6)⟩] [0, 3, 4, 5, 6])
.ret))⟩

/-- "turnround/message.digits" -/
def c_message_digits : CF := ⟨[.cell 4 (some 2)],
  (.seq (.reg false [
⟨some 2, none, .box ty_func_ptr_message_Line_ptr_int (.t 0)⟩,
⟨some 3, none, .box ty_int (.t 1)⟩,
⟨some 4, none, .alloc ty_message_field [.z (.nilf), .z (.nilf)]⟩] [0, 1])
(.seq (.reg false [
⟨some 5, none, .mkFunc n_message_digits_1 [] [.t 2, .t 3]⟩,
⟨some 6, none, .mkFunc n_message_digits_2 [] [.t 3, .t 2]⟩,
⟨some 7, none, .build [.z (.nilf), .z (.nilf)] [(0, 1, .t 5), (1, 1, .t 6)]⟩,
⟨none, none, .store 2 (.t 4) (.t 7)⟩] [2, 3, 5, 6, 7])
.ret))⟩

/-- "turnround/message.fields.6" -/
def c_message_fields_6 : CF := ⟨[.tmp 2],
  (.seq (.reg false [
⟨some 2, none, .mv (.k (.d (.nilp)))⟩] [2])
(.seq (.reg false [
⟨some 3, none, .mv (.t 0)⟩,
⟨some 4, none, .nilCheck (.t 3)⟩,
⟨some 5, none, .fieldAddr 1 (.t 4)⟩,
⟨some 6, none, .fieldAddr 6 (.t 5)⟩,
⟨some 7, none, .fieldAddr 0 (.t 6)⟩,
⟨some 2, none, .mv (.t 7)⟩] [0, 3, 4, 5, 6, 7])
.ret))⟩

/-- "turnround/message.fields.7" -/
def c_message_fields_7 : CF := ⟨[.tmp 2],
  (.seq (.reg false [
⟨some 2, none, .mv (.k (.d (.nilp)))⟩] [2])
(.seq (.reg false [
⟨some 3, none, .mv (.t 0)⟩,
⟨some 4, none, .nilCheck (.t 3)⟩,
⟨some 5, none, .fieldAddr 1 (.t 4)⟩,
⟨some 6, none, .fieldAddr 6 (.t 5)⟩,
⟨some 7, none, .fieldAddr 1 (.t 6)⟩,
⟨some 2, none, .mv (.t 7)⟩] [0, 3, 4, 5, 6, 7])
.ret))⟩

/-- "turnround/message.fields.8" -/
def c_message_fields_8 : CF := ⟨[.tmp 2],
  (.seq (.reg false [
⟨some 1, none, .box ty_message_Line (.t 0)⟩,
⟨some 2, none, .mv (.k (.d (.str [])))⟩] [0, 2])
(.seq (.reg false [
⟨some 6, none, .fieldAddr 1 (.t 1)⟩,
⟨some 7, none, .fieldAddr 6 (.t 6)⟩,
⟨some 8, none, .fieldAddr 2 (.t 7)⟩,
⟨some 9, none, .load none (.t 8)⟩,
⟨some 10, none, .call false true (.k (.fn n_calendar_PrintMask [] [])) [.t 9]⟩,
⟨some 5, none, .mv (.t 10)⟩,
⟨some 11, none, .extract (.t 5) 0⟩,
⟨some 12, none, .extract (.t 5) 1⟩,
⟨some 3, none, .mv (.t 11)⟩,
⟨some 4, none, .mv (.t 12)⟩] [1, 4, 5, 6, 7, 8, 9, 10, 11, 12])
(.seq (.reg false [
⟨some 13, none, .mv (.t 3)⟩,
⟨some 2, none, .mv (.t 13)⟩] [3, 13])
.ret)))⟩

/-- "turnround/calendar.PrintMask" -/
def c_calendar_PrintMask : CF := ⟨[.tmp 2, .tmp 3],
  (.seq (.reg false [
⟨some 2, none, .mv (.k (.d (.str [])))⟩,
⟨some 3, none, .mv (.k (.d (.int .i64 0)))⟩] [2, 3])
(.seq (.seq (.reg false [
⟨some 5, none, .mv (.t 0)⟩,
⟨some 6, none, .call false true (.k (.fn n_calendar_within [] [])) [.t 5, .k (.d (.int .i64 1)), .k (.d (.int .i64 127))]⟩,
⟨some 4, none, .mv (.t 6)⟩] [5, 6])
(.seq (.reg false [
⟨some 7, none, .mv (.t 4)⟩,
⟨some 8, none, .bin .neq (.t 7) (.k (.d (.int .i64 0)))⟩] [7])
(.cond (.t 8) (.seq (.reg false [
⟨some 9, none, .mv (.t 4)⟩,
⟨some 2, none, .mv (.k (.d (.str [])))⟩,
⟨some 3, none, .mv (.t 9)⟩] [4, 9])
.ret)
 .skip)))
(.seq (.reg false [
⟨some 10, none, .mv (.t 0)⟩,
⟨some 11, none, .call false true (.k (.fn n_calendar_printMask [] [])) [.t 10]⟩,
⟨some 2, none, .mv (.t 11)⟩,
⟨some 3, none, .mv (.k (.d (.int .i64 0)))⟩] [0, 10, 11])
.ret)))⟩

/-- "turnround/message.fields.9" -/
def c_message_fields_9 : CF := ⟨[.tmp 4],
  (.seq (.reg false [
⟨some 4, none, .mv (.k (.d (.bool false)))⟩] [4])
(.seq (.reg false [
⟨some 8, none, .mv (.t 1)⟩,
⟨some 9, none, .call false true (.k (.fn n_calendar_ParseMask [] [])) [.t 8]⟩,
⟨some 7, none, .mv (.t 9)⟩,
⟨some 10, none, .extract (.t 7) 0⟩,
⟨some 11, none, .extract (.t 7) 1⟩,
⟨some 5, none, .mv (.t 10)⟩,
⟨some 6, none, .mv (.t 11)⟩] [1, 7, 8, 9, 10, 11])
(.seq (.reg false [
⟨some 12, none, .mv (.t 0)⟩,
⟨some 13, none, .mv (.t 5)⟩,
⟨some 14, none, .nilCheck (.t 12)⟩,
⟨some 15, none, .fieldAddr 1 (.t 14)⟩,
⟨some 16, none, .fieldAddr 6 (.t 15)⟩,
⟨some 17, none, .fieldAddr 2 (.t 16)⟩,
⟨none, none, .store 1 (.t 17) (.t 13)⟩] [0, 5, 12, 13, 14, 15, 16, 17])
(.seq (.reg false [
⟨some 18, none, .mv (.t 6)⟩,
⟨some 19, none, .bin .eql (.t 18) (.k (.d (.int .i64 0)))⟩,
⟨some 4, none, .mv (.t 19)⟩] [6, 18, 19])
.ret))))⟩

def b_calendar_ParseMask_1 : C :=
  (.seq (.reg false [
⟨some 10, none, .bin .lss (.t 9) (.t 8)⟩] [])
(.seq (.cond (.t 10) .skip
 (.exit 0))
(.seq (.block 1 (.seq (.reg false [
⟨some 11, none, .mv (.t 9)⟩,
⟨some 5, none, .mv (.t 11)⟩] [11])
(.seq (.reg false [
⟨some 12, none, .mv (.t 0)⟩,
⟨some 13, none, .mv (.t 5)⟩,
⟨some 14, none, .idxS (.t 12) (.t 13)⟩,
⟨some 15, none, .bin .neq (.t 14) (.k (.d (.int .u8 48)))⟩] [12, 13, 14])
(.cond (.t 15) (.reg false [
⟨some 16, none, .mv (.t 4)⟩,
⟨some 17, none, .mv (.t 5)⟩,
⟨some 18, none, .bin .shl (.k (.d (.int .i64 1))) (.t 17)⟩,
⟨some 19, none, .bin .or (.t 16) (.t 18)⟩,
⟨some 4, none, .mv (.t 19)⟩] [5, 16, 17, 18, 19])
 .skip))))
(.reg false [
⟨some 20, none, .bin .add (.t 9) (.k (.d (.int .i64 1)))⟩,
⟨some 9, none, .mv (.t 20)⟩] [20]))))

/-- "turnround/calendar.ParseMask" -/
def c_calendar_ParseMask : CF := ⟨[.tmp 2, .tmp 3],
  (.seq (.reg false [
⟨some 2, none, .mv (.k (.d (.int .i64 0)))⟩,
⟨some 3, none, .mv (.k (.d (.int .i64 0)))⟩] [2, 3])
(.seq (.reg false [
⟨some 4, none, .mv (.k (.d (.int .i64 0)))⟩] [])
(.seq (.seq (.reg false [
⟨some 6, none, .mv (.t 0)⟩,
⟨some 7, none, .len .str (.t 6)⟩,
⟨some 8, none, .minmax false [.k (.d (.int .i64 7)), .t 7]⟩,
⟨some 9, none, .mv (.k (.d (.int .i64 0)))⟩] [6, 7])
(.block 0 (.loop [0, 4, 8, 9] b_calendar_ParseMask_1)))
(.seq (.seq (.reg false [
⟨some 21, none, .mv (.t 4)⟩,
⟨some 22, none, .bin .eql (.t 21) (.k (.d (.int .i64 0)))⟩,
⟨some 23, none, .mv (.t 22)⟩,
⟨some 24, (some (23, false)), .mv (.t 4)⟩,
⟨some 25, (some (23, false)), .call false true (.k (.fn n_calendar_printMask [] [])) [.t 24]⟩,
⟨some 26, (some (23, false)), .mv (.t 0)⟩,
⟨some 27, (some (23, false)), .bin .neq (.t 25) (.t 26)⟩,
⟨some 28, none, .pick (.t 23) (.k (.d (.bool true))) (.t 27)⟩] [0, 21, 22, 23, 24, 25, 26, 27])
(.cond (.t 28) (.seq (.reg false [
⟨some 2, none, .mv (.k (.d (.int .i64 0)))⟩,
⟨some 3, none, .mv (.k (.d (.int .i64 25)))⟩] [])
.ret)
 .skip))
(.seq (.reg false [
⟨some 29, none, .mv (.t 4)⟩,
⟨some 2, none, .mv (.t 29)⟩,
⟨some 3, none, .mv (.k (.d (.int .i64 0)))⟩] [4, 29])
.ret)))))⟩

/-- "turnround/message.fields.10" -/
def c_message_fields_10 : CF := ⟨[.tmp 2],
  (.seq (.reg false [
⟨some 1, none, .box ty_message_Line (.t 0)⟩,
⟨some 2, none, .mv (.k (.d (.str [])))⟩] [0, 2])
(.seq (.reg false [
⟨some 6, none, .fieldAddr 1 (.t 1)⟩,
⟨some 7, none, .fieldAddr 9 (.t 6)⟩,
⟨some 8, none, .load none (.t 7)⟩,
⟨some 9, none, .call false true (.k (.fn n_message_PrintMinute [] [])) [.t 8]⟩,
⟨some 5, none, .mv (.t 9)⟩,
⟨some 10, none, .extract (.t 5) 0⟩,
⟨some 11, none, .extract (.t 5) 1⟩,
⟨some 3, none, .mv (.t 10)⟩,
⟨some 4, none, .mv (.t 11)⟩] [1, 4, 5, 6, 7, 8, 9, 10, 11])
(.seq (.reg false [
⟨some 12, none, .mv (.t 3)⟩,
⟨some 2, none, .mv (.t 12)⟩] [3, 12])
.ret)))⟩

/-- "turnround/message.fields.11" -/
def c_message_fields_11 : CF := ⟨[.tmp 4],
  (.seq (.reg false [
⟨some 4, none, .mv (.k (.d (.bool false)))⟩] [4])
(.seq (.reg false [
⟨some 8, none, .mv (.t 1)⟩,
⟨some 9, none, .call false true (.k (.fn n_message_ParseMinute [] [])) [.t 8]⟩,
⟨some 7, none, .mv (.t 9)⟩,
⟨some 10, none, .extract (.t 7) 0⟩,
⟨some 11, none, .extract (.t 7) 1⟩,
⟨some 5, none, .mv (.t 10)⟩,
⟨some 6, none, .mv (.t 11)⟩] [1, 7, 8, 9, 10, 11])
(.seq (.reg false [
⟨some 12, none, .mv (.t 0)⟩,
⟨some 13, none, .mv (.t 5)⟩,
⟨some 14, none, .nilCheck (.t 12)⟩,
⟨some 15, none, .fieldAddr 1 (.t 14)⟩,
⟨some 16, none, .fieldAddr 9 (.t 15)⟩,
⟨none, none, .store 1 (.t 16) (.t 13)⟩] [0, 5, 12, 13, 14, 15, 16])
(.seq (.reg false [
⟨some 17, none, .mv (.t 6)⟩,
⟨some 18, none, .bin .eql (.t 17) (.k (.d (.int .i64 0)))⟩,
⟨some 4, none, .mv (.t 18)⟩] [6, 17, 18])
.ret))))⟩

/-- "turnround/message.fields.12" -/
def c_message_fields_12 : CF := ⟨[.tmp 2],
  (.seq (.reg false [
⟨some 2, none, .mv (.k (.d (.nilp)))⟩] [2])
(.seq (.reg false [
⟨some 3, none, .mv (.t 0)⟩,
⟨some 4, none, .nilCheck (.t 3)⟩,
⟨some 5, none, .fieldAddr 1 (.t 4)⟩,
⟨some 6, none, .fieldAddr 10 (.t 5)⟩,
⟨some 2, none, .mv (.t 6)⟩] [0, 3, 4, 5, 6])
.ret))⟩

/-- "turnround/message.fields.13" -/
def c_message_fields_13 : CF := ⟨[.tmp 2],
  (.seq (.reg false [
⟨some 2, none, .mv (.k (.d (.nilp)))⟩] [2])
(.seq (.reg false [
⟨some 3, none, .mv (.t 0)⟩,
⟨some 4, none, .nilCheck (.t 3)⟩,
⟨some 5, none, .fieldAddr 1 (.t 4)⟩,
⟨some 6, none, .fieldAddr 11 (.t 5)⟩,
⟨some 2, none, .mv (.t 6)⟩] [0, 3, 4, 5, 6])
.ret))⟩

/-- "turnround/message.fields.14" -/
def c_message_fields_14 : CF := ⟨[.tmp 2],
  (.seq (.reg false [
⟨some 2, none, .mv (.k (.d (.nilp)))⟩] [2])
(.seq (.reg false [
⟨some 3, none, .mv (.t 0)⟩,
⟨some 4, none, .nilCheck (.t 3)⟩,
⟨some 5, none, .fieldAddr 1 (.t 4)⟩,
⟨some 6, none, .fieldAddr 12 (.t 5)⟩,
⟨some 2, none, .mv (.t 6)⟩] [0, 3, 4, 5, 6])
.ret))⟩

/-- "turnround/message.dashed" -/
def c_message_dashed : CF := ⟨[.cell 2 (some 2)],
  (.seq (.reg false [
⟨some 1, none, .box ty_func_ptr_message_Line_ptr_string (.t 0)⟩,
⟨some 2, none, .alloc ty_message_field [.z (.nilf), .z (.nilf)]⟩] [0])
(.seq (.reg false [
⟨some 3, none, .mkFunc n_message_dashed_1 [] [.t 1]⟩,
⟨some 4, none, .mkFunc n_message_dashed_2 [] [.t 1]⟩,
⟨some 5, none, .build [.z (.nilf), .z (.nilf)] [(0, 1, .t 3), (1, 1, .t 4)]⟩,
⟨none, none, .store 2 (.t 2) (.t 5)⟩] [1, 3, 4, 5])
.ret))⟩

/-- "turnround/message.fields.15" -/
def c_message_fields_15 : CF := ⟨[.tmp 2],
  (.seq (.reg false [
⟨some 2, none, .mv (.k (.d (.nilp)))⟩] [2])
(.seq (.reg false [
⟨some 3, none, .mv (.t 0)⟩,
⟨some 4, none, .nilCheck (.t 3)⟩,
⟨some 5, none, .fieldAddr 1 (.t 4)⟩,
⟨some 6, none, .fieldAddr 3 (.t 5)⟩,
⟨some 2, none, .mv (.t 6)⟩] [0, 3, 4, 5, 6])
.ret))⟩

/-- "turnround/message.fields.16" -/
def c_message_fields_16 : CF := ⟨[.tmp 2],
  (.seq (.reg false [
⟨some 2, none, .mv (.k (.d (.nilp)))⟩] [2])
(.seq (.reg false [
⟨some 3, none, .mv (.t 0)⟩,
⟨some 4, none, .nilCheck (.t 3)⟩,
⟨some 5, none, .fieldAddr 1 (.t 4)⟩,
⟨some 6, none, .fieldAddr 5 (.t 5)⟩,
⟨some 2, none, .mv (.t 6)⟩] [0, 3, 4, 5, 6])
.ret))⟩

def b_message_checkResults_1 : C :=
  (.seq (.reg false [
⟨some 15, none, .bin .lss (.t 14) (.t 13)⟩] [])
(.seq (.cond (.t 15) .skip
 (.exit 0))
(.seq (.block 1 (.seq (.reg false [
⟨some 16, none, .idxAddr 3 (.t 12) (.t 14)⟩,
⟨some 17, none, .load (some 3) (.t 16)⟩,
⟨some 5, none, .alloc ty_message_Result [.z (.str []), .z (.bool false), .z (.int .i64 0)]⟩,
⟨none, none, .store 3 (.t 5) (.t 17)⟩] [16, 17])
(.seq (.reg false [
⟨some 6, none, .mv (.k (.d (.int .i64 0)))⟩] [])
(.seq (.seq (.reg false [
⟨some 18, none, .fieldAddr 1 (.t 5)⟩,
⟨some 19, none, .load none (.t 18)⟩] [18])
(.cond (.t 19) (.reg false [
⟨some 6, none, .mv (.k (.d (.int .i64 1439)))⟩] [])
 .skip))
(.seq (.seq (.reg true [
⟨some 20, none, .fieldAddr 0 (.t 5)⟩,
⟨some 21, none, .load none (.t 20)⟩,
⟨some 22, none, .call false true (.k (.fn n_message_named [] [])) [.t 21]⟩,
⟨some 23, none, .fieldAddr 2 (.t 5)⟩,
⟨some 24, none, .load none (.t 23)⟩,
⟨some 25, none, .mv (.t 6)⟩,
⟨some 26, none, .call false true (.k (.fn n_message_within [] [])) [.t 24, .k (.d (.int .i64 0)), .t 25]⟩,
⟨some 27, none, .mv (.t 3)⟩,
⟨some 28, none, .fieldAddr 0 (.t 5)⟩,
⟨some 29, none, .load none (.t 28)⟩,
⟨some 30, none, .lookup .str (.bool false) false (.t 27) (.t 29)⟩,
⟨some 31, none, .call false true (.k (.fn n_message_when [] [])) [.t 30, .k (.d (.int .i64 9))]⟩,
⟨some 32, none, .mkList 1 3 [.t 22, .t 26, .t 31]⟩,
⟨some 33, none, .call false true (.k (.fn n_message_first [] [])) [.t 32]⟩,
⟨some 7, none, .mv (.t 33)⟩] [6, 20, 21, 22, 23, 24, 25, 26, 27, 28, 29, 30, 31, 32, 33])
(.seq (.reg false [
⟨some 34, none, .mv (.t 7)⟩,
⟨some 35, none, .bin .neq (.t 34) (.k (.d (.int .i64 0)))⟩] [34])
(.cond (.t 35) (.seq (.reg false [
⟨some 36, none, .mv (.t 7)⟩,
⟨some 2, none, .mv (.t 36)⟩] [7, 36])
.ret)
 .skip)))
(.reg false [
⟨some 37, none, .mv (.t 3)⟩,
⟨some 38, none, .fieldAddr 0 (.t 5)⟩,
⟨some 39, none, .load none (.t 38)⟩,
⟨none, none, .mapSet .str (.t 37) (.t 39) (.k (.d (.bool true)))⟩] [5, 37, 38, 39]))))))
(.reg false [
⟨some 40, none, .bin .add (.t 14) (.k (.d (.int .i64 1)))⟩,
⟨some 14, none, .mv (.t 40)⟩] [40]))))

/-- "turnround/message.checkResults" -/
def c_message_checkResults : CF := ⟨[.tmp 2],
  (.seq (.reg false [
⟨some 2, none, .mv (.k (.d (.int .i64 0)))⟩] [2])
(.seq (.seq (.reg false [
⟨some 8, none, .mv (.t 0)⟩,
⟨some 9, none, .len .slc (.t 8)⟩,
⟨some 10, none, .bin .gtr (.t 9) (.k (.d (.int .i64 64)))⟩] [8, 9])
(.cond (.t 10) (.seq (.reg false [
⟨some 2, none, .mv (.k (.d (.int .i64 5)))⟩] [])
.ret)
 .skip))
(.seq (.reg false [
⟨some 11, none, .mkMap⟩,
⟨some 3, none, .mv (.t 11)⟩] [11])
(.seq (.seq (.reg false [
⟨some 12, none, .mv (.t 0)⟩,
⟨some 13, none, .len .slc (.t 12)⟩,
⟨some 14, none, .mv (.k (.d (.int .i64 0)))⟩] [0])
(.block 0 (.loop [3, 12, 13, 14] b_message_checkResults_1)))
(.seq (.reg false [
⟨some 2, none, .mv (.k (.d (.int .i64 0)))⟩] [])
.ret)))))⟩

/-- "turnround/turnroundref02.Replies" -/
def c_ref02_Replies : CF := ⟨[.tmp 2],
  (.seq (.reg false [
⟨some 2, none, .mv (.k (.d (.bool false)))⟩] [2])
(.seq (.reg false [
⟨some 3, none, .mkList 1 4 [.k (.d (.str [75])), .k (.d (.str [79])), .k (.d (.str [85])), .k (.d (.str [88]))]⟩,
⟨some 4, none, .mv (.t 0)⟩,
⟨some 5, none, .call false true (.k (.fn n_ref01_HasWord [] [])) [.t 3, .t 4]⟩,
⟨some 2, none, .mv (.t 5)⟩] [0, 3, 4, 5])
.ret))⟩

def b_ref01_HasWord_1 : C :=
  (.seq (.seq (.reg false [
⟨some 6, none, .mv (.t 5)⟩,
⟨some 7, none, .mv (.t 0)⟩,
⟨some 8, none, .len .slc (.t 7)⟩,
⟨some 9, none, .bin .lss (.t 6) (.t 8)⟩] [6, 7, 8])
(.cond (.t 9) .skip
 (.exit 0)))
(.seq (.block 1 (.seq (.reg false [
⟨some 12, none, .mv (.t 0)⟩,
⟨some 13, none, .mv (.t 5)⟩,
⟨some 14, none, .idxAddr 1 (.t 12) (.t 13)⟩,
⟨some 15, none, .load none (.t 14)⟩,
⟨some 16, none, .mv (.t 1)⟩,
⟨some 17, none, .bin .eql (.t 15) (.t 16)⟩] [12, 13, 14, 15, 16])
(.cond (.t 17) (.seq (.reg false [
⟨some 4, none, .mv (.k (.d (.bool true)))⟩] [])
.ret)
 .skip)))
(.reg false [
⟨some 10, none, .mv (.t 5)⟩,
⟨some 11, none, .bin .add (.t 10) (.k (.d (.int .i64 1)))⟩,
⟨some 5, none, .mv (.t 11)⟩] [10, 11])))

/-- "turnround/turnroundref01.HasWord" -/
def c_ref01_HasWord : CF := ⟨[.tmp 4],
  (.seq (.reg false [
⟨some 4, none, .mv (.k (.d (.bool false)))⟩] [4])
(.seq (.seq (.reg false [
⟨some 5, none, .mv (.k (.d (.int .i64 0)))⟩] [])
(.block 0 (.loop [0, 1, 5] b_ref01_HasWord_1)))
(.seq (.reg false [
⟨some 4, none, .mv (.k (.d (.bool false)))⟩] [])
.ret)))⟩

/-- "turnround/turnroundref01.digit" -/
def c_ref01_digit : CF := ⟨[.tmp 2],
  (.seq (.reg false [
⟨some 2, none, .mv (.k (.d (.str [])))⟩] [2])
(.seq (.reg false [
⟨some 3, none, .mv (.t 0)⟩,
⟨some 4, none, .mv (.t 0)⟩,
⟨some 5, none, .bin .add (.t 4) (.k (.d (.int .i64 1)))⟩,
⟨some 6, none, .sliceS (.k (.d (.str [48, 49, 50, 51, 52, 53, 54, 55, 56, 57]))) (some (.t 3)) (some (.t 5))⟩,
⟨some 2, none, .mv (.t 6)⟩] [0, 3, 4, 5, 6])
.ret))⟩

def b_ref01_PrintMask_1 : C :=
  (.seq (.seq (.reg false [
⟨some 5, none, .mv (.t 4)⟩,
⟨some 6, none, .bin .lss (.t 5) (.k (.d (.int .i64 7)))⟩] [5])
(.cond (.t 6) .skip
 (.exit 0)))
(.seq (.block 1 (.seq (.reg false [
⟨some 9, none, .mv (.t 0)⟩,
⟨some 10, none, .mv (.t 4)⟩,
⟨some 11, none, .call false true (.k (.fn n_ref01_InMask [] [])) [.t 9, .t 10]⟩] [9, 10])
(.cond (.t 11) (.reg false [
⟨some 12, none, .mv (.t 3)⟩,
⟨some 13, none, .mv (.t 4)⟩,
⟨some 14, none, .bin .add (.t 13) (.k (.d (.int .i64 1)))⟩,
⟨some 15, none, .call false true (.k (.fn n_ref01_digit [] [])) [.t 14]⟩,
⟨some 16, none, .bin .add (.t 12) (.t 15)⟩,
⟨some 3, none, .mv (.t 16)⟩] [12, 13, 14, 15, 16])
 (.reg false [
⟨some 17, none, .mv (.t 3)⟩,
⟨some 18, none, .bin .add (.t 17) (.k (.d (.str [48])))⟩,
⟨some 3, none, .mv (.t 18)⟩] [17, 18]))))
(.reg false [
⟨some 7, none, .mv (.t 4)⟩,
⟨some 8, none, .bin .add (.t 7) (.k (.d (.int .i64 1)))⟩,
⟨some 4, none, .mv (.t 8)⟩] [7, 8])))

/-- "turnround/turnroundref01.PrintMask" -/
def c_ref01_PrintMask : CF := ⟨[.tmp 2],
  (.seq (.reg false [
⟨some 2, none, .mv (.k (.d (.str [])))⟩] [2])
(.seq (.reg false [
⟨some 3, none, .mv (.k (.d (.str [])))⟩] [])
(.seq (.seq (.reg false [
⟨some 4, none, .mv (.k (.d (.int .i64 0)))⟩] [])
(.block 0 (.loop [0, 3, 4] b_ref01_PrintMask_1)))
(.seq (.reg false [
⟨some 19, none, .mv (.t 3)⟩,
⟨some 2, none, .mv (.t 19)⟩] [3, 19])
.ret))))⟩

/-- "turnround/turnroundref02.PrintMinute" -/
def c_ref02_PrintMinute : CF := ⟨[.tmp 2],
  (.seq (.reg false [
⟨some 2, none, .mv (.k (.d (.str [])))⟩] [2])
(.seq (.reg false [
⟨some 3, none, .mv (.t 0)⟩,
⟨some 4, none, .bin .quo (.t 3) (.k (.d (.int .i64 60)))⟩,
⟨some 5, none, .call false true (.k (.fn n_ref02_wide [] [])) [.t 4, .k (.d (.int .i64 2))]⟩,
⟨some 6, none, .mv (.t 0)⟩,
⟨some 7, none, .bin .rem (.t 6) (.k (.d (.int .i64 60)))⟩,
⟨some 8, none, .call false true (.k (.fn n_ref02_wide [] [])) [.t 7, .k (.d (.int .i64 2))]⟩,
⟨some 9, none, .bin .add (.t 5) (.t 8)⟩,
⟨some 2, none, .mv (.t 9)⟩] [0, 3, 4, 5, 6, 7, 8, 9])
.ret))⟩

/-- "turnround/turnroundref02.dashed" -/
def c_ref02_dashed : CF := ⟨[.tmp 2],
  (.seq (.reg false [
⟨some 2, none, .mv (.k (.d (.str [])))⟩] [2])
(.seq (.seq (.reg false [
⟨some 3, none, .mv (.t 0)⟩,
⟨some 4, none, .bin .eql (.t 3) (.k (.d (.str [])))⟩] [3])
(.cond (.t 4) (.seq (.reg false [
⟨some 2, none, .mv (.k (.d (.str [45])))⟩] [])
.ret)
 .skip))
(.seq (.reg false [
⟨some 5, none, .mv (.t 0)⟩,
⟨some 2, none, .mv (.t 5)⟩] [0, 5])
.ret)))⟩

def b_slices_IndexFunc_Lmessage_Entry_message_Entry_1 : C :=
  (.seq (.reg false [
⟨some 9, none, .bin .lss (.t 8) (.t 7)⟩] [])
(.seq (.cond (.t 9) .skip
 (.exit 0))
(.seq (.block 1 (.seq (.reg false [
⟨some 10, none, .mv (.t 8)⟩,
⟨some 5, none, .mv (.t 10)⟩] [10])
(.seq (.reg false [
⟨some 11, none, .mv (.t 1)⟩,
⟨some 12, none, .mv (.t 0)⟩,
⟨some 13, none, .mv (.t 5)⟩,
⟨some 14, none, .idxAddr 15 (.t 12) (.t 13)⟩,
⟨some 15, none, .load (some 15) (.t 14)⟩,
⟨some 16, none, .call true true (.t 11) [.t 15]⟩] [11, 12, 13, 14, 15])
(.cond (.t 16) (.seq (.reg false [
⟨some 17, none, .mv (.t 5)⟩,
⟨some 4, none, .mv (.t 17)⟩] [5, 17])
.ret)
 .skip))))
(.reg false [
⟨some 18, none, .bin .add (.t 8) (.k (.d (.int .i64 1)))⟩,
⟨some 8, none, .mv (.t 18)⟩] [18]))))

/-- "slices.IndexFunc[[]turnround/message.Entry,turnround/message.Entry]" -/
def c_slices_IndexFunc_Lmessage_Entry_message_Entry : CF := ⟨[.tmp 4],
  (.seq (.reg false [
⟨some 4, none, .mv (.k (.d (.int .i64 0)))⟩] [4])
(.seq (.seq (.reg false [
⟨some 6, none, .mv (.t 0)⟩,
⟨some 7, none, .len .slc (.t 6)⟩,
⟨some 8, none, .mv (.k (.d (.int .i64 0)))⟩] [6])
(.block 0 (.loop [0, 1, 7, 8] b_slices_IndexFunc_Lmessage_Entry_message_Entry_1)))
(.seq (.reg false [
⟨some 4, none, .mv (.k (.d (.int .i64 (-1))))⟩] [])
.ret)))⟩

/-- "turnround/message.find.1" -/
def c_message_find_1 : CF := ⟨[.tmp 3],
  (.seq (.reg false [
⟨some 2, none, .box ty_message_Entry (.t 0)⟩,
⟨some 3, none, .mv (.k (.d (.bool false)))⟩] [0, 3])
(.seq (.reg false [
⟨some 4, none, .fieldAddr 0 (.t 2)⟩,
⟨some 5, none, .fieldAddr 0 (.t 4)⟩,
⟨some 6, none, .load none (.t 5)⟩,
⟨some 7, none, .load none (.t 1)⟩,
⟨some 8, none, .bin .eql (.t 6) (.t 7)⟩,
⟨some 3, none, .mv (.t 8)⟩] [1, 2, 4, 5, 6, 7, 8])
.ret))⟩

/-- "turnround/message.optional" -/
def c_message_optional : CF := ⟨[.tmp 2],
  (.seq (.reg false [
⟨some 2, none, .mv (.k (.d (.int .i64 0)))⟩] [2])
(.seq (.reg false [
⟨some 3, none, .mv (.t 0)⟩,
⟨some 4, none, .bin .neq (.t 3) (.k (.d (.str [])))⟩,
⟨some 5, none, .mv (.t 4)⟩,
⟨some 6, (some (5, true)), .mv (.t 0)⟩,
⟨some 7, (some (5, true)), .call false true (.k (.fn n_calendar_IsName [] [])) [.t 6]⟩,
⟨some 8, (some (5, true)), .un .not (.t 7)⟩,
⟨some 9, none, .pick (.t 5) (.t 8) (.k (.d (.bool false)))⟩,
⟨some 10, none, .call false true (.k (.fn n_message_when [] [])) [.t 9, .k (.d (.int .i64 8))]⟩,
⟨some 2, none, .mv (.t 10)⟩] [0, 3, 4, 5, 6, 7, 8, 9, 10])
.ret))⟩

/-- "turnround/calendar.CheckPeriod" -/
def c_calendar_CheckPeriod : CF := ⟨[.tmp 2],
  (.seq (.reg false [
⟨some 1, none, .box ty_api_Period (.t 0)⟩,
⟨some 2, none, .mv (.k (.d (.int .i64 0)))⟩] [0, 2])
(.seq (.seq (.reg true [
⟨some 4, none, .fieldAddr 0 (.t 1)⟩,
⟨some 5, none, .load none (.t 4)⟩,
⟨some 6, none, .call false true (.k (.fn n_calendar_checkDay [] [])) [.t 5]⟩,
⟨some 7, none, .fieldAddr 1 (.t 1)⟩,
⟨some 8, none, .load none (.t 7)⟩,
⟨some 9, none, .call false true (.k (.fn n_calendar_checkDay [] [])) [.t 8]⟩,
⟨some 10, none, .mkList 1 2 [.t 6, .t 9]⟩,
⟨some 11, none, .call false true (.k (.fn n_calendar_first [] [])) [.t 10]⟩,
⟨some 3, none, .mv (.t 11)⟩] [4, 5, 6, 7, 8, 9, 10, 11])
(.seq (.reg false [
⟨some 12, none, .mv (.t 3)⟩,
⟨some 13, none, .bin .neq (.t 12) (.k (.d (.int .i64 0)))⟩] [12])
(.cond (.t 13) (.seq (.reg false [
⟨some 14, none, .mv (.t 3)⟩,
⟨some 2, none, .mv (.t 14)⟩] [3, 14])
.ret)
 .skip)))
(.seq (.reg true [
⟨some 15, none, .fieldAddr 1 (.t 1)⟩,
⟨some 16, none, .load none (.t 15)⟩,
⟨some 17, none, .fieldAddr 0 (.t 1)⟩,
⟨some 18, none, .load none (.t 17)⟩,
⟨some 19, none, .bin .lss (.t 16) (.t 18)⟩,
⟨some 20, none, .call false true (.k (.fn n_calendar_when [] [])) [.t 19, .k (.d (.int .i64 11))]⟩,
⟨some 21, none, .fieldAddr 1 (.t 1)⟩,
⟨some 22, none, .load none (.t 21)⟩,
⟨some 23, none, .fieldAddr 0 (.t 1)⟩,
⟨some 24, none, .load none (.t 23)⟩,
⟨some 25, none, .bin .sub (.t 22) (.t 24)⟩,
⟨some 26, none, .bin .gtr (.t 25) (.k (.d (.int .i64 400)))⟩,
⟨some 27, none, .call false true (.k (.fn n_calendar_when [] [])) [.t 26, .k (.d (.int .i64 4))]⟩,
⟨some 28, none, .fieldAddr 2 (.t 1)⟩,
⟨some 29, none, .load none (.t 28)⟩,
⟨some 30, none, .call false true (.k (.fn n_calendar_within [] [])) [.t 29, .k (.d (.int .i64 1)), .k (.d (.int .i64 127))]⟩,
⟨some 31, none, .mkList 1 3 [.t 20, .t 27, .t 30]⟩,
⟨some 32, none, .call false true (.k (.fn n_calendar_first [] [])) [.t 31]⟩,
⟨some 2, none, .mv (.t 32)⟩] [1, 15, 16, 17, 18, 19, 20, 21, 22, 23, 24, 25, 26, 27, 28, 29, 30, 31, 32])
.ret)))⟩

/-- "turnround/message.text.1" -/
def c_message_text_1 : CF := ⟨[.tmp 3],
  (.seq (.reg false [
⟨some 2, none, .box ty_message_Line (.t 0)⟩,
⟨some 3, none, .mv (.k (.d (.str [])))⟩] [0, 3])
(.seq (.reg false [
⟨some 4, none, .load none (.t 1)⟩,
⟨some 5, none, .call true false (.t 4) [.t 2]⟩,
⟨some 6, none, .nilCheck (.t 5)⟩,
⟨some 7, none, .load none (.t 6)⟩,
⟨some 3, none, .mv (.t 7)⟩] [1, 2, 4, 5, 6, 7])
.ret))⟩

/-- "turnround/message.text.2" -/
def c_message_text_2 : CF := ⟨[.tmp 6],
  (.seq (.reg false [
⟨some 6, none, .mv (.k (.d (.bool false)))⟩] [6])
(.seq (.reg false [
⟨some 7, none, .load none (.t 2)⟩,
⟨some 8, none, .mv (.t 0)⟩,
⟨some 9, none, .call true false (.t 7) [.t 8]⟩,
⟨some 10, none, .mv (.t 1)⟩,
⟨some 11, none, .nilCheck (.t 9)⟩,
⟨none, none, .store 1 (.t 11) (.t 10)⟩] [0, 2, 7, 8, 9, 10, 11])
(.seq (.reg false [
⟨some 12, none, .load none (.t 3)⟩,
⟨some 13, none, .mv (.t 1)⟩,
⟨some 14, none, .call false true (.t 12) [.t 13]⟩,
⟨some 6, none, .mv (.t 14)⟩] [1, 3, 12, 13, 14])
.ret)))⟩

/-- "turnround/message.digits.1" -/
def c_message_digits_1 : CF := ⟨[.tmp 4],
  (.seq (.reg false [
⟨some 3, none, .box ty_message_Line (.t 0)⟩,
⟨some 4, none, .mv (.k (.d (.str [])))⟩] [0, 4])
(.seq (.reg true [
⟨some 5, none, .load none (.t 1)⟩,
⟨some 6, none, .callR false (.t 5) [.t 3] [2]⟩,
⟨some 7, none, .nilCheck (.t 6)⟩,
⟨some 8, none, .load none (.t 7)⟩,
⟨some 9, none, .load none (.t 2)⟩,
⟨some 10, none, .call false true (.k (.fn n_message_wide [] [])) [.t 8, .t 9]⟩,
⟨some 4, none, .mv (.t 10)⟩] [1, 2, 3, 5, 6, 7, 8, 9, 10])
.ret))⟩

/-- "turnround/message.digits.2" -/
def c_message_digits_2 : CF := ⟨[.tmp 6],
  (.seq (.reg false [
⟨some 6, none, .mv (.k (.d (.bool false)))⟩] [6])
(.seq (.reg false [
⟨some 10, none, .mv (.t 1)⟩,
⟨some 11, none, .load none (.t 2)⟩,
⟨some 12, none, .call false true (.k (.fn n_message_number [] [])) [.t 10, .t 11]⟩,
⟨some 9, none, .mv (.t 12)⟩,
⟨some 13, none, .extract (.t 9) 0⟩,
⟨some 14, none, .extract (.t 9) 1⟩,
⟨some 7, none, .mv (.t 13)⟩,
⟨some 8, none, .mv (.t 14)⟩] [1, 2, 9, 10, 11, 12, 13, 14])
(.seq (.reg false [
⟨some 15, none, .load none (.t 3)⟩,
⟨some 16, none, .mv (.t 0)⟩,
⟨some 17, none, .call true false (.t 15) [.t 16]⟩,
⟨some 18, none, .mv (.t 7)⟩,
⟨some 19, none, .nilCheck (.t 17)⟩,
⟨none, none, .store 1 (.t 19) (.t 18)⟩] [0, 3, 7, 15, 16, 17, 18, 19])
(.seq (.reg false [
⟨some 20, none, .mv (.t 8)⟩,
⟨some 6, none, .mv (.t 20)⟩] [8, 20])
.ret))))⟩

/-- "turnround/calendar.within" -/
def c_calendar_within : CF := ⟨[.tmp 6],
  (.seq (.reg false [
⟨some 6, none, .mv (.k (.d (.int .i64 0)))⟩] [6])
(.seq (.reg false [
⟨some 7, none, .mv (.t 0)⟩,
⟨some 8, none, .mv (.t 1)⟩,
⟨some 9, none, .bin .lss (.t 7) (.t 8)⟩,
⟨some 10, none, .mv (.t 9)⟩,
⟨some 11, (some (10, false)), .mv (.t 0)⟩,
⟨some 12, (some (10, false)), .mv (.t 2)⟩,
⟨some 13, (some (10, false)), .bin .gtr (.t 11) (.t 12)⟩,
⟨some 14, none, .pick (.t 10) (.k (.d (.bool true))) (.t 13)⟩,
⟨some 15, none, .call false true (.k (.fn n_calendar_when [] [])) [.t 14, .k (.d (.int .i64 3))]⟩,
⟨some 6, none, .mv (.t 15)⟩] [0, 1, 2, 7, 8, 9, 10, 11, 12, 13, 14, 15])
.ret))⟩

def b_calendar_printMask_1 : C :=
  (.seq (.reg false [
⟨some 6, none, .bin .lss (.t 5) (.k (.d (.int .i64 7)))⟩] [])
(.seq (.cond (.t 6) .skip
 (.exit 0))
(.seq (.block 1 (.seq (.reg false [
⟨some 7, none, .mv (.t 5)⟩,
⟨some 4, none, .mv (.t 7)⟩] [7])
(.seq (.seq (.reg false [
⟨some 8, none, .mv (.t 0)⟩,
⟨some 9, none, .mv (.t 4)⟩,
⟨some 10, none, .call false true (.k (.fn n_calendar_inMask [] [])) [.t 8, .t 9]⟩] [8, 9])
(.cond (.t 10) (.seq (.reg false [
⟨some 11, none, .mv (.t 4)⟩,
⟨some 12, none, .bin .add (.t 11) (.k (.d (.int .i64 1)))⟩,
⟨some 13, none, .call false true (.k (.fn n_strconv_Itoa [] [])) [.t 12]⟩,
⟨some 14, none, .call true false (.k (.fn n_strings_Builder_WriteString [] [])) [.t 3, .t 13]⟩] [4, 11, 12, 13, 14])
(.exit 1))
 .skip))
(.reg false [
⟨some 15, none, .call true false (.k (.fn n_strings_Builder_WriteByte [] [])) [.t 3, .k (.d (.int .u8 48))]⟩] [15]))))
(.reg false [
⟨some 16, none, .bin .add (.t 5) (.k (.d (.int .i64 1)))⟩,
⟨some 5, none, .mv (.t 16)⟩] [16]))))

/-- "turnround/calendar.printMask" -/
def c_calendar_printMask : CF := ⟨[.tmp 2],
  (.seq (.reg false [
⟨some 2, none, .mv (.k (.d (.str [])))⟩] [2])
(.seq (.reg false [
⟨some 3, none, .alloc ty_strings_Builder [.z .nilp, .own ⟨false, ty_uint8, 1, 1⟩]⟩] [])
(.seq (.seq (.reg false [
⟨some 5, none, .mv (.k (.d (.int .i64 0)))⟩] [])
(.block 0 (.loop [0, 3, 5] b_calendar_printMask_1)))
(.seq (.reg false [
⟨some 17, none, .call true true (.k (.fn n_strings_Builder_String [] [])) [.t 3]⟩,
⟨some 2, none, .mv (.t 17)⟩] [3, 17])
.ret))))⟩

/-- "turnround/message.dashed.1" -/
def c_message_dashed_1 : CF := ⟨[.tmp 3],
  (.seq (.reg false [
⟨some 2, none, .box ty_message_Line (.t 0)⟩,
⟨some 3, none, .mv (.k (.d (.str [])))⟩] [0, 3])
(.seq (.seq (.reg false [
⟨some 5, none, .load none (.t 1)⟩,
⟨some 6, none, .call true false (.t 5) [.t 2]⟩,
⟨some 7, none, .nilCheck (.t 6)⟩,
⟨some 8, none, .load none (.t 7)⟩,
⟨some 4, none, .mv (.t 8)⟩] [1, 2, 5, 6, 7, 8])
(.seq (.reg false [
⟨some 9, none, .mv (.t 4)⟩,
⟨some 10, none, .bin .neq (.t 9) (.k (.d (.str [])))⟩] [9])
(.cond (.t 10) (.seq (.reg false [
⟨some 11, none, .mv (.t 4)⟩,
⟨some 3, none, .mv (.t 11)⟩] [4, 11])
.ret)
 .skip)))
(.seq (.reg false [
⟨some 3, none, .mv (.k (.d (.str [45])))⟩] [])
.ret)))⟩

/-- "turnround/message.dashed.2" -/
def c_message_dashed_2 : CF := ⟨[.tmp 5],
  (.seq (.reg false [
⟨some 5, none, .mv (.k (.d (.bool false)))⟩] [5])
(.seq (.seq (.reg false [
⟨some 6, none, .mv (.t 1)⟩,
⟨some 7, none, .bin .eql (.t 6) (.k (.d (.str [45])))⟩] [6])
(.cond (.t 7) (.seq (.reg false [
⟨some 5, none, .mv (.k (.d (.bool true)))⟩] [])
.ret)
 .skip))
(.seq (.reg false [
⟨some 8, none, .load none (.t 2)⟩,
⟨some 9, none, .mv (.t 0)⟩,
⟨some 10, none, .call true false (.t 8) [.t 9]⟩,
⟨some 11, none, .mv (.t 1)⟩,
⟨some 12, none, .nilCheck (.t 10)⟩,
⟨none, none, .store 1 (.t 12) (.t 11)⟩] [0, 2, 8, 9, 10, 11, 12])
(.seq (.reg false [
⟨some 13, none, .mv (.t 1)⟩,
⟨some 14, none, .call false true (.k (.fn n_calendar_IsName [] [])) [.t 13]⟩,
⟨some 5, none, .mv (.t 14)⟩] [1, 13, 14])
.ret))))⟩

def b_ref01_InMask_1 : C :=
  (.seq (.seq (.reg false [
⟨some 6, none, .mv (.t 5)⟩,
⟨some 7, none, .mv (.t 1)⟩,
⟨some 8, none, .bin .lss (.t 6) (.t 7)⟩] [6, 7])
(.cond (.t 8) .skip
 (.exit 0)))
(.seq (.block 1 (.reg false [
⟨some 11, none, .mv (.t 0)⟩,
⟨some 12, none, .bin .quo (.t 11) (.k (.d (.int .i64 2)))⟩,
⟨some 0, none, .mv (.t 12)⟩] [11, 12]))
(.reg false [
⟨some 9, none, .mv (.t 5)⟩,
⟨some 10, none, .bin .add (.t 9) (.k (.d (.int .i64 1)))⟩,
⟨some 5, none, .mv (.t 10)⟩] [9, 10])))

/-- "turnround/turnroundref01.InMask" -/
def c_ref01_InMask : CF := ⟨[.tmp 4],
  (.seq (.reg false [
⟨some 4, none, .mv (.k (.d (.bool false)))⟩] [4])
(.seq (.seq (.reg false [
⟨some 5, none, .mv (.k (.d (.int .i64 0)))⟩] [])
(.block 0 (.loop [0, 1, 5] b_ref01_InMask_1)))
(.seq (.reg false [
⟨some 13, none, .mv (.t 0)⟩,
⟨some 14, none, .bin .rem (.t 13) (.k (.d (.int .i64 2)))⟩,
⟨some 15, none, .bin .eql (.t 14) (.k (.d (.int .i64 1)))⟩,
⟨some 4, none, .mv (.t 15)⟩] [0, 13, 14, 15])
.ret)))⟩

def b_calendar_first_1 : C :=
  (.seq (.reg false [
⟨some 8, none, .bin .lss (.t 7) (.t 6)⟩] [])
(.seq (.cond (.t 8) .skip
 (.exit 0))
(.seq (.block 1 (.seq (.reg false [
⟨some 9, none, .idxAddr 1 (.t 5) (.t 7)⟩,
⟨some 10, none, .load none (.t 9)⟩,
⟨some 4, none, .mv (.t 10)⟩] [9, 10])
(.seq (.reg false [
⟨some 11, none, .mv (.t 4)⟩,
⟨some 12, none, .bin .neq (.t 11) (.k (.d (.int .i64 0)))⟩] [11])
(.cond (.t 12) (.seq (.reg false [
⟨some 13, none, .mv (.t 4)⟩,
⟨some 2, none, .mv (.t 13)⟩] [4, 13])
.ret)
 .skip))))
(.reg false [
⟨some 14, none, .bin .add (.t 7) (.k (.d (.int .i64 1)))⟩,
⟨some 7, none, .mv (.t 14)⟩] [14]))))

/-- "turnround/calendar.first" -/
def c_calendar_first : CF := ⟨[.tmp 2],
  (.seq (.reg false [
⟨some 2, none, .mv (.k (.d (.int .i64 0)))⟩] [2])
(.seq (.seq (.reg false [
⟨some 5, none, .mv (.t 0)⟩,
⟨some 6, none, .len .slc (.t 5)⟩,
⟨some 7, none, .mv (.k (.d (.int .i64 0)))⟩] [0])
(.block 0 (.loop [5, 6, 7] b_calendar_first_1)))
(.seq (.reg false [
⟨some 2, none, .mv (.k (.d (.int .i64 0)))⟩] [])
.ret)))⟩

/-- "turnround/calendar.checkDay" -/
def c_calendar_checkDay : CF := ⟨[.tmp 2],
  (.seq (.reg false [
⟨some 2, none, .mv (.k (.d (.int .i64 0)))⟩] [2])
(.seq (.reg false [
⟨some 3, none, .mv (.t 0)⟩,
⟨some 4, none, .call false true (.k (.fn n_calendar_within [] [])) [.t 3, .k (.d (.int .i64 0)), .k (.d (.int .i64 99999))]⟩,
⟨some 2, none, .mv (.t 4)⟩] [0, 3, 4])
.ret))⟩

/-- "turnround/calendar.when" -/
def c_calendar_when : CF := ⟨[.tmp 4],
  (.seq (.reg false [
⟨some 4, none, .mv (.k (.d (.int .i64 0)))⟩] [4])
(.seq (.seq (.reg false [
⟨some 5, none, .mv (.t 0)⟩] [0])
(.cond (.t 5) (.seq (.reg false [
⟨some 6, none, .mv (.t 1)⟩,
⟨some 4, none, .mv (.t 6)⟩] [1, 6])
.ret)
 .skip))
(.seq (.reg false [
⟨some 4, none, .mv (.k (.d (.int .i64 0)))⟩] [])
.ret)))⟩

/-- "turnround/calendar.inMask" -/
def c_calendar_inMask : CF := ⟨[.tmp 4],
  (.seq (.reg false [
⟨some 4, none, .mv (.k (.d (.bool false)))⟩] [4])
(.seq (.reg false [
⟨some 5, none, .mv (.t 0)⟩,
⟨some 6, none, .mv (.t 1)⟩,
⟨some 7, none, .bin .shr (.t 5) (.t 6)⟩,
⟨some 8, none, .bin .and (.t 7) (.k (.d (.int .i64 1)))⟩,
⟨some 9, none, .bin .eql (.t 8) (.k (.d (.int .i64 1)))⟩,
⟨some 4, none, .mv (.t 9)⟩] [0, 1, 5, 6, 7, 8, 9])
.ret))⟩

/-- "(*strings.Builder).WriteByte" -/
def c_strings_Builder_WriteByte : CF := ⟨[.tmp 4],
  (.seq (.reg false [
⟨some 4, none, .mv (.k (.d (.nili)))⟩] [4])
(.seq (.reg false [
⟨some 5, none, .mv (.t 0)⟩,
⟨some 6, none, .call true true (.k (.fn n_strings_Builder_copyCheck [] [])) [.t 5]⟩] [5, 6])
(.seq (.reg false [
⟨some 7, none, .mv (.t 0)⟩,
⟨some 8, none, .mv (.t 0)⟩,
⟨some 9, none, .nilCheck (.t 8)⟩,
⟨some 10, none, .fieldAddr 1 (.t 9)⟩,
⟨some 11, none, .load none (.t 10)⟩,
⟨some 12, none, .mv (.t 1)⟩,
⟨some 13, none, .mkList 1 1 [.t 12]⟩,
⟨some 14, none, .append ⟨false, ty_uint8, 1, 1⟩ (.t 11) (.t 13)⟩,
⟨some 15, none, .nilCheck (.t 7)⟩,
⟨some 16, none, .fieldAddr 1 (.t 15)⟩,
⟨none, none, .store 1 (.t 16) (.t 14)⟩] [0, 1, 7, 8, 9, 10, 11, 12, 13, 14, 15, 16])
(.seq (.reg false [
⟨some 4, none, .mv (.k (.d (.nili)))⟩] [])
.ret))))⟩


end Go.Proofs.YtgncpnnakchodaaGreatDoor.Co
