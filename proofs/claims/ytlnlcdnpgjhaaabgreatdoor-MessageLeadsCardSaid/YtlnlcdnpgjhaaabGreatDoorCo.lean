/-
  The functions of the seat in the evaluator's syntax (printed by a program of mine; checked in a text that follows).
-/
import Derived.Test.YtlnlcdnpgjhaaabGreatDoorEvE
namespace Go.Proofs.YtlnlcdnpgjhaaabGreatDoor.Co
open Go.Evl

def n_law02_MessageLeads : Nat := 4
def n_law02_awake : Nat := 6
def n_message_Requests : Nat := 9
def n_ref02_CheckRequests : Nat := 13
def n_message_Changed : Nat := 14
def n_law02_copied : Nat := 15
def n_ref02_At : Nat := 16
def n_ref02_CheckRequest : Nat := 17
def n_law02_sample : Nat := 26
def n_message_PrintMinute : Nat := 27
def n_message_ParseMinute : Nat := 28
def n_message_PrintLine : Nat := 29
def n_message_ParseLine : Nat := 30
def n_message_PrintMessage : Nat := 31
def n_message_ParseMessage : Nat := 32
def n_message_Answers : Nat := 33
def n_message_Results : Nat := 34
def n_message_first : Nat := 37
def n_message_CheckMessage : Nat := 38
def n_message_when : Nat := 39
def n_message_step : Nat := 40
def n_message_checkRequests : Nat := 43
def n_message_Changed_1 : Nat := 44
def n_slices_IndexFunc_Lapi_Request_api_Request : Nat := 45
def n_message_Changed_1_1 : Nat := 46
def n_message_twins : Nat := 47
def n_message_filtered_api_Request_message_Line : Nat := 48
def n_message_Changed_2 : Nat := 49
def n_message_Changed_3 : Nat := 50
def n_ref01_IsName : Nat := 51
def n_ref02_optional : Nat := 52
def n_ref01_CheckPeriod : Nat := 53
def n_ref01_First : Nat := 54
def n_ref01_CheckRange : Nat := 55
def n_calendar_CheckPeriod : Nat := 56
def n_calendar_first : Nat := 57
def n_calendar_checkDay : Nat := 58
def n_calendar_when : Nat := 59
def n_message_within : Nat := 67
def n_message_wide : Nat := 68
def n_message_number : Nat := 69
def n_message_CheckLine : Nat := 70
def n_message_printLine : Nat := 71
def n_message_fields : Nat := 73
def n_strings_Builder_WriteString : Nat := 74
def n_message_texts : Nat := 76
def n_strings_CutSuffix : Nat := 77
def n_message_head : Nat := 78
def n_message_checkLines : Nat := 79
def n_message_checkHead : Nat := 80
def n_message_checkBoth : Nat := 81
def n_message_moved : Nat := 82
def n_message_filtered_message_Line_message_Result : Nat := 83
def n_message_Results_1 : Nat := 84
def n_message_isMessage : Nat := 87
def n_message_find : Nat := 88
def n_message_CheckRequest : Nat := 92
def n_ref01_CheckDay : Nat := 93
def n_calendar_within : Nat := 94
def n_calendar_inMask : Nat := 98
def n_message_isAction : Nat := 101
def n_message_text : Nat := 104
def n_message_fields_1 : Nat := 105
def n_message_fields_2 : Nat := 106
def n_calendar_IsName : Nat := 107
def n_message_fields_3 : Nat := 108
def n_message_fields_4 : Nat := 109
def n_message_isKind : Nat := 110
def n_message_fields_5 : Nat := 111
def n_message_digits : Nat := 112
def n_message_fields_6 : Nat := 113
def n_message_fields_7 : Nat := 114
def n_message_fields_8 : Nat := 115
def n_calendar_PrintMask : Nat := 116
def n_message_fields_9 : Nat := 117
def n_calendar_ParseMask : Nat := 118
def n_message_fields_10 : Nat := 119
def n_message_fields_11 : Nat := 120
def n_message_fields_12 : Nat := 121
def n_message_fields_13 : Nat := 122
def n_message_fields_14 : Nat := 123
def n_message_dashed : Nat := 124
def n_message_fields_15 : Nat := 125
def n_message_fields_16 : Nat := 126
def n_message_texts_1 : Nat := 128
def n_strings_IndexByte : Nat := 129
def n_internal_stringslite_CutSuffix : Nat := 130
def n_message_actions : Nat := 131
def n_message_named : Nat := 132
def n_message_isSeason : Nat := 133
def n_message_checkResults : Nat := 134
def n_slices_IndexFunc_Lmessage_Entry_message_Entry : Nat := 136
def n_message_find_1 : Nat := 137
def n_message_optional : Nat := 141
def n_message_text_1 : Nat := 149
def n_message_text_2 : Nat := 150
def n_message_digits_1 : Nat := 151
def n_message_digits_2 : Nat := 152
def n_calendar_printMask : Nat := 153
def n_message_dashed_1 : Nat := 154
def n_message_dashed_2 : Nat := 155
def n_strings_Builder_WriteByte : Nat := 171
def n_strings_Split : Nat := 72
def n_strings_Builder_String : Nat := 75
def n_strings_Contains : Nat := 85
def n_strconv_Itoa : Nat := 99
def n_strings_Repeat : Nat := 100
def n_strings_Join : Nat := 102
def n_strings_genSplit : Nat := 103
def n_strings_Builder_copyCheck : Nat := 127
def n_internal_stringslite_IndexByte : Nat := 157
def n_internal_stringslite_HasSuffix : Nat := 158
def ty_int : Nat := 3
def ty_bool : Nat := 4
def ty_uint8 : Nat := 5
def ty_string : Nat := 9
def ty_message_Message : Nat := 31
def ty_api_Errno : Nat := 34
def ty_Lapi_Request : Nat := 43
def ty_api_Period : Nat := 46
def ty_api_Request : Nat := 48
def ty_message_Line : Nat := 50
def ty_message_Entry : Nat := 55
def ty_message_Result : Nat := 89
def ty_func_Lapi_Request_api_Request_api_Request_bool : Nat := 109
def ty_func_string_bool : Nat := 113
def ty_message_field : Nat := 138
def ty_14_message_field : Nat := 139
def ty_strings_Builder : Nat := 145
def ty_func_ptr_message_Line_ptr_string : Nat := 181
def ty_func_ptr_message_Line_ptr_int : Nat := 184

def b_law02_MessageLeads_1 : C :=
  (.seq (.reg false [
tq 46 (.bin .lss (.t 45) (.t 44))] [])
(.seq (.cond (.t 46) .skip
 (.exit 0))
(.seq (.block 1 (.seq (.reg false [
tq 47 (.idxAddr 13 (.t 43) (.t 45)),
tq 48 (.load (some 13) (.t 47)),
tq 7 (.alloc ty_api_Request [.z (.str []), .z (.str []), .z (.str []), .z (.str []), .z (.str []), .z (.str []), .z (.int .i64 0), .z (.int .i64 0), .z (.int .i64 0), .z (.int .i64 0), .z (.int .i64 0), .z (.int .i64 0), .z (.int .i64 0)]),
⟨none, none, .store 13 (.t 7) (.t 48)⟩] [47, 48])
(.reg false [
fa 49 4 5,
ld 50 49,
tq 51 (.load (some 13) (.t 7)),
tq 52 (.build [.z (.str []), .z (.str []), .z (.str []), .z (.str []), .z (.str []), .z (.str []), .z (.str []), .z (.int .i64 0), .z (.int .i64 0), .z (.int .i64 0), .z (.int .i64 0), .z (.int .i64 0), .z (.int .i64 0), .z (.int .i64 0)] [(0, 1, .k (.d (.str [78]))), (1, 13, .t 51)]),
tq 53 (.mkList 14 1 [.t 52]),
tq 54 (.append ⟨false, ty_message_Line, 14, 168⟩ (.t 50) (.t 53)),
fa 55 4 5,
⟨none, none, .store 1 (.t 55) (.t 54)⟩] [7, 49, 50, 51, 52, 53, 54, 55])))
(.reg false [
tq 56 (.bin .add (.t 45) (kq 1)),
tq 45 (.mv (.t 56))] [56]))))

def b_law02_MessageLeads_2 : C :=
  (.seq (.reg false [
tq 153 (.bin .lss (.t 152) (.t 151))] [])
(.seq (.cond (.t 153) .skip
 (.exit 4))
(.seq (.block 5 (.seq (.reg false [
tq 154 (.idxAddr 14 (.t 150) (.t 152)),
tq 155 (.load (some 14) (.t 154)),
tq 22 (.alloc ty_message_Line [.z (.str []), .z (.str []), .z (.str []), .z (.str []), .z (.str []), .z (.str []), .z (.str []), .z (.int .i64 0), .z (.int .i64 0), .z (.int .i64 0), .z (.int .i64 0), .z (.int .i64 0), .z (.int .i64 0), .z (.int .i64 0)]),
⟨none, none, .store 14 (.t 22) (.t 155)⟩] [154, 155])
(.seq (.reg false [
tq 156 (.mv (.t 20)),
tq 157 (.mv (.t 156)),
⟨some 158, (some (157, true)), .fieldAddr 1 (.t 22)⟩,
⟨some 159, (some (157, true)), .fieldAddr 0 (.t 158)⟩,
⟨some 160, (some (157, true)), .load none (.t 159)⟩,
⟨some 161, (some (157, true)), .fieldAddr 0 (.t 17)⟩,
⟨some 162, (some (157, true)), .fieldAddr 0 (.t 161)⟩,
⟨some 163, (some (157, true)), .load none (.t 162)⟩,
⟨some 164, (some (157, true)), .bin .eql (.t 160) (.t 163)⟩,
tq 165 (.pick (.t 157) (.t 164) (.k (.d (.bool false))))] [22, 156, 157, 158, 159, 160, 161, 162, 163, 164])
(.cond (.t 165) (.seq (.reg false [
tq 4 (.mv (.k (.d (.bool false))))] [])
.ret)
 .skip))))
(.reg false [
tq 166 (.bin .add (.t 152) (kq 1)),
tq 152 (.mv (.t 166))] [166]))))

def b_law02_MessageLeads_3 : C :=
  (.seq (.reg false [
tq 111 (.bin .lss (.t 110) (.t 109))] [])
(.seq (.cond (.t 111) .skip
 (.exit 2))
(.seq (.block 3 (.seq (.reg false [
tq 112 (.idxAddr 15 (.t 108) (.t 110)),
tq 113 (.load (some 15) (.t 112)),
tq 17 (.alloc ty_message_Entry [.z (.str []), .z (.str []), .z (.str []), .z (.str []), .z (.str []), .z (.str []), .z (.int .i64 0), .z (.int .i64 0), .z (.int .i64 0), .z (.int .i64 0), .z (.int .i64 0), .z (.int .i64 0), .z (.int .i64 0), .z (.bool false), .z (.int .i64 0)]),
⟨none, none, .store 15 (.t 17) (.t 113)⟩] [112, 113])
(.seq (.reg false [
tq 114 (.mv (.t 1)),
fa 115 0 17,
fa 116 0 115,
ld 117 116,
tq 118 (.call false true (.k (.fn n_ref02_At [] [])) [.t 114, .t 117]),
tq 18 (.mv (.t 118))] [114, 115, 116, 117, 118])
(.seq (.seq (.reg true [
tq 119 (.mv (.t 18)),
tq 120 (.bin .lss (.t 119) (kq 0)),
tq 121 (.mv (.t 120)),
⟨some 122, (some (121, false)), .mv (.t 1)⟩,
⟨some 123, (some (121, false)), .mv (.t 18)⟩,
⟨some 124, (some (121, false)), .idxAddr 13 (.t 122) (.t 123)⟩,
⟨some 125, (some (121, false)), .load (some 13) (.t 124)⟩,
⟨some 126, (some (121, false)), .fieldAddr 0 (.t 17)⟩,
⟨some 127, (some (121, false)), .load (some 13) (.t 126)⟩,
⟨some 128, (some (121, false)), .eqv (some [.str, .str, .str, .str, .str, .str, .int, .int, .int, .int, .int, .int, .int]) true (.t 125) (.t 127)⟩,
tq 129 (.pick (.t 121) (.k (.d (.bool true))) (.t 128)),
tq 130 (.mv (.t 129)),
⟨some 131, (some (130, false)), .fieldAddr 13 (.t 17)⟩,
⟨some 132, (some (130, false)), .load none (.t 131)⟩,
tq 133 (.pick (.t 130) (.k (.d (.bool true))) (.t 132))] [18, 119, 120, 121, 122, 123, 124, 125, 126, 127, 128, 129, 130, 131, 132])
(.cond (.t 133) (.seq (.reg false [
tq 4 (.mv (.k (.d (.bool false))))] [])
.ret)
 .skip))
(.seq (.reg false [
tq 134 (.mv (.t 0)),
fa 135 0 17,
fa 136 0 135,
ld 137 136,
tq 138 (.call false true (.k (.fn n_ref02_At [] [])) [.t 134, .t 137]),
tq 19 (.mv (.t 138))] [134, 135, 136, 137, 138])
(.seq (.reg true [
tq 139 (.mv (.t 19)),
tq 140 (.bin .geq (.t 139) (kq 0)),
tq 141 (.mv (.t 140)),
⟨some 142, (some (141, true)), .mv (.t 0)⟩,
⟨some 143, (some (141, true)), .mv (.t 19)⟩,
⟨some 144, (some (141, true)), .idxAddr 13 (.t 142) (.t 143)⟩,
⟨some 145, (some (141, true)), .load (some 13) (.t 144)⟩,
⟨some 146, (some (141, true)), .fieldAddr 0 (.t 17)⟩,
⟨some 147, (some (141, true)), .load (some 13) (.t 146)⟩,
⟨some 148, (some (141, true)), .eqv (some [.str, .str, .str, .str, .str, .str, .int, .int, .int, .int, .int, .int, .int]) false (.t 145) (.t 147)⟩,
tq 149 (.pick (.t 141) (.t 148) (.k (.d (.bool false)))),
tq 20 (.mv (.t 149))] [19, 139, 140, 141, 142, 143, 144, 145, 146, 147, 148, 149])
(.seq (.reg false [
tq 150 (.mv (.t 8)),
tq 151 (.len .slc (.t 150)),
tq 152 (.mv (kq 0))] [])
(.block 4 (.loop [0, 1, 8, 17, 20, 108, 109, 110, 150, 151, 152] b_law02_MessageLeads_2)))))))))
(.reg false [
tq 167 (.bin .add (.t 110) (kq 1)),
tq 110 (.mv (.t 167))] [167]))))

def c_law02_MessageLeads : CF := ⟨[.tmp 4],
  (.seq (.reg false [
tq 4 (.mv (.k (.d (.bool false))))] [4])
(.seq (.seq (.reg false [
tq 23 (.mv (.t 0)),
tq 24 (.len .slc (.t 23)),
tq 25 (.bin .gtr (.t 24) (kq 6)),
tq 26 (.mv (.t 25)),
⟨some 27, (some (26, false)), .mv (.t 1)⟩,
⟨some 28, (some (26, false)), .len .slc (.t 27)⟩,
⟨some 29, (some (26, false)), .bin .gtr (.t 28) (kq 6)⟩,
tq 30 (.pick (.t 26) (.k (.d (.bool true))) (.t 29)),
tq 31 (.mv (.t 30)),
⟨some 32, (some (31, false)), .mv (.t 0)⟩,
⟨some 33, (some (31, false)), .call false true (.k (.fn n_ref02_CheckRequests [] [])) [.t 32]⟩,
⟨some 34, (some (31, false)), .bin .neq (.t 33) (kq 0)⟩,
tq 35 (.pick (.t 31) (.k (.d (.bool true))) (.t 34)),
tq 36 (.mv (.t 35)),
⟨some 37, (some (36, false)), .mv (.t 1)⟩,
⟨some 38, (some (36, false)), .call false true (.k (.fn n_ref02_CheckRequests [] [])) [.t 37]⟩,
⟨some 39, (some (36, false)), .bin .neq (.t 38) (kq 0)⟩,
tq 40 (.pick (.t 36) (.k (.d (.bool true))) (.t 39))] [23, 24, 25, 26, 27, 28, 29, 30, 31, 32, 33, 34, 35, 36, 37, 38, 39])
(.cond (.t 40) (.seq (.reg false [
tq 41 (.call false true (.k (.fn n_law02_awake [] [])) []),
tq 4 (.mv (.t 41))] [41])
.ret)
 .skip))
(.seq (.reg false [
tq 42 (.build [.z (.str []), .z (.str []), .z (.str []), .z (.int .i64 0), .own ⟨false, ty_message_Line, 14, 168⟩] [(0, 1, .k (.d (.str [82, 69, 81]))), (1, 1, .k (.d (.str [104, 101, 114, 101]))), (2, 1, .k (.d (.str [87, 50, 48, 51, 48]))), (3, 1, kq 10)]),
tq 5 (.alloc ty_message_Message [.z (.str []), .z (.str []), .z (.str []), .z (.int .i64 0), .own ⟨false, ty_message_Line, 14, 168⟩]),
⟨none, none, .store 5 (.t 5) (.t 42)⟩] [42])
(.seq (.seq (.reg false [
tq 43 (.mv (.t 0)),
tq 44 (.len .slc (.t 43)),
tq 45 (.mv (kq 0))] [])
(.block 0 (.loop [0, 1, 5, 43, 44, 45] b_law02_MessageLeads_1)))
(.seq (.reg false [
tq 58 (.mv (.t 0)),
tq 59 (.call false true (.k (.fn n_law02_copied [] [])) [.t 58]),
tq 60 (.mv (.t 1)),
tq 61 (.call false true (.k (.fn n_law02_copied [] [])) [.t 60]),
tq 62 (.call false true (.k (.fn n_message_Changed [] [])) [.t 59, .t 61]),
tq 57 (.mv (.t 62)),
tq 63 (.extract (.t 57) 0),
tq 64 (.extract (.t 57) 1),
tq 8 (.mv (.t 63)),
tq 9 (.mv (.t 64))] [57, 58, 59, 60, 61, 62, 63, 64])
(.seq (.reg false [
tq 66 (.mv (.t 1)),
tq 67 (.call false true (.k (.fn n_law02_copied [] [])) [.t 66]),
tq 68 (.mv (.t 1)),
tq 69 (.call false true (.k (.fn n_law02_copied [] [])) [.t 68]),
tq 70 (.call false true (.k (.fn n_message_Changed [] [])) [.t 67, .t 69]),
tq 65 (.mv (.t 70)),
tq 71 (.extract (.t 65) 0),
tq 72 (.extract (.t 65) 1),
tq 10 (.mv (.t 71)),
tq 11 (.mv (.t 72))] [65, 66, 67, 68, 69, 70, 71, 72])
(.seq (.seq (.reg false [
tq 73 (.mv (.t 9)),
tq 74 (.bin .neq (.t 73) (kq 0)),
tq 75 (.mv (.t 74)),
⟨some 76, (some (75, false)), .mv (.t 11)⟩,
⟨some 77, (some (75, false)), .bin .neq (.t 76) (kq 0)⟩,
tq 78 (.pick (.t 75) (.k (.d (.bool true))) (.t 77)),
tq 79 (.mv (.t 78)),
⟨some 80, (some (79, false)), .mv (.t 10)⟩,
⟨some 81, (some (79, false)), .len .slc (.t 80)⟩,
⟨some 82, (some (79, false)), .bin .neq (.t 81) (kq 0)⟩,
tq 83 (.pick (.t 79) (.k (.d (.bool true))) (.t 82)),
tq 84 (.mv (.t 83)),
⟨some 85, (some (84, false)), .mv (.t 8)⟩,
⟨some 86, (some (84, false)), .len .slc (.t 85)⟩,
⟨some 87, (some (84, false)), .bin .gtr (.t 86) (kq 24)⟩,
tq 88 (.pick (.t 84) (.k (.d (.bool true))) (.t 87))] [9, 10, 11, 73, 74, 75, 76, 77, 78, 79, 80, 81, 82, 83, 84, 85, 86, 87])
(.cond (.t 88) (.seq (.reg false [
tq 4 (.mv (.k (.d (.bool false))))] [])
.ret)
 .skip))
(.seq (.reg false [
tq 89 (.mv (.t 8)),
tq 90 (.build [.z (.str []), .z (.str []), .z (.str []), .z (.int .i64 0), .z (.list 0 [])] [(0, 1, .k (.d (.str [82, 69, 81]))), (1, 1, .k (.d (.str [104, 101, 114, 101]))), (2, 1, .k (.d (.str [87, 50, 48, 51, 48]))), (3, 1, kq 11), (4, 1, .t 89)]),
tq 12 (.alloc ty_message_Message [.z (.str []), .z (.str []), .z (.str []), .z (.int .i64 0), .z (.list 0 [])]),
⟨none, none, .store 5 (.t 12) (.t 90)⟩] [89, 90])
(.seq (.reg false [
tq 92 (.load (some 5) (.t 5)),
tq 93 (.load (some 5) (.t 12)),
tq 94 (.mkList 5 2 [.t 92, .t 93]),
tq 95 (.call false true (.k (.fn n_message_Requests [] [])) [.t 94]),
tq 91 (.mv (.t 95)),
tq 96 (.extract (.t 91) 0),
tq 97 (.extract (.t 91) 1),
tq 98 (.extract (.t 91) 2),
tq 13 (.mv (.t 96)),
tq 14 (.mv (.t 97)),
tq 15 (.mv (.t 98))] [5, 12, 14, 91, 92, 93, 94, 95, 96, 97, 98])
(.seq (.seq (.reg false [
tq 99 (.mv (.t 15)),
tq 100 (.bin .neq (.t 99) (kq 0)),
tq 101 (.mv (.t 100)),
⟨some 102, (some (101, false)), .mv (.t 13)⟩,
⟨some 103, (some (101, false)), .len .slc (.t 102)⟩,
⟨some 104, (some (101, false)), .mv (.t 1)⟩,
⟨some 105, (some (101, false)), .len .slc (.t 104)⟩,
⟨some 106, (some (101, false)), .bin .neq (.t 103) (.t 105)⟩,
tq 107 (.pick (.t 101) (.k (.d (.bool true))) (.t 106))] [15, 99, 100, 101, 102, 103, 104, 105, 106])
(.cond (.t 107) (.seq (.reg false [
tq 4 (.mv (.k (.d (.bool false))))] [])
.ret)
 .skip))
(.seq (.seq (.reg false [
tq 108 (.mv (.t 13)),
tq 109 (.len .slc (.t 108)),
tq 110 (.mv (kq 0))] [13])
(.block 2 (.loop [0, 1, 8, 108, 109, 110] b_law02_MessageLeads_3)))
(.seq (.reg false [
tq 168 (.call false true (.k (.fn n_law02_awake [] [])) []),
tq 4 (.mv (.t 168))] [168])
.ret))))))))))))⟩

def c_law02_awake : CF := ⟨[.tmp 0],
  (.seq (.reg false [
tq 0 (.mv (.k (.d (.bool false))))] [0])
(.seq (.reg false [
tq 42 (.call false true (.k (.fn n_law02_sample [] [])) []),
tq 1 (.alloc ty_api_Request [.z (.str []), .z (.str []), .z (.str []), .z (.str []), .z (.str []), .z (.str []), .z (.int .i64 0), .z (.int .i64 0), .z (.int .i64 0), .z (.int .i64 0), .z (.int .i64 0), .z (.int .i64 0), .z (.int .i64 0)]),
⟨none, none, .store 13 (.t 1) (.t 42)⟩] [42])
(.seq (.reg false [
tq 44 (.call false true (.k (.fn n_message_PrintMinute [] [])) [kq 605]),
tq 43 (.mv (.t 44)),
tq 45 (.extract (.t 43) 0),
tq 46 (.extract (.t 43) 1),
tq 2 (.mv (.t 45)),
tq 3 (.mv (.t 46))] [43, 44, 45, 46])
(.seq (.reg false [
tq 48 (.call false true (.k (.fn n_message_ParseMinute [] [])) [.k (.d (.str [48, 48, 48, 53]))]),
tq 47 (.mv (.t 48)),
tq 49 (.extract (.t 47) 0),
tq 50 (.extract (.t 47) 1),
tq 4 (.mv (.t 49)),
tq 5 (.mv (.t 50))] [47, 48, 49, 50])
(.seq (.reg false [
tq 52 (.call false true (.k (.fn n_message_ParseMinute [] [])) [.k (.d (.str [50, 52, 48, 48]))]),
tq 51 (.mv (.t 52)),
tq 53 (.extract (.t 51) 0),
tq 54 (.extract (.t 51) 1),
tq 6 (.mv (.t 53)),
tq 7 (.mv (.t 54))] [6, 51, 52, 53, 54])
(.seq (.reg false [
tq 56 (.load (some 13) (.t 1)),
tq 57 (.build [.z (.str []), .z (.str []), .z (.str []), .z (.str []), .z (.str []), .z (.str []), .z (.str []), .z (.int .i64 0), .z (.int .i64 0), .z (.int .i64 0), .z (.int .i64 0), .z (.int .i64 0), .z (.int .i64 0), .z (.int .i64 0)] [(0, 1, .k (.d (.str [78]))), (1, 13, .t 56)]),
tq 58 (.call false true (.k (.fn n_message_PrintLine [] [])) [.t 57]),
tq 55 (.mv (.t 58)),
tq 59 (.extract (.t 55) 0),
tq 60 (.extract (.t 55) 1),
tq 8 (.mv (.t 59)),
tq 9 (.mv (.t 60))] [55, 56, 57, 58, 59, 60])
(.seq (.reg false [
tq 62 (.call false true (.k (.fn n_message_ParseLine [] [])) [.k (.d (.str [78, 32, 97, 98, 32, 113, 49, 32, 65, 32, 102, 97, 114, 32, 48, 56, 57, 48, 48, 32, 48, 56, 57, 50, 48, 32, 49, 48, 51, 48, 48, 48, 48, 32, 49, 48, 48, 53, 32, 49, 56, 48, 32, 52, 32, 49, 50, 32, 116, 49, 32, 45]))]),
tq 61 (.mv (.t 62)),
tq 63 (.extract (.t 61) 0),
tq 64 (.extract (.t 61) 1),
tq 65 (.extract (.t 61) 2),
tq 10 (.alloc ty_message_Line [.z (.str []), .z (.str []), .z (.str []), .z (.str []), .z (.str []), .z (.str []), .z (.str []), .z (.int .i64 0), .z (.int .i64 0), .z (.int .i64 0), .z (.int .i64 0), .z (.int .i64 0), .z (.int .i64 0), .z (.int .i64 0)]),
⟨none, none, .store 14 (.t 10) (.t 63)⟩,
tq 11 (.mv (.t 64)),
tq 12 (.mv (.t 65))] [61, 62, 63, 64, 65])
(.seq (.seq (.reg false [
tq 66 (.mv (.t 2)),
tq 67 (.bin .neq (.t 66) (.k (.d (.str [49, 48, 48, 53])))),
tq 68 (.mv (.t 67)),
⟨some 69, (some (68, false)), .mv (.t 3)⟩,
⟨some 70, (some (68, false)), .bin .neq (.t 69) (kq 0)⟩,
tq 71 (.pick (.t 68) (.k (.d (.bool true))) (.t 70)),
tq 72 (.mv (.t 71)),
⟨some 73, (some (72, false)), .mv (.t 4)⟩,
⟨some 74, (some (72, false)), .bin .neq (.t 73) (kq 5)⟩,
tq 75 (.pick (.t 72) (.k (.d (.bool true))) (.t 74)),
tq 76 (.mv (.t 75)),
⟨some 77, (some (76, false)), .mv (.t 5)⟩,
⟨some 78, (some (76, false)), .bin .neq (.t 77) (kq 0)⟩,
tq 79 (.pick (.t 76) (.k (.d (.bool true))) (.t 78)),
tq 80 (.mv (.t 79)),
⟨some 81, (some (80, false)), .mv (.t 7)⟩,
⟨some 82, (some (80, false)), .bin .neq (.t 81) (kq 25)⟩,
tq 83 (.pick (.t 80) (.k (.d (.bool true))) (.t 82)),
tq 84 (.mv (.t 83)),
⟨some 85, (some (84, false)), .mv (.t 9)⟩,
⟨some 86, (some (84, false)), .bin .neq (.t 85) (kq 0)⟩,
tq 87 (.pick (.t 84) (.k (.d (.bool true))) (.t 86)),
tq 88 (.mv (.t 87)),
⟨some 89, (some (88, false)), .mv (.t 8)⟩,
⟨some 90, (some (88, false)), .bin .neq (.t 89) (.k (.d (.str [78, 32, 97, 98, 32, 113, 49, 32, 65, 32, 102, 97, 114, 32, 48, 56, 57, 48, 48, 32, 48, 56, 57, 50, 48, 32, 49, 48, 51, 48, 48, 48, 48, 32, 49, 48, 48, 53, 32, 49, 56, 48, 32, 52, 32, 49, 50, 32, 116, 49, 32, 45])))⟩,
tq 91 (.pick (.t 88) (.k (.d (.bool true))) (.t 90)),
tq 92 (.mv (.t 91)),
⟨some 93, (some (92, false)), .mv (.t 12)⟩,
⟨some 94, (some (92, false)), .bin .neq (.t 93) (kq 0)⟩,
tq 95 (.pick (.t 92) (.k (.d (.bool true))) (.t 94)),
tq 96 (.mv (.t 95)),
⟨some 97, (some (96, false)), .mv (.t 11)⟩,
⟨some 98, (some (96, false)), .bin .neq (.t 97) (kq 0)⟩,
tq 99 (.pick (.t 96) (.k (.d (.bool true))) (.t 98)),
tq 100 (.mv (.t 99)),
⟨some 101, (some (100, false)), .fieldAddr 1 (.t 10)⟩,
⟨some 102, (some (100, false)), .load (some 13) (.t 101)⟩,
⟨some 103, (some (100, false)), .load (some 13) (.t 1)⟩,
⟨some 104, (some (100, false)), .eqv (some [.str, .str, .str, .str, .str, .str, .int, .int, .int, .int, .int, .int, .int]) true (.t 102) (.t 103)⟩,
tq 105 (.pick (.t 100) (.k (.d (.bool true))) (.t 104))] [2, 3, 4, 5, 7, 9, 11, 12, 66, 67, 68, 69, 70, 71, 72, 73, 74, 75, 76, 77, 78, 79, 80, 81, 82, 83, 84, 85, 86, 87, 88, 89, 90, 91, 92, 93, 94, 95, 96, 97, 98, 99, 100, 101, 102, 103, 104])
(.cond (.t 105) (.seq (.reg false [
tq 0 (.mv (.k (.d (.bool false))))] [])
.ret)
 .skip))
(.seq (.reg false [
tq 106 (.mv (.t 8)),
tq 107 (.bin .add (.k (.d (.str [83, 76, 79, 84, 83, 32, 82, 69, 81, 32, 104, 101, 114, 101, 32, 83, 50, 48, 50, 52, 32, 48, 56, 56, 48, 48, 10]))) (.t 106)),
tq 108 (.bin .add (.t 107) (.k (.d (.str [10, 69, 78, 68, 32, 48, 49, 10])))),
tq 13 (.mv (.t 108))] [106, 107, 108])
(.seq (.reg false [
tq 109 (.load (some 14) (.t 10)),
tq 110 (.mkList 14 1 [.t 109]),
tq 111 (.build [.z (.str []), .z (.str []), .z (.str []), .z (.int .i64 0), .z (.list 0 [])] [(0, 1, .k (.d (.str [82, 69, 81]))), (1, 1, .k (.d (.str [104, 101, 114, 101]))), (2, 1, .k (.d (.str [83, 50, 48, 50, 52]))), (3, 1, kq 8800), (4, 1, .t 110)]),
tq 14 (.alloc ty_message_Message [.z (.str []), .z (.str []), .z (.str []), .z (.int .i64 0), .z (.list 0 [])]),
⟨none, none, .store 5 (.t 14) (.t 111)⟩] [109, 110, 111])
(.seq (.reg false [
tq 113 (.load (some 5) (.t 14)),
tq 114 (.call false true (.k (.fn n_message_PrintMessage [] [])) [.t 113]),
tq 112 (.mv (.t 114)),
tq 115 (.extract (.t 112) 0),
tq 116 (.extract (.t 112) 1),
tq 15 (.mv (.t 115)),
tq 16 (.mv (.t 116))] [112, 113, 114, 115, 116])
(.seq (.reg false [
tq 118 (.mv (.t 8)),
tq 119 (.bin .add (.k (.d (.str [83, 76, 79, 84, 83, 32, 82, 69, 81, 32, 104, 101, 114, 101, 32, 83, 50, 48, 50, 52, 32, 48, 56, 56, 48, 48, 10]))) (.t 118)),
tq 120 (.bin .add (.t 119) (.k (.d (.str [10, 69, 78, 68, 32, 48, 50, 10])))),
tq 121 (.call false true (.k (.fn n_message_ParseMessage [] [])) [.t 120]),
tq 117 (.mv (.t 121)),
tq 122 (.extract (.t 117) 0),
tq 123 (.extract (.t 117) 1),
tq 124 (.extract (.t 117) 2),
tq 17 (.alloc ty_message_Message [.z (.str []), .z (.str []), .z (.str []), .z (.int .i64 0), .z (.list 0 [])]),
⟨none, none, .store 5 (.t 17) (.t 122)⟩,
tq 18 (.mv (.t 123)),
tq 19 (.mv (.t 124))] [17, 117, 118, 119, 120, 121, 122, 123, 124])
(.seq (.reg false [
tq 126 (.mv (.t 8)),
tq 127 (.bin .add (.k (.d (.str [83, 76, 79, 84, 83, 32, 82, 69, 81, 32, 104, 101, 114, 101, 32, 83, 50, 48, 50, 52, 32, 48, 56, 56, 48, 48, 10]))) (.t 126)),
tq 128 (.bin .add (.t 127) (.k (.d (.str [10])))),
tq 129 (.call false true (.k (.fn n_message_ParseMessage [] [])) [.t 128]),
tq 125 (.mv (.t 129)),
tq 130 (.extract (.t 125) 0),
tq 131 (.extract (.t 125) 1),
tq 132 (.extract (.t 125) 2),
tq 20 (.alloc ty_message_Message [.z (.str []), .z (.str []), .z (.str []), .z (.int .i64 0), .z (.list 0 [])]),
⟨none, none, .store 5 (.t 20) (.t 130)⟩,
tq 21 (.mv (.t 131)),
tq 22 (.mv (.t 132))] [8, 20, 125, 126, 127, 128, 129, 130, 131, 132])
(.seq (.reg false [
tq 134 (.mv (.t 13)),
tq 135 (.call false true (.k (.fn n_message_ParseMessage [] [])) [.t 134]),
tq 133 (.mv (.t 135)),
tq 136 (.extract (.t 133) 0),
tq 137 (.extract (.t 133) 1),
tq 138 (.extract (.t 133) 2),
tq 23 (.alloc ty_message_Message [.z (.str []), .z (.str []), .z (.str []), .z (.int .i64 0), .z (.list 0 [])]),
⟨none, none, .store 5 (.t 23) (.t 136)⟩,
tq 24 (.mv (.t 137)),
tq 25 (.mv (.t 138))] [24, 133, 134, 135, 136, 137, 138])
(.seq (.seq (.reg true [
tq 139 (.mv (.t 16)),
tq 140 (.bin .neq (.t 139) (kq 0)),
tq 141 (.mv (.t 140)),
⟨some 142, (some (141, false)), .mv (.t 15)⟩,
⟨some 143, (some (141, false)), .mv (.t 13)⟩,
⟨some 144, (some (141, false)), .bin .neq (.t 142) (.t 143)⟩,
tq 145 (.pick (.t 141) (.k (.d (.bool true))) (.t 144)),
tq 146 (.mv (.t 145)),
⟨some 147, (some (146, false)), .mv (.t 18)⟩,
⟨some 148, (some (146, false)), .bin .neq (.t 147) (kq 2)⟩,
tq 149 (.pick (.t 146) (.k (.d (.bool true))) (.t 148)),
tq 150 (.mv (.t 149)),
⟨some 151, (some (150, false)), .mv (.t 19)⟩,
⟨some 152, (some (150, false)), .bin .neq (.t 151) (kq 27)⟩,
tq 153 (.pick (.t 150) (.k (.d (.bool true))) (.t 152)),
tq 154 (.mv (.t 153)),
⟨some 155, (some (154, false)), .mv (.t 21)⟩,
⟨some 156, (some (154, false)), .bin .neq (.t 155) (kq 2)⟩,
tq 157 (.pick (.t 154) (.k (.d (.bool true))) (.t 156)),
tq 158 (.mv (.t 157)),
⟨some 159, (some (158, false)), .mv (.t 22)⟩,
⟨some 160, (some (158, false)), .bin .neq (.t 159) (kq 28)⟩,
tq 161 (.pick (.t 158) (.k (.d (.bool true))) (.t 160)),
tq 162 (.mv (.t 161)),
⟨some 163, (some (162, false)), .mv (.t 25)⟩,
⟨some 164, (some (162, false)), .bin .neq (.t 163) (kq 0)⟩,
tq 165 (.pick (.t 162) (.k (.d (.bool true))) (.t 164)),
tq 166 (.mv (.t 165)),
⟨some 167, (some (166, false)), .fieldAddr 4 (.t 23)⟩,
⟨some 168, (some (166, false)), .load none (.t 167)⟩,
⟨some 169, (some (166, false)), .len .slc (.t 168)⟩,
⟨some 170, (some (166, false)), .bin .neq (.t 169) (kq 1)⟩,
tq 171 (.pick (.t 166) (.k (.d (.bool true))) (.t 170)),
tq 172 (.mv (.t 171)),
⟨some 173, (some (172, false)), .fieldAddr 4 (.t 23)⟩,
⟨some 174, (some (172, false)), .load none (.t 173)⟩,
⟨some 175, (some (172, false)), .idxAddr 14 (.t 174) (kq 0)⟩,
⟨some 176, (some (172, false)), .load (some 14) (.t 175)⟩,
⟨some 177, (some (172, false)), .load (some 14) (.t 10)⟩,
⟨some 178, (some (172, false)), .eqv (some [.str, .str, .str, .str, .str, .str, .str, .int, .int, .int, .int, .int, .int, .int]) true (.t 176) (.t 177)⟩,
tq 179 (.pick (.t 172) (.k (.d (.bool true))) (.t 178))] [10, 13, 15, 16, 18, 19, 21, 22, 23, 25, 139, 140, 141, 142, 143, 144, 145, 146, 147, 148, 149, 150, 151, 152, 153, 154, 155, 156, 157, 158, 159, 160, 161, 162, 163, 164, 165, 166, 167, 168, 169, 170, 171, 172, 173, 174, 175, 176, 177, 178])
(.cond (.t 179) (.seq (.reg false [
tq 0 (.mv (.k (.d (.bool false))))] [])
.ret)
 .skip))
(.seq (.reg false [
tq 180 (.load (some 13) (.t 1)),
tq 26 (.alloc ty_api_Request [.z (.str []), .z (.str []), .z (.str []), .z (.str []), .z (.str []), .z (.str []), .z (.int .i64 0), .z (.int .i64 0), .z (.int .i64 0), .z (.int .i64 0), .z (.int .i64 0), .z (.int .i64 0), .z (.int .i64 0)]),
⟨none, none, .store 13 (.t 26) (.t 180)⟩] [180])
(.seq (.reg false [
fa 181 9 26,
⟨none, none, .store 1 (.t 181) (kq 615)⟩] [181])
(.seq (.reg false [
tq 182 (.load (some 5) (.t 14)),
tq 27 (.alloc ty_message_Message [.z (.str []), .z (.str []), .z (.str []), .z (.int .i64 0), .z (.list 0 [])]),
⟨none, none, .store 5 (.t 27) (.t 182)⟩] [182])
(.seq (.reg false [
tq 183 (.load (some 13) (.t 1)),
tq 184 (.build [.z (.str []), .z (.str []), .z (.str []), .z (.str []), .z (.str []), .z (.str []), .z (.str []), .z (.int .i64 0), .z (.int .i64 0), .z (.int .i64 0), .z (.int .i64 0), .z (.int .i64 0), .z (.int .i64 0), .z (.int .i64 0)] [(0, 1, .k (.d (.str [67]))), (1, 13, .t 183)]),
tq 185 (.load (some 13) (.t 26)),
tq 186 (.build [.z (.str []), .z (.str []), .z (.str []), .z (.str []), .z (.str []), .z (.str []), .z (.str []), .z (.int .i64 0), .z (.int .i64 0), .z (.int .i64 0), .z (.int .i64 0), .z (.int .i64 0), .z (.int .i64 0), .z (.int .i64 0)] [(0, 1, .k (.d (.str [82]))), (1, 13, .t 185)]),
tq 187 (.mkList 14 2 [.t 184, .t 186]),
fa 188 4 27,
⟨none, none, .store 1 (.t 188) (.t 187)⟩] [183, 184, 185, 186, 187, 188])
(.seq (.reg false [
tq 189 (.load (some 5) (.t 14)),
tq 28 (.alloc ty_message_Message [.z (.str []), .z (.str []), .z (.str []), .z (.int .i64 0), .z (.list 0 [])]),
⟨none, none, .store 5 (.t 28) (.t 189)⟩] [189])
(.seq (.reg false [
tq 190 (.load (some 13) (.t 1)),
tq 191 (.build [.z (.str []), .z (.str []), .z (.str []), .z (.str []), .z (.str []), .z (.str []), .z (.str []), .z (.int .i64 0), .z (.int .i64 0), .z (.int .i64 0), .z (.int .i64 0), .z (.int .i64 0), .z (.int .i64 0), .z (.int .i64 0)] [(0, 1, .k (.d (.str [68]))), (1, 13, .t 190)]),
tq 192 (.mkList 14 1 [.t 191]),
fa 193 4 28,
⟨none, none, .store 1 (.t 193) (.t 192)⟩] [190, 191, 192, 193])
(.seq (.reg false [
tq 195 (.load (some 5) (.t 14)),
tq 196 (.load (some 5) (.t 27)),
tq 197 (.mkList 5 2 [.t 195, .t 196]),
tq 198 (.call false true (.k (.fn n_message_Requests [] [])) [.t 197]),
tq 194 (.mv (.t 198)),
tq 199 (.extract (.t 194) 0),
tq 200 (.extract (.t 194) 1),
tq 201 (.extract (.t 194) 2),
tq 29 (.mv (.t 199)),
tq 30 (.mv (.t 200)),
tq 31 (.mv (.t 201))] [30, 194, 195, 196, 197, 198, 199, 200, 201])
(.seq (.reg false [
tq 203 (.load (some 5) (.t 14)),
tq 204 (.load (some 5) (.t 27)),
tq 205 (.load (some 5) (.t 28)),
tq 206 (.mkList 5 3 [.t 203, .t 204, .t 205]),
tq 207 (.call false true (.k (.fn n_message_Requests [] [])) [.t 206]),
tq 202 (.mv (.t 207)),
tq 208 (.extract (.t 202) 0),
tq 209 (.extract (.t 202) 1),
tq 210 (.extract (.t 202) 2),
tq 32 (.mv (.t 208)),
tq 33 (.mv (.t 209)),
tq 34 (.mv (.t 210))] [14, 27, 28, 32, 202, 203, 204, 205, 206, 207, 208, 209, 210])
(.seq (.reg false [
tq 212 (.load (some 13) (.t 1)),
tq 213 (.mkList 13 1 [.t 212]),
tq 214 (.build [.z (.str []), .z (.bool false), .z (.int .i64 0)] [(0, 1, .k (.d (.str [113, 49]))), (1, 1, .k (.d (.bool true))), (2, 1, kq 615)]),
tq 215 (.mkList 3 1 [.t 214]),
tq 216 (.call false true (.k (.fn n_message_Answers [] [])) [.k (.d (.str [104, 101, 114, 101])), .k (.d (.str [83, 50, 48, 50, 52])), kq 8801, .t 213, .t 215]),
tq 211 (.mv (.t 216)),
tq 217 (.extract (.t 211) 0),
tq 218 (.extract (.t 211) 1),
tq 35 (.alloc ty_message_Message [.z (.str []), .z (.str []), .z (.str []), .z (.int .i64 0), .z (.list 0 [])]),
⟨none, none, .store 5 (.t 35) (.t 217)⟩,
tq 36 (.mv (.t 218))] [211, 212, 213, 214, 215, 216, 217, 218])
(.seq (.reg false [
tq 220 (.load (some 5) (.t 35)),
tq 221 (.call false true (.k (.fn n_message_Results [] [])) [.t 220]),
tq 219 (.mv (.t 221)),
tq 222 (.extract (.t 219) 0),
tq 223 (.extract (.t 219) 1),
tq 37 (.mv (.t 222)),
tq 38 (.mv (.t 223))] [219, 220, 221, 222, 223])
(.seq (.reg false [
tq 224 (.load (some 13) (.t 1)),
tq 39 (.alloc ty_api_Request [.z (.str []), .z (.str []), .z (.str []), .z (.str []), .z (.str []), .z (.str []), .z (.int .i64 0), .z (.int .i64 0), .z (.int .i64 0), .z (.int .i64 0), .z (.int .i64 0), .z (.int .i64 0), .z (.int .i64 0)]),
⟨none, none, .store 13 (.t 39) (.t 224)⟩] [224])
(.seq (.reg false [
fa 225 0 39,
⟨none, none, .store 1 (.t 225) (.k (.d (.str [113, 50])))⟩] [225])
(.seq (.reg false [
tq 227 (.load (some 13) (.t 1)),
tq 228 (.mkList 13 1 [.t 227]),
tq 229 (.load (some 13) (.t 26)),
tq 230 (.load (some 13) (.t 39)),
tq 231 (.mkList 13 2 [.t 229, .t 230]),
tq 232 (.call false true (.k (.fn n_message_Changed [] [])) [.t 228, .t 231]),
tq 226 (.mv (.t 232)),
tq 233 (.extract (.t 226) 0),
tq 234 (.extract (.t 226) 1),
tq 40 (.mv (.t 233)),
tq 41 (.mv (.t 234))] [1, 226, 227, 228, 229, 230, 231, 232, 233, 234])
(.seq (.reg true [
tq 235 (.mv (.t 31)),
tq 236 (.bin .eql (.t 235) (kq 0)),
tq 237 (.mv (.t 236)),
⟨some 238, (some (237, true)), .mv (.t 29)⟩,
⟨some 239, (some (237, true)), .len .slc (.t 238)⟩,
⟨some 240, (some (237, true)), .bin .eql (.t 239) (kq 1)⟩,
tq 241 (.pick (.t 237) (.t 240) (.k (.d (.bool false)))),
tq 242 (.mv (.t 241)),
⟨some 243, (some (242, true)), .mv (.t 29)⟩,
⟨some 244, (some (242, true)), .idxAddr 15 (.t 243) (kq 0)⟩,
⟨some 245, (some (242, true)), .fieldAddr 0 (.t 244)⟩,
⟨some 246, (some (242, true)), .load (some 13) (.t 245)⟩,
⟨some 247, (some (242, true)), .load (some 13) (.t 26)⟩,
⟨some 248, (some (242, true)), .eqv (some [.str, .str, .str, .str, .str, .str, .int, .int, .int, .int, .int, .int, .int]) false (.t 246) (.t 247)⟩,
tq 249 (.pick (.t 242) (.t 248) (.k (.d (.bool false)))),
tq 250 (.mv (.t 249)),
⟨some 251, (some (250, true)), .mv (.t 33)⟩,
⟨some 252, (some (250, true)), .bin .eql (.t 251) (kq 2)⟩,
tq 253 (.pick (.t 250) (.t 252) (.k (.d (.bool false)))),
tq 254 (.mv (.t 253)),
⟨some 255, (some (254, true)), .mv (.t 34)⟩,
⟨some 256, (some (254, true)), .bin .eql (.t 255) (kq 29)⟩,
tq 257 (.pick (.t 254) (.t 256) (.k (.d (.bool false)))),
tq 258 (.mv (.t 257)),
⟨some 259, (some (258, true)), .mv (.t 36)⟩,
⟨some 260, (some (258, true)), .bin .eql (.t 259) (kq 0)⟩,
tq 261 (.pick (.t 258) (.t 260) (.k (.d (.bool false)))),
tq 262 (.mv (.t 261)),
⟨some 263, (some (262, true)), .fieldAddr 4 (.t 35)⟩,
⟨some 264, (some (262, true)), .load none (.t 263)⟩,
⟨some 265, (some (262, true)), .len .slc (.t 264)⟩,
⟨some 266, (some (262, true)), .bin .eql (.t 265) (kq 1)⟩,
tq 267 (.pick (.t 262) (.t 266) (.k (.d (.bool false)))),
tq 268 (.mv (.t 267)),
⟨some 269, (some (268, true)), .fieldAddr 4 (.t 35)⟩,
⟨some 270, (some (268, true)), .load none (.t 269)⟩,
⟨some 271, (some (268, true)), .idxAddr 14 (.t 270) (kq 0)⟩,
⟨some 272, (some (268, true)), .fieldAddr 0 (.t 271)⟩,
⟨some 273, (some (268, true)), .load none (.t 272)⟩,
⟨some 274, (some (268, true)), .bin .eql (.t 273) (.k (.d (.str [79])))⟩,
tq 275 (.pick (.t 268) (.t 274) (.k (.d (.bool false)))),
tq 276 (.mv (.t 275)),
⟨some 277, (some (276, true)), .fieldAddr 4 (.t 35)⟩,
⟨some 278, (some (276, true)), .load none (.t 277)⟩,
⟨some 279, (some (276, true)), .idxAddr 14 (.t 278) (kq 0)⟩,
⟨some 280, (some (276, true)), .fieldAddr 1 (.t 279)⟩,
⟨some 281, (some (276, true)), .load (some 13) (.t 280)⟩,
⟨some 282, (some (276, true)), .load (some 13) (.t 26)⟩,
⟨some 283, (some (276, true)), .eqv (some [.str, .str, .str, .str, .str, .str, .int, .int, .int, .int, .int, .int, .int]) false (.t 281) (.t 282)⟩,
tq 284 (.pick (.t 276) (.t 283) (.k (.d (.bool false)))),
tq 285 (.mv (.t 284)),
⟨some 286, (some (285, true)), .mv (.t 38)⟩,
⟨some 287, (some (285, true)), .bin .eql (.t 286) (kq 0)⟩,
tq 288 (.pick (.t 285) (.t 287) (.k (.d (.bool false)))),
tq 289 (.mv (.t 288)),
⟨some 290, (some (289, true)), .mv (.t 37)⟩,
⟨some 291, (some (289, true)), .len .slc (.t 290)⟩,
⟨some 292, (some (289, true)), .bin .eql (.t 291) (kq 1)⟩,
tq 293 (.pick (.t 289) (.t 292) (.k (.d (.bool false)))),
tq 294 (.mv (.t 293)),
⟨some 295, (some (294, true)), .mv (.t 37)⟩,
⟨some 296, (some (294, true)), .idxAddr 3 (.t 295) (kq 0)⟩,
⟨some 297, (some (294, true)), .load (some 3) (.t 296)⟩,
⟨some 298, (some (294, true)), .build [.z (.str []), .z (.bool false), .z (.int .i64 0)] [(0, 1, .k (.d (.str [113, 49]))), (1, 1, .k (.d (.bool true))), (2, 1, kq 615)]⟩,
⟨some 299, (some (294, true)), .eqv (some [.str, .bool, .int]) false (.t 297) (.t 298)⟩,
tq 300 (.pick (.t 294) (.t 299) (.k (.d (.bool false)))),
tq 301 (.mv (.t 300)),
⟨some 302, (some (301, true)), .mv (.t 41)⟩,
⟨some 303, (some (301, true)), .bin .eql (.t 302) (kq 0)⟩,
tq 304 (.pick (.t 301) (.t 303) (.k (.d (.bool false)))),
tq 305 (.mv (.t 304)),
⟨some 306, (some (305, true)), .mv (.t 40)⟩,
⟨some 307, (some (305, true)), .len .slc (.t 306)⟩,
⟨some 308, (some (305, true)), .bin .eql (.t 307) (kq 3)⟩,
tq 309 (.pick (.t 305) (.t 308) (.k (.d (.bool false)))),
tq 310 (.mv (.t 309)),
⟨some 311, (some (310, true)), .mv (.t 40)⟩,
⟨some 312, (some (310, true)), .idxAddr 14 (.t 311) (kq 0)⟩,
⟨some 313, (some (310, true)), .fieldAddr 0 (.t 312)⟩,
⟨some 314, (some (310, true)), .load none (.t 313)⟩,
⟨some 315, (some (310, true)), .bin .eql (.t 314) (.k (.d (.str [67])))⟩,
tq 316 (.pick (.t 310) (.t 315) (.k (.d (.bool false)))),
tq 317 (.mv (.t 316)),
⟨some 318, (some (317, true)), .mv (.t 40)⟩,
⟨some 319, (some (317, true)), .idxAddr 14 (.t 318) (kq 2)⟩,
⟨some 320, (some (317, true)), .fieldAddr 1 (.t 319)⟩,
⟨some 321, (some (317, true)), .load (some 13) (.t 320)⟩,
⟨some 322, (some (317, true)), .load (some 13) (.t 39)⟩,
⟨some 323, (some (317, true)), .eqv (some [.str, .str, .str, .str, .str, .str, .int, .int, .int, .int, .int, .int, .int]) false (.t 321) (.t 322)⟩,
tq 324 (.pick (.t 317) (.t 323) (.k (.d (.bool false)))),
tq 0 (.mv (.t 324))] [26, 29, 31, 33, 34, 35, 36, 37, 38, 39, 40, 41, 235, 236, 237, 238, 239, 240, 241, 242, 243, 244, 245, 246, 247, 248, 249, 250, 251, 252, 253, 254, 255, 256, 257, 258, 259, 260, 261, 262, 263, 264, 265, 266, 267, 268, 269, 270, 271, 272, 273, 274, 275, 276, 277, 278, 279, 280, 281, 282, 283, 284, 285, 286, 287, 288, 289, 290, 291, 292, 293, 294, 295, 296, 297, 298, 299, 300, 301, 302, 303, 304, 305, 306, 307, 308, 309, 310, 311, 312, 313, 314, 315, 316, 317, 318, 319, 320, 321, 322, 323, 324])
.ret)))))))))))))))))))))))))))))⟩

def b_message_Requests_1 : C :=
  (.seq (.reg false [
tq 67 (.bin .lss (.t 66) (.t 65))] [])
(.seq (.cond (.t 67) .skip
 (.exit 2))
(.seq (.block 3 (.seq (.reg false [
tq 68 (.idxAddr 14 (.t 64) (.t 66)),
tq 69 (.load (some 14) (.t 68)),
tq 12 (.alloc ty_message_Line [.z (.str []), .z (.str []), .z (.str []), .z (.str []), .z (.str []), .z (.str []), .z (.str []), .z (.int .i64 0), .z (.int .i64 0), .z (.int .i64 0), .z (.int .i64 0), .z (.int .i64 0), .z (.int .i64 0), .z (.int .i64 0)]),
⟨none, none, .store 14 (.t 12) (.t 69)⟩] [68, 69])
(.seq (.reg false [
tq 71 (.mv (.t 5)),
tq 72 (.load (some 14) (.t 12)),
fa 73 3 9,
ld 74 73,
tq 75 (.call true false (.k (.fn n_message_step [] [])) [.t 71, .t 72, .t 74]),
tq 70 (.mv (.t 75)),
tq 76 (.extract (.t 70) 0),
tq 77 (.extract (.t 70) 1),
tq 5 (.mv (.t 76)),
tq 7 (.mv (.t 77))] [12, 70, 71, 72, 73, 74, 75, 76, 77])
(.seq (.reg false [
tq 78 (.mv (.t 7)),
tq 79 (.bin .neq (.t 78) (kq 0))] [78])
(.cond (.t 79) (.exit 0)
 .skip)))))
(.reg false [
tq 80 (.bin .add (.t 66) (kq 1)),
tq 66 (.mv (.t 80))] [80]))))

def b_message_Requests_2 : C :=
  (.seq (.reg false [
tq 19 (.bin .lss (.t 18) (.t 17))] [])
(.seq (.cond (.t 19) .skip
 (.exit 0))
(.seq (.block 1 (.seq (.reg false [
tq 20 (.mv (.t 18)),
tq 21 (.idxAddr 5 (.t 16) (.t 18)),
tq 22 (.load (some 5) (.t 21)),
tq 9 (.alloc ty_message_Message [.z (.str []), .z (.str []), .z (.str []), .z (.int .i64 0), .z (.list 0 [])]),
tq 8 (.mv (.t 20)),
⟨none, none, .store 5 (.t 9) (.t 22)⟩] [20, 21, 22])
(.seq (.reg false [
tq 23 (.mv (.t 8)),
tq 6 (.mv (.t 23))] [23])
(.seq (.reg false [
tq 24 (.mv (.t 0)),
tq 25 (.mv (.t 8)),
tq 26 (.bin .sub (.t 25) (kq 1)),
tq 27 (.minmax true [kq 0, .t 26]),
tq 28 (.idxAddr 5 (.t 24) (.t 27)),
tq 29 (.load (some 5) (.t 28)),
tq 10 (.alloc ty_message_Message [.z (.str []), .z (.str []), .z (.str []), .z (.int .i64 0), .z (.list 0 [])]),
⟨none, none, .store 5 (.t 10) (.t 29)⟩] [8, 24, 25, 26, 27, 28, 29])
(.seq (.seq (.reg true [
tq 30 (.load (some 5) (.t 9)),
tq 31 (.call false true (.k (.fn n_message_CheckMessage [] [])) [.t 30]),
fa 32 0 9,
ld 33 32,
tq 34 (.bin .neq (.t 33) (.k (.d (.str [82, 69, 81])))),
tq 35 (.call false true (.k (.fn n_message_when [] [])) [.t 34, kq 13]),
fa 36 1 9,
ld 37 36,
tq 38 (.mv (.t 0)),
tq 39 (.idxAddr 5 (.t 38) (kq 0)),
fa 40 1 39,
ld 41 40,
tq 42 (.bin .neq (.t 37) (.t 41)),
tq 43 (.mv (.t 42)),
⟨some 44, (some (43, false)), .fieldAddr 2 (.t 9)⟩,
⟨some 45, (some (43, false)), .load none (.t 44)⟩,
⟨some 46, (some (43, false)), .mv (.t 0)⟩,
⟨some 47, (some (43, false)), .idxAddr 5 (.t 46) (kq 0)⟩,
⟨some 48, (some (43, false)), .fieldAddr 2 (.t 47)⟩,
⟨some 49, (some (43, false)), .load none (.t 48)⟩,
⟨some 50, (some (43, false)), .bin .neq (.t 45) (.t 49)⟩,
tq 51 (.pick (.t 43) (.k (.d (.bool true))) (.t 50)),
tq 52 (.call false true (.k (.fn n_message_when [] [])) [.t 51, kq 29]),
fa 53 3 9,
ld 54 53,
fa 55 3 10,
ld 56 55,
tq 57 (.bin .lss (.t 54) (.t 56)),
tq 58 (.call false true (.k (.fn n_message_when [] [])) [.t 57, kq 11]),
tq 59 (.mkList 1 4 [.t 31, .t 35, .t 52, .t 58]),
tq 60 (.call false true (.k (.fn n_message_first [] [])) [.t 59]),
tq 7 (.mv (.t 60))] [10, 30, 31, 32, 33, 34, 35, 36, 37, 38, 39, 40, 41, 42, 43, 44, 45, 46, 47, 48, 49, 50, 51, 52, 53, 54, 55, 56, 57, 58, 59, 60])
(.seq (.reg false [
tq 61 (.mv (.t 7)),
tq 62 (.bin .neq (.t 61) (kq 0))] [61])
(.cond (.t 62) (.exit 0)
 .skip)))
(.seq (.reg false [
fa 63 4 9,
ld 64 63,
tq 65 (.len .slc (.t 64)),
tq 66 (.mv (kq 0))] [63])
(.block 2 (.loop [0, 5, 6, 7, 9, 16, 17, 18, 64, 65, 66] b_message_Requests_1))))))))
(.reg false [
tq 81 (.bin .add (.t 18) (kq 1)),
tq 18 (.mv (.t 81))] [81]))))

def c_message_Requests : CF := ⟨[.tmp 2, .tmp 3, .tmp 4],
  (.seq (.reg false [
tq 2 (.ownNil ⟨true, ty_message_Entry, 15, 168⟩),
tq 3 (.mv (kq 0)),
tq 4 (.mv (kq 0))] [2, 3, 4])
(.scope (.seq (.seq (.reg false [
tq 13 (.mv (.t 0)),
tq 14 (.len .slc (.t 13)),
tq 15 (.bin .gtr (.t 14) (kq 64))] [13, 14])
(.cond (.t 15) (.seq (.reg false [
tq 2 (.ownNil ⟨true, ty_message_Entry, 15, 168⟩),
tq 3 (.mv (kq 0)),
tq 4 (.mv (kq 5))] [])
.ret)
 .skip))
(.seq (.reg false [
tq 5 (.ownNil ⟨true, ty_message_Entry, 15, 168⟩)] [])
(.seq (.reg false [
tq 6 (.mv (kq 0)),
tq 7 (.mv (kq 0))] [])
(.seq .label
(.seq (.seq (.reg false [
tq 16 (.mv (.t 0)),
tq 17 (.len .slc (.t 16)),
tq 18 (.mv (kq 0))] [])
(.block 0 (.loop [0, 5, 6, 7, 16, 17, 18] b_message_Requests_2)))
(.seq (.seq (.reg false [
tq 82 (.mv (.t 7)),
tq 83 (.bin .neq (.t 82) (kq 0))] [82])
(.cond (.t 83) (.seq (.reg false [
tq 84 (.mv (.t 6)),
tq 85 (.mv (.t 7)),
tq 2 (.ownNil ⟨true, ty_message_Entry, 15, 168⟩),
tq 3 (.mv (.t 84)),
tq 4 (.mv (.t 85))] [6, 7, 84, 85])
.ret)
 .skip))
(.seq (.reg false [
tq 86 (.mv (.t 5)),
tq 2 (.mv (.t 86)),
tq 3 (.mv (kq 0)),
tq 4 (.mv (kq 0))] [5, 86])
.ret)))))))))⟩

def b_ref02_CheckRequests_1 : C :=
  (.seq (.seq (.reg false [
tq 8 (.mv (.t 3)),
tq 9 (.mv (.t 0)),
tq 10 (.len .slc (.t 9)),
tq 11 (.bin .lss (.t 8) (.t 10))] [8, 9, 10])
(.cond (.t 11) .skip
 (.exit 0)))
(.seq (.block 1 (.seq (.reg false [
tq 14 (.mv (.t 0)),
tq 15 (.mv (.t 3)),
tq 16 (.idxAddr 13 (.t 14) (.t 15)),
tq 17 (.load (some 13) (.t 16)),
tq 18 (.call false true (.k (.fn n_ref02_CheckRequest [] [])) [.t 17]),
tq 4 (.mv (.t 18))] [14, 15, 16, 17, 18])
(.seq (.seq (.reg true [
tq 19 (.mv (.t 4)),
tq 20 (.bin .eql (.t 19) (kq 0)),
tq 21 (.mv (.t 20)),
⟨some 22, (some (21, true)), .mv (.t 0)⟩,
⟨some 23, (some (21, true)), .mv (.t 3)⟩,
⟨some 24, (some (21, true)), .slice 13 (.t 22) none (some (.t 23)) none⟩,
⟨some 25, (some (21, true)), .mv (.t 0)⟩,
⟨some 26, (some (21, true)), .mv (.t 3)⟩,
⟨some 27, (some (21, true)), .idxAddr 13 (.t 25) (.t 26)⟩,
⟨some 28, (some (21, true)), .fieldAddr 0 (.t 27)⟩,
⟨some 29, (some (21, true)), .load none (.t 28)⟩,
⟨some 30, (some (21, true)), .call false true (.k (.fn n_ref02_At [] [])) [.t 24, .t 29]⟩,
⟨some 31, (some (21, true)), .bin .geq (.t 30) (kq 0)⟩,
tq 32 (.pick (.t 21) (.t 31) (.k (.d (.bool false))))] [19, 20, 21, 22, 23, 24, 25, 26, 27, 28, 29, 30, 31])
(.cond (.t 32) (.reg false [
tq 4 (.mv (kq 9))] [])
 .skip))
(.seq (.reg false [
tq 33 (.mv (.t 4)),
tq 34 (.bin .neq (.t 33) (kq 0))] [33])
(.cond (.t 34) (.seq (.reg false [
tq 35 (.mv (.t 4)),
tq 2 (.mv (.t 35))] [4, 35])
.ret)
 .skip)))))
(.reg false [
tq 12 (.mv (.t 3)),
tq 13 (.bin .add (.t 12) (kq 1)),
tq 3 (.mv (.t 13))] [12, 13])))

def c_ref02_CheckRequests : CF := ⟨[.tmp 2],
  (.seq (.reg false [
tq 2 (.mv (kq 0))] [2])
(.seq (.seq (.reg false [
tq 5 (.mv (.t 0)),
tq 6 (.len .slc (.t 5)),
tq 7 (.bin .gtr (.t 6) (kq 64))] [5, 6])
(.cond (.t 7) (.seq (.reg false [
tq 2 (.mv (kq 5))] [])
.ret)
 .skip))
(.seq (.seq (.reg false [
tq 3 (.mv (kq 0))] [])
(.block 0 (.loop [0, 3] b_ref02_CheckRequests_1)))
(.seq (.reg false [
tq 2 (.mv (kq 0))] [])
.ret))))⟩

def b_message_Changed_1 : C :=
  (.seq (.reg false [
tq 28 (.bin .lss (.t 27) (.t 26))] [])
(.seq (.cond (.t 28) .skip
 (.exit 0))
(.seq (.block 1 (.seq (.reg false [
tq 29 (.idxAddr 13 (.t 25) (.t 27)),
tq 30 (.load (some 13) (.t 29)),
tq 10 (.alloc ty_api_Request [.z (.str []), .z (.str []), .z (.str []), .z (.str []), .z (.str []), .z (.str []), .z (.int .i64 0), .z (.int .i64 0), .z (.int .i64 0), .z (.int .i64 0), .z (.int .i64 0), .z (.int .i64 0), .z (.int .i64 0)]),
⟨none, none, .store 13 (.t 10) (.t 30)⟩] [29, 30])
(.seq (.reg false [
ld 32 7,
ld 33 3,
tq 34 (.load (some 13) (.t 10)),
tq 35 (.call false true (.t 32) [.t 33, .t 34]),
tq 31 (.mv (.t 35)),
tq 36 (.extract (.t 31) 0),
tq 37 (.extract (.t 31) 1),
tq 11 (.alloc ty_api_Request [.z (.str []), .z (.str []), .z (.str []), .z (.str []), .z (.str []), .z (.str []), .z (.int .i64 0), .z (.int .i64 0), .z (.int .i64 0), .z (.int .i64 0), .z (.int .i64 0), .z (.int .i64 0), .z (.int .i64 0)]),
⟨none, none, .store 13 (.t 11) (.t 36)⟩,
tq 12 (.mv (.t 37))] [31, 32, 33, 34, 35, 36, 37])
(.seq (.reg false [
tq 38 (.mv (.t 12)),
tq 39 (.mv (.t 38)),
⟨some 40, (some (39, true)), .load (some 13) (.t 11)⟩,
⟨some 41, (some (39, true)), .load (some 13) (.t 10)⟩,
⟨some 42, (some (39, true)), .eqv (some [.str, .str, .str, .str, .str, .str, .int, .int, .int, .int, .int, .int, .int]) true (.t 40) (.t 41)⟩,
tq 43 (.pick (.t 39) (.t 42) (.k (.d (.bool false))))] [12, 38, 39, 40, 41, 42])
(.cond (.t 43) (.reg false [
tq 44 (.mv (.t 8)),
tq 45 (.load (some 13) (.t 10)),
tq 46 (.build [.z (.str []), .z (.str []), .z (.str []), .z (.str []), .z (.str []), .z (.str []), .z (.str []), .z (.int .i64 0), .z (.int .i64 0), .z (.int .i64 0), .z (.int .i64 0), .z (.int .i64 0), .z (.int .i64 0), .z (.int .i64 0)] [(0, 1, .k (.d (.str [67]))), (1, 13, .t 45)]),
tq 47 (.load (some 13) (.t 11)),
tq 48 (.build [.z (.str []), .z (.str []), .z (.str []), .z (.str []), .z (.str []), .z (.str []), .z (.str []), .z (.int .i64 0), .z (.int .i64 0), .z (.int .i64 0), .z (.int .i64 0), .z (.int .i64 0), .z (.int .i64 0), .z (.int .i64 0)] [(0, 1, .k (.d (.str [82]))), (1, 13, .t 47)]),
tq 49 (.mkList 14 2 [.t 46, .t 48]),
tq 50 (.append ⟨false, ty_message_Line, 14, 168⟩ (.t 44) (.t 49)),
tq 8 (.mv (.t 50))] [10, 11, 44, 45, 46, 47, 48, 49, 50])
 .skip)))))
(.reg false [
tq 51 (.bin .add (.t 27) (kq 1)),
tq 27 (.mv (.t 51))] [51]))))

def c_message_Changed : CF := ⟨[.tmp 4, .tmp 5],
  (.seq (.reg false [
tq 2 (.box ty_Lapi_Request (.t 0)),
tq 3 (.box ty_Lapi_Request (.t 1)),
tq 4 (.ownNil ⟨false, ty_message_Line, 14, 168⟩),
tq 5 (.mv (kq 0))] [0, 1, 4, 5])
(.seq (.seq (.reg true [
ld 13 2,
tq 14 (.call false true (.k (.fn n_message_checkRequests [] [])) [.t 13]),
ld 15 3,
tq 16 (.call false true (.k (.fn n_message_checkRequests [] [])) [.t 15]),
tq 17 (.mkList 1 2 [.t 14, .t 16]),
tq 18 (.call false true (.k (.fn n_message_first [] [])) [.t 17]),
tq 6 (.mv (.t 18))] [13, 14, 15, 16, 17, 18])
(.seq (.reg false [
tq 19 (.mv (.t 6)),
tq 20 (.bin .neq (.t 19) (kq 0))] [19])
(.cond (.t 20) (.seq (.reg false [
tq 21 (.mv (.t 6)),
tq 4 (.ownNil ⟨false, ty_message_Line, 14, 168⟩),
tq 5 (.mv (.t 21))] [6, 21])
.ret)
 .skip)))
(.seq (.reg false [
tq 7 (.alloc ty_func_Lapi_Request_api_Request_api_Request_bool [.z (.nilf)]),
⟨none, none, .store 1 (.t 7) (.k (.fn n_message_Changed_1 [] []))⟩] [])
(.seq (.reg false [
ld 22 2,
tq 23 (.mkFunc n_message_Changed_2 [] [.t 7, .t 3]),
tq 24 (.call true false (.k (.fn n_message_filtered_api_Request_message_Line [] [])) [.t 22, .t 23]),
tq 8 (.mv (.t 24))] [22, 23, 24])
(.seq (.seq (.reg false [
ld 25 2,
tq 26 (.len .slc (.t 25)),
tq 27 (.mv (kq 0))] [])
(.block 0 (.loop [2, 3, 7, 8, 25, 26, 27] b_message_Changed_1)))
(.seq (.reg false [
tq 52 (.mv (.t 8)),
ld 53 3,
tq 54 (.mkFunc n_message_Changed_3 [] [.t 7, .t 2]),
tq 55 (.call true true (.k (.fn n_message_filtered_api_Request_message_Line [] [])) [.t 53, .t 54]),
tq 56 (.append ⟨false, ty_message_Line, 14, 168⟩ (.t 52) (.t 55)),
tq 8 (.mv (.t 56))] [2, 3, 7, 52, 53, 54, 55, 56])
(.seq (.seq (.reg false [
tq 57 (.mv (.t 8)),
tq 58 (.len .slc (.t 57)),
tq 59 (.bin .gtr (.t 58) (kq 64))] [57, 58])
(.cond (.t 59) (.seq (.reg false [
tq 4 (.ownNil ⟨false, ty_message_Line, 14, 168⟩),
tq 5 (.mv (kq 5))] [])
.ret)
 .skip))
(.seq (.reg false [
tq 60 (.mv (.t 8)),
tq 4 (.mv (.t 60)),
tq 5 (.mv (kq 0))] [8, 60])
.ret))))))))⟩

def c_law02_copied : CF := ⟨[.tmp 2],
  (.seq (.reg false [
tq 2 (.ownNil ⟨false, ty_api_Request, 13, 152⟩)] [2])
(.seq (.reg false [
tq 3 (.mkRow ⟨false, ty_api_Request, 13, 152⟩ 0 []),
tq 4 (.mv (.t 0)),
tq 5 (.append ⟨false, ty_api_Request, 13, 152⟩ (.t 3) (.t 4)),
tq 2 (.mv (.t 5))] [0, 3, 4, 5])
.ret))⟩

def b_ref02_At_1 : C :=
  (.seq (.seq (.reg false [
tq 6 (.mv (.t 5)),
tq 7 (.mv (.t 0)),
tq 8 (.len .slc (.t 7)),
tq 9 (.bin .lss (.t 6) (.t 8))] [6, 7, 8])
(.cond (.t 9) .skip
 (.exit 0)))
(.seq (.block 1 (.seq (.reg false [
tq 12 (.mv (.t 0)),
tq 13 (.mv (.t 5)),
tq 14 (.idxAddr 13 (.t 12) (.t 13)),
fa 15 0 14,
ld 16 15,
tq 17 (.mv (.t 1)),
tq 18 (.bin .eql (.t 16) (.t 17))] [12, 13, 14, 15, 16, 17])
(.cond (.t 18) (.seq (.reg false [
tq 19 (.mv (.t 5)),
tq 4 (.mv (.t 19))] [5, 19])
.ret)
 .skip)))
(.reg false [
tq 10 (.mv (.t 5)),
tq 11 (.bin .add (.t 10) (kq 1)),
tq 5 (.mv (.t 11))] [10, 11])))

def c_ref02_At : CF := ⟨[.tmp 4],
  (.seq (.reg false [
tq 4 (.mv (kq 0))] [4])
(.seq (.seq (.reg false [
tq 5 (.mv (kq 0))] [])
(.block 0 (.loop [0, 1, 5] b_ref02_At_1)))
(.seq (.reg false [
tq 4 (.mv (kq (-1)))] [])
.ret)))⟩

def c_ref02_CheckRequest : CF := ⟨[.tmp 2],
  (.seq (.reg false [
tq 1 (.box ty_api_Request (.t 0)),
tq 2 (.mv (kq 0))] [0, 2])
(.seq (.seq (.reg false [
fa 4 0 1,
ld 5 4,
tq 6 (.call false true (.k (.fn n_ref01_IsName [] [])) [.t 5]),
tq 7 (.un .not (.t 6)),
tq 8 (.mv (.t 7)),
⟨some 9, (some (8, false)), .fieldAddr 1 (.t 1)⟩,
⟨some 10, (some (8, false)), .load none (.t 9)⟩,
⟨some 11, (some (8, false)), .call false true (.k (.fn n_ref01_IsName [] [])) [.t 10]⟩,
⟨some 12, (some (8, false)), .un .not (.t 11)⟩,
tq 13 (.pick (.t 8) (.k (.d (.bool true))) (.t 12)),
tq 14 (.mv (.t 13)),
⟨some 15, (some (14, false)), .fieldAddr 4 (.t 1)⟩,
⟨some 16, (some (14, false)), .load none (.t 15)⟩,
⟨some 17, (some (14, false)), .call false true (.k (.fn n_ref01_IsName [] [])) [.t 16]⟩,
⟨some 18, (some (14, false)), .un .not (.t 17)⟩,
tq 19 (.pick (.t 14) (.k (.d (.bool true))) (.t 18)),
tq 20 (.mv (.t 19)),
⟨some 21, (some (20, false)), .fieldAddr 3 (.t 1)⟩,
⟨some 22, (some (20, false)), .load none (.t 21)⟩,
⟨some 23, (some (20, false)), .call false true (.k (.fn n_ref02_optional [] [])) [.t 22]⟩,
⟨some 24, (some (20, false)), .un .not (.t 23)⟩,
tq 25 (.pick (.t 20) (.k (.d (.bool true))) (.t 24)),
tq 26 (.mv (.t 25)),
⟨some 27, (some (26, false)), .fieldAddr 5 (.t 1)⟩,
⟨some 28, (some (26, false)), .load none (.t 27)⟩,
⟨some 29, (some (26, false)), .call false true (.k (.fn n_ref02_optional [] [])) [.t 28]⟩,
⟨some 30, (some (26, false)), .un .not (.t 29)⟩,
tq 31 (.pick (.t 26) (.k (.d (.bool true))) (.t 30))] [4, 5, 6, 7, 8, 9, 10, 11, 12, 13, 14, 15, 16, 17, 18, 19, 20, 21, 22, 23, 24, 25, 26, 27, 28, 29, 30])
(.cond (.t 31) (.seq (.reg false [
tq 2 (.mv (kq 8))] [])
.ret)
 .skip))
(.seq (.seq (.reg false [
fa 32 2 1,
ld 33 32,
tq 34 (.bin .neq (.t 33) (.k (.d (.str [65])))),
tq 35 (.mv (.t 34)),
⟨some 36, (some (35, true)), .fieldAddr 2 (.t 1)⟩,
⟨some 37, (some (35, true)), .load none (.t 36)⟩,
⟨some 38, (some (35, true)), .bin .neq (.t 37) (.k (.d (.str [68])))⟩,
tq 39 (.pick (.t 35) (.t 38) (.k (.d (.bool false))))] [32, 33, 34, 35, 36, 37, 38])
(.cond (.t 39) (.seq (.reg false [
tq 2 (.mv (kq 13))] [])
.ret)
 .skip))
(.seq (.seq (.reg false [
fa 40 5 1,
ld 41 40,
fa 42 0 1,
ld 43 42,
tq 44 (.bin .eql (.t 41) (.t 43))] [40, 41, 42, 43])
(.cond (.t 44) (.seq (.reg false [
tq 2 (.mv (kq 32))] [])
.ret)
 .skip))
(.seq (.reg false [
fa 45 6 1,
tq 46 (.load (some 3) (.t 45)),
tq 47 (.call false true (.k (.fn n_ref01_CheckPeriod [] [])) [.t 46]),
tq 3 (.mv (.t 47))] [45, 46, 47])
(.seq (.seq (.reg false [
tq 48 (.mv (.t 3)),
tq 49 (.bin .neq (.t 48) (kq 0))] [48])
(.cond (.t 49) (.seq (.reg false [
tq 50 (.mv (.t 3)),
tq 2 (.mv (.t 50))] [3, 50])
.ret)
 .skip))
(.seq (.reg true [
fa 51 9 1,
ld 52 51,
tq 53 (.call false true (.k (.fn n_ref01_CheckRange [] [])) [.t 52, kq 0, kq 1439]),
fa 54 10 1,
ld 55 54,
tq 56 (.call false true (.k (.fn n_ref01_CheckRange [] [])) [.t 55, kq 0, kq 999]),
fa 57 11 1,
ld 58 57,
tq 59 (.call false true (.k (.fn n_ref01_CheckRange [] [])) [.t 58, kq 1, kq 9]),
fa 60 12 1,
ld 61 60,
tq 62 (.call false true (.k (.fn n_ref01_CheckRange [] [])) [.t 61, kq 0, kq 99]),
tq 63 (.mkList 1 4 [.t 53, .t 56, .t 59, .t 62]),
tq 64 (.call false true (.k (.fn n_ref01_First [] [])) [.t 63]),
tq 2 (.mv (.t 64))] [1, 51, 52, 53, 54, 55, 56, 57, 58, 59, 60, 61, 62, 63, 64])
.ret)))))))⟩

def c_law02_sample : CF := ⟨[.cell 0 (some 13)],
  (.seq (.reg false [
tq 0 (.alloc ty_api_Request [.z (.str []), .z (.str []), .z (.str []), .z (.str []), .z (.str []), .z (.str []), .z (.int .i64 0), .z (.int .i64 0), .z (.int .i64 0), .z (.int .i64 0), .z (.int .i64 0), .z (.int .i64 0), .z (.int .i64 0)])] [])
(.seq (.reg false [
tq 1 (.build [.z (.int .i64 0), .z (.int .i64 0), .z (.int .i64 0)] [(0, 1, kq 8900), (1, 1, kq 8920), (2, 1, kq 5)]),
tq 2 (.build [.z (.str []), .z (.str []), .z (.str []), .z (.str []), .z (.str []), .z (.str []), .z (.int .i64 0), .z (.int .i64 0), .z (.int .i64 0), .z (.int .i64 0), .z (.int .i64 0), .z (.int .i64 0), .z (.int .i64 0)] [(0, 1, .k (.d (.str [113, 49]))), (1, 1, .k (.d (.str [97, 98]))), (2, 1, .k (.d (.str [65]))), (3, 1, .k (.d (.str [116, 49]))), (4, 1, .k (.d (.str [102, 97, 114]))), (6, 3, .t 1), (9, 1, kq 605), (10, 1, kq 180), (11, 1, kq 4), (12, 1, kq 12)]),
⟨none, none, .store 13 (.t 0) (.t 2)⟩] [1, 2])
.ret))⟩

def c_message_PrintMinute : CF := ⟨[.tmp 2, .tmp 3],
  (.seq (.reg false [
tq 2 (.mv (.k (.d (.str [])))),
tq 3 (.mv (kq 0))] [2, 3])
(.seq (.seq (.reg false [
tq 5 (.mv (.t 0)),
tq 6 (.call false true (.k (.fn n_message_within [] [])) [.t 5, kq 0, kq 1439]),
tq 4 (.mv (.t 6))] [5, 6])
(.seq (.reg false [
tq 7 (.mv (.t 4)),
tq 8 (.bin .neq (.t 7) (kq 0))] [7])
(.cond (.t 8) (.seq (.reg false [
tq 9 (.mv (.t 4)),
tq 2 (.mv (.k (.d (.str [])))),
tq 3 (.mv (.t 9))] [4, 9])
.ret)
 .skip)))
(.seq (.reg false [
tq 10 (.mv (.t 0)),
tq 11 (.bin .quo (.t 10) (kq 60)),
tq 12 (.call false true (.k (.fn n_message_wide [] [])) [.t 11, kq 2]),
tq 13 (.mv (.t 0)),
tq 14 (.bin .rem (.t 13) (kq 60)),
tq 15 (.call false true (.k (.fn n_message_wide [] [])) [.t 14, kq 2]),
tq 16 (.bin .add (.t 12) (.t 15)),
tq 2 (.mv (.t 16)),
tq 3 (.mv (kq 0))] [0, 10, 11, 12, 13, 14, 15, 16])
.ret)))⟩

def c_message_ParseMinute : CF := ⟨[.tmp 2, .tmp 3],
  (.seq (.reg false [
tq 2 (.mv (kq 0)),
tq 3 (.mv (kq 0))] [2, 3])
(.seq (.reg false [
tq 7 (.mv (.t 0)),
tq 8 (.call false true (.k (.fn n_message_number [] [])) [.t 7, kq 4]),
tq 6 (.mv (.t 8)),
tq 9 (.extract (.t 6) 0),
tq 10 (.extract (.t 6) 1),
tq 4 (.mv (.t 9)),
tq 5 (.mv (.t 10))] [0, 6, 7, 8, 9, 10])
(.seq (.seq (.reg false [
tq 11 (.mv (.t 5)),
tq 12 (.un .not (.t 11)),
tq 13 (.mv (.t 12)),
⟨some 14, (some (13, false)), .mv (.t 4)⟩,
⟨some 15, (some (13, false)), .bin .quo (.t 14) (kq 100)⟩,
⟨some 16, (some (13, false)), .bin .gtr (.t 15) (kq 23)⟩,
tq 17 (.pick (.t 13) (.k (.d (.bool true))) (.t 16)),
tq 18 (.mv (.t 17)),
⟨some 19, (some (18, false)), .mv (.t 4)⟩,
⟨some 20, (some (18, false)), .bin .rem (.t 19) (kq 100)⟩,
⟨some 21, (some (18, false)), .bin .gtr (.t 20) (kq 59)⟩,
tq 22 (.pick (.t 18) (.k (.d (.bool true))) (.t 21))] [5, 11, 12, 13, 14, 15, 16, 17, 18, 19, 20, 21])
(.cond (.t 22) (.seq (.reg false [
tq 2 (.mv (kq 0)),
tq 3 (.mv (kq 25))] [])
.ret)
 .skip))
(.seq (.reg false [
tq 23 (.mv (.t 4)),
tq 24 (.bin .quo (.t 23) (kq 100)),
tq 25 (.bin .mul (.t 24) (kq 60)),
tq 26 (.mv (.t 4)),
tq 27 (.bin .rem (.t 26) (kq 100)),
tq 28 (.bin .add (.t 25) (.t 27)),
tq 2 (.mv (.t 28)),
tq 3 (.mv (kq 0))] [4, 23, 24, 25, 26, 27, 28])
.ret))))⟩

def c_message_PrintLine : CF := ⟨[.tmp 2, .tmp 3],
  (.seq (.reg false [
tq 1 (.box ty_message_Line (.t 0)),
tq 2 (.mv (.k (.d (.str [])))),
tq 3 (.mv (kq 0))] [0, 2, 3])
(.seq (.seq (.reg false [
tq 5 (.load (some 14) (.t 1)),
tq 6 (.call false true (.k (.fn n_message_CheckLine [] [])) [.t 5]),
tq 4 (.mv (.t 6))] [5, 6])
(.seq (.reg false [
tq 7 (.mv (.t 4)),
tq 8 (.bin .neq (.t 7) (kq 0))] [7])
(.cond (.t 8) (.seq (.reg false [
tq 9 (.mv (.t 4)),
tq 2 (.mv (.k (.d (.str [])))),
tq 3 (.mv (.t 9))] [4, 9])
.ret)
 .skip)))
(.seq (.reg false [
tq 10 (.load (some 14) (.t 1)),
tq 11 (.call false true (.k (.fn n_message_printLine [] [])) [.t 10]),
tq 2 (.mv (.t 11)),
tq 3 (.mv (kq 0))] [1, 10, 11])
.ret)))⟩

def b_message_ParseLine_1 : C :=
  (.seq (.reg false [
tq 22 (.bin .lss (.t 21) (kq 14))] [])
(.seq (.cond (.t 22) .skip
 (.exit 0))
(.seq (.block 1 (.seq (.reg false [
tq 23 (.mv (.t 21)),
tq 8 (.mv (.t 23))] [23])
(.seq (.reg false [
tq 24 (.mv (.t 8)),
tq 25 (.idxAddrA 14 2 (.t 7) (.t 24)),
fa 26 1 25,
ld 27 26,
tq 9 (.mv (.t 27))] [24, 25, 26, 27])
(.seq (.reg false [
tq 28 (.mv (.t 9)),
tq 29 (.mv (.t 5)),
tq 30 (.mv (.t 8)),
tq 31 (.idxAddr 1 (.t 29) (.t 30)),
ld 32 31,
tq 33 (.call true true (.t 28) [.t 6, .t 32]),
tq 34 (.un .not (.t 33))] [9, 28, 29, 30, 31, 32, 33])
(.cond (.t 34) (.seq (.reg false [
tq 35 (.build [.z (.str []), .z (.str []), .z (.str []), .z (.str []), .z (.str []), .z (.str []), .z (.str []), .z (.int .i64 0), .z (.int .i64 0), .z (.int .i64 0), .z (.int .i64 0), .z (.int .i64 0), .z (.int .i64 0), .z (.int .i64 0)] []),
tq 36 (.mv (.t 8)),
⟨none, none, .store 14 (.t 2) (.t 35)⟩,
tq 3 (.mv (.t 36)),
tq 4 (.mv (kq 25))] [8, 35, 36])
.ret)
 .skip)))))
(.reg false [
tq 37 (.bin .add (.t 21) (kq 1)),
tq 21 (.mv (.t 37))] [37]))))

def c_message_ParseLine : CF := ⟨[.cell 2 (some 14), .tmp 3, .tmp 4],
  (.seq (.reg false [
tq 2 (.alloc ty_message_Line [.z (.str []), .z (.str []), .z (.str []), .z (.str []), .z (.str []), .z (.str []), .z (.str []), .z (.int .i64 0), .z (.int .i64 0), .z (.int .i64 0), .z (.int .i64 0), .z (.int .i64 0), .z (.int .i64 0), .z (.int .i64 0)]),
tq 3 (.mv (kq 0)),
tq 4 (.mv (kq 0))] [3, 4])
(.seq (.reg false [
tq 11 (.mv (.t 0)),
tq 12 (.call false true (.k (.fn n_strings_Split [] [])) [.t 11, .k (.d (.str [32]))]),
tq 5 (.mv (.t 12))] [0, 11, 12])
(.seq (.seq (.reg false [
tq 13 (.mv (.t 5)),
tq 14 (.len .slc (.t 13)),
tq 15 (.bin .neq (.t 14) (kq 14))] [13, 14])
(.cond (.t 15) (.seq (.reg false [
tq 16 (.build [.z (.str []), .z (.str []), .z (.str []), .z (.str []), .z (.str []), .z (.str []), .z (.str []), .z (.int .i64 0), .z (.int .i64 0), .z (.int .i64 0), .z (.int .i64 0), .z (.int .i64 0), .z (.int .i64 0), .z (.int .i64 0)] []),
tq 17 (.mv (.t 5)),
tq 18 (.len .slc (.t 17)),
tq 19 (.minmax false [.t 18, kq 13]),
⟨none, none, .store 14 (.t 2) (.t 16)⟩,
tq 3 (.mv (.t 19)),
tq 4 (.mv (kq 25))] [5, 16, 17, 18, 19])
.ret)
 .skip))
(.seq (.reg false [
tq 6 (.alloc ty_message_Line [.z (.str []), .z (.str []), .z (.str []), .z (.str []), .z (.str []), .z (.str []), .z (.str []), .z (.int .i64 0), .z (.int .i64 0), .z (.int .i64 0), .z (.int .i64 0), .z (.int .i64 0), .z (.int .i64 0), .z (.int .i64 0)])] [])
(.seq (.reg false [
tq 20 (.call false false (.k (.fn n_message_fields [] [])) []),
tq 7 (.alloc ty_14_message_field [.z (.nilf), .z (.nilf), .z (.nilf), .z (.nilf), .z (.nilf), .z (.nilf), .z (.nilf), .z (.nilf), .z (.nilf), .z (.nilf), .z (.nilf), .z (.nilf), .z (.nilf), .z (.nilf), .z (.nilf), .z (.nilf), .z (.nilf), .z (.nilf), .z (.nilf), .z (.nilf), .z (.nilf), .z (.nilf), .z (.nilf), .z (.nilf), .z (.nilf), .z (.nilf), .z (.nilf), .z (.nilf)]),
⟨none, none, .store 28 (.t 7) (.t 20)⟩] [20])
(.seq (.seq (.reg false [
tq 21 (.mv (kq 0))] [])
(.block 0 (.loop [2, 5, 6, 7, 21] b_message_ParseLine_1)))
(.seq (.seq (.reg false [
tq 38 (.load (some 14) (.t 6)),
tq 39 (.call false true (.k (.fn n_message_CheckLine [] [])) [.t 38]),
tq 10 (.mv (.t 39))] [38, 39])
(.seq (.reg false [
tq 40 (.mv (.t 10)),
tq 41 (.bin .neq (.t 40) (kq 0))] [40])
(.cond (.t 41) (.seq (.reg false [
tq 42 (.build [.z (.str []), .z (.str []), .z (.str []), .z (.str []), .z (.str []), .z (.str []), .z (.str []), .z (.int .i64 0), .z (.int .i64 0), .z (.int .i64 0), .z (.int .i64 0), .z (.int .i64 0), .z (.int .i64 0), .z (.int .i64 0)] []),
tq 43 (.mv (.t 10)),
⟨none, none, .store 14 (.t 2) (.t 42)⟩,
tq 3 (.mv (kq 14)),
tq 4 (.mv (.t 43))] [10, 42, 43])
.ret)
 .skip)))
(.seq (.reg false [
tq 44 (.load (some 14) (.t 6)),
⟨none, none, .store 14 (.t 2) (.t 44)⟩,
tq 3 (.mv (kq 0)),
tq 4 (.mv (kq 0))] [6, 44])
.ret))))))))⟩

def b_message_PrintMessage_1 : C :=
  (.seq (.reg false [
tq 38 (.bin .lss (.t 37) (.t 36))] [])
(.seq (.cond (.t 38) .skip
 (.exit 0))
(.seq (.block 1 (.seq (.reg false [
tq 39 (.idxAddr 14 (.t 35) (.t 37)),
tq 40 (.load (some 14) (.t 39)),
tq 8 (.alloc ty_message_Line [.z (.str []), .z (.str []), .z (.str []), .z (.str []), .z (.str []), .z (.str []), .z (.str []), .z (.int .i64 0), .z (.int .i64 0), .z (.int .i64 0), .z (.int .i64 0), .z (.int .i64 0), .z (.int .i64 0), .z (.int .i64 0)]),
⟨none, none, .store 14 (.t 8) (.t 40)⟩] [39, 40])
(.reg false [
tq 41 (.mv (.t 6)),
tq 42 (.load (some 14) (.t 8)),
tq 43 (.call false true (.k (.fn n_message_printLine [] [])) [.t 42]),
tq 44 (.bin .add (.t 43) (.k (.d (.str [10])))),
tq 45 (.call true false (.t 41) [.t 44])] [8, 41, 42, 43, 44, 45])))
(.reg false [
tq 46 (.bin .add (.t 37) (kq 1)),
tq 37 (.mv (.t 46))] [46]))))

def c_message_PrintMessage : CF := ⟨[.tmp 2, .tmp 3],
  (.seq (.reg false [
tq 1 (.box ty_message_Message (.t 0)),
tq 2 (.mv (.k (.d (.str [])))),
tq 3 (.mv (kq 0))] [0, 2, 3])
(.seq (.seq (.reg false [
tq 9 (.load (some 5) (.t 1)),
tq 10 (.call false true (.k (.fn n_message_CheckMessage [] [])) [.t 9]),
tq 4 (.mv (.t 10))] [9, 10])
(.seq (.reg false [
tq 11 (.mv (.t 4)),
tq 12 (.bin .neq (.t 11) (kq 0))] [11])
(.cond (.t 12) (.seq (.reg false [
tq 13 (.mv (.t 4)),
tq 2 (.mv (.k (.d (.str [])))),
tq 3 (.mv (.t 13))] [4, 13])
.ret)
 .skip)))
(.seq (.reg false [
tq 5 (.alloc ty_strings_Builder [.z .nilp, .own ⟨false, ty_uint8, 1, 1⟩])] [])
(.seq (.reg false [
tq 14 (.mkFunc n_strings_Builder_WriteString [.t 5] []),
tq 6 (.mv (.t 14))] [14])
(.seq (.reg true [
tq 15 (.mv (.t 6)),
fa 16 0 1,
ld 17 16,
tq 18 (.bin .add (.k (.d (.str [83, 76, 79, 84, 83, 32]))) (.t 17)),
tq 19 (.bin .add (.t 18) (.k (.d (.str [32])))),
fa 20 1 1,
ld 21 20,
tq 22 (.bin .add (.t 19) (.t 21)),
tq 23 (.bin .add (.t 22) (.k (.d (.str [32])))),
fa 24 2 1,
ld 25 24,
tq 26 (.bin .add (.t 23) (.t 25)),
tq 27 (.bin .add (.t 26) (.k (.d (.str [32])))),
fa 28 3 1,
ld 29 28,
tq 30 (.call false true (.k (.fn n_message_wide [] [])) [.t 29, kq 5]),
tq 31 (.bin .add (.t 27) (.t 30)),
tq 32 (.bin .add (.t 31) (.k (.d (.str [10])))),
tq 33 (.call true false (.t 15) [.t 32])] [15, 16, 17, 18, 19, 20, 21, 22, 23, 24, 25, 26, 27, 28, 29, 30, 31, 32, 33])
(.seq (.seq (.reg false [
fa 34 4 1,
ld 35 34,
tq 36 (.len .slc (.t 35)),
tq 37 (.mv (kq 0))] [34])
(.block 0 (.loop [1, 5, 6, 35, 36, 37] b_message_PrintMessage_1)))
(.seq (.reg false [
tq 47 (.mv (.t 6)),
fa 48 4 1,
ld 49 48,
tq 50 (.len .slc (.t 49)),
tq 51 (.call false true (.k (.fn n_message_wide [] [])) [.t 50, kq 2]),
tq 52 (.bin .add (.k (.d (.str [69, 78, 68, 32]))) (.t 51)),
tq 53 (.bin .add (.t 52) (.k (.d (.str [10])))),
tq 54 (.call true false (.t 47) [.t 53])] [1, 6, 47, 48, 49, 50, 51, 52, 53, 54])
(.seq (.reg false [
tq 55 (.call true true (.k (.fn n_strings_Builder_String [] [])) [.t 5]),
tq 2 (.mv (.t 55)),
tq 3 (.mv (kq 0))] [5, 55])
.ret))))))))⟩

def b_message_ParseMessage_1 : C :=
  (.seq (.reg false [
tq 8 (.mv (.t 29))] [29])
(.reg false [
tq 9 (.mv (.t 30))] [30]))

def b_message_ParseMessage_2 : C :=
  (.block 1 (.seq (.reg false [
tq 31 (.mv (.t 8)),
tq 32 (.bin .add (.t 31) (kq 1)),
⟨none, none, .store 1 (.t 6) (.t 32)⟩] [6, 31, 32])
(.seq (.reg false [
tq 34 (.mv (.t 9)),
tq 35 (.call false true (.k (.fn n_strings_CutSuffix [] [])) [.t 34, .k (.d (.str [10]))]),
tq 33 (.mv (.t 35)),
tq 36 (.extract (.t 33) 0),
tq 37 (.extract (.t 33) 1),
tq 10 (.mv (.t 36)),
tq 11 (.mv (.t 37))] [33, 34, 35, 36, 37])
(.seq (.reg false [
tq 38 (.mv (.t 10)),
tq 39 (.call false true (.k (.fn n_strings_Split [] [])) [.t 38, .k (.d (.str [32]))]),
tq 12 (.mv (.t 39))] [38, 39])
(.block 2 (.seq (.reg false [
tq 72 (.mv (.t 8)),
tq 73 (.bin .eql (.t 72) (kq 0)),
tq 71 (.mv (.t 73))] [72, 73])
(.cond (.t 71) (.seq (.reg false [
tq 75 (.mv (.t 9)),
tq 76 (.call false false (.k (.fn n_message_head [] [])) [.t 75]),
tq 74 (.mv (.t 76)),
tq 77 (.extract (.t 74) 0),
tq 78 (.extract (.t 74) 1),
tq 13 (.alloc ty_message_Message [.z (.str []), .z (.str []), .z (.str []), .z (.int .i64 0), .own ⟨false, ty_message_Line, 14, 168⟩]),
⟨none, none, .store 5 (.t 13) (.t 77)⟩,
tq 14 (.mv (.t 78))] [9, 74, 75, 76, 77, 78])
(.seq (.seq (.reg false [
tq 79 (.mv (.t 14)),
tq 80 (.un .not (.t 79))] [14, 79])
(.cond (.t 80) (.seq (.reg false [
tq 81 (.build [.z (.str []), .z (.str []), .z (.str []), .z (.int .i64 0), .own ⟨false, ty_message_Line, 14, 168⟩] []),
⟨none, none, .store 5 (.t 2) (.t 81)⟩,
⟨none, none, .store 1 (.t 3) (kq 0)⟩,
⟨none, none, .store 1 (.t 4) (kq 25)⟩] [81])
.ret)
 .skip))
(.reg false [
tq 82 (.load (some 5) (.t 13)),
⟨none, none, .store 5 (.t 5) (.t 82)⟩] [5, 13, 82])))
 (.seq (.reg false [
tq 84 (.mv (.t 11)),
tq 85 (.un .not (.t 84)),
tq 86 (.mv (.t 85)),
⟨some 87, (some (86, false)), .load none (.t 7)⟩,
tq 88 (.pick (.t 86) (.k (.d (.bool true))) (.t 87)),
tq 83 (.mv (.t 88))] [11, 84, 85, 86, 87, 88])
(.cond (.t 83) (.seq (.reg false [
tq 89 (.build [.z (.str []), .z (.str []), .z (.str []), .z (.int .i64 0), .own ⟨false, ty_message_Line, 14, 168⟩] []),
tq 90 (.mv (.t 8)),
⟨none, none, .store 5 (.t 2) (.t 89)⟩,
⟨none, none, .store 1 (.t 3) (.t 90)⟩,
⟨none, none, .store 1 (.t 4) (kq 25)⟩] [8, 89, 90])
.ret)
 (.seq (.reg false [
tq 92 (.mv (.t 12)),
tq 93 (.idxAddr 1 (.t 92) (kq 0)),
ld 94 93,
tq 95 (.bin .neq (.t 94) (.k (.d (.str [69, 78, 68])))),
tq 91 (.mv (.t 95))] [92, 93, 94, 95])
(.cond (.t 91) (.seq (.reg false [
tq 97 (.mv (.t 10)),
tq 98 (.call false true (.k (.fn n_message_ParseLine [] [])) [.t 97]),
tq 96 (.mv (.t 98)),
tq 99 (.extract (.t 96) 0),
tq 100 (.extract (.t 96) 1),
tq 101 (.extract (.t 96) 2),
tq 15 (.alloc ty_message_Line [.z (.str []), .z (.str []), .z (.str []), .z (.str []), .z (.str []), .z (.str []), .z (.str []), .z (.int .i64 0), .z (.int .i64 0), .z (.int .i64 0), .z (.int .i64 0), .z (.int .i64 0), .z (.int .i64 0), .z (.int .i64 0)]),
⟨none, none, .store 14 (.t 15) (.t 99)⟩,
tq 16 (.mv (.t 100)),
tq 17 (.mv (.t 101))] [10, 16, 96, 97, 98, 99, 100, 101])
(.seq (.seq (.reg false [
tq 102 (.mv (.t 17)),
fa 103 4 5,
ld 104 103,
tq 105 (.len .slc (.t 104)),
tq 106 (.bin .geq (.t 105) (kq 64)),
tq 107 (.call false true (.k (.fn n_message_when [] [])) [.t 106, kq 5]),
tq 108 (.mkList 1 2 [.t 102, .t 107]),
tq 109 (.call false true (.k (.fn n_message_first [] [])) [.t 108]),
tq 17 (.mv (.t 109))] [102, 103, 104, 105, 106, 107, 108, 109])
(.seq (.reg false [
tq 110 (.mv (.t 17)),
tq 111 (.bin .neq (.t 110) (kq 0))] [110])
(.cond (.t 111) (.seq (.reg false [
tq 112 (.build [.z (.str []), .z (.str []), .z (.str []), .z (.int .i64 0), .own ⟨false, ty_message_Line, 14, 168⟩] []),
tq 113 (.mv (.t 8)),
tq 114 (.mv (.t 17)),
⟨none, none, .store 5 (.t 2) (.t 112)⟩,
⟨none, none, .store 1 (.t 3) (.t 113)⟩,
⟨none, none, .store 1 (.t 4) (.t 114)⟩] [8, 17, 112, 113, 114])
.ret)
 .skip)))
(.reg false [
fa 115 4 5,
ld 116 115,
tq 117 (.load (some 14) (.t 15)),
tq 118 (.mkList 14 1 [.t 117]),
tq 119 (.append ⟨false, ty_message_Line, 14, 168⟩ (.t 116) (.t 118)),
fa 120 4 5,
⟨none, none, .store 1 (.t 120) (.t 119)⟩] [5, 15, 115, 116, 117, 118, 119, 120])))
 (.seq (.reg false [
tq 41 (.mv (.t 12)),
tq 42 (.mv (.t 12)),
tq 43 (.len .slc (.t 42)),
tq 44 (.bin .sub (.t 43) (kq 1)),
tq 45 (.idxAddr 1 (.t 41) (.t 44)),
ld 46 45,
tq 47 (.call false true (.k (.fn n_message_number [] [])) [.t 46, kq 2]),
tq 40 (.mv (.t 47)),
tq 48 (.extract (.t 40) 0),
tq 49 (.extract (.t 40) 1),
tq 18 (.mv (.t 48)),
tq 19 (.mv (.t 49))] [40, 41, 42, 43, 44, 45, 46, 47, 48, 49])
(.seq (.seq (.reg true [
tq 50 (.mv (.t 12)),
tq 51 (.len .slc (.t 50)),
tq 52 (.bin .neq (.t 51) (kq 2)),
tq 53 (.mv (.t 52)),
⟨some 54, (some (53, false)), .mv (.t 19)⟩,
⟨some 55, (some (53, false)), .un .not (.t 54)⟩,
tq 56 (.pick (.t 53) (.k (.d (.bool true))) (.t 55)),
tq 57 (.call false true (.k (.fn n_message_when [] [])) [.t 56, kq 25]),
tq 58 (.mv (.t 18)),
fa 59 4 5,
ld 60 59,
tq 61 (.len .slc (.t 60)),
tq 62 (.bin .neq (.t 58) (.t 61)),
tq 63 (.call false true (.k (.fn n_message_when [] [])) [.t 62, kq 27]),
tq 64 (.mkList 1 2 [.t 57, .t 63]),
tq 65 (.call false true (.k (.fn n_message_first [] [])) [.t 64]),
tq 20 (.mv (.t 65))] [5, 12, 18, 19, 50, 51, 52, 53, 54, 55, 56, 57, 58, 59, 60, 61, 62, 63, 64, 65])
(.seq (.reg false [
tq 66 (.mv (.t 20)),
tq 67 (.bin .neq (.t 66) (kq 0))] [66])
(.cond (.t 67) (.seq (.reg false [
tq 68 (.build [.z (.str []), .z (.str []), .z (.str []), .z (.int .i64 0), .own ⟨false, ty_message_Line, 14, 168⟩] []),
tq 69 (.mv (.t 8)),
tq 70 (.mv (.t 20)),
⟨none, none, .store 5 (.t 2) (.t 68)⟩,
⟨none, none, .store 1 (.t 3) (.t 69)⟩,
⟨none, none, .store 1 (.t 4) (.t 70)⟩] [8, 20, 68, 69, 70])
.ret)
 .skip)))
(.reg false [
⟨none, none, .store 1 (.t 7) (.k (.d (.bool true)))⟩] [7]))))))))))))))

def c_message_ParseMessage : CF := ⟨[.cell 2 (some 5), .cell 3 none, .cell 4 none],
  (.seq (.reg false [
tq 2 (.alloc ty_message_Message [.z (.str []), .z (.str []), .z (.str []), .z (.int .i64 0), .own ⟨false, ty_message_Line, 14, 168⟩]),
tq 3 (.alloc ty_int [.z (.int .i64 0)]),
tq 4 (.alloc ty_api_Errno [.z (.int .i64 0)])] [])
(.seq (.seq (.reg false [
tq 23 (.mv (.t 0)),
tq 24 (.len .str (.t 23)),
tq 25 (.bin .gtr (.t 24) (kq 16384))] [23, 24])
(.cond (.t 25) (.seq (.reg false [
tq 26 (.build [.z (.str []), .z (.str []), .z (.str []), .z (.int .i64 0), .own ⟨false, ty_message_Line, 14, 168⟩] []),
⟨none, none, .store 5 (.t 2) (.t 26)⟩,
⟨none, none, .store 1 (.t 3) (kq 0)⟩,
⟨none, none, .store 1 (.t 4) (kq 26)⟩] [26])
.ret)
 .skip))
(.seq (.reg false [
tq 5 (.alloc ty_message_Message [.z (.str []), .z (.str []), .z (.str []), .z (.int .i64 0), .own ⟨false, ty_message_Line, 14, 168⟩])] [])
(.seq (.reg false [
tq 6 (.alloc ty_int [.z (.int .i64 0)]),
tq 7 (.alloc ty_bool [.z (.bool false)]),
⟨none, none, .store 1 (.t 6) (kq 0)⟩,
⟨none, none, .store 1 (.t 7) (.k (.d (.bool false)))⟩] [])
(.seq (.seq (.reg false [
tq 27 (.mv (.t 0)),
tq 28 (.call false false (.k (.fn n_message_texts [] [])) [.t 27])] [0, 27])
(.block 0 (.rangeFn 141 (.t 28) [29, 30] b_message_ParseMessage_1 b_message_ParseMessage_2)))
(.seq (.seq (.reg false [
ld 121 7,
tq 122 (.un .not (.t 121))] [7, 121])
(.cond (.t 122) (.seq (.reg true [
tq 123 (.build [.z (.str []), .z (.str []), .z (.str []), .z (.int .i64 0), .own ⟨false, ty_message_Line, 14, 168⟩] []),
ld 124 6,
⟨none, none, .storeR 5 (.t 2) (.t 123) [6]⟩,
⟨none, none, .store 1 (.t 3) (.t 124)⟩,
⟨none, none, .store 1 (.t 4) (kq 28)⟩] [6, 123, 124])
.ret)
 .skip))
(.seq (.seq (.reg false [
fa 126 0 5,
ld 127 126,
fa 128 4 5,
ld 129 128,
tq 130 (.call false true (.k (.fn n_message_checkLines [] [])) [.t 127, .t 129]),
tq 125 (.mv (.t 130)),
tq 131 (.extract (.t 125) 0),
tq 132 (.extract (.t 125) 1),
tq 21 (.mv (.t 131)),
tq 22 (.mv (.t 132))] [125, 126, 127, 128, 129, 130, 131, 132])
(.seq (.reg false [
tq 133 (.mv (.t 22)),
tq 134 (.bin .neq (.t 133) (kq 0))] [133])
(.cond (.t 134) (.seq (.reg false [
tq 135 (.build [.z (.str []), .z (.str []), .z (.str []), .z (.int .i64 0), .own ⟨false, ty_message_Line, 14, 168⟩] []),
tq 136 (.mv (.t 21)),
tq 137 (.bin .add (.t 136) (kq 1)),
tq 138 (.mv (.t 22)),
⟨none, none, .store 5 (.t 2) (.t 135)⟩,
⟨none, none, .store 1 (.t 3) (.t 137)⟩,
⟨none, none, .store 1 (.t 4) (.t 138)⟩] [21, 22, 135, 136, 137, 138])
.ret)
 .skip)))
(.seq (.reg false [
tq 139 (.load (some 5) (.t 5)),
⟨none, none, .store 5 (.t 2) (.t 139)⟩,
⟨none, none, .store 1 (.t 3) (kq 0)⟩,
⟨none, none, .store 1 (.t 4) (kq 0)⟩] [5, 139])
.ret))))))))⟩

def b_message_Answers_1 : C :=
  (.seq (.reg false [
tq 37 (.bin .lss (.t 36) (.t 35))] [])
(.seq (.cond (.t 37) .skip
 (.exit 0))
(.seq (.block 1 (.seq (.reg false [
tq 38 (.mv (.t 36)),
tq 39 (.idxAddr 3 (.t 34) (.t 36)),
tq 40 (.load (some 3) (.t 39)),
tq 15 (.alloc ty_message_Result [.z (.str []), .z (.bool false), .z (.int .i64 0)]),
tq 14 (.mv (.t 38)),
⟨none, none, .store 3 (.t 15) (.t 40)⟩] [38, 39, 40])
(.seq (.reg false [
tq 41 (.mv (.t 3)),
tq 42 (.mv (.t 14)),
tq 43 (.idxAddr 13 (.t 41) (.t 42)),
tq 44 (.load (some 13) (.t 43)),
tq 16 (.alloc ty_api_Request [.z (.str []), .z (.str []), .z (.str []), .z (.str []), .z (.str []), .z (.str []), .z (.int .i64 0), .z (.int .i64 0), .z (.int .i64 0), .z (.int .i64 0), .z (.int .i64 0), .z (.int .i64 0), .z (.int .i64 0)]),
⟨none, none, .store 13 (.t 16) (.t 44)⟩] [14, 41, 42, 43, 44])
(.block 2 (.seq (.reg false [
fa 56 1 15,
ld 57 56,
tq 58 (.un .not (.t 57)),
tq 55 (.mv (.t 58))] [56, 57, 58])
(.cond (.t 55) (.reg false [
fa 59 4 13,
ld 60 59,
tq 61 (.load (some 13) (.t 16)),
tq 62 (.build [.z (.str []), .z (.str []), .z (.str []), .z (.str []), .z (.str []), .z (.str []), .z (.str []), .z (.int .i64 0), .z (.int .i64 0), .z (.int .i64 0), .z (.int .i64 0), .z (.int .i64 0), .z (.int .i64 0), .z (.int .i64 0)] [(0, 1, .k (.d (.str [85]))), (1, 13, .t 61)]),
tq 63 (.mkList 14 1 [.t 62]),
tq 64 (.append ⟨false, ty_message_Line, 14, 168⟩ (.t 60) (.t 63)),
fa 65 4 13,
⟨none, none, .store 1 (.t 65) (.t 64)⟩] [16, 59, 60, 61, 62, 63, 64, 65])
 (.seq (.reg false [
fa 67 2 15,
ld 68 67,
fa 69 9 16,
ld 70 69,
tq 71 (.bin .eql (.t 68) (.t 70)),
tq 66 (.mv (.t 71))] [67, 68, 69, 70, 71])
(.cond (.t 66) (.reg false [
fa 72 4 13,
ld 73 72,
tq 74 (.load (some 13) (.t 16)),
tq 75 (.build [.z (.str []), .z (.str []), .z (.str []), .z (.str []), .z (.str []), .z (.str []), .z (.str []), .z (.int .i64 0), .z (.int .i64 0), .z (.int .i64 0), .z (.int .i64 0), .z (.int .i64 0), .z (.int .i64 0), .z (.int .i64 0)] [(0, 1, .k (.d (.str [75]))), (1, 13, .t 74)]),
tq 76 (.mkList 14 1 [.t 75]),
tq 77 (.append ⟨false, ty_message_Line, 14, 168⟩ (.t 73) (.t 76)),
fa 78 4 13,
⟨none, none, .store 1 (.t 78) (.t 77)⟩] [16, 72, 73, 74, 75, 76, 77, 78])
 (.reg true [
fa 45 4 13,
ld 46 45,
tq 47 (.load (some 13) (.t 16)),
fa 48 2 15,
ld 49 48,
tq 50 (.call false true (.k (.fn n_message_moved [] [])) [.t 47, .t 49]),
tq 51 (.build [.z (.str []), .z (.str []), .z (.str []), .z (.str []), .z (.str []), .z (.str []), .z (.str []), .z (.int .i64 0), .z (.int .i64 0), .z (.int .i64 0), .z (.int .i64 0), .z (.int .i64 0), .z (.int .i64 0), .z (.int .i64 0)] [(0, 1, .k (.d (.str [79]))), (1, 13, .t 50)]),
tq 52 (.mkList 14 1 [.t 51]),
tq 53 (.append ⟨false, ty_message_Line, 14, 168⟩ (.t 46) (.t 52)),
fa 54 4 13,
⟨none, none, .store 1 (.t 54) (.t 53)⟩] [15, 16, 45, 46, 47, 48, 49, 50, 51, 52, 53, 54])))))))))
(.reg false [
tq 79 (.bin .add (.t 36) (kq 1)),
tq 36 (.mv (.t 79))] [79]))))

def c_message_Answers : CF := ⟨[.cell 10 (some 5), .tmp 11],
  (.seq (.reg false [
tq 10 (.alloc ty_message_Message [.z (.str []), .z (.str []), .z (.str []), .z (.int .i64 0), .own ⟨false, ty_message_Line, 14, 168⟩]),
tq 11 (.mv (kq 0))] [11])
(.seq (.seq (.reg false [
tq 17 (.mv (.t 0)),
tq 18 (.mv (.t 1)),
tq 19 (.mv (.t 2)),
tq 20 (.call false true (.k (.fn n_message_checkHead [] [])) [.t 17, .t 18, .t 19]),
tq 21 (.mv (.t 3)),
tq 22 (.mv (.t 4)),
tq 23 (.call false true (.k (.fn n_message_checkBoth [] [])) [.t 21, .t 22]),
tq 24 (.mkList 1 2 [.t 20, .t 23]),
tq 25 (.call false true (.k (.fn n_message_first [] [])) [.t 24]),
tq 12 (.mv (.t 25))] [17, 18, 19, 20, 21, 22, 23, 24, 25])
(.seq (.reg false [
tq 26 (.mv (.t 12)),
tq 27 (.bin .neq (.t 26) (kq 0))] [26])
(.cond (.t 27) (.seq (.reg false [
tq 28 (.build [.z (.str []), .z (.str []), .z (.str []), .z (.int .i64 0), .own ⟨false, ty_message_Line, 14, 168⟩] []),
tq 29 (.mv (.t 12)),
⟨none, none, .store 5 (.t 10) (.t 28)⟩,
tq 11 (.mv (.t 29))] [12, 28, 29])
.ret)
 .skip)))
(.seq (.reg false [
tq 30 (.mv (.t 0)),
tq 31 (.mv (.t 1)),
tq 32 (.mv (.t 2)),
tq 33 (.build [.z (.str []), .z (.str []), .z (.str []), .z (.int .i64 0), .own ⟨false, ty_message_Line, 14, 168⟩] [(0, 1, .k (.d (.str [65, 78, 83]))), (1, 1, .t 30), (2, 1, .t 31), (3, 1, .t 32)]),
tq 13 (.alloc ty_message_Message [.z (.str []), .z (.str []), .z (.str []), .z (.int .i64 0), .own ⟨false, ty_message_Line, 14, 168⟩]),
⟨none, none, .store 5 (.t 13) (.t 33)⟩] [0, 1, 2, 30, 31, 32, 33])
(.seq (.seq (.reg false [
tq 34 (.mv (.t 4)),
tq 35 (.len .slc (.t 34)),
tq 36 (.mv (kq 0))] [4])
(.block 0 (.loop [3, 10, 13, 34, 35, 36] b_message_Answers_1)))
(.seq (.reg false [
tq 80 (.load (some 5) (.t 13)),
⟨none, none, .store 5 (.t 10) (.t 80)⟩,
tq 11 (.mv (kq 0))] [13, 80])
.ret)))))⟩

def b_message_Results_1 : C :=
  (.seq (.reg false [
tq 24 (.bin .lss (.t 23) (.t 22))] [])
(.seq (.cond (.t 24) .skip
 (.exit 0))
(.seq (.block 1 (.seq (.reg false [
tq 25 (.idxAddr 14 (.t 21) (.t 23)),
tq 26 (.load (some 14) (.t 25)),
tq 7 (.alloc ty_message_Line [.z (.str []), .z (.str []), .z (.str []), .z (.str []), .z (.str []), .z (.str []), .z (.str []), .z (.int .i64 0), .z (.int .i64 0), .z (.int .i64 0), .z (.int .i64 0), .z (.int .i64 0), .z (.int .i64 0), .z (.int .i64 0)]),
⟨none, none, .store 14 (.t 7) (.t 26)⟩] [25, 26])
(.seq (.seq (.reg false [
tq 27 (.mv (.t 5)),
fa 28 1 7,
fa 29 0 28,
ld 30 29,
tq 31 (.lookup .str (.bool false) false (.t 27) (.t 30))] [27, 28, 29, 30])
(.cond (.t 31) (.seq (.reg false [
tq 2 (.mv (.k (.d (.list 0 [])))),
tq 3 (.mv (kq 9))] [])
.ret)
 .skip))
(.reg false [
tq 32 (.mv (.t 5)),
fa 33 1 7,
fa 34 0 33,
ld 35 34,
⟨none, none, .mapSet .str (.t 32) (.t 35) (.k (.d (.bool true)))⟩] [7, 32, 33, 34, 35]))))
(.reg false [
tq 36 (.bin .add (.t 23) (kq 1)),
tq 23 (.mv (.t 36))] [36]))))

def c_message_Results : CF := ⟨[.tmp 2, .tmp 3],
  (.seq (.reg false [
tq 1 (.box ty_message_Message (.t 0)),
tq 2 (.mv (.k (.d (.list 0 [])))),
tq 3 (.mv (kq 0))] [0, 2, 3])
(.seq (.seq (.reg true [
tq 8 (.load (some 5) (.t 1)),
tq 9 (.call false true (.k (.fn n_message_CheckMessage [] [])) [.t 8]),
fa 10 0 1,
ld 11 10,
tq 12 (.bin .neq (.t 11) (.k (.d (.str [65, 78, 83])))),
tq 13 (.call false true (.k (.fn n_message_when [] [])) [.t 12, kq 13]),
tq 14 (.mkList 1 2 [.t 9, .t 13]),
tq 15 (.call false true (.k (.fn n_message_first [] [])) [.t 14]),
tq 4 (.mv (.t 15))] [8, 9, 10, 11, 12, 13, 14, 15])
(.seq (.reg false [
tq 16 (.mv (.t 4)),
tq 17 (.bin .neq (.t 16) (kq 0))] [16])
(.cond (.t 17) (.seq (.reg false [
tq 18 (.mv (.t 4)),
tq 2 (.mv (.k (.d (.list 0 [])))),
tq 3 (.mv (.t 18))] [4, 18])
.ret)
 .skip)))
(.seq (.reg false [
tq 19 (.mkMap),
tq 5 (.mv (.t 19))] [19])
(.seq (.seq (.reg false [
fa 20 4 1,
ld 21 20,
tq 22 (.len .slc (.t 21)),
tq 23 (.mv (kq 0))] [20])
(.block 0 (.loop [1, 5, 21, 22, 23] b_message_Results_1)))
(.seq (.reg false [
fa 37 4 1,
ld 38 37,
tq 39 (.call true true (.k (.fn n_message_filtered_message_Line_message_Result [] [])) [.t 38, .k (.fn n_message_Results_1 [] [])]),
tq 2 (.mv (.t 39)),
tq 3 (.mv (kq 0))] [1, 37, 38, 39])
.ret)))))⟩

def b_message_first_1 : C :=
  (.seq (.reg false [
tq 8 (.bin .lss (.t 7) (.t 6))] [])
(.seq (.cond (.t 8) .skip
 (.exit 0))
(.seq (.block 1 (.seq (.reg false [
tq 9 (.idxAddr 1 (.t 5) (.t 7)),
ld 10 9,
tq 4 (.mv (.t 10))] [9, 10])
(.seq (.reg false [
tq 11 (.mv (.t 4)),
tq 12 (.bin .neq (.t 11) (kq 0))] [11])
(.cond (.t 12) (.seq (.reg false [
tq 13 (.mv (.t 4)),
tq 2 (.mv (.t 13))] [4, 13])
.ret)
 .skip))))
(.reg false [
tq 14 (.bin .add (.t 7) (kq 1)),
tq 7 (.mv (.t 14))] [14]))))

def c_message_first : CF := ⟨[.tmp 2],
  (.seq (.reg false [
tq 2 (.mv (kq 0))] [2])
(.seq (.seq (.reg false [
tq 5 (.mv (.t 0)),
tq 6 (.len .slc (.t 5)),
tq 7 (.mv (kq 0))] [0])
(.block 0 (.loop [5, 6, 7] b_message_first_1)))
(.seq (.reg false [
tq 2 (.mv (kq 0))] [])
.ret)))⟩

def c_message_CheckMessage : CF := ⟨[.tmp 2],
  (.seq (.reg false [
tq 1 (.box ty_message_Message (.t 0)),
tq 2 (.mv (kq 0))] [0, 2])
(.seq (.seq (.reg true [
fa 6 0 1,
ld 7 6,
tq 8 (.call false true (.k (.fn n_message_isMessage [] [])) [.t 7]),
tq 9 (.un .not (.t 8)),
tq 10 (.call false true (.k (.fn n_message_when [] [])) [.t 9, kq 13]),
fa 11 1 1,
ld 12 11,
fa 13 2 1,
ld 14 13,
fa 15 3 1,
ld 16 15,
tq 17 (.call false true (.k (.fn n_message_checkHead [] [])) [.t 12, .t 14, .t 16]),
fa 18 4 1,
ld 19 18,
tq 20 (.len .slc (.t 19)),
tq 21 (.bin .gtr (.t 20) (kq 64)),
tq 22 (.call false true (.k (.fn n_message_when [] [])) [.t 21, kq 5]),
tq 23 (.mkList 1 3 [.t 10, .t 17, .t 22]),
tq 24 (.call false true (.k (.fn n_message_first [] [])) [.t 23]),
tq 3 (.mv (.t 24))] [6, 7, 8, 9, 10, 11, 12, 13, 14, 15, 16, 17, 18, 19, 20, 21, 22, 23, 24])
(.seq (.reg false [
tq 25 (.mv (.t 3)),
tq 26 (.bin .neq (.t 25) (kq 0))] [25])
(.cond (.t 26) (.seq (.reg false [
tq 27 (.mv (.t 3)),
tq 2 (.mv (.t 27))] [3, 27])
.ret)
 .skip)))
(.seq (.reg false [
fa 29 0 1,
ld 30 29,
fa 31 4 1,
ld 32 31,
tq 33 (.call false true (.k (.fn n_message_checkLines [] [])) [.t 30, .t 32]),
tq 28 (.mv (.t 33)),
tq 34 (.extract (.t 28) 0),
tq 35 (.extract (.t 28) 1),
tq 4 (.mv (.t 34)),
tq 5 (.mv (.t 35))] [1, 4, 28, 29, 30, 31, 32, 33, 34, 35])
(.seq (.reg false [
tq 36 (.mv (.t 5)),
tq 2 (.mv (.t 36))] [5, 36])
.ret))))⟩

def c_message_when : CF := ⟨[.tmp 4],
  (.seq (.reg false [
tq 4 (.mv (kq 0))] [4])
(.seq (.seq (.reg false [
tq 5 (.mv (.t 0))] [0])
(.cond (.t 5) (.seq (.reg false [
tq 6 (.mv (.t 1)),
tq 4 (.mv (.t 6))] [1, 6])
.ret)
 .skip))
(.seq (.reg false [
tq 4 (.mv (kq 0))] [])
.ret)))⟩

def c_message_step : CF := ⟨[.tmp 6, .tmp 7],
  (.seq (.reg false [
tq 4 (.box ty_message_Line (.t 1)),
tq 6 (.ownNil ⟨true, ty_message_Entry, 15, 168⟩),
tq 7 (.mv (kq 0))] [1, 6, 7])
(.seq (.reg false [
tq 11 (.mv (.t 0)),
fa 12 1 4,
fa 13 0 12,
ld 14 13,
tq 15 (.call true true (.k (.fn n_message_find [] [])) [.t 11, .t 14]),
tq 8 (.mv (.t 15))] [11, 12, 13, 14, 15])
(.seq (.seq (.reg false [
fa 16 0 4,
ld 17 16] [16])
(.block 0 (.seq (.seq (.reg false [
tq 19 (.bin .eql (.t 17) (.k (.d (.str [78])))),
tq 18 (.mv (.t 19))] [19])
(.cond (.t 18) .skip
 (.reg false [
tq 20 (.bin .eql (.t 17) (.k (.d (.str [72])))),
tq 18 (.mv (.t 20))] [20])))
(.cond (.t 18) (.seq (.seq (.reg false [
tq 21 (.mv (.t 8)),
tq 22 (.bin .geq (.t 21) (kq 0)),
tq 23 (.call false true (.k (.fn n_message_when [] [])) [.t 22, kq 9]),
tq 24 (.mv (.t 0)),
tq 25 (.len .slc (.t 24)),
tq 26 (.bin .geq (.t 25) (kq 64)),
tq 27 (.call false true (.k (.fn n_message_when [] [])) [.t 26, kq 5]),
tq 28 (.mkList 1 2 [.t 23, .t 27]),
tq 29 (.call false true (.k (.fn n_message_first [] [])) [.t 28]),
tq 9 (.mv (.t 29))] [8, 21, 22, 23, 24, 25, 26, 27, 28, 29])
(.seq (.reg false [
tq 30 (.mv (.t 9)),
tq 31 (.bin .neq (.t 30) (kq 0))] [30])
(.cond (.t 31) (.seq (.reg false [
tq 32 (.mv (.t 9)),
tq 6 (.ownNil ⟨true, ty_message_Entry, 15, 168⟩),
tq 7 (.mv (.t 32))] [9, 32])
.ret)
 .skip)))
(.seq (.reg false [
tq 33 (.mv (.t 0)),
fa 34 1 4,
tq 35 (.load (some 13) (.t 34)),
fa 36 0 4,
ld 37 36,
tq 38 (.bin .eql (.t 37) (.k (.d (.str [72])))),
tq 39 (.mv (.t 2)),
tq 40 (.build [.z (.str []), .z (.str []), .z (.str []), .z (.str []), .z (.str []), .z (.str []), .z (.int .i64 0), .z (.int .i64 0), .z (.int .i64 0), .z (.int .i64 0), .z (.int .i64 0), .z (.int .i64 0), .z (.int .i64 0), .z (.bool false), .z (.int .i64 0)] [(0, 13, .t 35), (13, 1, .t 38), (14, 1, .t 39)]),
tq 41 (.mkList 15 1 [.t 40]),
tq 42 (.append ⟨true, ty_message_Entry, 15, 168⟩ (.t 33) (.t 41)),
tq 6 (.mv (.t 42)),
tq 7 (.mv (kq 0))] [0, 2, 4, 33, 34, 35, 36, 37, 38, 39, 40, 41, 42])
.ret))
 (.seq (.reg false [
tq 44 (.bin .eql (.t 17) (.k (.d (.str [82])))),
tq 43 (.mv (.t 44))] [17, 44])
(.cond (.t 43) (.seq (.reg true [
tq 45 (.mv (.t 0)),
tq 46 (.mv (.t 8)),
fa 47 1 4,
tq 48 (.load (some 13) (.t 47)),
tq 49 (.mv (.t 0)),
tq 50 (.mv (.t 8)),
tq 51 (.idxAddr 15 (.t 49) (.t 50)),
fa 52 13 51,
ld 53 52,
tq 54 (.mv (.t 2)),
tq 55 (.build [.z (.str []), .z (.str []), .z (.str []), .z (.str []), .z (.str []), .z (.str []), .z (.int .i64 0), .z (.int .i64 0), .z (.int .i64 0), .z (.int .i64 0), .z (.int .i64 0), .z (.int .i64 0), .z (.int .i64 0), .z (.bool false), .z (.int .i64 0)] [(0, 13, .t 48), (13, 1, .t 53), (14, 1, .t 54)]),
tq 56 (.idxAddr 15 (.t 45) (.t 46)),
⟨none, none, .store 15 (.t 56) (.t 55)⟩] [2, 4, 8, 45, 46, 47, 48, 49, 50, 51, 52, 53, 54, 55, 56])
(.seq (.reg false [
tq 57 (.mv (.t 0)),
tq 6 (.mv (.t 57)),
tq 7 (.mv (kq 0))] [0, 57])
.ret))
 .skip))))))
(.seq (.seq (.reg false [
tq 58 (.mv (.t 8)),
tq 59 (.bin .lss (.t 58) (kq 0))] [58])
(.cond (.t 59) (.seq (.reg false [
tq 6 (.ownNil ⟨true, ty_message_Entry, 15, 168⟩),
tq 7 (.mv (kq 10))] [])
.ret)
 .skip))
(.seq (.seq (.reg true [
tq 60 (.mv (.t 0)),
tq 61 (.mv (.t 8)),
tq 62 (.idxAddr 15 (.t 60) (.t 61)),
fa 63 0 62,
tq 64 (.load (some 13) (.t 63)),
fa 65 1 4,
tq 66 (.load (some 13) (.t 65)),
tq 67 (.eqv (some [.str, .str, .str, .str, .str, .str, .int, .int, .int, .int, .int, .int, .int]) true (.t 64) (.t 66))] [60, 61, 62, 63, 64, 65, 66])
(.cond (.t 67) (.seq (.reg false [
tq 6 (.ownNil ⟨true, ty_message_Entry, 15, 168⟩),
tq 7 (.mv (kq 29))] [])
.ret)
 .skip))
(.seq (.seq (.reg false [
fa 68 0 4,
ld 69 68,
tq 70 (.bin .eql (.t 69) (.k (.d (.str [68]))))] [4, 68, 69])
(.cond (.t 70) (.seq (.reg false [
tq 71 (.mv (.t 0)),
tq 72 (.len .slc (.t 71)),
tq 73 (.bin .sub (.t 72) (kq 1)),
tq 74 (.makeRow ⟨true, ty_message_Entry, 15, 168⟩ [.str [], .str [], .str [], .str [], .str [], .str [], .int .i64 0, .int .i64 0, .int .i64 0, .int .i64 0, .int .i64 0, .int .i64 0, .int .i64 0, .bool false, .int .i64 0] (.t 73)),
tq 10 (.mv (.t 74))] [71, 72, 73, 74])
(.seq (.reg false [
tq 75 (.mv (.t 10)),
tq 76 (.mv (.t 0)),
tq 77 (.mv (.t 8)),
tq 78 (.slice 15 (.t 76) none (some (.t 77)) none),
tq 79 (.copy 15 (.t 75) (.t 78))] [75, 76, 77, 78, 79])
(.seq (.reg true [
tq 80 (.mv (.t 10)),
tq 81 (.mv (.t 8)),
tq 82 (.slice 15 (.t 80) (some (.t 81)) none none),
tq 83 (.mv (.t 0)),
tq 84 (.mv (.t 8)),
tq 85 (.bin .add (.t 84) (kq 1)),
tq 86 (.slice 15 (.t 83) (some (.t 85)) none none),
tq 87 (.copy 15 (.t 82) (.t 86))] [0, 8, 80, 81, 82, 83, 84, 85, 86, 87])
(.seq (.reg false [
tq 88 (.mv (.t 10)),
tq 6 (.mv (.t 88)),
tq 7 (.mv (kq 0))] [10, 88])
.ret))))
 .skip))
(.seq (.reg false [
tq 89 (.mv (.t 0)),
tq 6 (.mv (.t 89)),
tq 7 (.mv (kq 0))] [0, 89])
.ret)))))))⟩

def b_message_checkRequests_1 : C :=
  (.seq (.reg false [
tq 14 (.bin .lss (.t 13) (.t 12))] [])
(.seq (.cond (.t 14) .skip
 (.exit 0))
(.seq (.block 1 (.seq (.reg false [
tq 15 (.idxAddr 13 (.t 11) (.t 13)),
tq 16 (.load (some 13) (.t 15)),
tq 5 (.alloc ty_api_Request [.z (.str []), .z (.str []), .z (.str []), .z (.str []), .z (.str []), .z (.str []), .z (.int .i64 0), .z (.int .i64 0), .z (.int .i64 0), .z (.int .i64 0), .z (.int .i64 0), .z (.int .i64 0), .z (.int .i64 0)]),
⟨none, none, .store 13 (.t 5) (.t 16)⟩] [15, 16])
(.seq (.seq (.reg true [
tq 17 (.load (some 13) (.t 5)),
tq 18 (.call false true (.k (.fn n_message_CheckRequest [] [])) [.t 17]),
tq 19 (.mv (.t 3)),
fa 20 0 5,
ld 21 20,
tq 22 (.lookup .str (.bool false) false (.t 19) (.t 21)),
tq 23 (.call false true (.k (.fn n_message_when [] [])) [.t 22, kq 9]),
tq 24 (.mkList 1 2 [.t 18, .t 23]),
tq 25 (.call false true (.k (.fn n_message_first [] [])) [.t 24]),
tq 6 (.mv (.t 25))] [17, 18, 19, 20, 21, 22, 23, 24, 25])
(.seq (.reg false [
tq 26 (.mv (.t 6)),
tq 27 (.bin .neq (.t 26) (kq 0))] [26])
(.cond (.t 27) (.seq (.reg false [
tq 28 (.mv (.t 6)),
tq 2 (.mv (.t 28))] [6, 28])
.ret)
 .skip)))
(.reg false [
tq 29 (.mv (.t 3)),
fa 30 0 5,
ld 31 30,
⟨none, none, .mapSet .str (.t 29) (.t 31) (.k (.d (.bool true)))⟩] [5, 29, 30, 31]))))
(.reg false [
tq 32 (.bin .add (.t 13) (kq 1)),
tq 13 (.mv (.t 32))] [32]))))

def c_message_checkRequests : CF := ⟨[.tmp 2],
  (.seq (.reg false [
tq 2 (.mv (kq 0))] [2])
(.seq (.seq (.reg false [
tq 7 (.mv (.t 0)),
tq 8 (.len .slc (.t 7)),
tq 9 (.bin .gtr (.t 8) (kq 64))] [7, 8])
(.cond (.t 9) (.seq (.reg false [
tq 2 (.mv (kq 5))] [])
.ret)
 .skip))
(.seq (.reg false [
tq 10 (.mkMap),
tq 3 (.mv (.t 10))] [10])
(.seq (.seq (.reg false [
tq 11 (.mv (.t 0)),
tq 12 (.len .slc (.t 11)),
tq 13 (.mv (kq 0))] [0])
(.block 0 (.loop [3, 11, 12, 13] b_message_checkRequests_1)))
(.seq (.reg false [
tq 2 (.mv (kq 0))] [])
.ret)))))⟩

def c_message_Changed_1 : CF := ⟨[.cell 4 (some 13), .tmp 5],
  (.seq (.reg false [
tq 3 (.box ty_api_Request (.t 1)),
tq 4 (.alloc ty_api_Request [.z (.str []), .z (.str []), .z (.str []), .z (.str []), .z (.str []), .z (.str []), .z (.int .i64 0), .z (.int .i64 0), .z (.int .i64 0), .z (.int .i64 0), .z (.int .i64 0), .z (.int .i64 0), .z (.int .i64 0)]),
tq 5 (.mv (.k (.d (.bool false))))] [1, 5])
(.seq (.reg false [
tq 7 (.mv (.t 0)),
tq 8 (.mkFunc n_message_Changed_1_1 [] [.t 3]),
tq 9 (.call true true (.k (.fn n_slices_IndexFunc_Lapi_Request_api_Request [] [])) [.t 7, .t 8]),
tq 6 (.mv (.t 9))] [3, 7, 8, 9])
(.seq (.seq (.reg false [
tq 10 (.mv (.t 6)),
tq 11 (.bin .lss (.t 10) (kq 0))] [10])
(.cond (.t 11) (.seq (.reg false [
tq 12 (.build [.z (.str []), .z (.str []), .z (.str []), .z (.str []), .z (.str []), .z (.str []), .z (.int .i64 0), .z (.int .i64 0), .z (.int .i64 0), .z (.int .i64 0), .z (.int .i64 0), .z (.int .i64 0), .z (.int .i64 0)] []),
⟨none, none, .store 13 (.t 4) (.t 12)⟩,
tq 5 (.mv (.k (.d (.bool false))))] [12])
.ret)
 .skip))
(.seq (.reg false [
tq 13 (.mv (.t 0)),
tq 14 (.mv (.t 6)),
tq 15 (.idxAddr 13 (.t 13) (.t 14)),
tq 16 (.load (some 13) (.t 15)),
⟨none, none, .store 13 (.t 4) (.t 16)⟩,
tq 5 (.mv (.k (.d (.bool true))))] [0, 6, 13, 14, 15, 16])
.ret))))⟩

def b_slices_IndexFunc_Lapi_Request_api_Request_1 : C :=
  (.seq (.reg false [
tq 9 (.bin .lss (.t 8) (.t 7))] [])
(.seq (.cond (.t 9) .skip
 (.exit 0))
(.seq (.block 1 (.seq (.reg false [
tq 10 (.mv (.t 8)),
tq 5 (.mv (.t 10))] [10])
(.seq (.reg false [
tq 11 (.mv (.t 1)),
tq 12 (.mv (.t 0)),
tq 13 (.mv (.t 5)),
tq 14 (.idxAddr 13 (.t 12) (.t 13)),
tq 15 (.load (some 13) (.t 14)),
tq 16 (.call true true (.t 11) [.t 15])] [11, 12, 13, 14, 15])
(.cond (.t 16) (.seq (.reg false [
tq 17 (.mv (.t 5)),
tq 4 (.mv (.t 17))] [5, 17])
.ret)
 .skip))))
(.reg false [
tq 18 (.bin .add (.t 8) (kq 1)),
tq 8 (.mv (.t 18))] [18]))))

def c_slices_IndexFunc_Lapi_Request_api_Request : CF := ⟨[.tmp 4],
  (.seq (.reg false [
tq 4 (.mv (kq 0))] [4])
(.seq (.seq (.reg false [
tq 6 (.mv (.t 0)),
tq 7 (.len .slc (.t 6)),
tq 8 (.mv (kq 0))] [6])
(.block 0 (.loop [0, 1, 7, 8] b_slices_IndexFunc_Lapi_Request_api_Request_1)))
(.seq (.reg false [
tq 4 (.mv (kq (-1)))] [])
.ret)))⟩

def c_message_Changed_1_1 : CF := ⟨[.tmp 3],
  (.seq (.reg false [
tq 2 (.box ty_api_Request (.t 0)),
tq 3 (.mv (.k (.d (.bool false))))] [0, 3])
(.seq (.reg false [
tq 4 (.load (some 13) (.t 2)),
tq 5 (.load (some 13) (.t 1)),
tq 6 (.call false true (.k (.fn n_message_twins [] [])) [.t 4, .t 5]),
tq 3 (.mv (.t 6))] [1, 2, 4, 5, 6])
.ret))⟩

def c_message_twins : CF := ⟨[.tmp 4],
  (.seq (.reg false [
tq 2 (.box ty_api_Request (.t 0)),
tq 3 (.box ty_api_Request (.t 1)),
tq 4 (.mv (.k (.d (.bool false))))] [0, 1, 4])
(.seq (.reg false [
fa 5 1 2,
ld 6 5,
fa 7 1 3,
ld 8 7,
tq 9 (.bin .eql (.t 6) (.t 8)),
tq 10 (.mv (.t 9)),
⟨some 11, (some (10, true)), .fieldAddr 0 (.t 2)⟩,
⟨some 12, (some (10, true)), .load none (.t 11)⟩,
⟨some 13, (some (10, true)), .fieldAddr 0 (.t 3)⟩,
⟨some 14, (some (10, true)), .load none (.t 13)⟩,
⟨some 15, (some (10, true)), .bin .eql (.t 12) (.t 14)⟩,
tq 16 (.pick (.t 10) (.t 15) (.k (.d (.bool false)))),
tq 4 (.mv (.t 16))] [2, 3, 5, 6, 7, 8, 9, 10, 11, 12, 13, 14, 15, 16])
.ret))⟩

def b_message_filtered_api_Request_message_Line_1 : C :=
  (.seq (.reg false [
tq 13 (.bin .lss (.t 12) (.t 11))] [])
(.seq (.cond (.t 13) .skip
 (.exit 0))
(.seq (.block 1 (.seq (.reg false [
tq 14 (.idxAddr 13 (.t 10) (.t 12)),
tq 15 (.load (some 13) (.t 14)),
tq 7 (.alloc ty_api_Request [.z (.str []), .z (.str []), .z (.str []), .z (.str []), .z (.str []), .z (.str []), .z (.int .i64 0), .z (.int .i64 0), .z (.int .i64 0), .z (.int .i64 0), .z (.int .i64 0), .z (.int .i64 0), .z (.int .i64 0)]),
⟨none, none, .store 13 (.t 7) (.t 15)⟩] [14, 15])
(.seq (.reg false [
tq 17 (.mv (.t 1)),
tq 18 (.load (some 13) (.t 7)),
tq 19 (.call true true (.t 17) [.t 18]),
tq 16 (.mv (.t 19)),
tq 20 (.extract (.t 16) 0),
tq 21 (.extract (.t 16) 1),
tq 8 (.alloc ty_message_Line [.z (.str []), .z (.str []), .z (.str []), .z (.str []), .z (.str []), .z (.str []), .z (.str []), .z (.int .i64 0), .z (.int .i64 0), .z (.int .i64 0), .z (.int .i64 0), .z (.int .i64 0), .z (.int .i64 0), .z (.int .i64 0)]),
⟨none, none, .store 14 (.t 8) (.t 20)⟩,
tq 9 (.mv (.t 21))] [7, 16, 17, 18, 19, 20, 21])
(.seq (.reg false [
tq 22 (.mv (.t 9))] [9])
(.cond (.t 22) (.reg false [
tq 23 (.mv (.t 5)),
tq 24 (.load (some 14) (.t 8)),
tq 25 (.mkList 14 1 [.t 24]),
tq 26 (.append ⟨false, ty_message_Line, 14, 168⟩ (.t 23) (.t 25)),
tq 5 (.mv (.t 26))] [8, 23, 24, 25, 26])
 .skip)))))
(.reg false [
tq 27 (.bin .add (.t 12) (kq 1)),
tq 12 (.mv (.t 27))] [27]))))

def c_message_filtered_api_Request_message_Line : CF := ⟨[.tmp 4],
  (.seq (.reg false [
tq 4 (.ownNil ⟨false, ty_message_Line, 14, 168⟩)] [4])
(.seq (.reg false [
tq 5 (.ownNil ⟨false, ty_message_Line, 14, 168⟩)] [])
(.seq (.seq (.reg false [
tq 10 (.mv (.t 0)),
tq 11 (.len .slc (.t 10)),
tq 12 (.mv (kq 0))] [0])
(.block 0 (.loop [1, 5, 10, 11, 12] b_message_filtered_api_Request_message_Line_1)))
(.seq (.reg false [
tq 28 (.mv (.t 5)),
tq 4 (.mv (.t 28))] [5, 28])
.ret))))⟩

def c_message_Changed_2 : CF := ⟨[.cell 4 (some 14), .tmp 5],
  (.seq (.reg false [
tq 3 (.box ty_api_Request (.t 0)),
tq 4 (.alloc ty_message_Line [.z (.str []), .z (.str []), .z (.str []), .z (.str []), .z (.str []), .z (.str []), .z (.str []), .z (.int .i64 0), .z (.int .i64 0), .z (.int .i64 0), .z (.int .i64 0), .z (.int .i64 0), .z (.int .i64 0), .z (.int .i64 0)]),
tq 5 (.mv (.k (.d (.bool false))))] [0, 5])
(.seq (.reg false [
ld 9 1,
ld 10 2,
tq 11 (.load (some 13) (.t 3)),
tq 12 (.call false true (.t 9) [.t 10, .t 11]),
tq 8 (.mv (.t 12)),
tq 13 (.extract (.t 8) 0),
tq 14 (.extract (.t 8) 1),
tq 6 (.alloc ty_api_Request [.z (.str []), .z (.str []), .z (.str []), .z (.str []), .z (.str []), .z (.str []), .z (.int .i64 0), .z (.int .i64 0), .z (.int .i64 0), .z (.int .i64 0), .z (.int .i64 0), .z (.int .i64 0), .z (.int .i64 0)]),
⟨none, none, .store 13 (.t 6) (.t 13)⟩,
tq 7 (.mv (.t 14))] [1, 2, 6, 8, 9, 10, 11, 12, 13, 14])
(.seq (.reg false [
tq 15 (.load (some 13) (.t 3)),
tq 16 (.build [.z (.str []), .z (.str []), .z (.str []), .z (.str []), .z (.str []), .z (.str []), .z (.str []), .z (.int .i64 0), .z (.int .i64 0), .z (.int .i64 0), .z (.int .i64 0), .z (.int .i64 0), .z (.int .i64 0), .z (.int .i64 0)] [(0, 1, .k (.d (.str [68]))), (1, 13, .t 15)]),
tq 17 (.mv (.t 7)),
tq 18 (.un .not (.t 17)),
⟨none, none, .store 14 (.t 4) (.t 16)⟩,
tq 5 (.mv (.t 18))] [3, 7, 15, 16, 17, 18])
.ret)))⟩

def c_message_Changed_3 : CF := ⟨[.cell 4 (some 14), .tmp 5],
  (.seq (.reg false [
tq 3 (.box ty_api_Request (.t 0)),
tq 4 (.alloc ty_message_Line [.z (.str []), .z (.str []), .z (.str []), .z (.str []), .z (.str []), .z (.str []), .z (.str []), .z (.int .i64 0), .z (.int .i64 0), .z (.int .i64 0), .z (.int .i64 0), .z (.int .i64 0), .z (.int .i64 0), .z (.int .i64 0)]),
tq 5 (.mv (.k (.d (.bool false))))] [0, 5])
(.seq (.reg false [
ld 9 1,
ld 10 2,
tq 11 (.load (some 13) (.t 3)),
tq 12 (.call false true (.t 9) [.t 10, .t 11]),
tq 8 (.mv (.t 12)),
tq 13 (.extract (.t 8) 0),
tq 14 (.extract (.t 8) 1),
tq 6 (.alloc ty_api_Request [.z (.str []), .z (.str []), .z (.str []), .z (.str []), .z (.str []), .z (.str []), .z (.int .i64 0), .z (.int .i64 0), .z (.int .i64 0), .z (.int .i64 0), .z (.int .i64 0), .z (.int .i64 0), .z (.int .i64 0)]),
⟨none, none, .store 13 (.t 6) (.t 13)⟩,
tq 7 (.mv (.t 14))] [1, 2, 6, 8, 9, 10, 11, 12, 13, 14])
(.seq (.reg false [
tq 15 (.load (some 13) (.t 3)),
tq 16 (.build [.z (.str []), .z (.str []), .z (.str []), .z (.str []), .z (.str []), .z (.str []), .z (.str []), .z (.int .i64 0), .z (.int .i64 0), .z (.int .i64 0), .z (.int .i64 0), .z (.int .i64 0), .z (.int .i64 0), .z (.int .i64 0)] [(0, 1, .k (.d (.str [78]))), (1, 13, .t 15)]),
tq 17 (.mv (.t 7)),
tq 18 (.un .not (.t 17)),
⟨none, none, .store 14 (.t 4) (.t 16)⟩,
tq 5 (.mv (.t 18))] [3, 7, 15, 16, 17, 18])
.ret)))⟩

def b_ref01_IsName_1 : C :=
  (.seq (.seq (.reg false [
tq 14 (.mv (.t 3)),
tq 15 (.mv (.t 0)),
tq 16 (.len .str (.t 15)),
tq 17 (.bin .lss (.t 14) (.t 16))] [14, 15, 16])
(.cond (.t 17) .skip
 (.exit 0)))
(.seq (.block 1 (.seq (.reg false [
tq 20 (.mv (.t 0)),
tq 21 (.mv (.t 3)),
tq 22 (.idxS (.t 20) (.t 21)),
tq 4 (.mv (.t 22))] [20, 21, 22])
(.seq (.reg false [
tq 23 (.mv (.t 4)),
tq 24 (.bin .geq (.t 23) (.k (.d (.int .u8 97)))),
tq 25 (.mv (.t 24)),
⟨some 26, (some (25, true)), .mv (.t 4)⟩,
⟨some 27, (some (25, true)), .bin .leq (.t 26) (.k (.d (.int .u8 122)))⟩,
tq 28 (.pick (.t 25) (.t 27) (.k (.d (.bool false)))),
tq 29 (.mv (.t 28)),
⟨some 30, (some (29, false)), .mv (.t 4)⟩,
⟨some 31, (some (29, false)), .bin .geq (.t 30) (.k (.d (.int .u8 65)))⟩,
⟨some 32, (some (29, false)), .mv (.t 31)⟩,
⟨some 33, (some (32, true)), .mv (.t 4)⟩,
⟨some 34, (some (32, true)), .bin .leq (.t 33) (.k (.d (.int .u8 90)))⟩,
⟨some 35, (some (29, false)), .pick (.t 32) (.t 34) (.k (.d (.bool false)))⟩,
tq 36 (.pick (.t 29) (.k (.d (.bool true))) (.t 35)),
tq 5 (.mv (.t 36))] [23, 24, 25, 26, 27, 28, 29, 30, 31, 32, 33, 34, 35, 36])
(.seq (.reg false [
tq 37 (.mv (.t 5)),
tq 38 (.un .not (.t 37)),
tq 39 (.mv (.t 38)),
⟨some 40, (some (39, true)), .mv (.t 3)⟩,
⟨some 41, (some (39, true)), .bin .eql (.t 40) (kq 0)⟩,
⟨some 42, (some (39, true)), .mv (.t 41)⟩,
⟨some 43, (some (42, false)), .mv (.t 4)⟩,
⟨some 44, (some (42, false)), .bin .neq (.t 43) (.k (.d (.int .u8 95)))⟩,
⟨some 45, (some (42, false)), .mv (.t 44)⟩,
⟨some 46, (some (45, true)), .mv (.t 4)⟩,
⟨some 47, (some (45, true)), .bin .lss (.t 46) (.k (.d (.int .u8 48)))⟩,
⟨some 48, (some (45, true)), .mv (.t 47)⟩,
⟨some 49, (some (48, false)), .mv (.t 4)⟩,
⟨some 50, (some (48, false)), .bin .gtr (.t 49) (.k (.d (.int .u8 57)))⟩,
⟨some 51, (some (45, true)), .pick (.t 48) (.k (.d (.bool true))) (.t 50)⟩,
⟨some 52, (some (42, false)), .pick (.t 45) (.t 51) (.k (.d (.bool false)))⟩,
⟨some 53, (some (39, true)), .pick (.t 42) (.k (.d (.bool true))) (.t 52)⟩,
tq 54 (.pick (.t 39) (.t 53) (.k (.d (.bool false))))] [4, 5, 37, 38, 39, 40, 41, 42, 43, 44, 45, 46, 47, 48, 49, 50, 51, 52, 53])
(.cond (.t 54) (.seq (.reg false [
tq 2 (.mv (.k (.d (.bool false))))] [])
.ret)
 .skip)))))
(.reg false [
tq 18 (.mv (.t 3)),
tq 19 (.bin .add (.t 18) (kq 1)),
tq 3 (.mv (.t 19))] [18, 19])))

def c_ref01_IsName : CF := ⟨[.tmp 2],
  (.seq (.reg false [
tq 2 (.mv (.k (.d (.bool false))))] [2])
(.seq (.seq (.reg false [
tq 6 (.mv (.t 0)),
tq 7 (.len .str (.t 6)),
tq 8 (.bin .eql (.t 7) (kq 0)),
tq 9 (.mv (.t 8)),
⟨some 10, (some (9, false)), .mv (.t 0)⟩,
⟨some 11, (some (9, false)), .len .str (.t 10)⟩,
⟨some 12, (some (9, false)), .bin .gtr (.t 11) (kq 24)⟩,
tq 13 (.pick (.t 9) (.k (.d (.bool true))) (.t 12))] [6, 7, 8, 9, 10, 11, 12])
(.cond (.t 13) (.seq (.reg false [
tq 2 (.mv (.k (.d (.bool false))))] [])
.ret)
 .skip))
(.seq (.seq (.reg false [
tq 3 (.mv (kq 0))] [])
(.block 0 (.loop [0, 3] b_ref01_IsName_1)))
(.seq (.reg false [
tq 2 (.mv (.k (.d (.bool true))))] [])
.ret))))⟩

def c_ref02_optional : CF := ⟨[.tmp 2],
  (.seq (.reg false [
tq 2 (.mv (.k (.d (.bool false))))] [2])
(.seq (.reg false [
tq 3 (.mv (.t 0)),
tq 4 (.bin .eql (.t 3) (.k (.d (.str [])))),
tq 5 (.mv (.t 4)),
⟨some 6, (some (5, false)), .mv (.t 0)⟩,
⟨some 7, (some (5, false)), .call false true (.k (.fn n_ref01_IsName [] [])) [.t 6]⟩,
tq 8 (.pick (.t 5) (.k (.d (.bool true))) (.t 7)),
tq 2 (.mv (.t 8))] [0, 3, 4, 5, 6, 7, 8])
.ret))⟩

def c_ref01_CheckPeriod : CF := ⟨[.tmp 2],
  (.seq (.reg false [
tq 1 (.box ty_api_Period (.t 0)),
tq 2 (.mv (kq 0))] [0, 2])
(.seq (.seq (.reg false [
fa 3 0 1,
ld 4 3,
tq 5 (.call false true (.k (.fn n_ref01_CheckDay [] [])) [.t 4]),
tq 6 (.bin .neq (.t 5) (kq 0)),
tq 7 (.mv (.t 6)),
⟨some 8, (some (7, false)), .fieldAddr 1 (.t 1)⟩,
⟨some 9, (some (7, false)), .load none (.t 8)⟩,
⟨some 10, (some (7, false)), .call false true (.k (.fn n_ref01_CheckDay [] [])) [.t 9]⟩,
⟨some 11, (some (7, false)), .bin .neq (.t 10) (kq 0)⟩,
tq 12 (.pick (.t 7) (.k (.d (.bool true))) (.t 11))] [3, 4, 5, 6, 7, 8, 9, 10, 11])
(.cond (.t 12) (.seq (.reg false [
tq 2 (.mv (kq 3))] [])
.ret)
 .skip))
(.seq (.seq (.reg false [
fa 13 1 1,
ld 14 13,
fa 15 0 1,
ld 16 15,
tq 17 (.bin .lss (.t 14) (.t 16))] [13, 14, 15, 16])
(.cond (.t 17) (.seq (.reg false [
tq 2 (.mv (kq 11))] [])
.ret)
 .skip))
(.seq (.seq (.reg false [
fa 18 1 1,
ld 19 18,
fa 20 0 1,
ld 21 20,
tq 22 (.bin .sub (.t 19) (.t 21)),
tq 23 (.bin .gtr (.t 22) (kq 400))] [18, 19, 20, 21, 22])
(.cond (.t 23) (.seq (.reg false [
tq 2 (.mv (kq 4))] [])
.ret)
 .skip))
(.seq (.reg false [
fa 24 2 1,
ld 25 24,
tq 26 (.call false true (.k (.fn n_ref01_CheckRange [] [])) [.t 25, kq 1, kq 127]),
tq 2 (.mv (.t 26))] [1, 24, 25, 26])
.ret)))))⟩

def b_ref01_First_1 : C :=
  (.seq (.seq (.reg false [
tq 4 (.mv (.t 3)),
tq 5 (.mv (.t 0)),
tq 6 (.len .slc (.t 5)),
tq 7 (.bin .lss (.t 4) (.t 6))] [4, 5, 6])
(.cond (.t 7) .skip
 (.exit 0)))
(.seq (.block 1 (.seq (.reg false [
tq 10 (.mv (.t 0)),
tq 11 (.mv (.t 3)),
tq 12 (.idxAddr 1 (.t 10) (.t 11)),
ld 13 12,
tq 14 (.bin .neq (.t 13) (kq 0))] [10, 11, 12, 13])
(.cond (.t 14) (.seq (.reg false [
tq 15 (.mv (.t 0)),
tq 16 (.mv (.t 3)),
tq 17 (.idxAddr 1 (.t 15) (.t 16)),
ld 18 17,
tq 2 (.mv (.t 18))] [0, 3, 15, 16, 17, 18])
.ret)
 .skip)))
(.reg false [
tq 8 (.mv (.t 3)),
tq 9 (.bin .add (.t 8) (kq 1)),
tq 3 (.mv (.t 9))] [8, 9])))

def c_ref01_First : CF := ⟨[.tmp 2],
  (.seq (.reg false [
tq 2 (.mv (kq 0))] [2])
(.seq (.seq (.reg false [
tq 3 (.mv (kq 0))] [])
(.block 0 (.loop [0, 3] b_ref01_First_1)))
(.seq (.reg false [
tq 2 (.mv (kq 0))] [])
.ret)))⟩

def c_ref01_CheckRange : CF := ⟨[.tmp 6],
  (.seq (.reg false [
tq 6 (.mv (kq 0))] [6])
(.seq (.seq (.reg false [
tq 7 (.mv (.t 0)),
tq 8 (.mv (.t 1)),
tq 9 (.bin .lss (.t 7) (.t 8)),
tq 10 (.mv (.t 9)),
⟨some 11, (some (10, false)), .mv (.t 0)⟩,
⟨some 12, (some (10, false)), .mv (.t 2)⟩,
⟨some 13, (some (10, false)), .bin .gtr (.t 11) (.t 12)⟩,
tq 14 (.pick (.t 10) (.k (.d (.bool true))) (.t 13))] [0, 1, 2, 7, 8, 9, 10, 11, 12, 13])
(.cond (.t 14) (.seq (.reg false [
tq 6 (.mv (kq 3))] [])
.ret)
 .skip))
(.seq (.reg false [
tq 6 (.mv (kq 0))] [])
.ret)))⟩

def c_calendar_CheckPeriod : CF := ⟨[.tmp 2],
  (.seq (.reg false [
tq 1 (.box ty_api_Period (.t 0)),
tq 2 (.mv (kq 0))] [0, 2])
(.seq (.seq (.reg true [
fa 4 0 1,
ld 5 4,
tq 6 (.call false true (.k (.fn n_calendar_checkDay [] [])) [.t 5]),
fa 7 1 1,
ld 8 7,
tq 9 (.call false true (.k (.fn n_calendar_checkDay [] [])) [.t 8]),
tq 10 (.mkList 1 2 [.t 6, .t 9]),
tq 11 (.call false true (.k (.fn n_calendar_first [] [])) [.t 10]),
tq 3 (.mv (.t 11))] [4, 5, 6, 7, 8, 9, 10, 11])
(.seq (.reg false [
tq 12 (.mv (.t 3)),
tq 13 (.bin .neq (.t 12) (kq 0))] [12])
(.cond (.t 13) (.seq (.reg false [
tq 14 (.mv (.t 3)),
tq 2 (.mv (.t 14))] [3, 14])
.ret)
 .skip)))
(.seq (.reg true [
fa 15 1 1,
ld 16 15,
fa 17 0 1,
ld 18 17,
tq 19 (.bin .lss (.t 16) (.t 18)),
tq 20 (.call false true (.k (.fn n_calendar_when [] [])) [.t 19, kq 11]),
fa 21 1 1,
ld 22 21,
fa 23 0 1,
ld 24 23,
tq 25 (.bin .sub (.t 22) (.t 24)),
tq 26 (.bin .gtr (.t 25) (kq 400)),
tq 27 (.call false true (.k (.fn n_calendar_when [] [])) [.t 26, kq 4]),
fa 28 2 1,
ld 29 28,
tq 30 (.call false true (.k (.fn n_calendar_within [] [])) [.t 29, kq 1, kq 127]),
tq 31 (.mkList 1 3 [.t 20, .t 27, .t 30]),
tq 32 (.call false true (.k (.fn n_calendar_first [] [])) [.t 31]),
tq 2 (.mv (.t 32))] [1, 15, 16, 17, 18, 19, 20, 21, 22, 23, 24, 25, 26, 27, 28, 29, 30, 31, 32])
.ret)))⟩

def b_calendar_first_1 : C :=
  (.seq (.reg false [
tq 8 (.bin .lss (.t 7) (.t 6))] [])
(.seq (.cond (.t 8) .skip
 (.exit 0))
(.seq (.block 1 (.seq (.reg false [
tq 9 (.idxAddr 1 (.t 5) (.t 7)),
ld 10 9,
tq 4 (.mv (.t 10))] [9, 10])
(.seq (.reg false [
tq 11 (.mv (.t 4)),
tq 12 (.bin .neq (.t 11) (kq 0))] [11])
(.cond (.t 12) (.seq (.reg false [
tq 13 (.mv (.t 4)),
tq 2 (.mv (.t 13))] [4, 13])
.ret)
 .skip))))
(.reg false [
tq 14 (.bin .add (.t 7) (kq 1)),
tq 7 (.mv (.t 14))] [14]))))

def c_calendar_first : CF := ⟨[.tmp 2],
  (.seq (.reg false [
tq 2 (.mv (kq 0))] [2])
(.seq (.seq (.reg false [
tq 5 (.mv (.t 0)),
tq 6 (.len .slc (.t 5)),
tq 7 (.mv (kq 0))] [0])
(.block 0 (.loop [5, 6, 7] b_calendar_first_1)))
(.seq (.reg false [
tq 2 (.mv (kq 0))] [])
.ret)))⟩

def c_calendar_checkDay : CF := ⟨[.tmp 2],
  (.seq (.reg false [
tq 2 (.mv (kq 0))] [2])
(.seq (.reg false [
tq 3 (.mv (.t 0)),
tq 4 (.call false true (.k (.fn n_calendar_within [] [])) [.t 3, kq 0, kq 99999]),
tq 2 (.mv (.t 4))] [0, 3, 4])
.ret))⟩

def c_calendar_when : CF := ⟨[.tmp 4],
  (.seq (.reg false [
tq 4 (.mv (kq 0))] [4])
(.seq (.seq (.reg false [
tq 5 (.mv (.t 0))] [0])
(.cond (.t 5) (.seq (.reg false [
tq 6 (.mv (.t 1)),
tq 4 (.mv (.t 6))] [1, 6])
.ret)
 .skip))
(.seq (.reg false [
tq 4 (.mv (kq 0))] [])
.ret)))⟩

def c_message_within : CF := ⟨[.tmp 6],
  (.seq (.reg false [
tq 6 (.mv (kq 0))] [6])
(.seq (.reg false [
tq 7 (.mv (.t 0)),
tq 8 (.mv (.t 1)),
tq 9 (.bin .lss (.t 7) (.t 8)),
tq 10 (.mv (.t 9)),
⟨some 11, (some (10, false)), .mv (.t 0)⟩,
⟨some 12, (some (10, false)), .mv (.t 2)⟩,
⟨some 13, (some (10, false)), .bin .gtr (.t 11) (.t 12)⟩,
tq 14 (.pick (.t 10) (.k (.d (.bool true))) (.t 13)),
tq 15 (.call false true (.k (.fn n_message_when [] [])) [.t 14, kq 3]),
tq 6 (.mv (.t 15))] [0, 1, 2, 7, 8, 9, 10, 11, 12, 13, 14, 15])
.ret))⟩

def c_message_wide : CF := ⟨[.tmp 4],
  (.seq (.reg false [
tq 4 (.mv (.k (.d (.str []))))] [4])
(.seq (.reg false [
tq 6 (.mv (.t 0)),
tq 7 (.call false true (.k (.fn n_strconv_Itoa [] [])) [.t 6]),
tq 5 (.mv (.t 7))] [0, 6, 7])
(.seq (.reg false [
tq 8 (.mv (.t 1)),
tq 9 (.mv (.t 5)),
tq 10 (.len .str (.t 9)),
tq 11 (.bin .sub (.t 8) (.t 10)),
tq 12 (.minmax true [kq 0, .t 11]),
tq 13 (.call false true (.k (.fn n_strings_Repeat [] [])) [.k (.d (.str [48])), .t 12]),
tq 14 (.mv (.t 5)),
tq 15 (.bin .add (.t 13) (.t 14)),
tq 4 (.mv (.t 15))] [1, 5, 8, 9, 10, 11, 12, 13, 14, 15])
.ret)))⟩

def b_message_number_1 : C :=
  (.seq (.reg false [
tq 15 (.nextS (.t 14)),
tq 16 (.extract (.t 15) 0)] [])
(.seq (.cond (.t 16) .skip
 (.exit 0))
(.block 1 (.seq (.reg false [
tq 17 (.extract (.t 15) 2),
tq 8 (.mv (.t 17))] [15, 17])
(.seq (.seq (.reg false [
tq 18 (.mv (.t 8)),
tq 19 (.bin .lss (.t 18) (.k (.d (.int .i32 48)))),
tq 20 (.mv (.t 19)),
⟨some 21, (some (20, false)), .mv (.t 8)⟩,
⟨some 22, (some (20, false)), .bin .gtr (.t 21) (.k (.d (.int .i32 57)))⟩,
tq 23 (.pick (.t 20) (.k (.d (.bool true))) (.t 22))] [18, 19, 20, 21, 22])
(.cond (.t 23) (.seq (.reg false [
tq 4 (.mv (kq 0)),
tq 5 (.mv (.k (.d (.bool false))))] [])
.ret)
 .skip))
(.reg false [
tq 24 (.mv (.t 6)),
tq 25 (.bin .mul (kq 10) (.t 24)),
tq 26 (.mv (.t 8)),
tq 27 (.bin .sub (.t 26) (.k (.d (.int .i32 48)))),
tq 28 (.conv .i64 (.t 27)),
tq 29 (.bin .add (.t 25) (.t 28)),
tq 6 (.mv (.t 29))] [8, 24, 25, 26, 27, 28, 29]))))))

def c_message_number : CF := ⟨[.tmp 4, .tmp 5],
  (.seq (.reg false [
tq 4 (.mv (kq 0)),
tq 5 (.mv (.k (.d (.bool false))))] [4, 5])
(.seq (.seq (.reg false [
tq 9 (.mv (.t 0)),
tq 10 (.len .str (.t 9)),
tq 11 (.mv (.t 1)),
tq 12 (.bin .neq (.t 10) (.t 11))] [1, 9, 10, 11])
(.cond (.t 12) (.seq (.reg false [
tq 4 (.mv (kq 0)),
tq 5 (.mv (.k (.d (.bool false))))] [])
.ret)
 .skip))
(.seq (.reg false [
tq 6 (.mv (kq 0))] [])
(.seq (.seq (.reg false [
tq 13 (.mv (.t 0)),
tq 14 (.rangeS (.t 13))] [0, 13])
(.block 0 (.loop [6, 14] b_message_number_1)))
(.seq (.reg false [
tq 30 (.mv (.t 6)),
tq 4 (.mv (.t 30)),
tq 5 (.mv (.k (.d (.bool true))))] [6, 30])
.ret)))))⟩

def c_message_CheckLine : CF := ⟨[.tmp 2],
  (.seq (.reg false [
tq 1 (.box ty_message_Line (.t 0)),
tq 2 (.mv (kq 0))] [0, 2])
(.seq (.reg true [
fa 3 0 1,
ld 4 3,
tq 5 (.call false true (.k (.fn n_message_isAction [] [])) [.t 4]),
tq 6 (.un .not (.t 5)),
tq 7 (.call false true (.k (.fn n_message_when [] [])) [.t 6, kq 13]),
fa 8 1 1,
tq 9 (.load (some 13) (.t 8)),
tq 10 (.call false true (.k (.fn n_message_CheckRequest [] [])) [.t 9]),
tq 11 (.mkList 1 2 [.t 7, .t 10]),
tq 12 (.call false true (.k (.fn n_message_first [] [])) [.t 11]),
tq 2 (.mv (.t 12))] [1, 3, 4, 5, 6, 7, 8, 9, 10, 11, 12])
.ret))⟩

def b_message_printLine_1 : C :=
  (.seq (.reg false [
tq 8 (.bin .lss (.t 7) (kq 14))] [])
(.seq (.cond (.t 8) .skip
 (.exit 0))
(.seq (.block 1 (.seq (.reg false [
tq 9 (.idxA 14 2 (some 2) (.t 6) (.t 7)),
tq 5 (.alloc ty_message_field [.z (.nilf), .z (.nilf)]),
⟨none, none, .store 2 (.t 5) (.t 9)⟩] [9])
(.reg false [
tq 10 (.mv (.t 3)),
fa 11 0 5,
ld 12 11,
tq 13 (.load (some 14) (.t 1)),
tq 14 (.call true true (.t 12) [.t 13]),
tq 15 (.mkList 1 1 [.t 14]),
tq 16 (.append ⟨false, ty_string, 1, 16⟩ (.t 10) (.t 15)),
tq 3 (.mv (.t 16))] [5, 10, 11, 12, 13, 14, 15, 16])))
(.reg false [
tq 17 (.bin .add (.t 7) (kq 1)),
tq 7 (.mv (.t 17))] [17]))))

def c_message_printLine : CF := ⟨[.tmp 2],
  (.seq (.reg false [
tq 1 (.box ty_message_Line (.t 0)),
tq 2 (.mv (.k (.d (.str []))))] [0, 2])
(.seq (.reg false [
tq 3 (.ownNil ⟨false, ty_string, 1, 16⟩)] [])
(.seq (.seq (.reg false [
tq 6 (.call false false (.k (.fn n_message_fields [] [])) []),
tq 7 (.mv (kq 0))] [])
(.block 0 (.loop [1, 3, 6, 7] b_message_printLine_1)))
(.seq (.reg false [
tq 18 (.mv (.t 3)),
tq 19 (.call false true (.k (.fn n_strings_Join [] [])) [.t 18, .k (.d (.str [32]))]),
tq 2 (.mv (.t 19))] [3, 18, 19])
.ret))))⟩

def c_message_fields : CF := ⟨[.cell 0 (some 28)],
  (.seq (.reg false [
tq 0 (.alloc ty_14_message_field [.z (.nilf), .z (.nilf), .z (.nilf), .z (.nilf), .z (.nilf), .z (.nilf), .z (.nilf), .z (.nilf), .z (.nilf), .z (.nilf), .z (.nilf), .z (.nilf), .z (.nilf), .z (.nilf), .z (.nilf), .z (.nilf), .z (.nilf), .z (.nilf), .z (.nilf), .z (.nilf), .z (.nilf), .z (.nilf), .z (.nilf), .z (.nilf), .z (.nilf), .z (.nilf), .z (.nilf), .z (.nilf)])] [])
(.seq (.reg false [
tq 1 (.call true false (.k (.fn n_message_text [] [])) [.k (.fn n_message_fields_1 [] []), .k (.fn n_message_isAction [] [])]),
tq 2 (.call true false (.k (.fn n_message_text [] [])) [.k (.fn n_message_fields_2 [] []), .k (.fn n_calendar_IsName [] [])]),
tq 3 (.call true false (.k (.fn n_message_text [] [])) [.k (.fn n_message_fields_3 [] []), .k (.fn n_calendar_IsName [] [])]),
tq 4 (.call true false (.k (.fn n_message_text [] [])) [.k (.fn n_message_fields_4 [] []), .k (.fn n_message_isKind [] [])]),
tq 5 (.call true false (.k (.fn n_message_text [] [])) [.k (.fn n_message_fields_5 [] []), .k (.fn n_calendar_IsName [] [])]),
tq 6 (.call true false (.k (.fn n_message_digits [] [])) [.k (.fn n_message_fields_6 [] []), kq 5]),
tq 7 (.call true false (.k (.fn n_message_digits [] [])) [.k (.fn n_message_fields_7 [] []), kq 5]),
tq 8 (.build [.z (.nilf), .z (.nilf)] [(0, 1, .k (.fn n_message_fields_8 [] [])), (1, 1, .k (.fn n_message_fields_9 [] []))]),
tq 9 (.build [.z (.nilf), .z (.nilf)] [(0, 1, .k (.fn n_message_fields_10 [] [])), (1, 1, .k (.fn n_message_fields_11 [] []))]),
tq 10 (.call true false (.k (.fn n_message_digits [] [])) [.k (.fn n_message_fields_12 [] []), kq 3]),
tq 11 (.call true false (.k (.fn n_message_digits [] [])) [.k (.fn n_message_fields_13 [] []), kq 1]),
tq 12 (.call true false (.k (.fn n_message_digits [] [])) [.k (.fn n_message_fields_14 [] []), kq 2]),
tq 13 (.call true false (.k (.fn n_message_dashed [] [])) [.k (.fn n_message_fields_15 [] [])]),
tq 14 (.call true false (.k (.fn n_message_dashed [] [])) [.k (.fn n_message_fields_16 [] [])]),
tq 15 (.build [.z (.nilf), .z (.nilf), .z (.nilf), .z (.nilf), .z (.nilf), .z (.nilf), .z (.nilf), .z (.nilf), .z (.nilf), .z (.nilf), .z (.nilf), .z (.nilf), .z (.nilf), .z (.nilf), .z (.nilf), .z (.nilf), .z (.nilf), .z (.nilf), .z (.nilf), .z (.nilf), .z (.nilf), .z (.nilf), .z (.nilf), .z (.nilf), .z (.nilf), .z (.nilf), .z (.nilf), .z (.nilf)] [(0, 2, .t 1), (2, 2, .t 2), (4, 2, .t 3), (6, 2, .t 4), (8, 2, .t 5), (10, 2, .t 6), (12, 2, .t 7), (14, 2, .t 8), (16, 2, .t 9), (18, 2, .t 10), (20, 2, .t 11), (22, 2, .t 12), (24, 2, .t 13), (26, 2, .t 14)]),
⟨none, none, .store 28 (.t 0) (.t 15)⟩] [1, 2, 3, 4, 5, 6, 7, 8, 9, 10, 11, 12, 13, 14, 15])
.ret))⟩

def c_strings_Builder_WriteString : CF := ⟨[.tmp 4, .tmp 5],
  (.seq (.reg false [
tq 4 (.mv (kq 0)),
tq 5 (.mv (.k (.d (.nili))))] [4, 5])
(.seq (.reg false [
tq 6 (.mv (.t 0)),
tq 7 (.call true true (.k (.fn n_strings_Builder_copyCheck [] [])) [.t 6])] [6, 7])
(.seq (.reg false [
tq 8 (.mv (.t 0)),
tq 9 (.mv (.t 0)),
tq 10 (.nilCheck (.t 9)),
fa 11 1 10,
ld 12 11,
tq 13 (.mv (.t 1)),
tq 14 (.appendS ⟨false, ty_uint8, 1, 1⟩ (.t 12) (.t 13)),
tq 15 (.nilCheck (.t 8)),
fa 16 1 15,
⟨none, none, .store 1 (.t 16) (.t 14)⟩] [0, 8, 9, 10, 11, 12, 13, 14, 15, 16])
(.seq (.reg false [
tq 17 (.mv (.t 1)),
tq 18 (.len .str (.t 17)),
tq 4 (.mv (.t 18)),
tq 5 (.mv (.k (.d (.nili))))] [1, 17, 18])
.ret))))⟩

def c_message_texts : CF := ⟨[.tmp 2],
  (.seq (.reg false [
tq 1 (.box ty_string (.t 0)),
tq 2 (.mv (.k (.d (.nilf))))] [0, 2])
(.seq (.reg false [
tq 3 (.mkFunc n_message_texts_1 [] [.t 1]),
tq 2 (.mv (.t 3))] [1, 3])
.ret))⟩

def c_strings_CutSuffix : CF := ⟨[.tmp 4, .tmp 5],
  (.seq (.reg false [
tq 4 (.mv (.k (.d (.str [])))),
tq 5 (.mv (.k (.d (.bool false))))] [4, 5])
(.seq (.reg false [
tq 6 (.mv (.t 0)),
tq 7 (.mv (.t 1)),
tq 8 (.call false true (.k (.fn n_internal_stringslite_CutSuffix [] [])) [.t 6, .t 7]),
tq 9 (.extract (.t 8) 0),
tq 10 (.extract (.t 8) 1),
tq 4 (.mv (.t 9)),
tq 5 (.mv (.t 10))] [0, 1, 6, 7, 8, 9, 10])
.ret))⟩

def c_message_head : CF := ⟨[.cell 2 (some 5), .tmp 3],
  (.seq (.reg false [
tq 2 (.alloc ty_message_Message [.z (.str []), .z (.str []), .z (.str []), .z (.int .i64 0), .own ⟨false, ty_message_Line, 14, 168⟩]),
tq 3 (.mv (.k (.d (.bool false))))] [3])
(.seq (.reg false [
tq 10 (.mv (.t 0)),
tq 11 (.call false true (.k (.fn n_strings_CutSuffix [] [])) [.t 10, .k (.d (.str [10]))]),
tq 9 (.mv (.t 11)),
tq 12 (.extract (.t 9) 0),
tq 13 (.extract (.t 9) 1),
tq 4 (.mv (.t 12)),
tq 5 (.mv (.t 13))] [0, 9, 10, 11, 12, 13])
(.seq (.reg false [
tq 14 (.mv (.t 4)),
tq 15 (.call false true (.k (.fn n_strings_Split [] [])) [.t 14, .k (.d (.str [32]))]),
tq 6 (.mv (.t 15))] [4, 14, 15])
(.seq (.seq (.reg false [
tq 16 (.mv (.t 5)),
tq 17 (.un .not (.t 16)),
tq 18 (.mv (.t 17)),
⟨some 19, (some (18, false)), .mv (.t 6)⟩,
⟨some 20, (some (18, false)), .len .slc (.t 19)⟩,
⟨some 21, (some (18, false)), .bin .neq (.t 20) (kq 5)⟩,
tq 22 (.pick (.t 18) (.k (.d (.bool true))) (.t 21)),
tq 23 (.mv (.t 22)),
⟨some 24, (some (23, false)), .mv (.t 6)⟩,
⟨some 25, (some (23, false)), .idxAddr 1 (.t 24) (kq 0)⟩,
⟨some 26, (some (23, false)), .load none (.t 25)⟩,
⟨some 27, (some (23, false)), .bin .neq (.t 26) (.k (.d (.str [83, 76, 79, 84, 83])))⟩,
tq 28 (.pick (.t 23) (.k (.d (.bool true))) (.t 27)),
tq 29 (.mv (.t 28)),
⟨some 30, (some (29, false)), .mv (.t 6)⟩,
⟨some 31, (some (29, false)), .idxAddr 1 (.t 30) (kq 1)⟩,
⟨some 32, (some (29, false)), .load none (.t 31)⟩,
⟨some 33, (some (29, false)), .call false true (.k (.fn n_message_isMessage [] [])) [.t 32]⟩,
⟨some 34, (some (29, false)), .un .not (.t 33)⟩,
tq 35 (.pick (.t 29) (.k (.d (.bool true))) (.t 34))] [5, 16, 17, 18, 19, 20, 21, 22, 23, 24, 25, 26, 27, 28, 29, 30, 31, 32, 33, 34])
(.cond (.t 35) (.seq (.reg false [
tq 36 (.build [.z (.str []), .z (.str []), .z (.str []), .z (.int .i64 0), .own ⟨false, ty_message_Line, 14, 168⟩] []),
⟨none, none, .store 5 (.t 2) (.t 36)⟩,
tq 3 (.mv (.k (.d (.bool false))))] [36])
.ret)
 .skip))
(.seq (.reg false [
tq 38 (.mv (.t 6)),
tq 39 (.idxAddr 1 (.t 38) (kq 4)),
ld 40 39,
tq 41 (.call false true (.k (.fn n_message_number [] [])) [.t 40, kq 5]),
tq 37 (.mv (.t 41)),
tq 42 (.extract (.t 37) 0),
tq 43 (.extract (.t 37) 1),
tq 7 (.mv (.t 42)),
tq 8 (.mv (.t 43))] [37, 38, 39, 40, 41, 42, 43])
(.seq (.reg true [
tq 44 (.mv (.t 6)),
tq 45 (.idxAddr 1 (.t 44) (kq 1)),
ld 46 45,
tq 47 (.mv (.t 6)),
tq 48 (.idxAddr 1 (.t 47) (kq 2)),
ld 49 48,
tq 50 (.mv (.t 6)),
tq 51 (.idxAddr 1 (.t 50) (kq 3)),
ld 52 51,
tq 53 (.mv (.t 7)),
tq 54 (.build [.z (.str []), .z (.str []), .z (.str []), .z (.int .i64 0), .own ⟨false, ty_message_Line, 14, 168⟩] [(0, 1, .t 46), (1, 1, .t 49), (2, 1, .t 52), (3, 1, .t 53)]),
tq 55 (.mv (.t 8)),
tq 56 (.mv (.t 55)),
⟨some 57, (some (56, true)), .mv (.t 6)⟩,
⟨some 58, (some (56, true)), .idxAddr 1 (.t 57) (kq 2)⟩,
⟨some 59, (some (56, true)), .load none (.t 58)⟩,
⟨some 60, (some (56, true)), .mv (.t 6)⟩,
⟨some 61, (some (56, true)), .idxAddr 1 (.t 60) (kq 3)⟩,
⟨some 62, (some (56, true)), .load none (.t 61)⟩,
⟨some 63, (some (56, true)), .mv (.t 7)⟩,
⟨some 64, (some (56, true)), .call false true (.k (.fn n_message_checkHead [] [])) [.t 59, .t 62, .t 63]⟩,
⟨some 65, (some (56, true)), .bin .eql (.t 64) (kq 0)⟩,
tq 66 (.pick (.t 56) (.t 65) (.k (.d (.bool false)))),
⟨none, none, .store 5 (.t 2) (.t 54)⟩,
tq 3 (.mv (.t 66))] [6, 7, 8, 44, 45, 46, 47, 48, 49, 50, 51, 52, 53, 54, 55, 56, 57, 58, 59, 60, 61, 62, 63, 64, 65, 66])
.ret))))))⟩

def b_message_checkLines_1 : C :=
  (.seq (.reg false [
tq 15 (.bin .lss (.t 14) (.t 13))] [])
(.seq (.cond (.t 15) .skip
 (.exit 0))
(.seq (.block 1 (.seq (.reg false [
tq 16 (.mv (.t 14)),
tq 17 (.idxAddr 14 (.t 12) (.t 14)),
tq 18 (.load (some 14) (.t 17)),
tq 7 (.alloc ty_message_Line [.z (.str []), .z (.str []), .z (.str []), .z (.str []), .z (.str []), .z (.str []), .z (.str []), .z (.int .i64 0), .z (.int .i64 0), .z (.int .i64 0), .z (.int .i64 0), .z (.int .i64 0), .z (.int .i64 0), .z (.int .i64 0)]),
tq 6 (.mv (.t 16)),
⟨none, none, .store 14 (.t 7) (.t 18)⟩] [16, 17, 18])
(.seq (.reg false [
tq 19 (.mv (.t 6)),
tq 20 (.bin .gtr (.t 19) (kq 0)),
tq 21 (.mv (.t 20)),
⟨some 22, (some (21, true)), .mv (.t 1)⟩,
⟨some 23, (some (21, true)), .mv (.t 6)⟩,
⟨some 24, (some (21, true)), .bin .sub (.t 23) (kq 1)⟩,
⟨some 25, (some (21, true)), .idxAddr 14 (.t 22) (.t 24)⟩,
⟨some 26, (some (21, true)), .fieldAddr 0 (.t 25)⟩,
⟨some 27, (some (21, true)), .load none (.t 26)⟩,
⟨some 28, (some (21, true)), .bin .eql (.t 27) (.k (.d (.str [67])))⟩,
tq 29 (.pick (.t 21) (.t 28) (.k (.d (.bool false)))),
tq 8 (.mv (.t 29))] [19, 20, 21, 22, 23, 24, 25, 26, 27, 28, 29])
(.seq (.reg true [
tq 30 (.mv (.t 8)),
tq 31 (.mv (.t 30)),
⟨some 32, (some (31, true)), .fieldAddr 0 (.t 7)⟩,
⟨some 33, (some (31, true)), .load none (.t 32)⟩,
⟨some 34, (some (31, true)), .bin .eql (.t 33) (.k (.d (.str [82])))⟩,
tq 35 (.pick (.t 31) (.t 34) (.k (.d (.bool false)))),
tq 36 (.mv (.t 35)),
⟨some 37, (some (36, true)), .mv (.t 1)⟩,
⟨some 38, (some (36, true)), .mv (.t 6)⟩,
⟨some 39, (some (36, true)), .bin .sub (.t 38) (kq 1)⟩,
⟨some 40, (some (36, true)), .idxAddr 14 (.t 37) (.t 39)⟩,
⟨some 41, (some (36, true)), .fieldAddr 1 (.t 40)⟩,
⟨some 42, (some (36, true)), .load (some 13) (.t 41)⟩,
⟨some 43, (some (36, true)), .fieldAddr 1 (.t 7)⟩,
⟨some 44, (some (36, true)), .load (some 13) (.t 43)⟩,
⟨some 45, (some (36, true)), .call false true (.k (.fn n_message_twins [] [])) [.t 42, .t 44]⟩,
tq 46 (.pick (.t 36) (.t 45) (.k (.d (.bool false)))),
tq 9 (.mv (.t 46))] [30, 31, 32, 33, 34, 35, 36, 37, 38, 39, 40, 41, 42, 43, 44, 45, 46])
(.seq (.reg true [
tq 47 (.load (some 14) (.t 7)),
tq 48 (.call false true (.k (.fn n_message_CheckLine [] [])) [.t 47]),
tq 49 (.call false false (.k (.fn n_message_actions [] [])) []),
fa 50 0 7,
ld 51 50,
tq 52 (.lookup .str (.str []) false (.t 49) (.t 51)),
tq 53 (.mv (.t 0)),
tq 54 (.bin .neq (.t 52) (.t 53)),
tq 55 (.call false true (.k (.fn n_message_when [] [])) [.t 54, kq 18]),
tq 56 (.mv (.t 8)),
tq 57 (.mv (.t 56)),
⟨some 58, (some (57, false)), .fieldAddr 0 (.t 7)⟩,
⟨some 59, (some (57, false)), .load none (.t 58)⟩,
⟨some 60, (some (57, false)), .bin .eql (.t 59) (.k (.d (.str [82])))⟩,
tq 61 (.pick (.t 57) (.k (.d (.bool true))) (.t 60)),
tq 62 (.mv (.t 61)),
⟨some 63, (some (62, true)), .mv (.t 9)⟩,
⟨some 64, (some (62, true)), .un .not (.t 63)⟩,
tq 65 (.pick (.t 62) (.t 64) (.k (.d (.bool false)))),
tq 66 (.call false true (.k (.fn n_message_when [] [])) [.t 65, kq 11]),
tq 67 (.mkList 1 3 [.t 48, .t 55, .t 66]),
tq 68 (.call false true (.k (.fn n_message_first [] [])) [.t 67]),
tq 10 (.mv (.t 68))] [7, 8, 9, 47, 48, 49, 50, 51, 52, 53, 54, 55, 56, 57, 58, 59, 60, 61, 62, 63, 64, 65, 66, 67, 68])
(.seq (.reg false [
tq 69 (.mv (.t 10)),
tq 70 (.bin .neq (.t 69) (kq 0))] [69])
(.cond (.t 70) (.seq (.reg false [
tq 71 (.mv (.t 6)),
tq 72 (.mv (.t 10)),
tq 4 (.mv (.t 71)),
tq 5 (.mv (.t 72))] [6, 10, 71, 72])
.ret)
 .skip)))))))
(.reg false [
tq 73 (.bin .add (.t 14) (kq 1)),
tq 14 (.mv (.t 73))] [73]))))

def c_message_checkLines : CF := ⟨[.tmp 4, .tmp 5],
  (.seq (.reg false [
tq 4 (.mv (kq 0)),
tq 5 (.mv (kq 0))] [4, 5])
(.seq (.seq (.reg false [
tq 12 (.mv (.t 1)),
tq 13 (.len .slc (.t 12)),
tq 14 (.mv (kq 0))] [])
(.block 0 (.loop [0, 1, 12, 13, 14] b_message_checkLines_1)))
(.seq (.seq (.reg false [
tq 74 (.mv (.t 1)),
tq 75 (.len .slc (.t 74)),
tq 11 (.mv (.t 75))] [74, 75])
(.seq (.reg false [
tq 76 (.mv (.t 11)),
tq 77 (.bin .gtr (.t 76) (kq 0)),
tq 78 (.mv (.t 77)),
⟨some 79, (some (78, true)), .mv (.t 1)⟩,
⟨some 80, (some (78, true)), .mv (.t 11)⟩,
⟨some 81, (some (78, true)), .bin .sub (.t 80) (kq 1)⟩,
⟨some 82, (some (78, true)), .idxAddr 14 (.t 79) (.t 81)⟩,
⟨some 83, (some (78, true)), .fieldAddr 0 (.t 82)⟩,
⟨some 84, (some (78, true)), .load none (.t 83)⟩,
⟨some 85, (some (78, true)), .bin .eql (.t 84) (.k (.d (.str [67])))⟩,
tq 86 (.pick (.t 78) (.t 85) (.k (.d (.bool false))))] [1, 76, 77, 78, 79, 80, 81, 82, 83, 84, 85])
(.cond (.t 86) (.seq (.reg false [
tq 87 (.mv (.t 11)),
tq 88 (.bin .sub (.t 87) (kq 1)),
tq 4 (.mv (.t 88)),
tq 5 (.mv (kq 11))] [11, 87, 88])
.ret)
 .skip)))
(.seq (.reg false [
tq 4 (.mv (kq 0)),
tq 5 (.mv (kq 0))] [])
.ret))))⟩

def c_message_checkHead : CF := ⟨[.tmp 6],
  (.seq (.reg false [
tq 6 (.mv (kq 0))] [6])
(.seq (.reg false [
tq 7 (.mv (.t 0)),
tq 8 (.call false true (.k (.fn n_message_named [] [])) [.t 7]),
tq 9 (.mv (.t 1)),
tq 10 (.call false true (.k (.fn n_message_isSeason [] [])) [.t 9]),
tq 11 (.un .not (.t 10)),
tq 12 (.call false true (.k (.fn n_message_when [] [])) [.t 11, kq 1]),
tq 13 (.mv (.t 2)),
tq 14 (.call false true (.k (.fn n_message_within [] [])) [.t 13, kq 0, kq 99999]),
tq 15 (.mkList 1 3 [.t 8, .t 12, .t 14]),
tq 16 (.call false true (.k (.fn n_message_first [] [])) [.t 15]),
tq 6 (.mv (.t 16))] [0, 1, 2, 7, 8, 9, 10, 11, 12, 13, 14, 15, 16])
.ret))⟩

def b_message_checkBoth_1 : C :=
  (.seq (.reg false [
tq 26 (.bin .lss (.t 25) (.t 24))] [])
(.seq (.cond (.t 26) .skip
 (.exit 0))
(.seq (.block 1 (.seq (.reg false [
tq 27 (.mv (.t 25)),
tq 28 (.idxAddr 3 (.t 23) (.t 25)),
tq 29 (.load (some 3) (.t 28)),
tq 7 (.alloc ty_message_Result [.z (.str []), .z (.bool false), .z (.int .i64 0)]),
tq 6 (.mv (.t 27)),
⟨none, none, .store 3 (.t 7) (.t 29)⟩] [27, 28, 29])
(.seq (.reg true [
fa 30 0 7,
ld 31 30,
tq 32 (.mv (.t 0)),
tq 33 (.mv (.t 6)),
tq 34 (.idxAddr 13 (.t 32) (.t 33)),
fa 35 0 34,
ld 36 35,
tq 37 (.bin .neq (.t 31) (.t 36))] [6, 7, 30, 31, 32, 33, 34, 35, 36])
(.cond (.t 37) (.seq (.reg false [
tq 4 (.mv (kq 10))] [])
.ret)
 .skip))))
(.reg false [
tq 38 (.bin .add (.t 25) (kq 1)),
tq 25 (.mv (.t 38))] [38]))))

def c_message_checkBoth : CF := ⟨[.tmp 4],
  (.seq (.reg false [
tq 4 (.mv (kq 0))] [4])
(.seq (.seq (.reg false [
tq 8 (.mv (.t 0)),
tq 9 (.call false true (.k (.fn n_message_checkRequests [] [])) [.t 8]),
tq 10 (.mv (.t 1)),
tq 11 (.call false true (.k (.fn n_message_checkResults [] [])) [.t 10]),
tq 12 (.mv (.t 0)),
tq 13 (.len .slc (.t 12)),
tq 14 (.mv (.t 1)),
tq 15 (.len .slc (.t 14)),
tq 16 (.bin .neq (.t 13) (.t 15)),
tq 17 (.call false true (.k (.fn n_message_when [] [])) [.t 16, kq 2]),
tq 18 (.mkList 1 3 [.t 9, .t 11, .t 17]),
tq 19 (.call false true (.k (.fn n_message_first [] [])) [.t 18]),
tq 5 (.mv (.t 19))] [8, 9, 10, 11, 12, 13, 14, 15, 16, 17, 18, 19])
(.seq (.reg false [
tq 20 (.mv (.t 5)),
tq 21 (.bin .neq (.t 20) (kq 0))] [20])
(.cond (.t 21) (.seq (.reg false [
tq 22 (.mv (.t 5)),
tq 4 (.mv (.t 22))] [5, 22])
.ret)
 .skip)))
(.seq (.seq (.reg false [
tq 23 (.mv (.t 1)),
tq 24 (.len .slc (.t 23)),
tq 25 (.mv (kq 0))] [1])
(.block 0 (.loop [0, 23, 24, 25] b_message_checkBoth_1)))
(.seq (.reg false [
tq 4 (.mv (kq 0))] [])
.ret))))⟩

def c_message_moved : CF := ⟨[.cell 4 (some 13)],
  (.seq (.reg false [
tq 2 (.box ty_api_Request (.t 0)),
tq 4 (.alloc ty_api_Request [.z (.str []), .z (.str []), .z (.str []), .z (.str []), .z (.str []), .z (.str []), .z (.int .i64 0), .z (.int .i64 0), .z (.int .i64 0), .z (.int .i64 0), .z (.int .i64 0), .z (.int .i64 0), .z (.int .i64 0)])] [0])
(.seq (.reg false [
tq 5 (.mv (.t 1)),
fa 6 9 2,
⟨none, none, .store 1 (.t 6) (.t 5)⟩] [1, 5, 6])
(.seq (.reg false [
tq 7 (.load (some 13) (.t 2)),
⟨none, none, .store 13 (.t 4) (.t 7)⟩] [2, 7])
.ret)))⟩

def b_message_filtered_message_Line_message_Result_1 : C :=
  (.seq (.reg false [
tq 13 (.bin .lss (.t 12) (.t 11))] [])
(.seq (.cond (.t 13) .skip
 (.exit 0))
(.seq (.block 1 (.seq (.reg false [
tq 14 (.idxAddr 14 (.t 10) (.t 12)),
tq 15 (.load (some 14) (.t 14)),
tq 7 (.alloc ty_message_Line [.z (.str []), .z (.str []), .z (.str []), .z (.str []), .z (.str []), .z (.str []), .z (.str []), .z (.int .i64 0), .z (.int .i64 0), .z (.int .i64 0), .z (.int .i64 0), .z (.int .i64 0), .z (.int .i64 0), .z (.int .i64 0)]),
⟨none, none, .store 14 (.t 7) (.t 15)⟩] [14, 15])
(.seq (.reg false [
tq 17 (.mv (.t 1)),
tq 18 (.load (some 14) (.t 7)),
tq 19 (.call true true (.t 17) [.t 18]),
tq 16 (.mv (.t 19)),
tq 20 (.extract (.t 16) 0),
tq 21 (.extract (.t 16) 1),
tq 8 (.alloc ty_message_Result [.z (.str []), .z (.bool false), .z (.int .i64 0)]),
⟨none, none, .store 3 (.t 8) (.t 20)⟩,
tq 9 (.mv (.t 21))] [7, 16, 17, 18, 19, 20, 21])
(.seq (.reg false [
tq 22 (.mv (.t 9))] [9])
(.cond (.t 22) (.reg false [
tq 23 (.mv (.t 5)),
tq 24 (.load (some 3) (.t 8)),
tq 25 (.mkList 3 1 [.t 24]),
tq 26 (.append ⟨false, ty_message_Result, 3, 32⟩ (.t 23) (.t 25)),
tq 5 (.mv (.t 26))] [8, 23, 24, 25, 26])
 .skip)))))
(.reg false [
tq 27 (.bin .add (.t 12) (kq 1)),
tq 12 (.mv (.t 27))] [27]))))

def c_message_filtered_message_Line_message_Result : CF := ⟨[.tmp 4],
  (.seq (.reg false [
tq 4 (.ownNil ⟨false, ty_message_Result, 3, 32⟩)] [4])
(.seq (.reg false [
tq 5 (.ownNil ⟨false, ty_message_Result, 3, 32⟩)] [])
(.seq (.seq (.reg false [
tq 10 (.mv (.t 0)),
tq 11 (.len .slc (.t 10)),
tq 12 (.mv (kq 0))] [0])
(.block 0 (.loop [1, 5, 10, 11, 12] b_message_filtered_message_Line_message_Result_1)))
(.seq (.reg false [
tq 28 (.mv (.t 5)),
tq 4 (.mv (.t 28))] [5, 28])
.ret))))⟩

def c_message_Results_1 : CF := ⟨[.cell 2 (some 3), .tmp 3],
  (.seq (.reg false [
tq 1 (.box ty_message_Line (.t 0)),
tq 2 (.alloc ty_message_Result [.z (.str []), .z (.bool false), .z (.int .i64 0)]),
tq 3 (.mv (.k (.d (.bool false))))] [0, 3])
(.seq (.seq (.reg false [
fa 4 0 1,
ld 5 4,
tq 6 (.call false true (.k (.fn n_strings_Contains [] [])) [.k (.d (.str [75, 79])), .t 5])] [4, 5])
(.cond (.t 6) (.seq (.reg false [
fa 7 1 1,
fa 8 0 7,
ld 9 8,
fa 10 1 1,
fa 11 9 10,
ld 12 11,
tq 13 (.build [.z (.str []), .z (.bool false), .z (.int .i64 0)] [(0, 1, .t 9), (1, 1, .k (.d (.bool true))), (2, 1, .t 12)]),
⟨none, none, .store 3 (.t 2) (.t 13)⟩,
tq 3 (.mv (.k (.d (.bool true))))] [1, 7, 8, 9, 10, 11, 12, 13])
.ret)
 .skip))
(.seq (.reg false [
fa 14 1 1,
fa 15 0 14,
ld 16 15,
tq 17 (.build [.z (.str []), .z (.bool false), .z (.int .i64 0)] [(0, 1, .t 16)]),
⟨none, none, .store 3 (.t 2) (.t 17)⟩,
tq 3 (.mv (.k (.d (.bool true))))] [1, 14, 15, 16, 17])
.ret)))⟩

def c_message_isMessage : CF := ⟨[.tmp 2],
  (.seq (.reg false [
tq 2 (.mv (.k (.d (.bool false))))] [2])
(.seq (.reg false [
tq 3 (.mv (.t 0)),
tq 4 (.bin .eql (.t 3) (.k (.d (.str [82, 69, 81])))),
tq 5 (.mv (.t 4)),
⟨some 6, (some (5, false)), .mv (.t 0)⟩,
⟨some 7, (some (5, false)), .bin .eql (.t 6) (.k (.d (.str [65, 78, 83])))⟩,
tq 8 (.pick (.t 5) (.k (.d (.bool true))) (.t 7)),
tq 2 (.mv (.t 8))] [0, 3, 4, 5, 6, 7, 8])
.ret))⟩

def c_message_find : CF := ⟨[.tmp 4],
  (.seq (.reg false [
tq 3 (.box ty_string (.t 1)),
tq 4 (.mv (kq 0))] [1, 4])
(.seq (.reg false [
tq 5 (.mv (.t 0)),
tq 6 (.mkFunc n_message_find_1 [] [.t 3]),
tq 7 (.call true true (.k (.fn n_slices_IndexFunc_Lmessage_Entry_message_Entry [] [])) [.t 5, .t 6]),
tq 4 (.mv (.t 7))] [0, 3, 5, 6, 7])
.ret))⟩

def c_message_CheckRequest : CF := ⟨[.tmp 2],
  (.seq (.reg false [
tq 1 (.box ty_api_Request (.t 0)),
tq 2 (.mv (kq 0))] [0, 2])
(.seq (.reg true [
fa 3 0 1,
ld 4 3,
tq 5 (.call false true (.k (.fn n_message_named [] [])) [.t 4]),
fa 6 1 1,
ld 7 6,
tq 8 (.call false true (.k (.fn n_message_named [] [])) [.t 7]),
fa 9 4 1,
ld 10 9,
tq 11 (.call false true (.k (.fn n_message_named [] [])) [.t 10]),
fa 12 3 1,
ld 13 12,
tq 14 (.call false true (.k (.fn n_message_optional [] [])) [.t 13]),
fa 15 5 1,
ld 16 15,
tq 17 (.call false true (.k (.fn n_message_optional [] [])) [.t 16]),
fa 18 2 1,
ld 19 18,
tq 20 (.call false true (.k (.fn n_message_isKind [] [])) [.t 19]),
tq 21 (.un .not (.t 20)),
tq 22 (.call false true (.k (.fn n_message_when [] [])) [.t 21, kq 13]),
fa 23 5 1,
ld 24 23,
fa 25 0 1,
ld 26 25,
tq 27 (.bin .eql (.t 24) (.t 26)),
tq 28 (.call false true (.k (.fn n_message_when [] [])) [.t 27, kq 32]),
fa 29 6 1,
tq 30 (.load (some 3) (.t 29)),
tq 31 (.call false true (.k (.fn n_calendar_CheckPeriod [] [])) [.t 30]),
fa 32 9 1,
ld 33 32,
tq 34 (.call false true (.k (.fn n_message_within [] [])) [.t 33, kq 0, kq 1439]),
fa 35 10 1,
ld 36 35,
tq 37 (.call false true (.k (.fn n_message_within [] [])) [.t 36, kq 0, kq 999]),
fa 38 11 1,
ld 39 38,
tq 40 (.call false true (.k (.fn n_message_within [] [])) [.t 39, kq 1, kq 9]),
fa 41 12 1,
ld 42 41,
tq 43 (.call false true (.k (.fn n_message_within [] [])) [.t 42, kq 0, kq 99]),
tq 44 (.mkList 1 12 [.t 5, .t 8, .t 11, .t 14, .t 17, .t 22, .t 28, .t 31, .t 34, .t 37, .t 40, .t 43]),
tq 45 (.call false true (.k (.fn n_message_first [] [])) [.t 44]),
tq 2 (.mv (.t 45))] [1, 3, 4, 5, 6, 7, 8, 9, 10, 11, 12, 13, 14, 15, 16, 17, 18, 19, 20, 21, 22, 23, 24, 25, 26, 27, 28, 29, 30, 31, 32, 33, 34, 35, 36, 37, 38, 39, 40, 41, 42, 43, 44, 45])
.ret))⟩

def c_ref01_CheckDay : CF := ⟨[.tmp 2],
  (.seq (.reg false [
tq 2 (.mv (kq 0))] [2])
(.seq (.reg false [
tq 3 (.mv (.t 0)),
tq 4 (.call false true (.k (.fn n_ref01_CheckRange [] [])) [.t 3, kq 0, kq 99999]),
tq 2 (.mv (.t 4))] [0, 3, 4])
.ret))⟩

def c_calendar_within : CF := ⟨[.tmp 6],
  (.seq (.reg false [
tq 6 (.mv (kq 0))] [6])
(.seq (.reg false [
tq 7 (.mv (.t 0)),
tq 8 (.mv (.t 1)),
tq 9 (.bin .lss (.t 7) (.t 8)),
tq 10 (.mv (.t 9)),
⟨some 11, (some (10, false)), .mv (.t 0)⟩,
⟨some 12, (some (10, false)), .mv (.t 2)⟩,
⟨some 13, (some (10, false)), .bin .gtr (.t 11) (.t 12)⟩,
tq 14 (.pick (.t 10) (.k (.d (.bool true))) (.t 13)),
tq 15 (.call false true (.k (.fn n_calendar_when [] [])) [.t 14, kq 3]),
tq 6 (.mv (.t 15))] [0, 1, 2, 7, 8, 9, 10, 11, 12, 13, 14, 15])
.ret))⟩

def c_calendar_inMask : CF := ⟨[.tmp 4],
  (.seq (.reg false [
tq 4 (.mv (.k (.d (.bool false))))] [4])
(.seq (.reg false [
tq 5 (.mv (.t 0)),
tq 6 (.mv (.t 1)),
tq 7 (.bin .shr (.t 5) (.t 6)),
tq 8 (.bin .and (.t 7) (kq 1)),
tq 9 (.bin .eql (.t 8) (kq 1)),
tq 4 (.mv (.t 9))] [0, 1, 5, 6, 7, 8, 9])
.ret))⟩

def c_message_isAction : CF := ⟨[.tmp 2],
  (.seq (.reg false [
tq 2 (.mv (.k (.d (.bool false))))] [2])
(.seq (.reg false [
tq 3 (.call false false (.k (.fn n_message_actions [] [])) []),
tq 4 (.mv (.t 0)),
tq 5 (.lookup .str (.str []) false (.t 3) (.t 4)),
tq 6 (.bin .neq (.t 5) (.k (.d (.str [])))),
tq 2 (.mv (.t 6))] [0, 3, 4, 5, 6])
.ret))⟩

def c_message_text : CF := ⟨[.cell 4 (some 2)],
  (.seq (.reg false [
tq 2 (.box ty_func_ptr_message_Line_ptr_string (.t 0)),
tq 3 (.box ty_func_string_bool (.t 1)),
tq 4 (.alloc ty_message_field [.z (.nilf), .z (.nilf)])] [0, 1])
(.seq (.reg false [
tq 5 (.mkFunc n_message_text_1 [] [.t 2]),
tq 6 (.mkFunc n_message_text_2 [] [.t 2, .t 3]),
tq 7 (.build [.z (.nilf), .z (.nilf)] [(0, 1, .t 5), (1, 1, .t 6)]),
⟨none, none, .store 2 (.t 4) (.t 7)⟩] [2, 3, 5, 6, 7])
.ret))⟩

def c_message_fields_1 : CF := ⟨[.tmp 2],
  (.seq (.reg false [
tq 2 (.mv (.k (.d (.nilp))))] [2])
(.seq (.reg false [
tq 3 (.mv (.t 0)),
tq 4 (.nilCheck (.t 3)),
fa 5 0 4,
tq 2 (.mv (.t 5))] [0, 3, 4, 5])
.ret))⟩

def c_message_fields_2 : CF := ⟨[.tmp 2],
  (.seq (.reg false [
tq 2 (.mv (.k (.d (.nilp))))] [2])
(.seq (.reg false [
tq 3 (.mv (.t 0)),
tq 4 (.nilCheck (.t 3)),
fa 5 1 4,
fa 6 1 5,
tq 2 (.mv (.t 6))] [0, 3, 4, 5, 6])
.ret))⟩

def b_calendar_IsName_1 : C :=
  (.seq (.reg false [
tq 16 (.nextS (.t 15)),
tq 17 (.extract (.t 16) 0)] [])
(.seq (.cond (.t 17) .skip
 (.exit 0))
(.block 1 (.seq (.reg false [
tq 18 (.extract (.t 16) 1),
tq 19 (.extract (.t 16) 2),
tq 3 (.mv (.t 18)),
tq 4 (.mv (.t 19))] [16, 18, 19])
(.seq (.reg false [
tq 20 (.mv (.t 4)),
tq 21 (.bin .geq (.t 20) (.k (.d (.int .i32 65)))),
tq 22 (.mv (.t 21)),
⟨some 23, (some (22, true)), .mv (.t 4)⟩,
⟨some 24, (some (22, true)), .bin .leq (.t 23) (.k (.d (.int .i32 90)))⟩,
tq 25 (.pick (.t 22) (.t 24) (.k (.d (.bool false)))),
tq 26 (.mv (.t 25)),
⟨some 27, (some (26, false)), .mv (.t 4)⟩,
⟨some 28, (some (26, false)), .bin .geq (.t 27) (.k (.d (.int .i32 97)))⟩,
⟨some 29, (some (26, false)), .mv (.t 28)⟩,
⟨some 30, (some (29, true)), .mv (.t 4)⟩,
⟨some 31, (some (29, true)), .bin .leq (.t 30) (.k (.d (.int .i32 122)))⟩,
⟨some 32, (some (26, false)), .pick (.t 29) (.t 31) (.k (.d (.bool false)))⟩,
tq 33 (.pick (.t 26) (.k (.d (.bool true))) (.t 32)),
tq 5 (.mv (.t 33))] [20, 21, 22, 23, 24, 25, 26, 27, 28, 29, 30, 31, 32, 33])
(.seq (.reg false [
tq 34 (.mv (.t 5)),
tq 35 (.un .not (.t 34)),
tq 36 (.mv (.t 35)),
⟨some 37, (some (36, true)), .mv (.t 3)⟩,
⟨some 38, (some (36, true)), .bin .eql (.t 37) (kq 0)⟩,
⟨some 39, (some (36, true)), .mv (.t 38)⟩,
⟨some 40, (some (39, false)), .mv (.t 4)⟩,
⟨some 41, (some (39, false)), .bin .neq (.t 40) (.k (.d (.int .i32 95)))⟩,
⟨some 42, (some (39, false)), .mv (.t 41)⟩,
⟨some 43, (some (42, true)), .mv (.t 4)⟩,
⟨some 44, (some (42, true)), .bin .lss (.t 43) (.k (.d (.int .i32 48)))⟩,
⟨some 45, (some (42, true)), .mv (.t 44)⟩,
⟨some 46, (some (45, false)), .mv (.t 4)⟩,
⟨some 47, (some (45, false)), .bin .gtr (.t 46) (.k (.d (.int .i32 57)))⟩,
⟨some 48, (some (42, true)), .pick (.t 45) (.k (.d (.bool true))) (.t 47)⟩,
⟨some 49, (some (39, false)), .pick (.t 42) (.t 48) (.k (.d (.bool false)))⟩,
⟨some 50, (some (36, true)), .pick (.t 39) (.k (.d (.bool true))) (.t 49)⟩,
tq 51 (.pick (.t 36) (.t 50) (.k (.d (.bool false))))] [3, 4, 5, 34, 35, 36, 37, 38, 39, 40, 41, 42, 43, 44, 45, 46, 47, 48, 49, 50])
(.cond (.t 51) (.seq (.reg false [
tq 2 (.mv (.k (.d (.bool false))))] [])
.ret)
 .skip)))))))

def c_calendar_IsName : CF := ⟨[.tmp 2],
  (.seq (.reg false [
tq 2 (.mv (.k (.d (.bool false))))] [2])
(.seq (.seq (.reg false [
tq 6 (.mv (.t 0)),
tq 7 (.len .str (.t 6)),
tq 8 (.bin .eql (.t 7) (kq 0)),
tq 9 (.mv (.t 8)),
⟨some 10, (some (9, false)), .mv (.t 0)⟩,
⟨some 11, (some (9, false)), .len .str (.t 10)⟩,
⟨some 12, (some (9, false)), .bin .gtr (.t 11) (kq 24)⟩,
tq 13 (.pick (.t 9) (.k (.d (.bool true))) (.t 12))] [6, 7, 8, 9, 10, 11, 12])
(.cond (.t 13) (.seq (.reg false [
tq 2 (.mv (.k (.d (.bool false))))] [])
.ret)
 .skip))
(.seq (.seq (.reg false [
tq 14 (.mv (.t 0)),
tq 15 (.rangeS (.t 14))] [0, 14])
(.block 0 (.loop [15] b_calendar_IsName_1)))
(.seq (.reg false [
tq 2 (.mv (.k (.d (.bool true))))] [])
.ret))))⟩

def c_message_fields_3 : CF := ⟨[.tmp 2],
  (.seq (.reg false [
tq 2 (.mv (.k (.d (.nilp))))] [2])
(.seq (.reg false [
tq 3 (.mv (.t 0)),
tq 4 (.nilCheck (.t 3)),
fa 5 1 4,
fa 6 0 5,
tq 2 (.mv (.t 6))] [0, 3, 4, 5, 6])
.ret))⟩

def c_message_fields_4 : CF := ⟨[.tmp 2],
  (.seq (.reg false [
tq 2 (.mv (.k (.d (.nilp))))] [2])
(.seq (.reg false [
tq 3 (.mv (.t 0)),
tq 4 (.nilCheck (.t 3)),
fa 5 1 4,
fa 6 2 5,
tq 2 (.mv (.t 6))] [0, 3, 4, 5, 6])
.ret))⟩

def c_message_isKind : CF := ⟨[.tmp 2],
  (.seq (.reg false [
tq 2 (.mv (.k (.d (.bool false))))] [2])
(.seq (.reg false [
tq 3 (.mv (.t 0)),
tq 4 (.bin .eql (.t 3) (.k (.d (.str [65])))),
tq 5 (.mv (.t 4)),
⟨some 6, (some (5, false)), .mv (.t 0)⟩,
⟨some 7, (some (5, false)), .bin .eql (.t 6) (.k (.d (.str [68])))⟩,
tq 8 (.pick (.t 5) (.k (.d (.bool true))) (.t 7)),
tq 2 (.mv (.t 8))] [0, 3, 4, 5, 6, 7, 8])
.ret))⟩

def c_message_fields_5 : CF := ⟨[.tmp 2],
  (.seq (.reg false [
tq 2 (.mv (.k (.d (.nilp))))] [2])
(.seq (.reg false [
tq 3 (.mv (.t 0)),
tq 4 (.nilCheck (.t 3)),
fa 5 1 4,
fa 6 4 5,
tq 2 (.mv (.t 6))] [0, 3, 4, 5, 6])
.ret))⟩

def c_message_digits : CF := ⟨[.cell 4 (some 2)],
  (.seq (.reg false [
tq 2 (.box ty_func_ptr_message_Line_ptr_int (.t 0)),
tq 3 (.box ty_int (.t 1)),
tq 4 (.alloc ty_message_field [.z (.nilf), .z (.nilf)])] [0, 1])
(.seq (.reg false [
tq 5 (.mkFunc n_message_digits_1 [] [.t 2, .t 3]),
tq 6 (.mkFunc n_message_digits_2 [] [.t 3, .t 2]),
tq 7 (.build [.z (.nilf), .z (.nilf)] [(0, 1, .t 5), (1, 1, .t 6)]),
⟨none, none, .store 2 (.t 4) (.t 7)⟩] [2, 3, 5, 6, 7])
.ret))⟩

def c_message_fields_6 : CF := ⟨[.tmp 2],
  (.seq (.reg false [
tq 2 (.mv (.k (.d (.nilp))))] [2])
(.seq (.reg false [
tq 3 (.mv (.t 0)),
tq 4 (.nilCheck (.t 3)),
fa 5 1 4,
fa 6 6 5,
fa 7 0 6,
tq 2 (.mv (.t 7))] [0, 3, 4, 5, 6, 7])
.ret))⟩

def c_message_fields_7 : CF := ⟨[.tmp 2],
  (.seq (.reg false [
tq 2 (.mv (.k (.d (.nilp))))] [2])
(.seq (.reg false [
tq 3 (.mv (.t 0)),
tq 4 (.nilCheck (.t 3)),
fa 5 1 4,
fa 6 6 5,
fa 7 1 6,
tq 2 (.mv (.t 7))] [0, 3, 4, 5, 6, 7])
.ret))⟩

def c_message_fields_8 : CF := ⟨[.tmp 2],
  (.seq (.reg false [
tq 1 (.box ty_message_Line (.t 0)),
tq 2 (.mv (.k (.d (.str []))))] [0, 2])
(.seq (.reg false [
fa 6 1 1,
fa 7 6 6,
fa 8 2 7,
ld 9 8,
tq 10 (.call false true (.k (.fn n_calendar_PrintMask [] [])) [.t 9]),
tq 5 (.mv (.t 10)),
tq 11 (.extract (.t 5) 0),
tq 12 (.extract (.t 5) 1),
tq 3 (.mv (.t 11)),
tq 4 (.mv (.t 12))] [1, 4, 5, 6, 7, 8, 9, 10, 11, 12])
(.seq (.reg false [
tq 13 (.mv (.t 3)),
tq 2 (.mv (.t 13))] [3, 13])
.ret)))⟩

def c_calendar_PrintMask : CF := ⟨[.tmp 2, .tmp 3],
  (.seq (.reg false [
tq 2 (.mv (.k (.d (.str [])))),
tq 3 (.mv (kq 0))] [2, 3])
(.seq (.seq (.reg false [
tq 5 (.mv (.t 0)),
tq 6 (.call false true (.k (.fn n_calendar_within [] [])) [.t 5, kq 1, kq 127]),
tq 4 (.mv (.t 6))] [5, 6])
(.seq (.reg false [
tq 7 (.mv (.t 4)),
tq 8 (.bin .neq (.t 7) (kq 0))] [7])
(.cond (.t 8) (.seq (.reg false [
tq 9 (.mv (.t 4)),
tq 2 (.mv (.k (.d (.str [])))),
tq 3 (.mv (.t 9))] [4, 9])
.ret)
 .skip)))
(.seq (.reg false [
tq 10 (.mv (.t 0)),
tq 11 (.call false true (.k (.fn n_calendar_printMask [] [])) [.t 10]),
tq 2 (.mv (.t 11)),
tq 3 (.mv (kq 0))] [0, 10, 11])
.ret)))⟩

def c_message_fields_9 : CF := ⟨[.tmp 4],
  (.seq (.reg false [
tq 4 (.mv (.k (.d (.bool false))))] [4])
(.seq (.reg false [
tq 8 (.mv (.t 1)),
tq 9 (.call false true (.k (.fn n_calendar_ParseMask [] [])) [.t 8]),
tq 7 (.mv (.t 9)),
tq 10 (.extract (.t 7) 0),
tq 11 (.extract (.t 7) 1),
tq 5 (.mv (.t 10)),
tq 6 (.mv (.t 11))] [1, 7, 8, 9, 10, 11])
(.seq (.reg false [
tq 12 (.mv (.t 0)),
tq 13 (.mv (.t 5)),
tq 14 (.nilCheck (.t 12)),
fa 15 1 14,
fa 16 6 15,
fa 17 2 16,
⟨none, none, .store 1 (.t 17) (.t 13)⟩] [0, 5, 12, 13, 14, 15, 16, 17])
(.seq (.reg false [
tq 18 (.mv (.t 6)),
tq 19 (.bin .eql (.t 18) (kq 0)),
tq 4 (.mv (.t 19))] [6, 18, 19])
.ret))))⟩

def b_calendar_ParseMask_1 : C :=
  (.seq (.reg false [
tq 10 (.bin .lss (.t 9) (.t 8))] [])
(.seq (.cond (.t 10) .skip
 (.exit 0))
(.seq (.block 1 (.seq (.reg false [
tq 11 (.mv (.t 9)),
tq 5 (.mv (.t 11))] [11])
(.seq (.reg false [
tq 12 (.mv (.t 0)),
tq 13 (.mv (.t 5)),
tq 14 (.idxS (.t 12) (.t 13)),
tq 15 (.bin .neq (.t 14) (.k (.d (.int .u8 48))))] [12, 13, 14])
(.cond (.t 15) (.reg false [
tq 16 (.mv (.t 4)),
tq 17 (.mv (.t 5)),
tq 18 (.bin .shl (kq 1) (.t 17)),
tq 19 (.bin .or (.t 16) (.t 18)),
tq 4 (.mv (.t 19))] [5, 16, 17, 18, 19])
 .skip))))
(.reg false [
tq 20 (.bin .add (.t 9) (kq 1)),
tq 9 (.mv (.t 20))] [20]))))

def c_calendar_ParseMask : CF := ⟨[.tmp 2, .tmp 3],
  (.seq (.reg false [
tq 2 (.mv (kq 0)),
tq 3 (.mv (kq 0))] [2, 3])
(.seq (.reg false [
tq 4 (.mv (kq 0))] [])
(.seq (.seq (.reg false [
tq 6 (.mv (.t 0)),
tq 7 (.len .str (.t 6)),
tq 8 (.minmax false [kq 7, .t 7]),
tq 9 (.mv (kq 0))] [6, 7])
(.block 0 (.loop [0, 4, 8, 9] b_calendar_ParseMask_1)))
(.seq (.seq (.reg false [
tq 21 (.mv (.t 4)),
tq 22 (.bin .eql (.t 21) (kq 0)),
tq 23 (.mv (.t 22)),
⟨some 24, (some (23, false)), .mv (.t 4)⟩,
⟨some 25, (some (23, false)), .call false true (.k (.fn n_calendar_printMask [] [])) [.t 24]⟩,
⟨some 26, (some (23, false)), .mv (.t 0)⟩,
⟨some 27, (some (23, false)), .bin .neq (.t 25) (.t 26)⟩,
tq 28 (.pick (.t 23) (.k (.d (.bool true))) (.t 27))] [0, 21, 22, 23, 24, 25, 26, 27])
(.cond (.t 28) (.seq (.reg false [
tq 2 (.mv (kq 0)),
tq 3 (.mv (kq 25))] [])
.ret)
 .skip))
(.seq (.reg false [
tq 29 (.mv (.t 4)),
tq 2 (.mv (.t 29)),
tq 3 (.mv (kq 0))] [4, 29])
.ret)))))⟩

def c_message_fields_10 : CF := ⟨[.tmp 2],
  (.seq (.reg false [
tq 1 (.box ty_message_Line (.t 0)),
tq 2 (.mv (.k (.d (.str []))))] [0, 2])
(.seq (.reg false [
fa 6 1 1,
fa 7 9 6,
ld 8 7,
tq 9 (.call false true (.k (.fn n_message_PrintMinute [] [])) [.t 8]),
tq 5 (.mv (.t 9)),
tq 10 (.extract (.t 5) 0),
tq 11 (.extract (.t 5) 1),
tq 3 (.mv (.t 10)),
tq 4 (.mv (.t 11))] [1, 4, 5, 6, 7, 8, 9, 10, 11])
(.seq (.reg false [
tq 12 (.mv (.t 3)),
tq 2 (.mv (.t 12))] [3, 12])
.ret)))⟩

def c_message_fields_11 : CF := ⟨[.tmp 4],
  (.seq (.reg false [
tq 4 (.mv (.k (.d (.bool false))))] [4])
(.seq (.reg false [
tq 8 (.mv (.t 1)),
tq 9 (.call false true (.k (.fn n_message_ParseMinute [] [])) [.t 8]),
tq 7 (.mv (.t 9)),
tq 10 (.extract (.t 7) 0),
tq 11 (.extract (.t 7) 1),
tq 5 (.mv (.t 10)),
tq 6 (.mv (.t 11))] [1, 7, 8, 9, 10, 11])
(.seq (.reg false [
tq 12 (.mv (.t 0)),
tq 13 (.mv (.t 5)),
tq 14 (.nilCheck (.t 12)),
fa 15 1 14,
fa 16 9 15,
⟨none, none, .store 1 (.t 16) (.t 13)⟩] [0, 5, 12, 13, 14, 15, 16])
(.seq (.reg false [
tq 17 (.mv (.t 6)),
tq 18 (.bin .eql (.t 17) (kq 0)),
tq 4 (.mv (.t 18))] [6, 17, 18])
.ret))))⟩

def c_message_fields_12 : CF := ⟨[.tmp 2],
  (.seq (.reg false [
tq 2 (.mv (.k (.d (.nilp))))] [2])
(.seq (.reg false [
tq 3 (.mv (.t 0)),
tq 4 (.nilCheck (.t 3)),
fa 5 1 4,
fa 6 10 5,
tq 2 (.mv (.t 6))] [0, 3, 4, 5, 6])
.ret))⟩

def c_message_fields_13 : CF := ⟨[.tmp 2],
  (.seq (.reg false [
tq 2 (.mv (.k (.d (.nilp))))] [2])
(.seq (.reg false [
tq 3 (.mv (.t 0)),
tq 4 (.nilCheck (.t 3)),
fa 5 1 4,
fa 6 11 5,
tq 2 (.mv (.t 6))] [0, 3, 4, 5, 6])
.ret))⟩

def c_message_fields_14 : CF := ⟨[.tmp 2],
  (.seq (.reg false [
tq 2 (.mv (.k (.d (.nilp))))] [2])
(.seq (.reg false [
tq 3 (.mv (.t 0)),
tq 4 (.nilCheck (.t 3)),
fa 5 1 4,
fa 6 12 5,
tq 2 (.mv (.t 6))] [0, 3, 4, 5, 6])
.ret))⟩

def c_message_dashed : CF := ⟨[.cell 2 (some 2)],
  (.seq (.reg false [
tq 1 (.box ty_func_ptr_message_Line_ptr_string (.t 0)),
tq 2 (.alloc ty_message_field [.z (.nilf), .z (.nilf)])] [0])
(.seq (.reg false [
tq 3 (.mkFunc n_message_dashed_1 [] [.t 1]),
tq 4 (.mkFunc n_message_dashed_2 [] [.t 1]),
tq 5 (.build [.z (.nilf), .z (.nilf)] [(0, 1, .t 3), (1, 1, .t 4)]),
⟨none, none, .store 2 (.t 2) (.t 5)⟩] [1, 3, 4, 5])
.ret))⟩

def c_message_fields_15 : CF := ⟨[.tmp 2],
  (.seq (.reg false [
tq 2 (.mv (.k (.d (.nilp))))] [2])
(.seq (.reg false [
tq 3 (.mv (.t 0)),
tq 4 (.nilCheck (.t 3)),
fa 5 1 4,
fa 6 3 5,
tq 2 (.mv (.t 6))] [0, 3, 4, 5, 6])
.ret))⟩

def c_message_fields_16 : CF := ⟨[.tmp 2],
  (.seq (.reg false [
tq 2 (.mv (.k (.d (.nilp))))] [2])
(.seq (.reg false [
tq 3 (.mv (.t 0)),
tq 4 (.nilCheck (.t 3)),
fa 5 1 4,
fa 6 5 5,
tq 2 (.mv (.t 6))] [0, 3, 4, 5, 6])
.ret))⟩

def b_message_texts_1_1 : C :=
  (.seq (.seq (.reg false [
ld 5 1,
tq 6 (.bin .neq (.t 5) (.k (.d (.str []))))] [5])
(.cond (.t 6) .skip
 (.exit 0)))
(.seq (.block 1 (.seq (.reg false [
ld 9 1,
tq 10 (.call false true (.k (.fn n_strings_IndexByte [] [])) [.t 9, .k (.d (.int .u8 10))]),
tq 11 (.bin .add (.t 10) (kq 1)),
tq 4 (.mv (.t 11))] [9, 10, 11])
(.seq (.seq (.reg false [
tq 12 (.mv (.t 4)),
tq 13 (.bin .eql (.t 12) (kq 0))] [12])
(.cond (.t 13) (.reg false [
ld 14 1,
tq 15 (.len .str (.t 14)),
tq 4 (.mv (.t 15))] [14, 15])
 .skip))
(.seq (.seq (.reg false [
tq 16 (.mv (.t 0)),
tq 17 (.mv (.t 3)),
ld 18 1,
tq 19 (.mv (.t 4)),
tq 20 (.sliceS (.t 18) none (some (.t 19))),
tq 21 (.call true true (.t 16) [.t 17, .t 20]),
tq 22 (.un .not (.t 21))] [16, 17, 18, 19, 20, 21])
(.cond (.t 22) .ret
 .skip))
(.reg false [
ld 23 1,
tq 24 (.mv (.t 4)),
tq 25 (.sliceS (.t 23) (some (.t 24)) none),
⟨none, none, .store 1 (.t 1) (.t 25)⟩] [4, 23, 24, 25])))))
(.reg false [
tq 7 (.mv (.t 3)),
tq 8 (.bin .add (.t 7) (kq 1)),
tq 3 (.mv (.t 8))] [7, 8])))

def c_message_texts_1 : CF := ⟨[],
  (.seq (.reg false [
tq 3 (.mv (kq 0))] [])
(.block 0 (.loop [0, 1, 3] b_message_texts_1_1)))⟩

def c_strings_IndexByte : CF := ⟨[.tmp 4],
  (.seq (.reg false [
tq 4 (.mv (kq 0))] [4])
(.seq (.reg false [
tq 5 (.mv (.t 0)),
tq 6 (.mv (.t 1)),
tq 7 (.call false true (.k (.fn n_internal_stringslite_IndexByte [] [])) [.t 5, .t 6]),
tq 4 (.mv (.t 7))] [0, 1, 5, 6, 7])
.ret))⟩

def c_internal_stringslite_CutSuffix : CF := ⟨[.tmp 4, .tmp 5],
  (.seq (.reg false [
tq 4 (.mv (.k (.d (.str [])))),
tq 5 (.mv (.k (.d (.bool false))))] [4, 5])
(.seq (.seq (.reg false [
tq 6 (.mv (.t 0)),
tq 7 (.mv (.t 1)),
tq 8 (.call false true (.k (.fn n_internal_stringslite_HasSuffix [] [])) [.t 6, .t 7]),
tq 9 (.un .not (.t 8))] [6, 7, 8])
(.cond (.t 9) (.seq (.reg false [
tq 10 (.mv (.t 0)),
tq 4 (.mv (.t 10)),
tq 5 (.mv (.k (.d (.bool false))))] [0, 10])
.ret)
 .skip))
(.seq (.reg false [
tq 11 (.mv (.t 0)),
tq 12 (.mv (.t 0)),
tq 13 (.len .str (.t 12)),
tq 14 (.mv (.t 1)),
tq 15 (.len .str (.t 14)),
tq 16 (.bin .sub (.t 13) (.t 15)),
tq 17 (.sliceS (.t 11) none (some (.t 16))),
tq 4 (.mv (.t 17)),
tq 5 (.mv (.k (.d (.bool true))))] [0, 1, 11, 12, 13, 14, 15, 16, 17])
.ret)))⟩

def c_message_actions : CF := ⟨[.tmp 0],
  (.seq (.reg false [
tq 0 (.mv (.k (.d (.nilm))))] [0])
(.seq (.reg false [
tq 1 (.mkMap),
⟨none, none, .mapSet .str (.t 1) (.k (.d (.str [78]))) (.k (.d (.str [82, 69, 81])))⟩,
⟨none, none, .mapSet .str (.t 1) (.k (.d (.str [72]))) (.k (.d (.str [82, 69, 81])))⟩,
⟨none, none, .mapSet .str (.t 1) (.k (.d (.str [67]))) (.k (.d (.str [82, 69, 81])))⟩,
⟨none, none, .mapSet .str (.t 1) (.k (.d (.str [82]))) (.k (.d (.str [82, 69, 81])))⟩,
⟨none, none, .mapSet .str (.t 1) (.k (.d (.str [68]))) (.k (.d (.str [82, 69, 81])))⟩,
⟨none, none, .mapSet .str (.t 1) (.k (.d (.str [75]))) (.k (.d (.str [65, 78, 83])))⟩,
⟨none, none, .mapSet .str (.t 1) (.k (.d (.str [79]))) (.k (.d (.str [65, 78, 83])))⟩,
⟨none, none, .mapSet .str (.t 1) (.k (.d (.str [85]))) (.k (.d (.str [65, 78, 83])))⟩,
⟨none, none, .mapSet .str (.t 1) (.k (.d (.str [88]))) (.k (.d (.str [65, 78, 83])))⟩,
tq 2 (.mv (.t 1)),
tq 0 (.mv (.t 2))] [1, 2])
.ret))⟩

def c_message_named : CF := ⟨[.tmp 2],
  (.seq (.reg false [
tq 2 (.mv (kq 0))] [2])
(.seq (.reg false [
tq 3 (.mv (.t 0)),
tq 4 (.call false true (.k (.fn n_calendar_IsName [] [])) [.t 3]),
tq 5 (.un .not (.t 4)),
tq 6 (.call false true (.k (.fn n_message_when [] [])) [.t 5, kq 8]),
tq 2 (.mv (.t 6))] [0, 3, 4, 5, 6])
.ret))⟩

def b_message_isSeason_1 : C :=
  (.seq (.reg false [
tq 21 (.nextS (.t 20)),
tq 22 (.extract (.t 21) 0)] [])
(.seq (.cond (.t 22) .skip
 (.exit 0))
(.block 1 (.seq (.reg false [
tq 23 (.extract (.t 21) 2),
tq 4 (.mv (.t 23))] [21, 23])
(.seq (.reg false [
tq 24 (.mv (.t 4)),
tq 25 (.bin .lss (.t 24) (.k (.d (.int .i32 48)))),
tq 26 (.mv (.t 25)),
⟨some 27, (some (26, false)), .mv (.t 4)⟩,
⟨some 28, (some (26, false)), .bin .gtr (.t 27) (.k (.d (.int .i32 57)))⟩,
tq 29 (.pick (.t 26) (.k (.d (.bool true))) (.t 28))] [4, 24, 25, 26, 27, 28])
(.cond (.t 29) (.seq (.reg false [
tq 2 (.mv (.k (.d (.bool false))))] [])
.ret)
 .skip))))))

def c_message_isSeason : CF := ⟨[.tmp 2],
  (.seq (.reg false [
tq 2 (.mv (.k (.d (.bool false))))] [2])
(.seq (.seq (.reg false [
tq 5 (.mv (.t 0)),
tq 6 (.len .str (.t 5)),
tq 7 (.bin .neq (.t 6) (kq 5)),
tq 8 (.mv (.t 7)),
⟨some 9, (some (8, false)), .mv (.t 0)⟩,
⟨some 10, (some (8, false)), .idxS (.t 9) (kq 0)⟩,
⟨some 11, (some (8, false)), .bin .neq (.t 10) (.k (.d (.int .u8 83)))⟩,
⟨some 12, (some (8, false)), .mv (.t 11)⟩,
⟨some 13, (some (12, true)), .mv (.t 0)⟩,
⟨some 14, (some (12, true)), .idxS (.t 13) (kq 0)⟩,
⟨some 15, (some (12, true)), .bin .neq (.t 14) (.k (.d (.int .u8 87)))⟩,
⟨some 16, (some (8, false)), .pick (.t 12) (.t 15) (.k (.d (.bool false)))⟩,
tq 17 (.pick (.t 8) (.k (.d (.bool true))) (.t 16))] [5, 6, 7, 8, 9, 10, 11, 12, 13, 14, 15, 16])
(.cond (.t 17) (.seq (.reg false [
tq 2 (.mv (.k (.d (.bool false))))] [])
.ret)
 .skip))
(.seq (.seq (.reg false [
tq 18 (.mv (.t 0)),
tq 19 (.sliceS (.t 18) (some (kq 1)) none),
tq 20 (.rangeS (.t 19))] [0, 18, 19])
(.block 0 (.loop [20] b_message_isSeason_1)))
(.seq (.reg false [
tq 2 (.mv (.k (.d (.bool true))))] [])
.ret))))⟩

def b_message_checkResults_1 : C :=
  (.seq (.reg false [
tq 15 (.bin .lss (.t 14) (.t 13))] [])
(.seq (.cond (.t 15) .skip
 (.exit 0))
(.seq (.block 1 (.seq (.reg false [
tq 16 (.idxAddr 3 (.t 12) (.t 14)),
tq 17 (.load (some 3) (.t 16)),
tq 5 (.alloc ty_message_Result [.z (.str []), .z (.bool false), .z (.int .i64 0)]),
⟨none, none, .store 3 (.t 5) (.t 17)⟩] [16, 17])
(.seq (.reg false [
tq 6 (.mv (kq 0))] [])
(.seq (.seq (.reg false [
fa 18 1 5,
ld 19 18] [18])
(.cond (.t 19) (.reg false [
tq 6 (.mv (kq 1439))] [])
 .skip))
(.seq (.seq (.reg true [
fa 20 0 5,
ld 21 20,
tq 22 (.call false true (.k (.fn n_message_named [] [])) [.t 21]),
fa 23 2 5,
ld 24 23,
tq 25 (.mv (.t 6)),
tq 26 (.call false true (.k (.fn n_message_within [] [])) [.t 24, kq 0, .t 25]),
tq 27 (.mv (.t 3)),
fa 28 0 5,
ld 29 28,
tq 30 (.lookup .str (.bool false) false (.t 27) (.t 29)),
tq 31 (.call false true (.k (.fn n_message_when [] [])) [.t 30, kq 9]),
tq 32 (.mkList 1 3 [.t 22, .t 26, .t 31]),
tq 33 (.call false true (.k (.fn n_message_first [] [])) [.t 32]),
tq 7 (.mv (.t 33))] [6, 20, 21, 22, 23, 24, 25, 26, 27, 28, 29, 30, 31, 32, 33])
(.seq (.reg false [
tq 34 (.mv (.t 7)),
tq 35 (.bin .neq (.t 34) (kq 0))] [34])
(.cond (.t 35) (.seq (.reg false [
tq 36 (.mv (.t 7)),
tq 2 (.mv (.t 36))] [7, 36])
.ret)
 .skip)))
(.reg false [
tq 37 (.mv (.t 3)),
fa 38 0 5,
ld 39 38,
⟨none, none, .mapSet .str (.t 37) (.t 39) (.k (.d (.bool true)))⟩] [5, 37, 38, 39]))))))
(.reg false [
tq 40 (.bin .add (.t 14) (kq 1)),
tq 14 (.mv (.t 40))] [40]))))

def c_message_checkResults : CF := ⟨[.tmp 2],
  (.seq (.reg false [
tq 2 (.mv (kq 0))] [2])
(.seq (.seq (.reg false [
tq 8 (.mv (.t 0)),
tq 9 (.len .slc (.t 8)),
tq 10 (.bin .gtr (.t 9) (kq 64))] [8, 9])
(.cond (.t 10) (.seq (.reg false [
tq 2 (.mv (kq 5))] [])
.ret)
 .skip))
(.seq (.reg false [
tq 11 (.mkMap),
tq 3 (.mv (.t 11))] [11])
(.seq (.seq (.reg false [
tq 12 (.mv (.t 0)),
tq 13 (.len .slc (.t 12)),
tq 14 (.mv (kq 0))] [0])
(.block 0 (.loop [3, 12, 13, 14] b_message_checkResults_1)))
(.seq (.reg false [
tq 2 (.mv (kq 0))] [])
.ret)))))⟩

def b_slices_IndexFunc_Lmessage_Entry_message_Entry_1 : C :=
  (.seq (.reg false [
tq 9 (.bin .lss (.t 8) (.t 7))] [])
(.seq (.cond (.t 9) .skip
 (.exit 0))
(.seq (.block 1 (.seq (.reg false [
tq 10 (.mv (.t 8)),
tq 5 (.mv (.t 10))] [10])
(.seq (.reg false [
tq 11 (.mv (.t 1)),
tq 12 (.mv (.t 0)),
tq 13 (.mv (.t 5)),
tq 14 (.idxAddr 15 (.t 12) (.t 13)),
tq 15 (.load (some 15) (.t 14)),
tq 16 (.call true true (.t 11) [.t 15])] [11, 12, 13, 14, 15])
(.cond (.t 16) (.seq (.reg false [
tq 17 (.mv (.t 5)),
tq 4 (.mv (.t 17))] [5, 17])
.ret)
 .skip))))
(.reg false [
tq 18 (.bin .add (.t 8) (kq 1)),
tq 8 (.mv (.t 18))] [18]))))

def c_slices_IndexFunc_Lmessage_Entry_message_Entry : CF := ⟨[.tmp 4],
  (.seq (.reg false [
tq 4 (.mv (kq 0))] [4])
(.seq (.seq (.reg false [
tq 6 (.mv (.t 0)),
tq 7 (.len .slc (.t 6)),
tq 8 (.mv (kq 0))] [6])
(.block 0 (.loop [0, 1, 7, 8] b_slices_IndexFunc_Lmessage_Entry_message_Entry_1)))
(.seq (.reg false [
tq 4 (.mv (kq (-1)))] [])
.ret)))⟩

def c_message_find_1 : CF := ⟨[.tmp 3],
  (.seq (.reg false [
tq 2 (.box ty_message_Entry (.t 0)),
tq 3 (.mv (.k (.d (.bool false))))] [0, 3])
(.seq (.reg false [
fa 4 0 2,
fa 5 0 4,
ld 6 5,
ld 7 1,
tq 8 (.bin .eql (.t 6) (.t 7)),
tq 3 (.mv (.t 8))] [1, 2, 4, 5, 6, 7, 8])
.ret))⟩

def c_message_optional : CF := ⟨[.tmp 2],
  (.seq (.reg false [
tq 2 (.mv (kq 0))] [2])
(.seq (.reg false [
tq 3 (.mv (.t 0)),
tq 4 (.bin .neq (.t 3) (.k (.d (.str [])))),
tq 5 (.mv (.t 4)),
⟨some 6, (some (5, true)), .mv (.t 0)⟩,
⟨some 7, (some (5, true)), .call false true (.k (.fn n_calendar_IsName [] [])) [.t 6]⟩,
⟨some 8, (some (5, true)), .un .not (.t 7)⟩,
tq 9 (.pick (.t 5) (.t 8) (.k (.d (.bool false)))),
tq 10 (.call false true (.k (.fn n_message_when [] [])) [.t 9, kq 8]),
tq 2 (.mv (.t 10))] [0, 3, 4, 5, 6, 7, 8, 9, 10])
.ret))⟩

def c_message_text_1 : CF := ⟨[.tmp 3],
  (.seq (.reg false [
tq 2 (.box ty_message_Line (.t 0)),
tq 3 (.mv (.k (.d (.str []))))] [0, 3])
(.seq (.reg false [
ld 4 1,
tq 5 (.call true false (.t 4) [.t 2]),
tq 6 (.nilCheck (.t 5)),
ld 7 6,
tq 3 (.mv (.t 7))] [1, 2, 4, 5, 6, 7])
.ret))⟩

def c_message_text_2 : CF := ⟨[.tmp 6],
  (.seq (.reg false [
tq 6 (.mv (.k (.d (.bool false))))] [6])
(.seq (.reg false [
ld 7 2,
tq 8 (.mv (.t 0)),
tq 9 (.call true false (.t 7) [.t 8]),
tq 10 (.mv (.t 1)),
tq 11 (.nilCheck (.t 9)),
⟨none, none, .store 1 (.t 11) (.t 10)⟩] [0, 2, 7, 8, 9, 10, 11])
(.seq (.reg false [
ld 12 3,
tq 13 (.mv (.t 1)),
tq 14 (.call false true (.t 12) [.t 13]),
tq 6 (.mv (.t 14))] [1, 3, 12, 13, 14])
.ret)))⟩

def c_message_digits_1 : CF := ⟨[.tmp 4],
  (.seq (.reg false [
tq 3 (.box ty_message_Line (.t 0)),
tq 4 (.mv (.k (.d (.str []))))] [0, 4])
(.seq (.reg true [
ld 5 1,
tq 6 (.callR false (.t 5) [.t 3] [2]),
tq 7 (.nilCheck (.t 6)),
ld 8 7,
ld 9 2,
tq 10 (.call false true (.k (.fn n_message_wide [] [])) [.t 8, .t 9]),
tq 4 (.mv (.t 10))] [1, 2, 3, 5, 6, 7, 8, 9, 10])
.ret))⟩

def c_message_digits_2 : CF := ⟨[.tmp 6],
  (.seq (.reg false [
tq 6 (.mv (.k (.d (.bool false))))] [6])
(.seq (.reg false [
tq 10 (.mv (.t 1)),
ld 11 2,
tq 12 (.call false true (.k (.fn n_message_number [] [])) [.t 10, .t 11]),
tq 9 (.mv (.t 12)),
tq 13 (.extract (.t 9) 0),
tq 14 (.extract (.t 9) 1),
tq 7 (.mv (.t 13)),
tq 8 (.mv (.t 14))] [1, 2, 9, 10, 11, 12, 13, 14])
(.seq (.reg false [
ld 15 3,
tq 16 (.mv (.t 0)),
tq 17 (.call true false (.t 15) [.t 16]),
tq 18 (.mv (.t 7)),
tq 19 (.nilCheck (.t 17)),
⟨none, none, .store 1 (.t 19) (.t 18)⟩] [0, 3, 7, 15, 16, 17, 18, 19])
(.seq (.reg false [
tq 20 (.mv (.t 8)),
tq 6 (.mv (.t 20))] [8, 20])
.ret))))⟩

def b_calendar_printMask_1 : C :=
  (.seq (.reg false [
tq 6 (.bin .lss (.t 5) (kq 7))] [])
(.seq (.cond (.t 6) .skip
 (.exit 0))
(.seq (.block 1 (.seq (.reg false [
tq 7 (.mv (.t 5)),
tq 4 (.mv (.t 7))] [7])
(.seq (.seq (.reg false [
tq 8 (.mv (.t 0)),
tq 9 (.mv (.t 4)),
tq 10 (.call false true (.k (.fn n_calendar_inMask [] [])) [.t 8, .t 9])] [8, 9])
(.cond (.t 10) (.seq (.reg false [
tq 11 (.mv (.t 4)),
tq 12 (.bin .add (.t 11) (kq 1)),
tq 13 (.call false true (.k (.fn n_strconv_Itoa [] [])) [.t 12]),
tq 14 (.call true false (.k (.fn n_strings_Builder_WriteString [] [])) [.t 3, .t 13])] [4, 11, 12, 13, 14])
(.exit 1))
 .skip))
(.reg false [
tq 15 (.call true false (.k (.fn n_strings_Builder_WriteByte [] [])) [.t 3, .k (.d (.int .u8 48))])] [15]))))
(.reg false [
tq 16 (.bin .add (.t 5) (kq 1)),
tq 5 (.mv (.t 16))] [16]))))

def c_calendar_printMask : CF := ⟨[.tmp 2],
  (.seq (.reg false [
tq 2 (.mv (.k (.d (.str []))))] [2])
(.seq (.reg false [
tq 3 (.alloc ty_strings_Builder [.z .nilp, .own ⟨false, ty_uint8, 1, 1⟩])] [])
(.seq (.seq (.reg false [
tq 5 (.mv (kq 0))] [])
(.block 0 (.loop [0, 3, 5] b_calendar_printMask_1)))
(.seq (.reg false [
tq 17 (.call true true (.k (.fn n_strings_Builder_String [] [])) [.t 3]),
tq 2 (.mv (.t 17))] [3, 17])
.ret))))⟩

def c_message_dashed_1 : CF := ⟨[.tmp 3],
  (.seq (.reg false [
tq 2 (.box ty_message_Line (.t 0)),
tq 3 (.mv (.k (.d (.str []))))] [0, 3])
(.seq (.seq (.reg false [
ld 5 1,
tq 6 (.call true false (.t 5) [.t 2]),
tq 7 (.nilCheck (.t 6)),
ld 8 7,
tq 4 (.mv (.t 8))] [1, 2, 5, 6, 7, 8])
(.seq (.reg false [
tq 9 (.mv (.t 4)),
tq 10 (.bin .neq (.t 9) (.k (.d (.str []))))] [9])
(.cond (.t 10) (.seq (.reg false [
tq 11 (.mv (.t 4)),
tq 3 (.mv (.t 11))] [4, 11])
.ret)
 .skip)))
(.seq (.reg false [
tq 3 (.mv (.k (.d (.str [45]))))] [])
.ret)))⟩

def c_message_dashed_2 : CF := ⟨[.tmp 5],
  (.seq (.reg false [
tq 5 (.mv (.k (.d (.bool false))))] [5])
(.seq (.seq (.reg false [
tq 6 (.mv (.t 1)),
tq 7 (.bin .eql (.t 6) (.k (.d (.str [45]))))] [6])
(.cond (.t 7) (.seq (.reg false [
tq 5 (.mv (.k (.d (.bool true))))] [])
.ret)
 .skip))
(.seq (.reg false [
ld 8 2,
tq 9 (.mv (.t 0)),
tq 10 (.call true false (.t 8) [.t 9]),
tq 11 (.mv (.t 1)),
tq 12 (.nilCheck (.t 10)),
⟨none, none, .store 1 (.t 12) (.t 11)⟩] [0, 2, 8, 9, 10, 11, 12])
(.seq (.reg false [
tq 13 (.mv (.t 1)),
tq 14 (.call false true (.k (.fn n_calendar_IsName [] [])) [.t 13]),
tq 5 (.mv (.t 14))] [1, 13, 14])
.ret))))⟩

def c_strings_Builder_WriteByte : CF := ⟨[.tmp 4],
  (.seq (.reg false [
tq 4 (.mv (.k (.d (.nili))))] [4])
(.seq (.reg false [
tq 5 (.mv (.t 0)),
tq 6 (.call true true (.k (.fn n_strings_Builder_copyCheck [] [])) [.t 5])] [5, 6])
(.seq (.reg false [
tq 7 (.mv (.t 0)),
tq 8 (.mv (.t 0)),
tq 9 (.nilCheck (.t 8)),
fa 10 1 9,
ld 11 10,
tq 12 (.mv (.t 1)),
tq 13 (.mkList 1 1 [.t 12]),
tq 14 (.append ⟨false, ty_uint8, 1, 1⟩ (.t 11) (.t 13)),
tq 15 (.nilCheck (.t 7)),
fa 16 1 15,
⟨none, none, .store 1 (.t 16) (.t 14)⟩] [0, 1, 7, 8, 9, 10, 11, 12, 13, 14, 15, 16])
(.seq (.reg false [
tq 4 (.mv (.k (.d (.nili))))] [])
.ret))))⟩

def codes : List (Nat × CF) := [
  (n_law02_MessageLeads, c_law02_MessageLeads),
  (n_law02_awake, c_law02_awake),
  (n_message_Requests, c_message_Requests),
  (n_ref02_CheckRequests, c_ref02_CheckRequests),
  (n_message_Changed, c_message_Changed),
  (n_law02_copied, c_law02_copied),
  (n_ref02_At, c_ref02_At),
  (n_ref02_CheckRequest, c_ref02_CheckRequest),
  (n_law02_sample, c_law02_sample),
  (n_message_PrintMinute, c_message_PrintMinute),
  (n_message_ParseMinute, c_message_ParseMinute),
  (n_message_PrintLine, c_message_PrintLine),
  (n_message_ParseLine, c_message_ParseLine),
  (n_message_PrintMessage, c_message_PrintMessage),
  (n_message_ParseMessage, c_message_ParseMessage),
  (n_message_Answers, c_message_Answers),
  (n_message_Results, c_message_Results),
  (n_message_first, c_message_first),
  (n_message_CheckMessage, c_message_CheckMessage),
  (n_message_when, c_message_when),
  (n_message_step, c_message_step),
  (n_message_checkRequests, c_message_checkRequests),
  (n_message_Changed_1, c_message_Changed_1),
  (n_slices_IndexFunc_Lapi_Request_api_Request, c_slices_IndexFunc_Lapi_Request_api_Request),
  (n_message_Changed_1_1, c_message_Changed_1_1),
  (n_message_twins, c_message_twins),
  (n_message_filtered_api_Request_message_Line, c_message_filtered_api_Request_message_Line),
  (n_message_Changed_2, c_message_Changed_2),
  (n_message_Changed_3, c_message_Changed_3),
  (n_ref01_IsName, c_ref01_IsName),
  (n_ref02_optional, c_ref02_optional),
  (n_ref01_CheckPeriod, c_ref01_CheckPeriod),
  (n_ref01_First, c_ref01_First),
  (n_ref01_CheckRange, c_ref01_CheckRange),
  (n_calendar_CheckPeriod, c_calendar_CheckPeriod),
  (n_calendar_first, c_calendar_first),
  (n_calendar_checkDay, c_calendar_checkDay),
  (n_calendar_when, c_calendar_when),
  (n_message_within, c_message_within),
  (n_message_wide, c_message_wide),
  (n_message_number, c_message_number),
  (n_message_CheckLine, c_message_CheckLine),
  (n_message_printLine, c_message_printLine),
  (n_message_fields, c_message_fields),
  (n_strings_Builder_WriteString, c_strings_Builder_WriteString),
  (n_message_texts, c_message_texts),
  (n_strings_CutSuffix, c_strings_CutSuffix),
  (n_message_head, c_message_head),
  (n_message_checkLines, c_message_checkLines),
  (n_message_checkHead, c_message_checkHead),
  (n_message_checkBoth, c_message_checkBoth),
  (n_message_moved, c_message_moved),
  (n_message_filtered_message_Line_message_Result, c_message_filtered_message_Line_message_Result),
  (n_message_Results_1, c_message_Results_1),
  (n_message_isMessage, c_message_isMessage),
  (n_message_find, c_message_find),
  (n_message_CheckRequest, c_message_CheckRequest),
  (n_ref01_CheckDay, c_ref01_CheckDay),
  (n_calendar_within, c_calendar_within),
  (n_calendar_inMask, c_calendar_inMask),
  (n_message_isAction, c_message_isAction),
  (n_message_text, c_message_text),
  (n_message_fields_1, c_message_fields_1),
  (n_message_fields_2, c_message_fields_2),
  (n_calendar_IsName, c_calendar_IsName),
  (n_message_fields_3, c_message_fields_3),
  (n_message_fields_4, c_message_fields_4),
  (n_message_isKind, c_message_isKind),
  (n_message_fields_5, c_message_fields_5),
  (n_message_digits, c_message_digits),
  (n_message_fields_6, c_message_fields_6),
  (n_message_fields_7, c_message_fields_7),
  (n_message_fields_8, c_message_fields_8),
  (n_calendar_PrintMask, c_calendar_PrintMask),
  (n_message_fields_9, c_message_fields_9),
  (n_calendar_ParseMask, c_calendar_ParseMask),
  (n_message_fields_10, c_message_fields_10),
  (n_message_fields_11, c_message_fields_11),
  (n_message_fields_12, c_message_fields_12),
  (n_message_fields_13, c_message_fields_13),
  (n_message_fields_14, c_message_fields_14),
  (n_message_dashed, c_message_dashed),
  (n_message_fields_15, c_message_fields_15),
  (n_message_fields_16, c_message_fields_16),
  (n_message_texts_1, c_message_texts_1),
  (n_strings_IndexByte, c_strings_IndexByte),
  (n_internal_stringslite_CutSuffix, c_internal_stringslite_CutSuffix),
  (n_message_actions, c_message_actions),
  (n_message_named, c_message_named),
  (n_message_isSeason, c_message_isSeason),
  (n_message_checkResults, c_message_checkResults),
  (n_slices_IndexFunc_Lmessage_Entry_message_Entry, c_slices_IndexFunc_Lmessage_Entry_message_Entry),
  (n_message_find_1, c_message_find_1),
  (n_message_optional, c_message_optional),
  (n_message_text_1, c_message_text_1),
  (n_message_text_2, c_message_text_2),
  (n_message_digits_1, c_message_digits_1),
  (n_message_digits_2, c_message_digits_2),
  (n_calendar_printMask, c_calendar_printMask),
  (n_message_dashed_1, c_message_dashed_1),
  (n_message_dashed_2, c_message_dashed_2),
  (n_strings_Builder_WriteByte, c_strings_Builder_WriteByte)]

def code (f : Nat) : Option CF := findC f codes

theorem code_law02_MessageLeads : code n_law02_MessageLeads = some c_law02_MessageLeads := rfl
theorem code_law02_awake : code n_law02_awake = some c_law02_awake := rfl
theorem code_message_Requests : code n_message_Requests = some c_message_Requests := rfl
theorem code_ref02_CheckRequests : code n_ref02_CheckRequests = some c_ref02_CheckRequests := rfl
theorem code_message_Changed : code n_message_Changed = some c_message_Changed := rfl
theorem code_law02_copied : code n_law02_copied = some c_law02_copied := rfl
theorem code_ref02_At : code n_ref02_At = some c_ref02_At := rfl
theorem code_ref02_CheckRequest : code n_ref02_CheckRequest = some c_ref02_CheckRequest := rfl
theorem code_law02_sample : code n_law02_sample = some c_law02_sample := rfl
theorem code_message_PrintMinute : code n_message_PrintMinute = some c_message_PrintMinute := rfl
theorem code_message_ParseMinute : code n_message_ParseMinute = some c_message_ParseMinute := rfl
theorem code_message_PrintLine : code n_message_PrintLine = some c_message_PrintLine := rfl
theorem code_message_ParseLine : code n_message_ParseLine = some c_message_ParseLine := rfl
theorem code_message_PrintMessage : code n_message_PrintMessage = some c_message_PrintMessage := rfl
theorem code_message_ParseMessage : code n_message_ParseMessage = some c_message_ParseMessage := rfl
theorem code_message_Answers : code n_message_Answers = some c_message_Answers := rfl
theorem code_message_Results : code n_message_Results = some c_message_Results := rfl
theorem code_message_first : code n_message_first = some c_message_first := rfl
theorem code_message_CheckMessage : code n_message_CheckMessage = some c_message_CheckMessage := rfl
theorem code_message_when : code n_message_when = some c_message_when := rfl
theorem code_message_step : code n_message_step = some c_message_step := rfl
theorem code_message_checkRequests : code n_message_checkRequests = some c_message_checkRequests := rfl
theorem code_message_Changed_1 : code n_message_Changed_1 = some c_message_Changed_1 := rfl
theorem code_slices_IndexFunc_Lapi_Request_api_Request : code n_slices_IndexFunc_Lapi_Request_api_Request = some c_slices_IndexFunc_Lapi_Request_api_Request := rfl
theorem code_message_Changed_1_1 : code n_message_Changed_1_1 = some c_message_Changed_1_1 := rfl
theorem code_message_twins : code n_message_twins = some c_message_twins := rfl
theorem code_message_filtered_api_Request_message_Line : code n_message_filtered_api_Request_message_Line = some c_message_filtered_api_Request_message_Line := rfl
theorem code_message_Changed_2 : code n_message_Changed_2 = some c_message_Changed_2 := rfl
theorem code_message_Changed_3 : code n_message_Changed_3 = some c_message_Changed_3 := rfl
theorem code_ref01_IsName : code n_ref01_IsName = some c_ref01_IsName := rfl
theorem code_ref02_optional : code n_ref02_optional = some c_ref02_optional := rfl
theorem code_ref01_CheckPeriod : code n_ref01_CheckPeriod = some c_ref01_CheckPeriod := rfl
theorem code_ref01_First : code n_ref01_First = some c_ref01_First := rfl
theorem code_ref01_CheckRange : code n_ref01_CheckRange = some c_ref01_CheckRange := rfl
theorem code_calendar_CheckPeriod : code n_calendar_CheckPeriod = some c_calendar_CheckPeriod := rfl
theorem code_calendar_first : code n_calendar_first = some c_calendar_first := rfl
theorem code_calendar_checkDay : code n_calendar_checkDay = some c_calendar_checkDay := rfl
theorem code_calendar_when : code n_calendar_when = some c_calendar_when := rfl
theorem code_message_within : code n_message_within = some c_message_within := rfl
theorem code_message_wide : code n_message_wide = some c_message_wide := rfl
theorem code_message_number : code n_message_number = some c_message_number := rfl
theorem code_message_CheckLine : code n_message_CheckLine = some c_message_CheckLine := rfl
theorem code_message_printLine : code n_message_printLine = some c_message_printLine := rfl
theorem code_message_fields : code n_message_fields = some c_message_fields := rfl
theorem code_strings_Builder_WriteString : code n_strings_Builder_WriteString = some c_strings_Builder_WriteString := rfl
theorem code_message_texts : code n_message_texts = some c_message_texts := rfl
theorem code_strings_CutSuffix : code n_strings_CutSuffix = some c_strings_CutSuffix := rfl
theorem code_message_head : code n_message_head = some c_message_head := rfl
theorem code_message_checkLines : code n_message_checkLines = some c_message_checkLines := rfl
theorem code_message_checkHead : code n_message_checkHead = some c_message_checkHead := rfl
theorem code_message_checkBoth : code n_message_checkBoth = some c_message_checkBoth := rfl
theorem code_message_moved : code n_message_moved = some c_message_moved := rfl
theorem code_message_filtered_message_Line_message_Result : code n_message_filtered_message_Line_message_Result = some c_message_filtered_message_Line_message_Result := rfl
theorem code_message_Results_1 : code n_message_Results_1 = some c_message_Results_1 := rfl
theorem code_message_isMessage : code n_message_isMessage = some c_message_isMessage := rfl
theorem code_message_find : code n_message_find = some c_message_find := rfl
theorem code_message_CheckRequest : code n_message_CheckRequest = some c_message_CheckRequest := rfl
theorem code_ref01_CheckDay : code n_ref01_CheckDay = some c_ref01_CheckDay := rfl
theorem code_calendar_within : code n_calendar_within = some c_calendar_within := rfl
theorem code_calendar_inMask : code n_calendar_inMask = some c_calendar_inMask := rfl
theorem code_message_isAction : code n_message_isAction = some c_message_isAction := rfl
theorem code_message_text : code n_message_text = some c_message_text := rfl
theorem code_message_fields_1 : code n_message_fields_1 = some c_message_fields_1 := rfl
theorem code_message_fields_2 : code n_message_fields_2 = some c_message_fields_2 := rfl
theorem code_calendar_IsName : code n_calendar_IsName = some c_calendar_IsName := rfl
theorem code_message_fields_3 : code n_message_fields_3 = some c_message_fields_3 := rfl
theorem code_message_fields_4 : code n_message_fields_4 = some c_message_fields_4 := rfl
theorem code_message_isKind : code n_message_isKind = some c_message_isKind := rfl
theorem code_message_fields_5 : code n_message_fields_5 = some c_message_fields_5 := rfl
theorem code_message_digits : code n_message_digits = some c_message_digits := rfl
theorem code_message_fields_6 : code n_message_fields_6 = some c_message_fields_6 := rfl
theorem code_message_fields_7 : code n_message_fields_7 = some c_message_fields_7 := rfl
theorem code_message_fields_8 : code n_message_fields_8 = some c_message_fields_8 := rfl
theorem code_calendar_PrintMask : code n_calendar_PrintMask = some c_calendar_PrintMask := rfl
theorem code_message_fields_9 : code n_message_fields_9 = some c_message_fields_9 := rfl
theorem code_calendar_ParseMask : code n_calendar_ParseMask = some c_calendar_ParseMask := rfl
theorem code_message_fields_10 : code n_message_fields_10 = some c_message_fields_10 := rfl
theorem code_message_fields_11 : code n_message_fields_11 = some c_message_fields_11 := rfl
theorem code_message_fields_12 : code n_message_fields_12 = some c_message_fields_12 := rfl
theorem code_message_fields_13 : code n_message_fields_13 = some c_message_fields_13 := rfl
theorem code_message_fields_14 : code n_message_fields_14 = some c_message_fields_14 := rfl
theorem code_message_dashed : code n_message_dashed = some c_message_dashed := rfl
theorem code_message_fields_15 : code n_message_fields_15 = some c_message_fields_15 := rfl
theorem code_message_fields_16 : code n_message_fields_16 = some c_message_fields_16 := rfl
theorem code_message_texts_1 : code n_message_texts_1 = some c_message_texts_1 := rfl
theorem code_strings_IndexByte : code n_strings_IndexByte = some c_strings_IndexByte := rfl
theorem code_internal_stringslite_CutSuffix : code n_internal_stringslite_CutSuffix = some c_internal_stringslite_CutSuffix := rfl
theorem code_message_actions : code n_message_actions = some c_message_actions := rfl
theorem code_message_named : code n_message_named = some c_message_named := rfl
theorem code_message_isSeason : code n_message_isSeason = some c_message_isSeason := rfl
theorem code_message_checkResults : code n_message_checkResults = some c_message_checkResults := rfl
theorem code_slices_IndexFunc_Lmessage_Entry_message_Entry : code n_slices_IndexFunc_Lmessage_Entry_message_Entry = some c_slices_IndexFunc_Lmessage_Entry_message_Entry := rfl
theorem code_message_find_1 : code n_message_find_1 = some c_message_find_1 := rfl
theorem code_message_optional : code n_message_optional = some c_message_optional := rfl
theorem code_message_text_1 : code n_message_text_1 = some c_message_text_1 := rfl
theorem code_message_text_2 : code n_message_text_2 = some c_message_text_2 := rfl
theorem code_message_digits_1 : code n_message_digits_1 = some c_message_digits_1 := rfl
theorem code_message_digits_2 : code n_message_digits_2 = some c_message_digits_2 := rfl
theorem code_calendar_printMask : code n_calendar_printMask = some c_calendar_printMask := rfl
theorem code_message_dashed_1 : code n_message_dashed_1 = some c_message_dashed_1 := rfl
theorem code_message_dashed_2 : code n_message_dashed_2 = some c_message_dashed_2 := rfl
theorem code_strings_Builder_WriteByte : code n_strings_Builder_WriteByte = some c_strings_Builder_WriteByte := rfl

def globs : Globs := [(1, [.int .u64 1, .int .u64 10, .int .u64 100, .int .u64 1000, .int .u64 10000, .int .u64 100000, .int .u64 1000000, .int .u64 10000000, .int .u64 100000000, .int .u64 1000000000, .int .u64 10000000000, .int .u64 100000000000, .int .u64 1000000000000, .int .u64 10000000000000, .int .u64 100000000000000, .int .u64 1000000000000000, .int .u64 10000000000000000, .int .u64 100000000000000000, .int .u64 1000000000000000000, .int .u64 10000000000000000000])]

end Go.Proofs.YtlnlcdnpgjhaaabGreatDoor.Co
