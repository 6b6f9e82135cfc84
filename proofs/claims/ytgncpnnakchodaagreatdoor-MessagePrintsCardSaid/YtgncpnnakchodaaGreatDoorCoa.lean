/-
  The functions of the seat in the evaluator's syntax (printed by a program of mine; checked in a text that follows).
-/
import Derived.Test.YtgncpnnakchodaaGreatDoorEvE
namespace Go.Proofs.YtgncpnnakchodaaGreatDoor.Co
open Go.Evl

def n_law02_MessagePrints : Nat := 3
def n_law02_MessageParses : Nat := 4
def n_law02_MessageLeaves : Nat := 5
def n_law02_MessageChanges : Nat := 6
def n_law02_MessageResults : Nat := 7
def n_law02_MessageBack : Nat := 8
def n_law02_MessageStrict : Nat := 9
def n_ref02_ShortMessage : Nat := 10
def n_law02_awake : Nat := 11
def n_message_PrintMessage : Nat := 12
def n_law02_program : Nat := 13
def n_ref02_CheckMessage : Nat := 14
def n_ref02_PrintMessage : Nat := 15
def n_message_CheckMessage : Nat := 16
def n_message_ParseMessage : Nat := 17
def n_ref02_ParseMessage : Nat := 18
def n_ref02_SameMessages : Nat := 19
def n_law02_own : Nat := 20
def n_message_Requests : Nat := 21
def n_ref02_Requests : Nat := 22
def n_ref02_SameEntries : Nat := 23
def n_law02_ownEntries : Nat := 24
def n_ref02_Short : Nat := 25
def n_message_Changed : Nat := 26
def n_law02_copied : Nat := 27
def n_ref01_First : Nat := 28
def n_ref02_CheckRequests : Nat := 29
def n_ref02_Changed : Nat := 30
def n_ref02_SameLines : Nat := 31
def n_law02_ownLines : Nat := 32
def n_message_Results : Nat := 33
def n_ref02_Results : Nat := 34
def n_ref02_SameResults : Nat := 35
def n_law02_ownResults : Nat := 36
def n_message_PrintLine : Nat := 37
def n_message_ParseLine : Nat := 38
def n_message_ParseMinute : Nat := 39
def n_message_PrintMinute : Nat := 40
def n_ref02_ShortLines : Nat := 41
def n_law02_sample : Nat := 42
def n_message_Answers : Nat := 43
def n_strings_Builder_WriteString : Nat := 44
def n_message_wide : Nat := 45
def n_message_printLine : Nat := 46
def n_law02_lines : Nat := 48
def n_ref02_CheckHead : Nat := 49
def n_ref02_CheckLines : Nat := 50
def n_ref02_joined : Nat := 51
def n_ref02_wide : Nat := 52
def n_ref02_PrintLine : Nat := 53
def n_message_first : Nat := 54
def n_message_when : Nat := 55
def n_message_isMessage : Nat := 56
def n_message_checkHead : Nat := 57
def n_message_checkLines : Nat := 58
def n_message_texts : Nat := 59
def n_strings_CutSuffix : Nat := 60
def n_message_head : Nat := 62
def n_message_number : Nat := 63
def n_ref02_pieces : Nat := 64
def n_ref02_head : Nat := 65
def n_ref02_ended : Nat := 66
def n_ref02_split : Nat := 67
def n_ref02_ParseLine : Nat := 68
def n_ref02_digits : Nat := 69
def n_message_step : Nat := 70
def n_ref02_step : Nat := 71
def n_ref02_Brief : Nat := 72
def n_message_checkRequests : Nat := 73
def n_message_Changed_1 : Nat := 74
def n_slices_IndexFunc_Lapi_Request_api_Request : Nat := 75
def n_message_Changed_1_1 : Nat := 76
def n_message_twins : Nat := 77
def n_message_filtered_api_Request_message_Line : Nat := 78
def n_message_Changed_2 : Nat := 79
def n_message_Changed_3 : Nat := 80
def n_ref02_CheckRequest : Nat := 81
def n_ref02_At : Nat := 82
def n_ref02_twin : Nat := 83
def n_message_filtered_message_Line_message_Result : Nat := 84
def n_message_Results_1 : Nat := 85
def n_message_CheckLine : Nat := 87
def n_message_fields : Nat := 88
def n_message_within : Nat := 89
def n_message_checkBoth : Nat := 90
def n_message_moved : Nat := 91
def n_ref01_IsName : Nat := 96
def n_ref02_IsSeason : Nat := 97
def n_ref01_CheckDay : Nat := 98
def n_ref02_CheckLine : Nat := 99
def n_ref02_Asks : Nat := 100
def n_ref01_Text : Nat := 101
def n_ref02_Fields : Nat := 102
def n_message_named : Nat := 103
def n_message_isSeason : Nat := 104
def n_message_actions : Nat := 105
def n_message_texts_1 : Nat := 106
def n_strings_IndexByte : Nat := 107
def n_internal_stringslite_CutSuffix : Nat := 108
def n_ref02_fits : Nat := 110
def n_ref01_ParseMask : Nat := 111
def n_ref02_undashed : Nat := 112
def n_ref02_ParseMinute : Nat := 113
def n_message_find : Nat := 114
def n_ref02_place : Nat := 115
def n_message_CheckRequest : Nat := 116
def n_ref02_optional : Nat := 117
def n_ref01_CheckPeriod : Nat := 118
def n_ref01_CheckRange : Nat := 119
def n_message_isAction : Nat := 121
def n_message_text : Nat := 122
def n_message_fields_1 : Nat := 123
def n_message_fields_2 : Nat := 124
def n_calendar_IsName : Nat := 125
def n_message_fields_3 : Nat := 126
def n_message_fields_4 : Nat := 127
def n_message_isKind : Nat := 128
def n_message_fields_5 : Nat := 129
def n_message_digits : Nat := 130
def n_message_fields_6 : Nat := 131
def n_message_fields_7 : Nat := 132
def n_message_fields_8 : Nat := 133
def n_calendar_PrintMask : Nat := 134
def n_message_fields_9 : Nat := 135
def n_calendar_ParseMask : Nat := 136
def n_message_fields_10 : Nat := 137
def n_message_fields_11 : Nat := 138
def n_message_fields_12 : Nat := 139
def n_message_fields_13 : Nat := 140
def n_message_fields_14 : Nat := 141
def n_message_dashed : Nat := 142
def n_message_fields_15 : Nat := 143
def n_message_fields_16 : Nat := 144
def n_message_checkResults : Nat := 145
def n_ref02_Replies : Nat := 152
def n_ref01_HasWord : Nat := 153
def n_ref01_digit : Nat := 154
def n_ref01_PrintMask : Nat := 155
def n_ref02_PrintMinute : Nat := 156
def n_ref02_dashed : Nat := 157
def n_slices_IndexFunc_Lmessage_Entry_message_Entry : Nat := 162
def n_message_find_1 : Nat := 163
def n_message_optional : Nat := 164
def n_calendar_CheckPeriod : Nat := 165
def n_message_text_1 : Nat := 167
def n_message_text_2 : Nat := 168
def n_message_digits_1 : Nat := 169
def n_message_digits_2 : Nat := 170
def n_calendar_within : Nat := 171
def n_calendar_printMask : Nat := 172
def n_message_dashed_1 : Nat := 173
def n_message_dashed_2 : Nat := 174
def n_ref01_InMask : Nat := 180
def n_calendar_first : Nat := 185
def n_calendar_checkDay : Nat := 186
def n_calendar_when : Nat := 187
def n_calendar_inMask : Nat := 191
def n_strings_Builder_WriteByte : Nat := 192
def n_strings_Builder_String : Nat := 47
def n_strings_Split : Nat := 61
def n_strings_Contains : Nat := 86
def n_strings_Builder_copyCheck : Nat := 92
def n_strconv_Itoa : Nat := 93
def n_strings_Repeat : Nat := 94
def n_strings_Join : Nat := 95
def n_internal_stringslite_IndexByte : Nat := 158
def n_internal_stringslite_HasSuffix : Nat := 159
def ty_int : Nat := 3
def ty_bool : Nat := 4
def ty_uint8 : Nat := 5
def ty_string : Nat := 9
def ty_turnroundref02_Message : Nat := 24
def ty_api_Errno : Nat := 27
def ty_message_Message : Nat := 32
def ty_func_string_bool : Nat := 44
def ty_Lapi_Request : Nat := 56
def ty_api_Period : Nat := 78
def ty_api_Request : Nat := 80
def ty_turnroundref02_Line : Nat := 82
def ty_message_Line : Nat := 84
def ty_message_Result : Nat := 97
def ty_message_Entry : Nat := 99
def ty_strings_Builder : Nat := 103
def ty_turnroundref02_Entry : Nat := 143
def ty_func_Lapi_Request_api_Request_api_Request_bool : Nat := 148
def ty_turnroundref02_Result : Nat := 159
def ty_message_field : Nat := 163
def ty_14_message_field : Nat := 164
def ty_func_ptr_message_Line_ptr_string : Nat := 197
def ty_func_ptr_message_Line_ptr_int : Nat := 200

/-- "turnround/turnroundlaw02.MessagePrints" -/
def c_law02_MessagePrints : CF := ⟨[.tmp 2],
  (.seq (.reg false [
⟨some 1, none, .box ty_turnroundref02_Message (.t 0)⟩,
⟨some 2, none, .mv (.k (.d (.bool false)))⟩] [0, 2])
(.seq (.seq (.reg false [
⟨some 7, none, .load (some 5) (.t 1)⟩,
⟨some 8, none, .call false true (.k (.fn n_ref02_ShortMessage [] [])) [.t 7, .k (.d (.int .i64 8))]⟩,
⟨some 9, none, .un .not (.t 8)⟩] [7, 8])
(.cond (.t 9) (.seq (.reg false [
⟨some 10, none, .call false true (.k (.fn n_law02_awake [] [])) []⟩,
⟨some 2, none, .mv (.t 10)⟩] [10])
.ret)
 .skip))
(.seq (.reg false [
⟨some 12, none, .load (some 5) (.t 1)⟩,
⟨some 13, none, .call false true (.k (.fn n_law02_program [] [])) [.t 12]⟩,
⟨some 14, none, .call false true (.k (.fn n_message_PrintMessage [] [])) [.t 13]⟩,
⟨some 11, none, .mv (.t 14)⟩,
⟨some 15, none, .extract (.t 11) 0⟩,
⟨some 16, none, .extract (.t 11) 1⟩,
⟨some 3, none, .mv (.t 15)⟩,
⟨some 4, none, .mv (.t 16)⟩] [11, 12, 13, 14, 15, 16])
(.seq (.reg false [
⟨some 17, none, .load (some 5) (.t 1)⟩,
⟨some 18, none, .call false true (.k (.fn n_ref02_CheckMessage [] [])) [.t 17]⟩,
⟨some 5, none, .mv (.t 18)⟩,
⟨some 6, none, .mv (.k (.d (.str [])))⟩] [17, 18])
(.seq (.seq (.reg false [
⟨some 19, none, .mv (.t 5)⟩,
⟨some 20, none, .bin .eql (.t 19) (.k (.d (.int .i64 0)))⟩] [19])
(.cond (.t 20) (.reg false [
⟨some 21, none, .load (some 5) (.t 1)⟩,
⟨some 22, none, .call false true (.k (.fn n_ref02_PrintMessage [] [])) [.t 21]⟩,
⟨some 6, none, .mv (.t 22)⟩] [21, 22])
 .skip))
(.seq (.reg false [
⟨some 23, none, .load (some 5) (.t 1)⟩,
⟨some 24, none, .call false true (.k (.fn n_law02_program [] [])) [.t 23]⟩,
⟨some 25, none, .call false true (.k (.fn n_message_CheckMessage [] [])) [.t 24]⟩,
⟨some 26, none, .mv (.t 5)⟩,
⟨some 27, none, .bin .eql (.t 25) (.t 26)⟩,
⟨some 28, none, .mv (.t 27)⟩,
⟨some 29, (some (28, true)), .mv (.t 3)⟩,
⟨some 30, (some (28, true)), .mv (.t 6)⟩,
⟨some 31, (some (28, true)), .bin .eql (.t 29) (.t 30)⟩,
⟨some 32, none, .pick (.t 28) (.t 31) (.k (.d (.bool false)))⟩,
⟨some 33, none, .mv (.t 32)⟩,
⟨some 34, (some (33, true)), .mv (.t 4)⟩,
⟨some 35, (some (33, true)), .mv (.t 5)⟩,
⟨some 36, (some (33, true)), .bin .eql (.t 34) (.t 35)⟩,
⟨some 37, none, .pick (.t 33) (.t 36) (.k (.d (.bool false)))⟩,
⟨some 38, none, .mv (.t 37)⟩,
⟨some 39, (some (38, true)), .call false true (.k (.fn n_law02_awake [] [])) []⟩,
⟨some 40, none, .pick (.t 38) (.t 39) (.k (.d (.bool false)))⟩,
⟨some 2, none, .mv (.t 40)⟩] [1, 3, 4, 5, 6, 23, 24, 25, 26, 27, 28, 29, 30, 31, 32, 33, 34, 35, 36, 37, 38, 39, 40])
.ret))))))⟩

/-- "turnround/turnroundlaw02.MessageParses" -/
def c_law02_MessageParses : CF := ⟨[.tmp 2],
  (.seq (.reg false [
⟨some 2, none, .mv (.k (.d (.bool false)))⟩] [2])
(.seq (.seq (.reg false [
⟨some 9, none, .mv (.t 0)⟩,
⟨some 10, none, .len .str (.t 9)⟩,
⟨some 11, none, .bin .gtr (.t 10) (.k (.d (.int .i64 1500)))⟩,
⟨some 12, none, .mv (.t 11)⟩,
⟨some 13, (some (12, true)), .mv (.t 0)⟩,
⟨some 14, (some (12, true)), .len .str (.t 13)⟩,
⟨some 15, (some (12, true)), .bin .leq (.t 14) (.k (.d (.int .i64 16384)))⟩,
⟨some 16, none, .pick (.t 12) (.t 15) (.k (.d (.bool false)))⟩,
⟨some 17, none, .mv (.t 16)⟩,
⟨some 18, (some (17, false)), .mv (.t 0)⟩,
⟨some 19, (some (17, false)), .len .str (.t 18)⟩,
⟨some 20, (some (17, false)), .bin .gtr (.t 19) (.k (.d (.int .i64 16393)))⟩,
⟨some 21, none, .pick (.t 17) (.k (.d (.bool true))) (.t 20)⟩] [9, 10, 11, 12, 13, 14, 15, 16, 17, 18, 19, 20])
(.cond (.t 21) (.seq (.reg false [
⟨some 22, none, .call false true (.k (.fn n_law02_awake [] [])) []⟩,
⟨some 2, none, .mv (.t 22)⟩] [22])
.ret)
 .skip))
(.seq (.reg false [
⟨some 24, none, .mv (.t 0)⟩,
⟨some 25, none, .call false true (.k (.fn n_message_ParseMessage [] [])) [.t 24]⟩,
⟨some 23, none, .mv (.t 25)⟩,
⟨some 26, none, .extract (.t 23) 0⟩,
⟨some 27, none, .extract (.t 23) 1⟩,
⟨some 28, none, .extract (.t 23) 2⟩,
⟨some 3, none, .alloc ty_message_Message [.z (.str []), .z (.str []), .z (.str []), .z (.int .i64 0), .z (.list 0 [])]⟩,
⟨none, none, .store 5 (.t 3) (.t 26)⟩,
⟨some 4, none, .mv (.t 27)⟩,
⟨some 5, none, .mv (.t 28)⟩] [23, 24, 25, 26, 27, 28])
(.seq (.reg false [
⟨some 30, none, .mv (.t 0)⟩,
⟨some 31, none, .call false true (.k (.fn n_ref02_ParseMessage [] [])) [.t 30]⟩,
⟨some 29, none, .mv (.t 31)⟩,
⟨some 32, none, .extract (.t 29) 0⟩,
⟨some 33, none, .extract (.t 29) 1⟩,
⟨some 34, none, .extract (.t 29) 2⟩,
⟨some 6, none, .alloc ty_turnroundref02_Message [.z (.str []), .z (.str []), .z (.str []), .z (.int .i64 0), .z (.list 0 [])]⟩,
⟨none, none, .store 5 (.t 6) (.t 32)⟩,
⟨some 7, none, .mv (.t 33)⟩,
⟨some 8, none, .mv (.t 34)⟩] [0, 29, 30, 31, 32, 33, 34])
(.seq (.reg true [
⟨some 35, none, .load (some 5) (.t 3)⟩,
⟨some 36, none, .call false true (.k (.fn n_law02_own [] [])) [.t 35]⟩,
⟨some 37, none, .load (some 5) (.t 6)⟩,
⟨some 38, none, .call false true (.k (.fn n_ref02_SameMessages [] [])) [.t 36, .t 37]⟩,
⟨some 39, none, .mv (.t 38)⟩,
⟨some 40, (some (39, true)), .mv (.t 4)⟩,
⟨some 41, (some (39, true)), .mv (.t 7)⟩,
⟨some 42, (some (39, true)), .bin .eql (.t 40) (.t 41)⟩,
⟨some 43, none, .pick (.t 39) (.t 42) (.k (.d (.bool false)))⟩,
⟨some 44, none, .mv (.t 43)⟩,
⟨some 45, (some (44, true)), .mv (.t 5)⟩,
⟨some 46, (some (44, true)), .mv (.t 8)⟩,
⟨some 47, (some (44, true)), .bin .eql (.t 45) (.t 46)⟩,
⟨some 48, none, .pick (.t 44) (.t 47) (.k (.d (.bool false)))⟩,
⟨some 49, none, .mv (.t 48)⟩,
⟨some 50, (some (49, true)), .call false true (.k (.fn n_law02_awake [] [])) []⟩,
⟨some 51, none, .pick (.t 49) (.t 50) (.k (.d (.bool false)))⟩,
⟨some 2, none, .mv (.t 51)⟩] [3, 4, 5, 6, 7, 8, 35, 36, 37, 38, 39, 40, 41, 42, 43, 44, 45, 46, 47, 48, 49, 50, 51])
.ret)))))⟩

def b_law02_MessageLeaves_1 : C :=
  (.seq (.reg false [
⟨some 24, none, .bin .lss (.t 23) (.t 22)⟩] [])
(.seq (.cond (.t 24) .skip
 (.exit 0))
(.seq (.block 1 (.seq (.reg false [
⟨some 25, none, .idxAddr 5 (.t 21) (.t 23)⟩,
⟨some 26, none, .load (some 5) (.t 25)⟩,
⟨some 5, none, .alloc ty_turnroundref02_Message [.z (.str []), .z (.str []), .z (.str []), .z (.int .i64 0), .z (.list 0 [])]⟩,
⟨none, none, .store 5 (.t 5) (.t 26)⟩] [25, 26])
(.seq (.seq (.reg false [
⟨some 27, none, .load (some 5) (.t 5)⟩,
⟨some 28, none, .call false true (.k (.fn n_ref02_ShortMessage [] [])) [.t 27, .k (.d (.int .i64 6))]⟩,
⟨some 29, none, .un .not (.t 28)⟩] [27, 28])
(.cond (.t 29) (.seq (.reg false [
⟨some 30, none, .call false true (.k (.fn n_law02_awake [] [])) []⟩,
⟨some 2, none, .mv (.t 30)⟩] [30])
.ret)
 .skip))
(.reg false [
⟨some 31, none, .mv (.t 3)⟩,
⟨some 32, none, .load (some 5) (.t 5)⟩,
⟨some 33, none, .call false true (.k (.fn n_law02_program [] [])) [.t 32]⟩,
⟨some 34, none, .mkList 5 1 [.t 33]⟩,
⟨some 35, none, .append ⟨false, ty_message_Message, 5, 80⟩ (.t 31) (.t 34)⟩,
⟨some 3, none, .mv (.t 35)⟩] [5, 31, 32, 33, 34, 35]))))
(.reg false [
⟨some 36, none, .bin .add (.t 23) (.k (.d (.int .i64 1)))⟩,
⟨some 23, none, .mv (.t 36)⟩] [36]))))

/-- "turnround/turnroundlaw02.MessageLeaves" -/
def c_law02_MessageLeaves : CF := ⟨[.tmp 2],
  (.seq (.reg false [
⟨some 2, none, .mv (.k (.d (.bool false)))⟩] [2])
(.seq (.seq (.reg false [
⟨some 12, none, .mv (.t 0)⟩,
⟨some 13, none, .len .slc (.t 12)⟩,
⟨some 14, none, .bin .gtr (.t 13) (.k (.d (.int .i64 4)))⟩,
⟨some 15, none, .mv (.t 14)⟩,
⟨some 16, (some (15, true)), .mv (.t 0)⟩,
⟨some 17, (some (15, true)), .len .slc (.t 16)⟩,
⟨some 18, (some (15, true)), .bin .neq (.t 17) (.k (.d (.int .i64 65)))⟩,
⟨some 19, none, .pick (.t 15) (.t 18) (.k (.d (.bool false)))⟩] [12, 13, 14, 15, 16, 17, 18])
(.cond (.t 19) (.seq (.reg false [
⟨some 20, none, .call false true (.k (.fn n_law02_awake [] [])) []⟩,
⟨some 2, none, .mv (.t 20)⟩] [20])
.ret)
 .skip))
(.seq (.reg false [
⟨some 3, none, .ownNil ⟨false, ty_message_Message, 5, 80⟩⟩] [])
(.seq (.seq (.reg false [
⟨some 21, none, .mv (.t 0)⟩,
⟨some 22, none, .len .slc (.t 21)⟩,
⟨some 23, none, .mv (.k (.d (.int .i64 0)))⟩] [])
(.block 0 (.loop [0, 3, 21, 22, 23] b_law02_MessageLeaves_1)))
(.seq (.reg false [
⟨some 38, none, .mv (.t 3)⟩,
⟨some 39, none, .call false true (.k (.fn n_message_Requests [] [])) [.t 38]⟩,
⟨some 37, none, .mv (.t 39)⟩,
⟨some 40, none, .extract (.t 37) 0⟩,
⟨some 41, none, .extract (.t 37) 1⟩,
⟨some 42, none, .extract (.t 37) 2⟩,
⟨some 6, none, .mv (.t 40)⟩,
⟨some 7, none, .mv (.t 41)⟩,
⟨some 8, none, .mv (.t 42)⟩] [3, 37, 38, 39, 40, 41, 42])
(.seq (.reg false [
⟨some 44, none, .mv (.t 0)⟩,
⟨some 45, none, .call false true (.k (.fn n_ref02_Requests [] [])) [.t 44]⟩,
⟨some 43, none, .mv (.t 45)⟩,
⟨some 46, none, .extract (.t 43) 0⟩,
⟨some 47, none, .extract (.t 43) 1⟩,
⟨some 48, none, .extract (.t 43) 2⟩,
⟨some 9, none, .mv (.t 46)⟩,
⟨some 10, none, .mv (.t 47)⟩,
⟨some 11, none, .mv (.t 48)⟩] [0, 43, 44, 45, 46, 47, 48])
(.seq (.reg false [
⟨some 49, none, .mv (.t 6)⟩,
⟨some 50, none, .call false true (.k (.fn n_law02_ownEntries [] [])) [.t 49]⟩,
⟨some 51, none, .mv (.t 9)⟩,
⟨some 52, none, .call false true (.k (.fn n_ref02_SameEntries [] [])) [.t 50, .t 51]⟩,
⟨some 53, none, .mv (.t 52)⟩,
⟨some 54, (some (53, true)), .mv (.t 7)⟩,
⟨some 55, (some (53, true)), .mv (.t 10)⟩,
⟨some 56, (some (53, true)), .bin .eql (.t 54) (.t 55)⟩,
⟨some 57, none, .pick (.t 53) (.t 56) (.k (.d (.bool false)))⟩,
⟨some 58, none, .mv (.t 57)⟩,
⟨some 59, (some (58, true)), .mv (.t 8)⟩,
⟨some 60, (some (58, true)), .mv (.t 11)⟩,
⟨some 61, (some (58, true)), .bin .eql (.t 59) (.t 60)⟩,
⟨some 62, none, .pick (.t 58) (.t 61) (.k (.d (.bool false)))⟩,
⟨some 63, none, .mv (.t 62)⟩,
⟨some 64, (some (63, true)), .call false true (.k (.fn n_law02_awake [] [])) []⟩,
⟨some 65, none, .pick (.t 63) (.t 64) (.k (.d (.bool false)))⟩,
⟨some 2, none, .mv (.t 65)⟩] [6, 7, 8, 9, 10, 11, 49, 50, 51, 52, 53, 54, 55, 56, 57, 58, 59, 60, 61, 62, 63, 64, 65])
.ret)))))))⟩

/-- "turnround/turnroundlaw02.MessageChanges" -/
def c_law02_MessageChanges : CF := ⟨[.tmp 4],
  (.seq (.reg false [
⟨some 4, none, .mv (.k (.d (.bool false)))⟩] [4])
(.seq (.seq (.reg false [
⟨some 9, none, .mv (.t 0)⟩,
⟨some 10, none, .call false true (.k (.fn n_ref02_Short [] [])) [.t 9, .k (.d (.int .i64 64))]⟩,
⟨some 11, none, .un .not (.t 10)⟩,
⟨some 12, none, .mv (.t 11)⟩,
⟨some 13, (some (12, false)), .mv (.t 1)⟩,
⟨some 14, (some (12, false)), .call false true (.k (.fn n_ref02_Short [] [])) [.t 13, .k (.d (.int .i64 64))]⟩,
⟨some 15, (some (12, false)), .un .not (.t 14)⟩,
⟨some 16, none, .pick (.t 12) (.k (.d (.bool true))) (.t 15)⟩] [9, 10, 11, 12, 13, 14, 15])
(.cond (.t 16) (.seq (.reg false [
⟨some 17, none, .call false true (.k (.fn n_law02_awake [] [])) []⟩,
⟨some 4, none, .mv (.t 17)⟩] [17])
.ret)
 .skip))
(.seq (.reg false [
⟨some 19, none, .mv (.t 0)⟩,
⟨some 20, none, .call false true (.k (.fn n_law02_copied [] [])) [.t 19]⟩,
⟨some 21, none, .mv (.t 1)⟩,
⟨some 22, none, .call false true (.k (.fn n_law02_copied [] [])) [.t 21]⟩,
⟨some 23, none, .call false true (.k (.fn n_message_Changed [] [])) [.t 20, .t 22]⟩,
⟨some 18, none, .mv (.t 23)⟩,
⟨some 24, none, .extract (.t 18) 0⟩,
⟨some 25, none, .extract (.t 18) 1⟩,
⟨some 5, none, .mv (.t 24)⟩,
⟨some 6, none, .mv (.t 25)⟩] [18, 19, 20, 21, 22, 23, 24, 25])
(.seq (.reg false [
⟨some 26, none, .mv (.t 0)⟩,
⟨some 27, none, .call false true (.k (.fn n_ref02_CheckRequests [] [])) [.t 26]⟩,
⟨some 28, none, .mv (.t 1)⟩,
⟨some 29, none, .call false true (.k (.fn n_ref02_CheckRequests [] [])) [.t 28]⟩,
⟨some 30, none, .mkList 1 2 [.t 27, .t 29]⟩,
⟨some 31, none, .call false true (.k (.fn n_ref01_First [] [])) [.t 30]⟩,
⟨some 7, none, .mv (.t 31)⟩] [26, 27, 28, 29, 30, 31])
(.seq (.reg false [
⟨some 8, none, .mv (.k (.d (.list 0 [])))⟩] [])
(.seq (.seq (.reg false [
⟨some 32, none, .mv (.t 7)⟩,
⟨some 33, none, .bin .eql (.t 32) (.k (.d (.int .i64 0)))⟩] [32])
(.cond (.t 33) (.seq (.reg false [
⟨some 34, none, .mv (.t 0)⟩,
⟨some 35, none, .mv (.t 1)⟩,
⟨some 36, none, .call false true (.k (.fn n_ref02_Changed [] [])) [.t 34, .t 35]⟩,
⟨some 8, none, .mv (.t 36)⟩] [0, 1, 34, 35, 36])
(.seq (.reg false [
⟨some 37, none, .mv (.t 8)⟩,
⟨some 38, none, .len .slc (.t 37)⟩,
⟨some 39, none, .bin .gtr (.t 38) (.k (.d (.int .i64 64)))⟩] [37, 38])
(.cond (.t 39) (.reg false [
⟨some 8, none, .mv (.k (.d (.list 0 [])))⟩,
⟨some 7, none, .mv (.k (.d (.int .i64 5)))⟩] [])
 .skip)))
 .skip))
(.seq (.reg false [
⟨some 40, none, .mv (.t 5)⟩,
⟨some 41, none, .call false true (.k (.fn n_law02_ownLines [] [])) [.t 40]⟩,
⟨some 42, none, .mv (.t 8)⟩,
⟨some 43, none, .call false true (.k (.fn n_ref02_SameLines [] [])) [.t 41, .t 42]⟩,
⟨some 44, none, .mv (.t 43)⟩,
⟨some 45, (some (44, true)), .mv (.t 6)⟩,
⟨some 46, (some (44, true)), .mv (.t 7)⟩,
⟨some 47, (some (44, true)), .bin .eql (.t 45) (.t 46)⟩,
⟨some 48, none, .pick (.t 44) (.t 47) (.k (.d (.bool false)))⟩,
⟨some 49, none, .mv (.t 48)⟩,
⟨some 50, (some (49, true)), .call false true (.k (.fn n_law02_awake [] [])) []⟩,
⟨some 51, none, .pick (.t 49) (.t 50) (.k (.d (.bool false)))⟩,
⟨some 4, none, .mv (.t 51)⟩] [5, 6, 7, 8, 40, 41, 42, 43, 44, 45, 46, 47, 48, 49, 50, 51])
.ret)))))))⟩

/-- "turnround/turnroundlaw02.MessageResults" -/
def c_law02_MessageResults : CF := ⟨[.tmp 2],
  (.seq (.reg false [
⟨some 1, none, .box ty_turnroundref02_Message (.t 0)⟩,
⟨some 2, none, .mv (.k (.d (.bool false)))⟩] [0, 2])
(.seq (.seq (.reg false [
⟨some 7, none, .load (some 5) (.t 1)⟩,
⟨some 8, none, .call false true (.k (.fn n_ref02_ShortMessage [] [])) [.t 7, .k (.d (.int .i64 8))]⟩,
⟨some 9, none, .un .not (.t 8)⟩] [7, 8])
(.cond (.t 9) (.seq (.reg false [
⟨some 10, none, .call false true (.k (.fn n_law02_awake [] [])) []⟩,
⟨some 2, none, .mv (.t 10)⟩] [10])
.ret)
 .skip))
(.seq (.reg false [
⟨some 12, none, .load (some 5) (.t 1)⟩,
⟨some 13, none, .call false true (.k (.fn n_law02_program [] [])) [.t 12]⟩,
⟨some 14, none, .call false true (.k (.fn n_message_Results [] [])) [.t 13]⟩,
⟨some 11, none, .mv (.t 14)⟩,
⟨some 15, none, .extract (.t 11) 0⟩,
⟨some 16, none, .extract (.t 11) 1⟩,
⟨some 3, none, .mv (.t 15)⟩,
⟨some 4, none, .mv (.t 16)⟩] [11, 12, 13, 14, 15, 16])
(.seq (.reg false [
⟨some 18, none, .load (some 5) (.t 1)⟩,
⟨some 19, none, .call false true (.k (.fn n_ref02_Results [] [])) [.t 18]⟩,
⟨some 17, none, .mv (.t 19)⟩,
⟨some 20, none, .extract (.t 17) 0⟩,
⟨some 21, none, .extract (.t 17) 1⟩,
⟨some 5, none, .mv (.t 20)⟩,
⟨some 6, none, .mv (.t 21)⟩] [1, 17, 18, 19, 20, 21])
(.seq (.reg false [
⟨some 22, none, .mv (.t 3)⟩,
⟨some 23, none, .call false true (.k (.fn n_law02_ownResults [] [])) [.t 22]⟩,
⟨some 24, none, .mv (.t 5)⟩,
⟨some 25, none, .call false true (.k (.fn n_ref02_SameResults [] [])) [.t 23, .t 24]⟩,
⟨some 26, none, .mv (.t 25)⟩,
⟨some 27, (some (26, true)), .mv (.t 4)⟩,
⟨some 28, (some (26, true)), .mv (.t 6)⟩,
⟨some 29, (some (26, true)), .bin .eql (.t 27) (.t 28)⟩,
⟨some 30, none, .pick (.t 26) (.t 29) (.k (.d (.bool false)))⟩,
⟨some 31, none, .mv (.t 30)⟩,
⟨some 32, (some (31, true)), .call false true (.k (.fn n_law02_awake [] [])) []⟩,
⟨some 33, none, .pick (.t 31) (.t 32) (.k (.d (.bool false)))⟩,
⟨some 2, none, .mv (.t 33)⟩] [3, 4, 5, 6, 22, 23, 24, 25, 26, 27, 28, 29, 30, 31, 32, 33])
.ret)))))⟩

def b_law02_MessageBack_1 : C :=
  (.seq (.reg false [
⟨some 72, none, .bin .lss (.t 71) (.t 70)⟩] [])
(.seq (.cond (.t 72) .skip
 (.exit 0))
(.seq (.block 1 (.seq (.reg false [
⟨some 73, none, .idxAddr 14 (.t 69) (.t 71)⟩,
⟨some 74, none, .load (some 14) (.t 73)⟩,
⟨some 11, none, .alloc ty_turnroundref02_Line [.z (.str []), .z (.str []), .z (.str []), .z (.str []), .z (.str []), .z (.str []), .z (.str []), .z (.int .i64 0), .z (.int .i64 0), .z (.int .i64 0), .z (.int .i64 0), .z (.int .i64 0), .z (.int .i64 0), .z (.int .i64 0)]⟩,
⟨none, none, .store 14 (.t 11) (.t 74)⟩] [73, 74])
(.seq (.reg false [
⟨some 76, none, .load (some 14) (.t 11)⟩,
⟨some 77, none, .call false true (.k (.fn n_message_PrintLine [] [])) [.t 76]⟩,
⟨some 75, none, .mv (.t 77)⟩,
⟨some 78, none, .extract (.t 75) 0⟩,
⟨some 79, none, .extract (.t 75) 1⟩,
⟨some 12, none, .mv (.t 78)⟩,
⟨some 13, none, .mv (.t 79)⟩] [75, 76, 77, 78, 79])
(.seq (.reg false [
⟨some 81, none, .mv (.t 12)⟩,
⟨some 82, none, .call false true (.k (.fn n_message_ParseLine [] [])) [.t 81]⟩,
⟨some 80, none, .mv (.t 82)⟩,
⟨some 83, none, .extract (.t 80) 0⟩,
⟨some 84, none, .extract (.t 80) 1⟩,
⟨some 85, none, .extract (.t 80) 2⟩,
⟨some 14, none, .alloc ty_message_Line [.z (.str []), .z (.str []), .z (.str []), .z (.str []), .z (.str []), .z (.str []), .z (.str []), .z (.int .i64 0), .z (.int .i64 0), .z (.int .i64 0), .z (.int .i64 0), .z (.int .i64 0), .z (.int .i64 0), .z (.int .i64 0)]⟩,
⟨none, none, .store 14 (.t 14) (.t 83)⟩,
⟨some 15, none, .mv (.t 84)⟩,
⟨some 16, none, .mv (.t 85)⟩] [12, 80, 81, 82, 83, 84, 85])
(.seq (.reg false [
⟨some 86, none, .mv (.t 13)⟩,
⟨some 87, none, .bin .neq (.t 86) (.k (.d (.int .i64 0)))⟩,
⟨some 88, none, .mv (.t 87)⟩,
⟨some 89, (some (88, false)), .mv (.t 16)⟩,
⟨some 90, (some (88, false)), .bin .neq (.t 89) (.k (.d (.int .i64 0)))⟩,
⟨some 91, none, .pick (.t 88) (.k (.d (.bool true))) (.t 90)⟩,
⟨some 92, none, .mv (.t 91)⟩,
⟨some 93, (some (92, false)), .mv (.t 15)⟩,
⟨some 94, (some (92, false)), .bin .neq (.t 93) (.k (.d (.int .i64 0)))⟩,
⟨some 95, none, .pick (.t 92) (.k (.d (.bool true))) (.t 94)⟩,
⟨some 96, none, .mv (.t 95)⟩,
⟨some 97, (some (96, false)), .load (some 14) (.t 14)⟩,
⟨some 98, (some (96, false)), .load (some 14) (.t 11)⟩,
⟨some 99, (some (96, false)), .eqv (some [.str, .str, .str, .str, .str, .str, .str, .int, .int, .int, .int, .int, .int, .int]) true (.t 97) (.t 98)⟩,
⟨some 100, none, .pick (.t 96) (.k (.d (.bool true))) (.t 99)⟩] [11, 13, 14, 15, 16, 86, 87, 88, 89, 90, 91, 92, 93, 94, 95, 96, 97, 98, 99])
(.cond (.t 100) (.seq (.reg false [
⟨some 4, none, .mv (.k (.d (.bool false)))⟩] [])
.ret)
 .skip))))))
(.reg false [
⟨some 101, none, .bin .add (.t 71) (.k (.d (.int .i64 1)))⟩,
⟨some 71, none, .mv (.t 101)⟩] [101]))))

/-- "turnround/turnroundlaw02.MessageBack" -/
def c_law02_MessageBack : CF := ⟨[.tmp 4],
  (.seq (.reg false [
⟨some 2, none, .box ty_turnroundref02_Message (.t 0)⟩,
⟨some 4, none, .mv (.k (.d (.bool false)))⟩] [0, 4])
(.seq (.seq (.reg false [
⟨some 20, none, .load (some 5) (.t 2)⟩,
⟨some 21, none, .call false true (.k (.fn n_ref02_ShortMessage [] [])) [.t 20, .k (.d (.int .i64 6))]⟩,
⟨some 22, none, .un .not (.t 21)⟩,
⟨some 23, none, .mv (.t 22)⟩,
⟨some 24, (some (23, false)), .load (some 5) (.t 2)⟩,
⟨some 25, (some (23, false)), .call false true (.k (.fn n_ref02_CheckMessage [] [])) [.t 24]⟩,
⟨some 26, (some (23, false)), .bin .neq (.t 25) (.k (.d (.int .i64 0)))⟩,
⟨some 27, none, .pick (.t 23) (.k (.d (.bool true))) (.t 26)⟩] [20, 21, 22, 23, 24, 25, 26])
(.cond (.t 27) (.seq (.reg false [
⟨some 28, none, .call false true (.k (.fn n_law02_awake [] [])) []⟩,
⟨some 4, none, .mv (.t 28)⟩] [28])
.ret)
 .skip))
(.seq (.reg false [
⟨some 30, none, .load (some 5) (.t 2)⟩,
⟨some 31, none, .call false true (.k (.fn n_law02_program [] [])) [.t 30]⟩,
⟨some 32, none, .call false true (.k (.fn n_message_PrintMessage [] [])) [.t 31]⟩,
⟨some 29, none, .mv (.t 32)⟩,
⟨some 33, none, .extract (.t 29) 0⟩,
⟨some 34, none, .extract (.t 29) 1⟩,
⟨some 5, none, .mv (.t 33)⟩,
⟨some 6, none, .mv (.t 34)⟩] [29, 30, 31, 32, 33, 34])
(.seq (.reg false [
⟨some 36, none, .mv (.t 5)⟩,
⟨some 37, none, .call false true (.k (.fn n_message_ParseMessage [] [])) [.t 36]⟩,
⟨some 35, none, .mv (.t 37)⟩,
⟨some 38, none, .extract (.t 35) 0⟩,
⟨some 39, none, .extract (.t 35) 1⟩,
⟨some 40, none, .extract (.t 35) 2⟩,
⟨some 7, none, .alloc ty_message_Message [.z (.str []), .z (.str []), .z (.str []), .z (.int .i64 0), .z (.list 0 [])]⟩,
⟨none, none, .store 5 (.t 7) (.t 38)⟩,
⟨some 8, none, .mv (.t 39)⟩,
⟨some 9, none, .mv (.t 40)⟩] [35, 36, 37, 38, 39, 40])
(.seq (.seq (.reg true [
⟨some 41, none, .mv (.t 6)⟩,
⟨some 42, none, .bin .neq (.t 41) (.k (.d (.int .i64 0)))⟩,
⟨some 43, none, .mv (.t 42)⟩,
⟨some 44, (some (43, false)), .mv (.t 9)⟩,
⟨some 45, (some (43, false)), .bin .neq (.t 44) (.k (.d (.int .i64 0)))⟩,
⟨some 46, none, .pick (.t 43) (.k (.d (.bool true))) (.t 45)⟩,
⟨some 47, none, .mv (.t 46)⟩,
⟨some 48, (some (47, false)), .mv (.t 8)⟩,
⟨some 49, (some (47, false)), .bin .neq (.t 48) (.k (.d (.int .i64 0)))⟩,
⟨some 50, none, .pick (.t 47) (.k (.d (.bool true))) (.t 49)⟩,
⟨some 51, none, .mv (.t 50)⟩,
⟨some 52, (some (51, false)), .load (some 5) (.t 7)⟩,
⟨some 53, (some (51, false)), .call false true (.k (.fn n_law02_own [] [])) [.t 52]⟩,
⟨some 54, (some (51, false)), .load (some 5) (.t 2)⟩,
⟨some 55, (some (51, false)), .call false true (.k (.fn n_ref02_SameMessages [] [])) [.t 53, .t 54]⟩,
⟨some 56, (some (51, false)), .un .not (.t 55)⟩,
⟨some 57, none, .pick (.t 51) (.k (.d (.bool true))) (.t 56)⟩,
⟨some 58, none, .mv (.t 57)⟩,
⟨some 59, (some (58, false)), .mv (.t 5)⟩,
⟨some 60, (some (58, false)), .len .str (.t 59)⟩,
⟨some 61, (some (58, false)), .bin .lss (.t 60) (.k (.d (.int .i64 20)))⟩,
⟨some 62, none, .pick (.t 58) (.k (.d (.bool true))) (.t 61)⟩,
⟨some 63, none, .mv (.t 62)⟩,
⟨some 64, (some (63, false)), .mv (.t 5)⟩,
⟨some 65, (some (63, false)), .len .str (.t 64)⟩,
⟨some 66, (some (63, false)), .bin .gtr (.t 65) (.k (.d (.int .i64 2000)))⟩,
⟨some 67, none, .pick (.t 63) (.k (.d (.bool true))) (.t 66)⟩] [6, 7, 8, 9, 41, 42, 43, 44, 45, 46, 47, 48, 49, 50, 51, 52, 53, 54, 55, 56, 57, 58, 59, 60, 61, 62, 63, 64, 65, 66])
(.cond (.t 67) (.seq (.reg false [
⟨some 4, none, .mv (.k (.d (.bool false)))⟩] [])
.ret)
 .skip))
(.seq (.seq (.reg false [
⟨some 68, none, .fieldAddr 4 (.t 2)⟩,
⟨some 69, none, .load none (.t 68)⟩,
⟨some 70, none, .len .slc (.t 69)⟩,
⟨some 71, none, .mv (.k (.d (.int .i64 0)))⟩] [2, 68])
(.block 0 (.loop [1, 5, 69, 70, 71] b_law02_MessageBack_1)))
(.seq (.reg false [
⟨some 103, none, .mv (.t 5)⟩,
⟨some 104, none, .mv (.t 1)⟩,
⟨some 105, none, .conv .i64 (.t 104)⟩,
⟨some 106, none, .mv (.t 5)⟩,
⟨some 107, none, .len .str (.t 106)⟩,
⟨some 108, none, .bin .rem (.t 105) (.t 107)⟩,
⟨some 109, none, .sliceS (.t 103) none (some (.t 108))⟩,
⟨some 110, none, .call false true (.k (.fn n_message_ParseMessage [] [])) [.t 109]⟩,
⟨some 102, none, .mv (.t 110)⟩,
⟨some 111, none, .extract (.t 102) 0⟩,
⟨some 112, none, .extract (.t 102) 1⟩,
⟨some 113, none, .extract (.t 102) 2⟩,
⟨some 17, none, .alloc ty_message_Message [.z (.str []), .z (.str []), .z (.str []), .z (.int .i64 0), .z (.list 0 [])]⟩,
⟨none, none, .store 5 (.t 17) (.t 111)⟩,
⟨some 18, none, .mv (.t 112)⟩,
⟨some 19, none, .mv (.t 113)⟩] [1, 5, 18, 102, 103, 104, 105, 106, 107, 108, 109, 110, 111, 112, 113])
(.seq (.reg false [
⟨some 114, none, .mv (.t 19)⟩,
⟨some 115, none, .bin .neq (.t 114) (.k (.d (.int .i64 0)))⟩,
⟨some 116, none, .mv (.t 115)⟩,
⟨some 117, (some (116, true)), .load (some 5) (.t 17)⟩,
⟨some 118, (some (116, true)), .call false true (.k (.fn n_law02_own [] [])) [.t 117]⟩,
⟨some 119, (some (116, true)), .build [.z (.str []), .z (.str []), .z (.str []), .z (.int .i64 0), .z (.list 0 [])] []⟩,
⟨some 120, (some (116, true)), .call false true (.k (.fn n_ref02_SameMessages [] [])) [.t 118, .t 119]⟩,
⟨some 121, none, .pick (.t 116) (.t 120) (.k (.d (.bool false)))⟩,
⟨some 122, none, .mv (.t 121)⟩,
⟨some 123, (some (122, true)), .call false true (.k (.fn n_law02_awake [] [])) []⟩,
⟨some 124, none, .pick (.t 122) (.t 123) (.k (.d (.bool false)))⟩,
⟨some 4, none, .mv (.t 124)⟩] [17, 19, 114, 115, 116, 117, 118, 119, 120, 121, 122, 123, 124])
.ret))))))))⟩

/-- "turnround/turnroundlaw02.MessageStrict" -/
def c_law02_MessageStrict : CF := ⟨[.tmp 6],
  (.seq (.reg false [
⟨some 6, none, .mv (.k (.d (.bool false)))⟩] [6])
(.seq (.seq (.reg false [
⟨some 21, none, .mv (.t 0)⟩,
⟨some 22, none, .len .str (.t 21)⟩,
⟨some 23, none, .bin .gtr (.t 22) (.k (.d (.int .i64 1500)))⟩,
⟨some 24, none, .mv (.t 23)⟩,
⟨some 25, (some (24, false)), .mv (.t 1)⟩,
⟨some 26, (some (24, false)), .len .str (.t 25)⟩,
⟨some 27, (some (24, false)), .bin .gtr (.t 26) (.k (.d (.int .i64 300)))⟩,
⟨some 28, none, .pick (.t 24) (.k (.d (.bool true))) (.t 27)⟩,
⟨some 29, none, .mv (.t 28)⟩,
⟨some 30, (some (29, false)), .mv (.t 2)⟩,
⟨some 31, (some (29, false)), .len .str (.t 30)⟩,
⟨some 32, (some (29, false)), .bin .gtr (.t 31) (.k (.d (.int .i64 40)))⟩,
⟨some 33, none, .pick (.t 29) (.k (.d (.bool true))) (.t 32)⟩] [21, 22, 23, 24, 25, 26, 27, 28, 29, 30, 31, 32])
(.cond (.t 33) (.seq (.reg false [
⟨some 34, none, .call false true (.k (.fn n_law02_awake [] [])) []⟩,
⟨some 6, none, .mv (.t 34)⟩] [34])
.ret)
 .skip))
(.seq (.reg false [
⟨some 36, none, .mv (.t 0)⟩,
⟨some 37, none, .call false true (.k (.fn n_message_ParseMessage [] [])) [.t 36]⟩,
⟨some 35, none, .mv (.t 37)⟩,
⟨some 38, none, .extract (.t 35) 0⟩,
⟨some 39, none, .extract (.t 35) 1⟩,
⟨some 40, none, .extract (.t 35) 2⟩,
⟨some 7, none, .alloc ty_message_Message [.z (.str []), .z (.str []), .z (.str []), .z (.int .i64 0), .z (.list 0 [])]⟩,
⟨none, none, .store 5 (.t 7) (.t 38)⟩,
⟨some 8, none, .mv (.t 39)⟩,
⟨some 9, none, .mv (.t 40)⟩] [8, 35, 36, 37, 38, 39, 40])
(.seq (.reg false [
⟨some 42, none, .mv (.t 1)⟩,
⟨some 43, none, .call false true (.k (.fn n_message_ParseLine [] [])) [.t 42]⟩,
⟨some 41, none, .mv (.t 43)⟩,
⟨some 44, none, .extract (.t 41) 0⟩,
⟨some 45, none, .extract (.t 41) 1⟩,
⟨some 46, none, .extract (.t 41) 2⟩,
⟨some 10, none, .alloc ty_message_Line [.z (.str []), .z (.str []), .z (.str []), .z (.str []), .z (.str []), .z (.str []), .z (.str []), .z (.int .i64 0), .z (.int .i64 0), .z (.int .i64 0), .z (.int .i64 0), .z (.int .i64 0), .z (.int .i64 0), .z (.int .i64 0)]⟩,
⟨none, none, .store 14 (.t 10) (.t 44)⟩,
⟨some 11, none, .mv (.t 45)⟩,
⟨some 12, none, .mv (.t 46)⟩] [11, 41, 42, 43, 44, 45, 46])
(.seq (.reg false [
⟨some 48, none, .mv (.t 2)⟩,
⟨some 49, none, .call false true (.k (.fn n_message_ParseMinute [] [])) [.t 48]⟩,
⟨some 47, none, .mv (.t 49)⟩,
⟨some 50, none, .extract (.t 47) 0⟩,
⟨some 51, none, .extract (.t 47) 1⟩,
⟨some 13, none, .mv (.t 50)⟩,
⟨some 14, none, .mv (.t 51)⟩] [47, 48, 49, 50, 51])
(.seq (.seq (.reg false [
⟨some 52, none, .mv (.t 9)⟩,
⟨some 53, none, .bin .eql (.t 52) (.k (.d (.int .i64 0)))⟩] [9, 52])
(.cond (.t 53) (.seq (.reg false [
⟨some 55, none, .load (some 5) (.t 7)⟩,
⟨some 56, none, .call false true (.k (.fn n_message_PrintMessage [] [])) [.t 55]⟩,
⟨some 54, none, .mv (.t 56)⟩,
⟨some 57, none, .extract (.t 54) 0⟩,
⟨some 58, none, .extract (.t 54) 1⟩,
⟨some 15, none, .mv (.t 57)⟩,
⟨some 16, none, .mv (.t 58)⟩] [7, 54, 55, 56, 57, 58])
(.seq (.reg false [
⟨some 59, none, .mv (.t 16)⟩,
⟨some 60, none, .bin .neq (.t 59) (.k (.d (.int .i64 0)))⟩,
⟨some 61, none, .mv (.t 60)⟩,
⟨some 62, (some (61, false)), .mv (.t 15)⟩,
⟨some 63, (some (61, false)), .mv (.t 0)⟩,
⟨some 64, (some (61, false)), .bin .neq (.t 62) (.t 63)⟩,
⟨some 65, none, .pick (.t 61) (.k (.d (.bool true))) (.t 64)⟩] [0, 15, 16, 59, 60, 61, 62, 63, 64])
(.cond (.t 65) (.seq (.reg false [
⟨some 6, none, .mv (.k (.d (.bool false)))⟩] [])
.ret)
 .skip)))
 .skip))
(.seq (.seq (.reg false [
⟨some 66, none, .mv (.t 12)⟩,
⟨some 67, none, .bin .eql (.t 66) (.k (.d (.int .i64 0)))⟩] [12, 66])
(.cond (.t 67) (.seq (.reg false [
⟨some 69, none, .load (some 14) (.t 10)⟩,
⟨some 70, none, .call false true (.k (.fn n_message_PrintLine [] [])) [.t 69]⟩,
⟨some 68, none, .mv (.t 70)⟩,
⟨some 71, none, .extract (.t 68) 0⟩,
⟨some 72, none, .extract (.t 68) 1⟩,
⟨some 17, none, .mv (.t 71)⟩,
⟨some 18, none, .mv (.t 72)⟩] [10, 68, 69, 70, 71, 72])
(.seq (.reg false [
⟨some 73, none, .mv (.t 18)⟩,
⟨some 74, none, .bin .neq (.t 73) (.k (.d (.int .i64 0)))⟩,
⟨some 75, none, .mv (.t 74)⟩,
⟨some 76, (some (75, false)), .mv (.t 17)⟩,
⟨some 77, (some (75, false)), .mv (.t 1)⟩,
⟨some 78, (some (75, false)), .bin .neq (.t 76) (.t 77)⟩,
⟨some 79, none, .pick (.t 75) (.k (.d (.bool true))) (.t 78)⟩] [1, 17, 18, 73, 74, 75, 76, 77, 78])
(.cond (.t 79) (.seq (.reg false [
⟨some 6, none, .mv (.k (.d (.bool false)))⟩] [])
.ret)
 .skip)))
 .skip))
(.seq (.seq (.reg false [
⟨some 80, none, .mv (.t 14)⟩,
⟨some 81, none, .bin .eql (.t 80) (.k (.d (.int .i64 0)))⟩] [14, 80])
(.cond (.t 81) (.seq (.reg false [
⟨some 83, none, .mv (.t 13)⟩,
⟨some 84, none, .call false true (.k (.fn n_message_PrintMinute [] [])) [.t 83]⟩,
⟨some 82, none, .mv (.t 84)⟩,
⟨some 85, none, .extract (.t 82) 0⟩,
⟨some 86, none, .extract (.t 82) 1⟩,
⟨some 19, none, .mv (.t 85)⟩,
⟨some 20, none, .mv (.t 86)⟩] [13, 82, 83, 84, 85, 86])
(.seq (.reg false [
⟨some 87, none, .mv (.t 20)⟩,
⟨some 88, none, .bin .neq (.t 87) (.k (.d (.int .i64 0)))⟩,
⟨some 89, none, .mv (.t 88)⟩,
⟨some 90, (some (89, false)), .mv (.t 19)⟩,
⟨some 91, (some (89, false)), .mv (.t 2)⟩,
⟨some 92, (some (89, false)), .bin .neq (.t 90) (.t 91)⟩,
⟨some 93, none, .pick (.t 89) (.k (.d (.bool true))) (.t 92)⟩] [2, 19, 20, 87, 88, 89, 90, 91, 92])
(.cond (.t 93) (.seq (.reg false [
⟨some 6, none, .mv (.k (.d (.bool false)))⟩] [])
.ret)
 .skip)))
 .skip))
(.seq (.reg false [
⟨some 94, none, .call false true (.k (.fn n_law02_awake [] [])) []⟩,
⟨some 6, none, .mv (.t 94)⟩] [94])
.ret)))))))))⟩

/-- "turnround/turnroundref02.ShortMessage" -/
def c_ref02_ShortMessage : CF := ⟨[.tmp 4],
  (.seq (.reg false [
⟨some 2, none, .box ty_turnroundref02_Message (.t 0)⟩,
⟨some 4, none, .mv (.k (.d (.bool false)))⟩] [0, 4])
(.seq (.reg false [
⟨some 5, none, .fieldAddr 0 (.t 2)⟩,
⟨some 6, none, .load none (.t 5)⟩,
⟨some 7, none, .len .str (.t 6)⟩,
⟨some 8, none, .bin .leq (.t 7) (.k (.d (.int .i64 40)))⟩,
⟨some 9, none, .mv (.t 8)⟩,
⟨some 10, (some (9, true)), .fieldAddr 1 (.t 2)⟩,
⟨some 11, (some (9, true)), .load none (.t 10)⟩,
⟨some 12, (some (9, true)), .len .str (.t 11)⟩,
⟨some 13, (some (9, true)), .bin .leq (.t 12) (.k (.d (.int .i64 40)))⟩,
⟨some 14, none, .pick (.t 9) (.t 13) (.k (.d (.bool false)))⟩,
⟨some 15, none, .mv (.t 14)⟩,
⟨some 16, (some (15, true)), .fieldAddr 2 (.t 2)⟩,
⟨some 17, (some (15, true)), .load none (.t 16)⟩,
⟨some 18, (some (15, true)), .len .str (.t 17)⟩,
⟨some 19, (some (15, true)), .bin .leq (.t 18) (.k (.d (.int .i64 40)))⟩,
⟨some 20, none, .pick (.t 15) (.t 19) (.k (.d (.bool false)))⟩,
⟨some 21, none, .mv (.t 20)⟩,
⟨some 22, (some (21, true)), .fieldAddr 4 (.t 2)⟩,
⟨some 23, (some (21, true)), .load none (.t 22)⟩,
⟨some 24, (some (21, true)), .mv (.t 1)⟩,
⟨some 25, (some (21, true)), .call false true (.k (.fn n_ref02_ShortLines [] [])) [.t 23, .t 24]⟩,
⟨some 26, none, .pick (.t 21) (.t 25) (.k (.d (.bool false)))⟩,
⟨some 4, none, .mv (.t 26)⟩] [1, 2, 5, 6, 7, 8, 9, 10, 11, 12, 13, 14, 15, 16, 17, 18, 19, 20, 21, 22, 23, 24, 25, 26])
.ret))⟩

/-- "turnround/turnroundlaw02.awake" -/
def c_law02_awake : CF := ⟨[.tmp 0],
  (.seq (.reg false [
⟨some 0, none, .mv (.k (.d (.bool false)))⟩] [0])
(.seq (.reg false [
⟨some 42, none, .call false true (.k (.fn n_law02_sample [] [])) []⟩,
⟨some 1, none, .alloc ty_api_Request [.z (.str []), .z (.str []), .z (.str []), .z (.str []), .z (.str []), .z (.str []), .z (.int .i64 0), .z (.int .i64 0), .z (.int .i64 0), .z (.int .i64 0), .z (.int .i64 0), .z (.int .i64 0), .z (.int .i64 0)]⟩,
⟨none, none, .store 13 (.t 1) (.t 42)⟩] [42])
(.seq (.reg false [
⟨some 44, none, .call false true (.k (.fn n_message_PrintMinute [] [])) [.k (.d (.int .i64 605))]⟩,
⟨some 43, none, .mv (.t 44)⟩,
⟨some 45, none, .extract (.t 43) 0⟩,
⟨some 46, none, .extract (.t 43) 1⟩,
⟨some 2, none, .mv (.t 45)⟩,
⟨some 3, none, .mv (.t 46)⟩] [43, 44, 45, 46])
(.seq (.reg false [
⟨some 48, none, .call false true (.k (.fn n_message_ParseMinute [] [])) [.k (.d (.str [48, 48, 48, 53]))]⟩,
⟨some 47, none, .mv (.t 48)⟩,
⟨some 49, none, .extract (.t 47) 0⟩,
⟨some 50, none, .extract (.t 47) 1⟩,
⟨some 4, none, .mv (.t 49)⟩,
⟨some 5, none, .mv (.t 50)⟩] [47, 48, 49, 50])
(.seq (.reg false [
⟨some 52, none, .call false true (.k (.fn n_message_ParseMinute [] [])) [.k (.d (.str [50, 52, 48, 48]))]⟩,
⟨some 51, none, .mv (.t 52)⟩,
⟨some 53, none, .extract (.t 51) 0⟩,
⟨some 54, none, .extract (.t 51) 1⟩,
⟨some 6, none, .mv (.t 53)⟩,
⟨some 7, none, .mv (.t 54)⟩] [6, 51, 52, 53, 54])
(.seq (.reg false [
⟨some 56, none, .load (some 13) (.t 1)⟩,
⟨some 57, none, .build [.z (.str []), .z (.str []), .z (.str []), .z (.str []), .z (.str []), .z (.str []), .z (.str []), .z (.int .i64 0), .z (.int .i64 0), .z (.int .i64 0), .z (.int .i64 0), .z (.int .i64 0), .z (.int .i64 0), .z (.int .i64 0)] [(0, 1, .k (.d (.str [78]))), (1, 13, .t 56)]⟩,
⟨some 58, none, .call false true (.k (.fn n_message_PrintLine [] [])) [.t 57]⟩,
⟨some 55, none, .mv (.t 58)⟩,
⟨some 59, none, .extract (.t 55) 0⟩,
⟨some 60, none, .extract (.t 55) 1⟩,
⟨some 8, none, .mv (.t 59)⟩,
⟨some 9, none, .mv (.t 60)⟩] [55, 56, 57, 58, 59, 60])
(.seq (.reg false [
⟨some 62, none, .call false true (.k (.fn n_message_ParseLine [] [])) [.k (.d (.str [78, 32, 97, 98, 32, 113, 49, 32, 65, 32, 102, 97, 114, 32, 48, 56, 57, 48, 48, 32, 48, 56, 57, 50, 48, 32, 49, 48, 51, 48, 48, 48, 48, 32, 49, 48, 48, 53, 32, 49, 56, 48, 32, 52, 32, 49, 50, 32, 116, 49, 32, 45]))]⟩,
⟨some 61, none, .mv (.t 62)⟩,
⟨some 63, none, .extract (.t 61) 0⟩,
⟨some 64, none, .extract (.t 61) 1⟩,
⟨some 65, none, .extract (.t 61) 2⟩,
⟨some 10, none, .alloc ty_message_Line [.z (.str []), .z (.str []), .z (.str []), .z (.str []), .z (.str []), .z (.str []), .z (.str []), .z (.int .i64 0), .z (.int .i64 0), .z (.int .i64 0), .z (.int .i64 0), .z (.int .i64 0), .z (.int .i64 0), .z (.int .i64 0)]⟩,
⟨none, none, .store 14 (.t 10) (.t 63)⟩,
⟨some 11, none, .mv (.t 64)⟩,
⟨some 12, none, .mv (.t 65)⟩] [61, 62, 63, 64, 65])
(.seq (.seq (.reg false [
⟨some 66, none, .mv (.t 2)⟩,
⟨some 67, none, .bin .neq (.t 66) (.k (.d (.str [49, 48, 48, 53])))⟩,
⟨some 68, none, .mv (.t 67)⟩,
⟨some 69, (some (68, false)), .mv (.t 3)⟩,
⟨some 70, (some (68, false)), .bin .neq (.t 69) (.k (.d (.int .i64 0)))⟩,
⟨some 71, none, .pick (.t 68) (.k (.d (.bool true))) (.t 70)⟩,
⟨some 72, none, .mv (.t 71)⟩,
⟨some 73, (some (72, false)), .mv (.t 4)⟩,
⟨some 74, (some (72, false)), .bin .neq (.t 73) (.k (.d (.int .i64 5)))⟩,
⟨some 75, none, .pick (.t 72) (.k (.d (.bool true))) (.t 74)⟩,
⟨some 76, none, .mv (.t 75)⟩,
⟨some 77, (some (76, false)), .mv (.t 5)⟩,
⟨some 78, (some (76, false)), .bin .neq (.t 77) (.k (.d (.int .i64 0)))⟩,
⟨some 79, none, .pick (.t 76) (.k (.d (.bool true))) (.t 78)⟩,
⟨some 80, none, .mv (.t 79)⟩,
⟨some 81, (some (80, false)), .mv (.t 7)⟩,
⟨some 82, (some (80, false)), .bin .neq (.t 81) (.k (.d (.int .i64 25)))⟩,
⟨some 83, none, .pick (.t 80) (.k (.d (.bool true))) (.t 82)⟩,
⟨some 84, none, .mv (.t 83)⟩,
⟨some 85, (some (84, false)), .mv (.t 9)⟩,
⟨some 86, (some (84, false)), .bin .neq (.t 85) (.k (.d (.int .i64 0)))⟩,
⟨some 87, none, .pick (.t 84) (.k (.d (.bool true))) (.t 86)⟩,
⟨some 88, none, .mv (.t 87)⟩,
⟨some 89, (some (88, false)), .mv (.t 8)⟩,
⟨some 90, (some (88, false)), .bin .neq (.t 89) (.k (.d (.str [78, 32, 97, 98, 32, 113, 49, 32, 65, 32, 102, 97, 114, 32, 48, 56, 57, 48, 48, 32, 48, 56, 57, 50, 48, 32, 49, 48, 51, 48, 48, 48, 48, 32, 49, 48, 48, 53, 32, 49, 56, 48, 32, 52, 32, 49, 50, 32, 116, 49, 32, 45])))⟩,
⟨some 91, none, .pick (.t 88) (.k (.d (.bool true))) (.t 90)⟩,
⟨some 92, none, .mv (.t 91)⟩,
⟨some 93, (some (92, false)), .mv (.t 12)⟩,
⟨some 94, (some (92, false)), .bin .neq (.t 93) (.k (.d (.int .i64 0)))⟩,
⟨some 95, none, .pick (.t 92) (.k (.d (.bool true))) (.t 94)⟩,
⟨some 96, none, .mv (.t 95)⟩,
⟨some 97, (some (96, false)), .mv (.t 11)⟩,
⟨some 98, (some (96, false)), .bin .neq (.t 97) (.k (.d (.int .i64 0)))⟩,
⟨some 99, none, .pick (.t 96) (.k (.d (.bool true))) (.t 98)⟩,
⟨some 100, none, .mv (.t 99)⟩,
⟨some 101, (some (100, false)), .fieldAddr 1 (.t 10)⟩,
⟨some 102, (some (100, false)), .load (some 13) (.t 101)⟩,
⟨some 103, (some (100, false)), .load (some 13) (.t 1)⟩,
⟨some 104, (some (100, false)), .eqv (some [.str, .str, .str, .str, .str, .str, .int, .int, .int, .int, .int, .int, .int]) true (.t 102) (.t 103)⟩,
⟨some 105, none, .pick (.t 100) (.k (.d (.bool true))) (.t 104)⟩] [2, 3, 4, 5, 7, 9, 11, 12, 66, 67, 68, 69, 70, 71, 72, 73, 74, 75, 76, 77, 78, 79, 80, 81, 82, 83, 84, 85, 86, 87, 88, 89, 90, 91, 92, 93, 94, 95, 96, 97, 98, 99, 100, 101, 102, 103, 104])
(.cond (.t 105) (.seq (.reg false [
⟨some 0, none, .mv (.k (.d (.bool false)))⟩] [])
.ret)
 .skip))
(.seq (.reg false [
⟨some 106, none, .mv (.t 8)⟩,
⟨some 107, none, .bin .add (.k (.d (.str [83, 76, 79, 84, 83, 32, 82, 69, 81, 32, 104, 101, 114, 101, 32, 83, 50, 48, 50, 52, 32, 48, 56, 56, 48, 48, 10]))) (.t 106)⟩,
⟨some 108, none, .bin .add (.t 107) (.k (.d (.str [10, 69, 78, 68, 32, 48, 49, 10])))⟩,
⟨some 13, none, .mv (.t 108)⟩] [106, 107, 108])
(.seq (.reg false [
⟨some 109, none, .load (some 14) (.t 10)⟩,
⟨some 110, none, .mkList 14 1 [.t 109]⟩,
⟨some 111, none, .build [.z (.str []), .z (.str []), .z (.str []), .z (.int .i64 0), .z (.list 0 [])] [(0, 1, .k (.d (.str [82, 69, 81]))), (1, 1, .k (.d (.str [104, 101, 114, 101]))), (2, 1, .k (.d (.str [83, 50, 48, 50, 52]))), (3, 1, .k (.d (.int .i64 8800))), (4, 1, .t 110)]⟩,
⟨some 14, none, .alloc ty_message_Message [.z (.str []), .z (.str []), .z (.str []), .z (.int .i64 0), .z (.list 0 [])]⟩,
⟨none, none, .store 5 (.t 14) (.t 111)⟩] [109, 110, 111])
(.seq (.reg false [
⟨some 113, none, .load (some 5) (.t 14)⟩,
⟨some 114, none, .call false true (.k (.fn n_message_PrintMessage [] [])) [.t 113]⟩,
⟨some 112, none, .mv (.t 114)⟩,
⟨some 115, none, .extract (.t 112) 0⟩,
⟨some 116, none, .extract (.t 112) 1⟩,
⟨some 15, none, .mv (.t 115)⟩,
⟨some 16, none, .mv (.t 116)⟩] [112, 113, 114, 115, 116])
(.seq (.reg false [
⟨some 118, none, .mv (.t 8)⟩,
⟨some 119, none, .bin .add (.k (.d (.str [83, 76, 79, 84, 83, 32, 82, 69, 81, 32, 104, 101, 114, 101, 32, 83, 50, 48, 50, 52, 32, 48, 56, 56, 48, 48, 10]))) (.t 118)⟩,
⟨some 120, none, .bin .add (.t 119) (.k (.d (.str [10, 69, 78, 68, 32, 48, 50, 10])))⟩,
⟨some 121, none, .call false true (.k (.fn n_message_ParseMessage [] [])) [.t 120]⟩,
⟨some 117, none, .mv (.t 121)⟩,
⟨some 122, none, .extract (.t 117) 0⟩,
⟨some 123, none, .extract (.t 117) 1⟩,
⟨some 124, none, .extract (.t 117) 2⟩,
⟨some 17, none, .alloc ty_message_Message [.z (.str []), .z (.str []), .z (.str []), .z (.int .i64 0), .z (.list 0 [])]⟩,
⟨none, none, .store 5 (.t 17) (.t 122)⟩,
⟨some 18, none, .mv (.t 123)⟩,
⟨some 19, none, .mv (.t 124)⟩] [17, 117, 118, 119, 120, 121, 122, 123, 124])
(.seq (.reg false [
⟨some 126, none, .mv (.t 8)⟩,
⟨some 127, none, .bin .add (.k (.d (.str [83, 76, 79, 84, 83, 32, 82, 69, 81, 32, 104, 101, 114, 101, 32, 83, 50, 48, 50, 52, 32, 48, 56, 56, 48, 48, 10]))) (.t 126)⟩,
⟨some 128, none, .bin .add (.t 127) (.k (.d (.str [10])))⟩,
⟨some 129, none, .call false true (.k (.fn n_message_ParseMessage [] [])) [.t 128]⟩,
⟨some 125, none, .mv (.t 129)⟩,
⟨some 130, none, .extract (.t 125) 0⟩,
⟨some 131, none, .extract (.t 125) 1⟩,
⟨some 132, none, .extract (.t 125) 2⟩,
⟨some 20, none, .alloc ty_message_Message [.z (.str []), .z (.str []), .z (.str []), .z (.int .i64 0), .z (.list 0 [])]⟩,
⟨none, none, .store 5 (.t 20) (.t 130)⟩,
⟨some 21, none, .mv (.t 131)⟩,
⟨some 22, none, .mv (.t 132)⟩] [8, 20, 125, 126, 127, 128, 129, 130, 131, 132])
(.seq (.reg false [
⟨some 134, none, .mv (.t 13)⟩,
⟨some 135, none, .call false true (.k (.fn n_message_ParseMessage [] [])) [.t 134]⟩,
⟨some 133, none, .mv (.t 135)⟩,
⟨some 136, none, .extract (.t 133) 0⟩,
⟨some 137, none, .extract (.t 133) 1⟩,
⟨some 138, none, .extract (.t 133) 2⟩,
⟨some 23, none, .alloc ty_message_Message [.z (.str []), .z (.str []), .z (.str []), .z (.int .i64 0), .z (.list 0 [])]⟩,
⟨none, none, .store 5 (.t 23) (.t 136)⟩,
⟨some 24, none, .mv (.t 137)⟩,
⟨some 25, none, .mv (.t 138)⟩] [24, 133, 134, 135, 136, 137, 138])
(.seq (.seq (.reg true [
⟨some 139, none, .mv (.t 16)⟩,
⟨some 140, none, .bin .neq (.t 139) (.k (.d (.int .i64 0)))⟩,
⟨some 141, none, .mv (.t 140)⟩,
⟨some 142, (some (141, false)), .mv (.t 15)⟩,
⟨some 143, (some (141, false)), .mv (.t 13)⟩,
⟨some 144, (some (141, false)), .bin .neq (.t 142) (.t 143)⟩,
⟨some 145, none, .pick (.t 141) (.k (.d (.bool true))) (.t 144)⟩,
⟨some 146, none, .mv (.t 145)⟩,
⟨some 147, (some (146, false)), .mv (.t 18)⟩,
⟨some 148, (some (146, false)), .bin .neq (.t 147) (.k (.d (.int .i64 2)))⟩,
⟨some 149, none, .pick (.t 146) (.k (.d (.bool true))) (.t 148)⟩,
⟨some 150, none, .mv (.t 149)⟩,
⟨some 151, (some (150, false)), .mv (.t 19)⟩,
⟨some 152, (some (150, false)), .bin .neq (.t 151) (.k (.d (.int .i64 27)))⟩,
⟨some 153, none, .pick (.t 150) (.k (.d (.bool true))) (.t 152)⟩,
⟨some 154, none, .mv (.t 153)⟩,
⟨some 155, (some (154, false)), .mv (.t 21)⟩,
⟨some 156, (some (154, false)), .bin .neq (.t 155) (.k (.d (.int .i64 2)))⟩,
⟨some 157, none, .pick (.t 154) (.k (.d (.bool true))) (.t 156)⟩,
⟨some 158, none, .mv (.t 157)⟩,
⟨some 159, (some (158, false)), .mv (.t 22)⟩,
⟨some 160, (some (158, false)), .bin .neq (.t 159) (.k (.d (.int .i64 28)))⟩,
⟨some 161, none, .pick (.t 158) (.k (.d (.bool true))) (.t 160)⟩,
⟨some 162, none, .mv (.t 161)⟩,
⟨some 163, (some (162, false)), .mv (.t 25)⟩,
⟨some 164, (some (162, false)), .bin .neq (.t 163) (.k (.d (.int .i64 0)))⟩,
⟨some 165, none, .pick (.t 162) (.k (.d (.bool true))) (.t 164)⟩,
⟨some 166, none, .mv (.t 165)⟩,
⟨some 167, (some (166, false)), .fieldAddr 4 (.t 23)⟩,
⟨some 168, (some (166, false)), .load none (.t 167)⟩,
⟨some 169, (some (166, false)), .len .slc (.t 168)⟩,
⟨some 170, (some (166, false)), .bin .neq (.t 169) (.k (.d (.int .i64 1)))⟩,
⟨some 171, none, .pick (.t 166) (.k (.d (.bool true))) (.t 170)⟩,
⟨some 172, none, .mv (.t 171)⟩,
⟨some 173, (some (172, false)), .fieldAddr 4 (.t 23)⟩,
⟨some 174, (some (172, false)), .load none (.t 173)⟩,
⟨some 175, (some (172, false)), .idxAddr 14 (.t 174) (.k (.d (.int .i64 0)))⟩,
⟨some 176, (some (172, false)), .load (some 14) (.t 175)⟩,
⟨some 177, (some (172, false)), .load (some 14) (.t 10)⟩,
⟨some 178, (some (172, false)), .eqv (some [.str, .str, .str, .str, .str, .str, .str, .int, .int, .int, .int, .int, .int, .int]) true (.t 176) (.t 177)⟩,
⟨some 179, none, .pick (.t 172) (.k (.d (.bool true))) (.t 178)⟩] [10, 13, 15, 16, 18, 19, 21, 22, 23, 25, 139, 140, 141, 142, 143, 144, 145, 146, 147, 148, 149, 150, 151, 152, 153, 154, 155, 156, 157, 158, 159, 160, 161, 162, 163, 164, 165, 166, 167, 168, 169, 170, 171, 172, 173, 174, 175, 176, 177, 178])
(.cond (.t 179) (.seq (.reg false [
⟨some 0, none, .mv (.k (.d (.bool false)))⟩] [])
.ret)
 .skip))
(.seq (.reg false [
⟨some 180, none, .load (some 13) (.t 1)⟩,
⟨some 26, none, .alloc ty_api_Request [.z (.str []), .z (.str []), .z (.str []), .z (.str []), .z (.str []), .z (.str []), .z (.int .i64 0), .z (.int .i64 0), .z (.int .i64 0), .z (.int .i64 0), .z (.int .i64 0), .z (.int .i64 0), .z (.int .i64 0)]⟩,
⟨none, none, .store 13 (.t 26) (.t 180)⟩] [180])
(.seq (.reg false [
⟨some 181, none, .fieldAddr 9 (.t 26)⟩,
⟨none, none, .store 1 (.t 181) (.k (.d (.int .i64 615)))⟩] [181])
(.seq (.reg false [
⟨some 182, none, .load (some 5) (.t 14)⟩,
⟨some 27, none, .alloc ty_message_Message [.z (.str []), .z (.str []), .z (.str []), .z (.int .i64 0), .z (.list 0 [])]⟩,
⟨none, none, .store 5 (.t 27) (.t 182)⟩] [182])
(.seq (.reg false [
⟨some 183, none, .load (some 13) (.t 1)⟩,
⟨some 184, none, .build [.z (.str []), .z (.str []), .z (.str []), .z (.str []), .z (.str []), .z (.str []), .z (.str []), .z (.int .i64 0), .z (.int .i64 0), .z (.int .i64 0), .z (.int .i64 0), .z (.int .i64 0), .z (.int .i64 0), .z (.int .i64 0)] [(0, 1, .k (.d (.str [67]))), (1, 13, .t 183)]⟩,
⟨some 185, none, .load (some 13) (.t 26)⟩,
⟨some 186, none, .build [.z (.str []), .z (.str []), .z (.str []), .z (.str []), .z (.str []), .z (.str []), .z (.str []), .z (.int .i64 0), .z (.int .i64 0), .z (.int .i64 0), .z (.int .i64 0), .z (.int .i64 0), .z (.int .i64 0), .z (.int .i64 0)] [(0, 1, .k (.d (.str [82]))), (1, 13, .t 185)]⟩,
⟨some 187, none, .mkList 14 2 [.t 184, .t 186]⟩,
⟨some 188, none, .fieldAddr 4 (.t 27)⟩,
⟨none, none, .store 1 (.t 188) (.t 187)⟩] [183, 184, 185, 186, 187, 188])
(.seq (.reg false [
⟨some 189, none, .load (some 5) (.t 14)⟩,
⟨some 28, none, .alloc ty_message_Message [.z (.str []), .z (.str []), .z (.str []), .z (.int .i64 0), .z (.list 0 [])]⟩,
⟨none, none, .store 5 (.t 28) (.t 189)⟩] [189])
(.seq (.reg false [
⟨some 190, none, .load (some 13) (.t 1)⟩,
⟨some 191, none, .build [.z (.str []), .z (.str []), .z (.str []), .z (.str []), .z (.str []), .z (.str []), .z (.str []), .z (.int .i64 0), .z (.int .i64 0), .z (.int .i64 0), .z (.int .i64 0), .z (.int .i64 0), .z (.int .i64 0), .z (.int .i64 0)] [(0, 1, .k (.d (.str [68]))), (1, 13, .t 190)]⟩,
⟨some 192, none, .mkList 14 1 [.t 191]⟩,
⟨some 193, none, .fieldAddr 4 (.t 28)⟩,
⟨none, none, .store 1 (.t 193) (.t 192)⟩] [190, 191, 192, 193])
(.seq (.reg false [
⟨some 195, none, .load (some 5) (.t 14)⟩,
⟨some 196, none, .load (some 5) (.t 27)⟩,
⟨some 197, none, .mkList 5 2 [.t 195, .t 196]⟩,
⟨some 198, none, .call false true (.k (.fn n_message_Requests [] [])) [.t 197]⟩,
⟨some 194, none, .mv (.t 198)⟩,
⟨some 199, none, .extract (.t 194) 0⟩,
⟨some 200, none, .extract (.t 194) 1⟩,
⟨some 201, none, .extract (.t 194) 2⟩,
⟨some 29, none, .mv (.t 199)⟩,
⟨some 30, none, .mv (.t 200)⟩,
⟨some 31, none, .mv (.t 201)⟩] [30, 194, 195, 196, 197, 198, 199, 200, 201])
(.seq (.reg false [
⟨some 203, none, .load (some 5) (.t 14)⟩,
⟨some 204, none, .load (some 5) (.t 27)⟩,
⟨some 205, none, .load (some 5) (.t 28)⟩,
⟨some 206, none, .mkList 5 3 [.t 203, .t 204, .t 205]⟩,
⟨some 207, none, .call false true (.k (.fn n_message_Requests [] [])) [.t 206]⟩,
⟨some 202, none, .mv (.t 207)⟩,
⟨some 208, none, .extract (.t 202) 0⟩,
⟨some 209, none, .extract (.t 202) 1⟩,
⟨some 210, none, .extract (.t 202) 2⟩,
⟨some 32, none, .mv (.t 208)⟩,
⟨some 33, none, .mv (.t 209)⟩,
⟨some 34, none, .mv (.t 210)⟩] [14, 27, 28, 32, 202, 203, 204, 205, 206, 207, 208, 209, 210])
(.seq (.reg false [
⟨some 212, none, .load (some 13) (.t 1)⟩,
⟨some 213, none, .mkList 13 1 [.t 212]⟩,
⟨some 214, none, .build [.z (.str []), .z (.bool false), .z (.int .i64 0)] [(0, 1, .k (.d (.str [113, 49]))), (1, 1, .k (.d (.bool true))), (2, 1, .k (.d (.int .i64 615)))]⟩,
⟨some 215, none, .mkList 3 1 [.t 214]⟩,
⟨some 216, none, .call false true (.k (.fn n_message_Answers [] [])) [.k (.d (.str [104, 101, 114, 101])), .k (.d (.str [83, 50, 48, 50, 52])), .k (.d (.int .i64 8801)), .t 213, .t 215]⟩,
⟨some 211, none, .mv (.t 216)⟩,
⟨some 217, none, .extract (.t 211) 0⟩,
⟨some 218, none, .extract (.t 211) 1⟩,
⟨some 35, none, .alloc ty_message_Message [.z (.str []), .z (.str []), .z (.str []), .z (.int .i64 0), .z (.list 0 [])]⟩,
⟨none, none, .store 5 (.t 35) (.t 217)⟩,
⟨some 36, none, .mv (.t 218)⟩] [211, 212, 213, 214, 215, 216, 217, 218])
(.seq (.reg false [
⟨some 220, none, .load (some 5) (.t 35)⟩,
⟨some 221, none, .call false true (.k (.fn n_message_Results [] [])) [.t 220]⟩,
⟨some 219, none, .mv (.t 221)⟩,
⟨some 222, none, .extract (.t 219) 0⟩,
⟨some 223, none, .extract (.t 219) 1⟩,
⟨some 37, none, .mv (.t 222)⟩,
⟨some 38, none, .mv (.t 223)⟩] [219, 220, 221, 222, 223])
(.seq (.reg false [
⟨some 224, none, .load (some 13) (.t 1)⟩,
⟨some 39, none, .alloc ty_api_Request [.z (.str []), .z (.str []), .z (.str []), .z (.str []), .z (.str []), .z (.str []), .z (.int .i64 0), .z (.int .i64 0), .z (.int .i64 0), .z (.int .i64 0), .z (.int .i64 0), .z (.int .i64 0), .z (.int .i64 0)]⟩,
⟨none, none, .store 13 (.t 39) (.t 224)⟩] [224])
(.seq (.reg false [
⟨some 225, none, .fieldAddr 0 (.t 39)⟩,
⟨none, none, .store 1 (.t 225) (.k (.d (.str [113, 50])))⟩] [225])
(.seq (.reg false [
⟨some 227, none, .load (some 13) (.t 1)⟩,
⟨some 228, none, .mkList 13 1 [.t 227]⟩,
⟨some 229, none, .load (some 13) (.t 26)⟩,
⟨some 230, none, .load (some 13) (.t 39)⟩,
⟨some 231, none, .mkList 13 2 [.t 229, .t 230]⟩,
⟨some 232, none, .call false true (.k (.fn n_message_Changed [] [])) [.t 228, .t 231]⟩,
⟨some 226, none, .mv (.t 232)⟩,
⟨some 233, none, .extract (.t 226) 0⟩,
⟨some 234, none, .extract (.t 226) 1⟩,
⟨some 40, none, .mv (.t 233)⟩,
⟨some 41, none, .mv (.t 234)⟩] [1, 226, 227, 228, 229, 230, 231, 232, 233, 234])
(.seq (.reg true [
⟨some 235, none, .mv (.t 31)⟩,
⟨some 236, none, .bin .eql (.t 235) (.k (.d (.int .i64 0)))⟩,
⟨some 237, none, .mv (.t 236)⟩,
⟨some 238, (some (237, true)), .mv (.t 29)⟩,
⟨some 239, (some (237, true)), .len .slc (.t 238)⟩,
⟨some 240, (some (237, true)), .bin .eql (.t 239) (.k (.d (.int .i64 1)))⟩,
⟨some 241, none, .pick (.t 237) (.t 240) (.k (.d (.bool false)))⟩,
⟨some 242, none, .mv (.t 241)⟩,
⟨some 243, (some (242, true)), .mv (.t 29)⟩,
⟨some 244, (some (242, true)), .idxAddr 15 (.t 243) (.k (.d (.int .i64 0)))⟩,
⟨some 245, (some (242, true)), .fieldAddr 0 (.t 244)⟩,
⟨some 246, (some (242, true)), .load (some 13) (.t 245)⟩,
⟨some 247, (some (242, true)), .load (some 13) (.t 26)⟩,
⟨some 248, (some (242, true)), .eqv (some [.str, .str, .str, .str, .str, .str, .int, .int, .int, .int, .int, .int, .int]) false (.t 246) (.t 247)⟩,
⟨some 249, none, .pick (.t 242) (.t 248) (.k (.d (.bool false)))⟩,
⟨some 250, none, .mv (.t 249)⟩,
⟨some 251, (some (250, true)), .mv (.t 33)⟩,
⟨some 252, (some (250, true)), .bin .eql (.t 251) (.k (.d (.int .i64 2)))⟩,
⟨some 253, none, .pick (.t 250) (.t 252) (.k (.d (.bool false)))⟩,
⟨some 254, none, .mv (.t 253)⟩,
⟨some 255, (some (254, true)), .mv (.t 34)⟩,
⟨some 256, (some (254, true)), .bin .eql (.t 255) (.k (.d (.int .i64 29)))⟩,
⟨some 257, none, .pick (.t 254) (.t 256) (.k (.d (.bool false)))⟩,
⟨some 258, none, .mv (.t 257)⟩,
⟨some 259, (some (258, true)), .mv (.t 36)⟩,
⟨some 260, (some (258, true)), .bin .eql (.t 259) (.k (.d (.int .i64 0)))⟩,
⟨some 261, none, .pick (.t 258) (.t 260) (.k (.d (.bool false)))⟩,
⟨some 262, none, .mv (.t 261)⟩,
⟨some 263, (some (262, true)), .fieldAddr 4 (.t 35)⟩,
⟨some 264, (some (262, true)), .load none (.t 263)⟩,
⟨some 265, (some (262, true)), .len .slc (.t 264)⟩,
⟨some 266, (some (262, true)), .bin .eql (.t 265) (.k (.d (.int .i64 1)))⟩,
⟨some 267, none, .pick (.t 262) (.t 266) (.k (.d (.bool false)))⟩,
⟨some 268, none, .mv (.t 267)⟩,
⟨some 269, (some (268, true)), .fieldAddr 4 (.t 35)⟩,
⟨some 270, (some (268, true)), .load none (.t 269)⟩,
⟨some 271, (some (268, true)), .idxAddr 14 (.t 270) (.k (.d (.int .i64 0)))⟩,
⟨some 272, (some (268, true)), .fieldAddr 0 (.t 271)⟩,
⟨some 273, (some (268, true)), .load none (.t 272)⟩,
⟨some 274, (some (268, true)), .bin .eql (.t 273) (.k (.d (.str [79])))⟩,
⟨some 275, none, .pick (.t 268) (.t 274) (.k (.d (.bool false)))⟩,
⟨some 276, none, .mv (.t 275)⟩,
⟨some 277, (some (276, true)), .fieldAddr 4 (.t 35)⟩,
⟨some 278, (some (276, true)), .load none (.t 277)⟩,
⟨some 279, (some (276, true)), .idxAddr 14 (.t 278) (.k (.d (.int .i64 0)))⟩,
⟨some 280, (some (276, true)), .fieldAddr 1 (.t 279)⟩,
⟨some 281, (some (276, true)), .load (some 13) (.t 280)⟩,
⟨some 282, (some (276, true)), .load (some 13) (.t 26)⟩,
⟨some 283, (some (276, true)), .eqv (some [.str, .str, .str, .str, .str, .str, .int, .int, .int, .int, .int, .int, .int]) false (.t 281) (.t 282)⟩,
⟨some 284, none, .pick (.t 276) (.t 283) (.k (.d (.bool false)))⟩,
⟨some 285, none, .mv (.t 284)⟩,
⟨some 286, (some (285, true)), .mv (.t 38)⟩,
⟨some 287, (some (285, true)), .bin .eql (.t 286) (.k (.d (.int .i64 0)))⟩,
⟨some 288, none, .pick (.t 285) (.t 287) (.k (.d (.bool false)))⟩,
⟨some 289, none, .mv (.t 288)⟩,
⟨some 290, (some (289, true)), .mv (.t 37)⟩,
⟨some 291, (some (289, true)), .len .slc (.t 290)⟩,
⟨some 292, (some (289, true)), .bin .eql (.t 291) (.k (.d (.int .i64 1)))⟩,
⟨some 293, none, .pick (.t 289) (.t 292) (.k (.d (.bool false)))⟩,
⟨some 294, none, .mv (.t 293)⟩,
⟨some 295, (some (294, true)), .mv (.t 37)⟩,
⟨some 296, (some (294, true)), .idxAddr 3 (.t 295) (.k (.d (.int .i64 0)))⟩,
⟨some 297, (some (294, true)), .load (some 3) (.t 296)⟩,
⟨some 298, (some (294, true)), .build [.z (.str []), .z (.bool false), .z (.int .i64 0)] [(0, 1, .k (.d (.str [113, 49]))), (1, 1, .k (.d (.bool true))), (2, 1, .k (.d (.int .i64 615)))]⟩,
⟨some 299, (some (294, true)), .eqv (some [.str, .bool, .int]) false (.t 297) (.t 298)⟩,
⟨some 300, none, .pick (.t 294) (.t 299) (.k (.d (.bool false)))⟩,
⟨some 301, none, .mv (.t 300)⟩,
⟨some 302, (some (301, true)), .mv (.t 41)⟩,
⟨some 303, (some (301, true)), .bin .eql (.t 302) (.k (.d (.int .i64 0)))⟩,
⟨some 304, none, .pick (.t 301) (.t 303) (.k (.d (.bool false)))⟩,
⟨some 305, none, .mv (.t 304)⟩,
⟨some 306, (some (305, true)), .mv (.t 40)⟩,
⟨some 307, (some (305, true)), .len .slc (.t 306)⟩,
⟨some 308, (some (305, true)), .bin .eql (.t 307) (.k (.d (.int .i64 3)))⟩,
⟨some 309, none, .pick (.t 305) (.t 308) (.k (.d (.bool false)))⟩,
⟨some 310, none, .mv (.t 309)⟩,
⟨some 311, (some (310, true)), .mv (.t 40)⟩,
⟨some 312, (some (310, true)), .idxAddr 14 (.t 311) (.k (.d (.int .i64 0)))⟩,
⟨some 313, (some (310, true)), .fieldAddr 0 (.t 312)⟩,
⟨some 314, (some (310, true)), .load none (.t 313)⟩,
⟨some 315, (some (310, true)), .bin .eql (.t 314) (.k (.d (.str [67])))⟩,
⟨some 316, none, .pick (.t 310) (.t 315) (.k (.d (.bool false)))⟩,
⟨some 317, none, .mv (.t 316)⟩,
⟨some 318, (some (317, true)), .mv (.t 40)⟩,
⟨some 319, (some (317, true)), .idxAddr 14 (.t 318) (.k (.d (.int .i64 2)))⟩,
⟨some 320, (some (317, true)), .fieldAddr 1 (.t 319)⟩,
⟨some 321, (some (317, true)), .load (some 13) (.t 320)⟩,
⟨some 322, (some (317, true)), .load (some 13) (.t 39)⟩,
⟨some 323, (some (317, true)), .eqv (some [.str, .str, .str, .str, .str, .str, .int, .int, .int, .int, .int, .int, .int]) false (.t 321) (.t 322)⟩,
⟨some 324, none, .pick (.t 317) (.t 323) (.k (.d (.bool false)))⟩,
⟨some 0, none, .mv (.t 324)⟩] [26, 29, 31, 33, 34, 35, 36, 37, 38, 39, 40, 41, 235, 236, 237, 238, 239, 240, 241, 242, 243, 244, 245, 246, 247, 248, 249, 250, 251, 252, 253, 254, 255, 256, 257, 258, 259, 260, 261, 262, 263, 264, 265, 266, 267, 268, 269, 270, 271, 272, 273, 274, 275, 276, 277, 278, 279, 280, 281, 282, 283, 284, 285, 286, 287, 288, 289, 290, 291, 292, 293, 294, 295, 296, 297, 298, 299, 300, 301, 302, 303, 304, 305, 306, 307, 308, 309, 310, 311, 312, 313, 314, 315, 316, 317, 318, 319, 320, 321, 322, 323, 324])
.ret)))))))))))))))))))))))))))))⟩

def b_message_PrintMessage_1 : C :=
  (.seq (.reg false [
⟨some 38, none, .bin .lss (.t 37) (.t 36)⟩] [])
(.seq (.cond (.t 38) .skip
 (.exit 0))
(.seq (.block 1 (.seq (.reg false [
⟨some 39, none, .idxAddr 14 (.t 35) (.t 37)⟩,
⟨some 40, none, .load (some 14) (.t 39)⟩,
⟨some 8, none, .alloc ty_message_Line [.z (.str []), .z (.str []), .z (.str []), .z (.str []), .z (.str []), .z (.str []), .z (.str []), .z (.int .i64 0), .z (.int .i64 0), .z (.int .i64 0), .z (.int .i64 0), .z (.int .i64 0), .z (.int .i64 0), .z (.int .i64 0)]⟩,
⟨none, none, .store 14 (.t 8) (.t 40)⟩] [39, 40])
(.reg false [
⟨some 41, none, .mv (.t 6)⟩,
⟨some 42, none, .load (some 14) (.t 8)⟩,
⟨some 43, none, .call false true (.k (.fn n_message_printLine [] [])) [.t 42]⟩,
⟨some 44, none, .bin .add (.t 43) (.k (.d (.str [10])))⟩,
⟨some 45, none, .call true false (.t 41) [.t 44]⟩] [8, 41, 42, 43, 44, 45])))
(.reg false [
⟨some 46, none, .bin .add (.t 37) (.k (.d (.int .i64 1)))⟩,
⟨some 37, none, .mv (.t 46)⟩] [46]))))

/-- "turnround/message.PrintMessage" -/
def c_message_PrintMessage : CF := ⟨[.tmp 2, .tmp 3],
  (.seq (.reg false [
⟨some 1, none, .box ty_message_Message (.t 0)⟩,
⟨some 2, none, .mv (.k (.d (.str [])))⟩,
⟨some 3, none, .mv (.k (.d (.int .i64 0)))⟩] [0, 2, 3])
(.seq (.seq (.reg false [
⟨some 9, none, .load (some 5) (.t 1)⟩,
⟨some 10, none, .call false true (.k (.fn n_message_CheckMessage [] [])) [.t 9]⟩,
⟨some 4, none, .mv (.t 10)⟩] [9, 10])
(.seq (.reg false [
⟨some 11, none, .mv (.t 4)⟩,
⟨some 12, none, .bin .neq (.t 11) (.k (.d (.int .i64 0)))⟩] [11])
(.cond (.t 12) (.seq (.reg false [
⟨some 13, none, .mv (.t 4)⟩,
⟨some 2, none, .mv (.k (.d (.str [])))⟩,
⟨some 3, none, .mv (.t 13)⟩] [4, 13])
.ret)
 .skip)))
(.seq (.reg false [
⟨some 5, none, .alloc ty_strings_Builder [.z .nilp, .own ⟨false, ty_uint8, 1, 1⟩]⟩] [])
(.seq (.reg false [
⟨some 14, none, .mkFunc n_strings_Builder_WriteString [.t 5] []⟩,
⟨some 6, none, .mv (.t 14)⟩] [14])
(.seq (.reg true [
⟨some 15, none, .mv (.t 6)⟩,
⟨some 16, none, .fieldAddr 0 (.t 1)⟩,
⟨some 17, none, .load none (.t 16)⟩,
⟨some 18, none, .bin .add (.k (.d (.str [83, 76, 79, 84, 83, 32]))) (.t 17)⟩,
⟨some 19, none, .bin .add (.t 18) (.k (.d (.str [32])))⟩,
⟨some 20, none, .fieldAddr 1 (.t 1)⟩,
⟨some 21, none, .load none (.t 20)⟩,
⟨some 22, none, .bin .add (.t 19) (.t 21)⟩,
⟨some 23, none, .bin .add (.t 22) (.k (.d (.str [32])))⟩,
⟨some 24, none, .fieldAddr 2 (.t 1)⟩,
⟨some 25, none, .load none (.t 24)⟩,
⟨some 26, none, .bin .add (.t 23) (.t 25)⟩,
⟨some 27, none, .bin .add (.t 26) (.k (.d (.str [32])))⟩,
⟨some 28, none, .fieldAddr 3 (.t 1)⟩,
⟨some 29, none, .load none (.t 28)⟩,
⟨some 30, none, .call false true (.k (.fn n_message_wide [] [])) [.t 29, .k (.d (.int .i64 5))]⟩,
⟨some 31, none, .bin .add (.t 27) (.t 30)⟩,
⟨some 32, none, .bin .add (.t 31) (.k (.d (.str [10])))⟩,
⟨some 33, none, .call true false (.t 15) [.t 32]⟩] [15, 16, 17, 18, 19, 20, 21, 22, 23, 24, 25, 26, 27, 28, 29, 30, 31, 32, 33])
(.seq (.seq (.reg false [
⟨some 34, none, .fieldAddr 4 (.t 1)⟩,
⟨some 35, none, .load none (.t 34)⟩,
⟨some 36, none, .len .slc (.t 35)⟩,
⟨some 37, none, .mv (.k (.d (.int .i64 0)))⟩] [34])
(.block 0 (.loop [1, 5, 6, 35, 36, 37] b_message_PrintMessage_1)))
(.seq (.reg false [
⟨some 47, none, .mv (.t 6)⟩,
⟨some 48, none, .fieldAddr 4 (.t 1)⟩,
⟨some 49, none, .load none (.t 48)⟩,
⟨some 50, none, .len .slc (.t 49)⟩,
⟨some 51, none, .call false true (.k (.fn n_message_wide [] [])) [.t 50, .k (.d (.int .i64 2))]⟩,
⟨some 52, none, .bin .add (.k (.d (.str [69, 78, 68, 32]))) (.t 51)⟩,
⟨some 53, none, .bin .add (.t 52) (.k (.d (.str [10])))⟩,
⟨some 54, none, .call true false (.t 47) [.t 53]⟩] [1, 6, 47, 48, 49, 50, 51, 52, 53, 54])
(.seq (.reg false [
⟨some 55, none, .call true true (.k (.fn n_strings_Builder_String [] [])) [.t 5]⟩,
⟨some 2, none, .mv (.t 55)⟩,
⟨some 3, none, .mv (.k (.d (.int .i64 0)))⟩] [5, 55])
.ret))))))))⟩

/-- "turnround/turnroundlaw02.program" -/
def c_law02_program : CF := ⟨[.cell 2 (some 5)],
  (.seq (.reg false [
⟨some 1, none, .box ty_turnroundref02_Message (.t 0)⟩,
⟨some 2, none, .alloc ty_message_Message [.z (.str []), .z (.str []), .z (.str []), .z (.int .i64 0), .z (.list 0 [])]⟩] [0])
(.seq (.reg true [
⟨some 3, none, .fieldAddr 0 (.t 1)⟩,
⟨some 4, none, .load none (.t 3)⟩,
⟨some 5, none, .fieldAddr 1 (.t 1)⟩,
⟨some 6, none, .load none (.t 5)⟩,
⟨some 7, none, .fieldAddr 2 (.t 1)⟩,
⟨some 8, none, .load none (.t 7)⟩,
⟨some 9, none, .fieldAddr 3 (.t 1)⟩,
⟨some 10, none, .load none (.t 9)⟩,
⟨some 11, none, .fieldAddr 4 (.t 1)⟩,
⟨some 12, none, .load none (.t 11)⟩,
⟨some 13, none, .call false true (.k (.fn n_law02_lines [] [])) [.t 12]⟩,
⟨some 14, none, .build [.z (.str []), .z (.str []), .z (.str []), .z (.int .i64 0), .z (.list 0 [])] [(0, 1, .t 4), (1, 1, .t 6), (2, 1, .t 8), (3, 1, .t 10), (4, 1, .t 13)]⟩,
⟨none, none, .store 5 (.t 2) (.t 14)⟩] [1, 3, 4, 5, 6, 7, 8, 9, 10, 11, 12, 13, 14])
.ret))⟩

/-- "turnround/turnroundref02.CheckMessage" -/
def c_ref02_CheckMessage : CF := ⟨[.tmp 2],
  (.seq (.reg false [
⟨some 1, none, .box ty_turnroundref02_Message (.t 0)⟩,
⟨some 2, none, .mv (.k (.d (.int .i64 0)))⟩] [0, 2])
(.seq (.seq (.reg false [
⟨some 4, none, .fieldAddr 0 (.t 1)⟩,
⟨some 5, none, .load none (.t 4)⟩,
⟨some 6, none, .bin .neq (.t 5) (.k (.d (.str [82, 69, 81])))⟩,
⟨some 7, none, .mv (.t 6)⟩,
⟨some 8, (some (7, true)), .fieldAddr 0 (.t 1)⟩,
⟨some 9, (some (7, true)), .load none (.t 8)⟩,
⟨some 10, (some (7, true)), .bin .neq (.t 9) (.k (.d (.str [65, 78, 83])))⟩,
⟨some 11, none, .pick (.t 7) (.t 10) (.k (.d (.bool false)))⟩] [4, 5, 6, 7, 8, 9, 10])
(.cond (.t 11) (.seq (.reg false [
⟨some 2, none, .mv (.k (.d (.int .i64 13)))⟩] [])
.ret)
 .skip))
(.seq (.reg false [
⟨some 12, none, .fieldAddr 1 (.t 1)⟩,
⟨some 13, none, .load none (.t 12)⟩,
⟨some 14, none, .fieldAddr 2 (.t 1)⟩,
⟨some 15, none, .load none (.t 14)⟩,
⟨some 16, none, .fieldAddr 3 (.t 1)⟩,
⟨some 17, none, .load none (.t 16)⟩,
⟨some 18, none, .call false true (.k (.fn n_ref02_CheckHead [] [])) [.t 13, .t 15, .t 17]⟩,
⟨some 3, none, .mv (.t 18)⟩] [12, 13, 14, 15, 16, 17, 18])
(.seq (.seq (.reg false [
⟨some 19, none, .mv (.t 3)⟩,
⟨some 20, none, .bin .eql (.t 19) (.k (.d (.int .i64 0)))⟩,
⟨some 21, none, .mv (.t 20)⟩,
⟨some 22, (some (21, true)), .fieldAddr 4 (.t 1)⟩,
⟨some 23, (some (21, true)), .load none (.t 22)⟩,
⟨some 24, (some (21, true)), .len .slc (.t 23)⟩,
⟨some 25, (some (21, true)), .bin .gtr (.t 24) (.k (.d (.int .i64 64)))⟩,
⟨some 26, none, .pick (.t 21) (.t 25) (.k (.d (.bool false)))⟩] [19, 20, 21, 22, 23, 24, 25])
(.cond (.t 26) (.reg false [
⟨some 3, none, .mv (.k (.d (.int .i64 5)))⟩] [])
 .skip))
(.seq (.seq (.reg false [
⟨some 27, none, .mv (.t 3)⟩,
⟨some 28, none, .bin .eql (.t 27) (.k (.d (.int .i64 0)))⟩] [27])
(.cond (.t 28) (.reg false [
⟨some 30, none, .fieldAddr 0 (.t 1)⟩,
⟨some 31, none, .load none (.t 30)⟩,
⟨some 32, none, .fieldAddr 4 (.t 1)⟩,
⟨some 33, none, .load none (.t 32)⟩,
⟨some 34, none, .call false true (.k (.fn n_ref02_CheckLines [] [])) [.t 31, .t 33]⟩,
⟨some 29, none, .mv (.t 34)⟩,
⟨some 35, none, .extract (.t 29) 0⟩,
⟨some 36, none, .extract (.t 29) 1⟩,
⟨some 3, none, .mv (.t 36)⟩] [1, 29, 30, 31, 32, 33, 34, 35, 36])
 .skip))
(.seq (.reg false [
⟨some 37, none, .mv (.t 3)⟩,
⟨some 2, none, .mv (.t 37)⟩] [3, 37])
.ret))))))⟩

def b_ref02_PrintMessage_1 : C :=
  (.seq (.seq (.reg false [
⟨some 17, none, .mv (.t 4)⟩,
⟨some 18, none, .fieldAddr 4 (.t 1)⟩,
⟨some 19, none, .load none (.t 18)⟩,
⟨some 20, none, .len .slc (.t 19)⟩,
⟨some 21, none, .bin .lss (.t 17) (.t 20)⟩] [17, 18, 19, 20])
(.cond (.t 21) .skip
 (.exit 0)))
(.seq (.block 1 (.reg false [
⟨some 24, none, .mv (.t 3)⟩,
⟨some 25, none, .fieldAddr 4 (.t 1)⟩,
⟨some 26, none, .load none (.t 25)⟩,
⟨some 27, none, .mv (.t 4)⟩,
⟨some 28, none, .idxAddr 14 (.t 26) (.t 27)⟩,
⟨some 29, none, .load (some 14) (.t 28)⟩,
⟨some 30, none, .call false true (.k (.fn n_ref02_PrintLine [] [])) [.t 29]⟩,
⟨some 31, none, .bin .add (.t 24) (.t 30)⟩,
⟨some 32, none, .bin .add (.t 31) (.k (.d (.str [10])))⟩,
⟨some 3, none, .mv (.t 32)⟩] [24, 25, 26, 27, 28, 29, 30, 31, 32]))
(.reg false [
⟨some 22, none, .mv (.t 4)⟩,
⟨some 23, none, .bin .add (.t 22) (.k (.d (.int .i64 1)))⟩,
⟨some 4, none, .mv (.t 23)⟩] [22, 23])))

/-- "turnround/turnroundref02.PrintMessage" -/
def c_ref02_PrintMessage : CF := ⟨[.tmp 2],
  (.seq (.reg false [
⟨some 1, none, .box ty_turnroundref02_Message (.t 0)⟩,
⟨some 2, none, .mv (.k (.d (.str [])))⟩] [0, 2])
(.seq (.reg true [
⟨some 5, none, .fieldAddr 0 (.t 1)⟩,
⟨some 6, none, .load none (.t 5)⟩,
⟨some 7, none, .fieldAddr 1 (.t 1)⟩,
⟨some 8, none, .load none (.t 7)⟩,
⟨some 9, none, .fieldAddr 2 (.t 1)⟩,
⟨some 10, none, .load none (.t 9)⟩,
⟨some 11, none, .fieldAddr 3 (.t 1)⟩,
⟨some 12, none, .load none (.t 11)⟩,
⟨some 13, none, .call false true (.k (.fn n_ref02_wide [] [])) [.t 12, .k (.d (.int .i64 5))]⟩,
⟨some 14, none, .mkList 1 5 [.k (.d (.str [83, 76, 79, 84, 83])), .t 6, .t 8, .t 10, .t 13]⟩,
⟨some 15, none, .call false true (.k (.fn n_ref02_joined [] [])) [.t 14]⟩,
⟨some 16, none, .bin .add (.t 15) (.k (.d (.str [10])))⟩,
⟨some 3, none, .mv (.t 16)⟩] [5, 6, 7, 8, 9, 10, 11, 12, 13, 14, 15, 16])
(.seq (.seq (.reg false [
⟨some 4, none, .mv (.k (.d (.int .i64 0)))⟩] [])
(.block 0 (.loop [1, 3, 4] b_ref02_PrintMessage_1)))
(.seq (.reg false [
⟨some 33, none, .mv (.t 3)⟩,
⟨some 34, none, .bin .add (.t 33) (.k (.d (.str [69, 78, 68, 32])))⟩,
⟨some 35, none, .fieldAddr 4 (.t 1)⟩,
⟨some 36, none, .load none (.t 35)⟩,
⟨some 37, none, .len .slc (.t 36)⟩,
⟨some 38, none, .call false true (.k (.fn n_ref02_wide [] [])) [.t 37, .k (.d (.int .i64 2))]⟩,
⟨some 39, none, .bin .add (.t 34) (.t 38)⟩,
⟨some 40, none, .bin .add (.t 39) (.k (.d (.str [10])))⟩,
⟨some 2, none, .mv (.t 40)⟩] [1, 3, 33, 34, 35, 36, 37, 38, 39, 40])
.ret))))⟩

/-- "turnround/message.CheckMessage" -/
def c_message_CheckMessage : CF := ⟨[.tmp 2],
  (.seq (.reg false [
⟨some 1, none, .box ty_message_Message (.t 0)⟩,
⟨some 2, none, .mv (.k (.d (.int .i64 0)))⟩] [0, 2])
(.seq (.seq (.reg true [
⟨some 6, none, .fieldAddr 0 (.t 1)⟩,
⟨some 7, none, .load none (.t 6)⟩,
⟨some 8, none, .call false true (.k (.fn n_message_isMessage [] [])) [.t 7]⟩,
⟨some 9, none, .un .not (.t 8)⟩,
⟨some 10, none, .call false true (.k (.fn n_message_when [] [])) [.t 9, .k (.d (.int .i64 13))]⟩,
⟨some 11, none, .fieldAddr 1 (.t 1)⟩,
⟨some 12, none, .load none (.t 11)⟩,
⟨some 13, none, .fieldAddr 2 (.t 1)⟩,
⟨some 14, none, .load none (.t 13)⟩,
⟨some 15, none, .fieldAddr 3 (.t 1)⟩,
⟨some 16, none, .load none (.t 15)⟩,
⟨some 17, none, .call false true (.k (.fn n_message_checkHead [] [])) [.t 12, .t 14, .t 16]⟩,
⟨some 18, none, .fieldAddr 4 (.t 1)⟩,
⟨some 19, none, .load none (.t 18)⟩,
⟨some 20, none, .len .slc (.t 19)⟩,
⟨some 21, none, .bin .gtr (.t 20) (.k (.d (.int .i64 64)))⟩,
⟨some 22, none, .call false true (.k (.fn n_message_when [] [])) [.t 21, .k (.d (.int .i64 5))]⟩,
⟨some 23, none, .mkList 1 3 [.t 10, .t 17, .t 22]⟩,
⟨some 24, none, .call false true (.k (.fn n_message_first [] [])) [.t 23]⟩,
⟨some 3, none, .mv (.t 24)⟩] [6, 7, 8, 9, 10, 11, 12, 13, 14, 15, 16, 17, 18, 19, 20, 21, 22, 23, 24])
(.seq (.reg false [
⟨some 25, none, .mv (.t 3)⟩,
⟨some 26, none, .bin .neq (.t 25) (.k (.d (.int .i64 0)))⟩] [25])
(.cond (.t 26) (.seq (.reg false [
⟨some 27, none, .mv (.t 3)⟩,
⟨some 2, none, .mv (.t 27)⟩] [3, 27])
.ret)
 .skip)))
(.seq (.reg false [
⟨some 29, none, .fieldAddr 0 (.t 1)⟩,
⟨some 30, none, .load none (.t 29)⟩,
⟨some 31, none, .fieldAddr 4 (.t 1)⟩,
⟨some 32, none, .load none (.t 31)⟩,
⟨some 33, none, .call false true (.k (.fn n_message_checkLines [] [])) [.t 30, .t 32]⟩,
⟨some 28, none, .mv (.t 33)⟩,
⟨some 34, none, .extract (.t 28) 0⟩,
⟨some 35, none, .extract (.t 28) 1⟩,
⟨some 4, none, .mv (.t 34)⟩,
⟨some 5, none, .mv (.t 35)⟩] [1, 4, 28, 29, 30, 31, 32, 33, 34, 35])
(.seq (.reg false [
⟨some 36, none, .mv (.t 5)⟩,
⟨some 2, none, .mv (.t 36)⟩] [5, 36])
.ret))))⟩

def b_message_ParseMessage_1 : C :=
  (.seq (.reg false [
⟨some 8, none, .mv (.t 29)⟩] [29])
(.reg false [
⟨some 9, none, .mv (.t 30)⟩] [30]))

def b_message_ParseMessage_2 : C :=
  (.block 1 (.seq (.reg false [
⟨some 31, none, .mv (.t 8)⟩,
⟨some 32, none, .bin .add (.t 31) (.k (.d (.int .i64 1)))⟩,
⟨none, none, .store 1 (.t 6) (.t 32)⟩] [6, 31, 32])
(.seq (.reg false [
⟨some 34, none, .mv (.t 9)⟩,
⟨some 35, none, .call false true (.k (.fn n_strings_CutSuffix [] [])) [.t 34, .k (.d (.str [10]))]⟩,
⟨some 33, none, .mv (.t 35)⟩,
⟨some 36, none, .extract (.t 33) 0⟩,
⟨some 37, none, .extract (.t 33) 1⟩,
⟨some 10, none, .mv (.t 36)⟩,
⟨some 11, none, .mv (.t 37)⟩] [33, 34, 35, 36, 37])
(.seq (.reg false [
⟨some 38, none, .mv (.t 10)⟩,
⟨some 39, none, .call false true (.k (.fn n_strings_Split [] [])) [.t 38, .k (.d (.str [32]))]⟩,
⟨some 12, none, .mv (.t 39)⟩] [38, 39])
(.block 2 (.seq (.reg false [
⟨some 72, none, .mv (.t 8)⟩,
⟨some 73, none, .bin .eql (.t 72) (.k (.d (.int .i64 0)))⟩,
⟨some 71, none, .mv (.t 73)⟩] [72, 73])
(.cond (.t 71) (.seq (.reg false [
⟨some 75, none, .mv (.t 9)⟩,
⟨some 76, none, .call false false (.k (.fn n_message_head [] [])) [.t 75]⟩,
⟨some 74, none, .mv (.t 76)⟩,
⟨some 77, none, .extract (.t 74) 0⟩,
⟨some 78, none, .extract (.t 74) 1⟩,
⟨some 13, none, .alloc ty_message_Message [.z (.str []), .z (.str []), .z (.str []), .z (.int .i64 0), .own ⟨false, ty_message_Line, 14, 168⟩]⟩,
⟨none, none, .store 5 (.t 13) (.t 77)⟩,
⟨some 14, none, .mv (.t 78)⟩] [9, 74, 75, 76, 77, 78])
(.seq (.seq (.reg false [
⟨some 79, none, .mv (.t 14)⟩,
⟨some 80, none, .un .not (.t 79)⟩] [14, 79])
(.cond (.t 80) (.seq (.reg false [
⟨some 81, none, .build [.z (.str []), .z (.str []), .z (.str []), .z (.int .i64 0), .own ⟨false, ty_message_Line, 14, 168⟩] []⟩,
⟨none, none, .store 5 (.t 2) (.t 81)⟩,
⟨none, none, .store 1 (.t 3) (.k (.d (.int .i64 0)))⟩,
⟨none, none, .store 1 (.t 4) (.k (.d (.int .i64 25)))⟩] [81])
.ret)
 .skip))
(.reg false [
⟨some 82, none, .load (some 5) (.t 13)⟩,
⟨none, none, .store 5 (.t 5) (.t 82)⟩] [5, 13, 82])))
 (.seq (.reg false [
⟨some 84, none, .mv (.t 11)⟩,
⟨some 85, none, .un .not (.t 84)⟩,
⟨some 86, none, .mv (.t 85)⟩,
⟨some 87, (some (86, false)), .load none (.t 7)⟩,
⟨some 88, none, .pick (.t 86) (.k (.d (.bool true))) (.t 87)⟩,
⟨some 83, none, .mv (.t 88)⟩] [11, 84, 85, 86, 87, 88])
(.cond (.t 83) (.seq (.reg false [
⟨some 89, none, .build [.z (.str []), .z (.str []), .z (.str []), .z (.int .i64 0), .own ⟨false, ty_message_Line, 14, 168⟩] []⟩,
⟨some 90, none, .mv (.t 8)⟩,
⟨none, none, .store 5 (.t 2) (.t 89)⟩,
⟨none, none, .store 1 (.t 3) (.t 90)⟩,
⟨none, none, .store 1 (.t 4) (.k (.d (.int .i64 25)))⟩] [8, 89, 90])
.ret)
 (.seq (.reg false [
⟨some 92, none, .mv (.t 12)⟩,
⟨some 93, none, .idxAddr 1 (.t 92) (.k (.d (.int .i64 0)))⟩,
⟨some 94, none, .load none (.t 93)⟩,
⟨some 95, none, .bin .neq (.t 94) (.k (.d (.str [69, 78, 68])))⟩,
⟨some 91, none, .mv (.t 95)⟩] [92, 93, 94, 95])
(.cond (.t 91) (.seq (.reg false [
⟨some 97, none, .mv (.t 10)⟩,
⟨some 98, none, .call false true (.k (.fn n_message_ParseLine [] [])) [.t 97]⟩,
⟨some 96, none, .mv (.t 98)⟩,
⟨some 99, none, .extract (.t 96) 0⟩,
⟨some 100, none, .extract (.t 96) 1⟩,
⟨some 101, none, .extract (.t 96) 2⟩,
⟨some 15, none, .alloc ty_message_Line [.z (.str []), .z (.str []), .z (.str []), .z (.str []), .z (.str []), .z (.str []), .z (.str []), .z (.int .i64 0), .z (.int .i64 0), .z (.int .i64 0), .z (.int .i64 0), .z (.int .i64 0), .z (.int .i64 0), .z (.int .i64 0)]⟩,
⟨none, none, .store 14 (.t 15) (.t 99)⟩,
⟨some 16, none, .mv (.t 100)⟩,
⟨some 17, none, .mv (.t 101)⟩] [10, 16, 96, 97, 98, 99, 100, 101])
(.seq (.seq (.reg false [
⟨some 102, none, .mv (.t 17)⟩,
⟨some 103, none, .fieldAddr 4 (.t 5)⟩,
⟨some 104, none, .load none (.t 103)⟩,
⟨some 105, none, .len .slc (.t 104)⟩,
⟨some 106, none, .bin .geq (.t 105) (.k (.d (.int .i64 64)))⟩,
⟨some 107, none, .call false true (.k (.fn n_message_when [] [])) [.t 106, .k (.d (.int .i64 5))]⟩,
⟨some 108, none, .mkList 1 2 [.t 102, .t 107]⟩,
⟨some 109, none, .call false true (.k (.fn n_message_first [] [])) [.t 108]⟩,
⟨some 17, none, .mv (.t 109)⟩] [102, 103, 104, 105, 106, 107, 108, 109])
(.seq (.reg false [
⟨some 110, none, .mv (.t 17)⟩,
⟨some 111, none, .bin .neq (.t 110) (.k (.d (.int .i64 0)))⟩] [110])
(.cond (.t 111) (.seq (.reg false [
⟨some 112, none, .build [.z (.str []), .z (.str []), .z (.str []), .z (.int .i64 0), .own ⟨false, ty_message_Line, 14, 168⟩] []⟩,
⟨some 113, none, .mv (.t 8)⟩,
⟨some 114, none, .mv (.t 17)⟩,
⟨none, none, .store 5 (.t 2) (.t 112)⟩,
⟨none, none, .store 1 (.t 3) (.t 113)⟩,
⟨none, none, .store 1 (.t 4) (.t 114)⟩] [8, 17, 112, 113, 114])
.ret)
 .skip)))
(.reg false [
⟨some 115, none, .fieldAddr 4 (.t 5)⟩,
⟨some 116, none, .load none (.t 115)⟩,
⟨some 117, none, .load (some 14) (.t 15)⟩,
⟨some 118, none, .mkList 14 1 [.t 117]⟩,
⟨some 119, none, .append ⟨false, ty_message_Line, 14, 168⟩ (.t 116) (.t 118)⟩,
⟨some 120, none, .fieldAddr 4 (.t 5)⟩,
⟨none, none, .store 1 (.t 120) (.t 119)⟩] [5, 15, 115, 116, 117, 118, 119, 120])))
 (.seq (.reg false [
⟨some 41, none, .mv (.t 12)⟩,
⟨some 42, none, .mv (.t 12)⟩,
⟨some 43, none, .len .slc (.t 42)⟩,
⟨some 44, none, .bin .sub (.t 43) (.k (.d (.int .i64 1)))⟩,
⟨some 45, none, .idxAddr 1 (.t 41) (.t 44)⟩,
⟨some 46, none, .load none (.t 45)⟩,
⟨some 47, none, .call false true (.k (.fn n_message_number [] [])) [.t 46, .k (.d (.int .i64 2))]⟩,
⟨some 40, none, .mv (.t 47)⟩,
⟨some 48, none, .extract (.t 40) 0⟩,
⟨some 49, none, .extract (.t 40) 1⟩,
⟨some 18, none, .mv (.t 48)⟩,
⟨some 19, none, .mv (.t 49)⟩] [40, 41, 42, 43, 44, 45, 46, 47, 48, 49])
(.seq (.seq (.reg true [
⟨some 50, none, .mv (.t 12)⟩,
⟨some 51, none, .len .slc (.t 50)⟩,
⟨some 52, none, .bin .neq (.t 51) (.k (.d (.int .i64 2)))⟩,
⟨some 53, none, .mv (.t 52)⟩,
⟨some 54, (some (53, false)), .mv (.t 19)⟩,
⟨some 55, (some (53, false)), .un .not (.t 54)⟩,
⟨some 56, none, .pick (.t 53) (.k (.d (.bool true))) (.t 55)⟩,
⟨some 57, none, .call false true (.k (.fn n_message_when [] [])) [.t 56, .k (.d (.int .i64 25))]⟩,
⟨some 58, none, .mv (.t 18)⟩,
⟨some 59, none, .fieldAddr 4 (.t 5)⟩,
⟨some 60, none, .load none (.t 59)⟩,
⟨some 61, none, .len .slc (.t 60)⟩,
⟨some 62, none, .bin .neq (.t 58) (.t 61)⟩,
⟨some 63, none, .call false true (.k (.fn n_message_when [] [])) [.t 62, .k (.d (.int .i64 27))]⟩,
⟨some 64, none, .mkList 1 2 [.t 57, .t 63]⟩,
⟨some 65, none, .call false true (.k (.fn n_message_first [] [])) [.t 64]⟩,
⟨some 20, none, .mv (.t 65)⟩] [5, 12, 18, 19, 50, 51, 52, 53, 54, 55, 56, 57, 58, 59, 60, 61, 62, 63, 64, 65])
(.seq (.reg false [
⟨some 66, none, .mv (.t 20)⟩,
⟨some 67, none, .bin .neq (.t 66) (.k (.d (.int .i64 0)))⟩] [66])
(.cond (.t 67) (.seq (.reg false [
⟨some 68, none, .build [.z (.str []), .z (.str []), .z (.str []), .z (.int .i64 0), .own ⟨false, ty_message_Line, 14, 168⟩] []⟩,
⟨some 69, none, .mv (.t 8)⟩,
⟨some 70, none, .mv (.t 20)⟩,
⟨none, none, .store 5 (.t 2) (.t 68)⟩,
⟨none, none, .store 1 (.t 3) (.t 69)⟩,
⟨none, none, .store 1 (.t 4) (.t 70)⟩] [8, 20, 68, 69, 70])
.ret)
 .skip)))
(.reg false [
⟨none, none, .store 1 (.t 7) (.k (.d (.bool true)))⟩] [7]))))))))))))))

/-- "turnround/message.ParseMessage" -/
def c_message_ParseMessage : CF := ⟨[.cell 2 (some 5), .cell 3 none, .cell 4 none],
  (.seq (.reg false [
⟨some 2, none, .alloc ty_message_Message [.z (.str []), .z (.str []), .z (.str []), .z (.int .i64 0), .own ⟨false, ty_message_Line, 14, 168⟩]⟩,
⟨some 3, none, .alloc ty_int [.z (.int .i64 0)]⟩,
⟨some 4, none, .alloc ty_api_Errno [.z (.int .i64 0)]⟩] [])
(.seq (.seq (.reg false [
⟨some 23, none, .mv (.t 0)⟩,
⟨some 24, none, .len .str (.t 23)⟩,
⟨some 25, none, .bin .gtr (.t 24) (.k (.d (.int .i64 16384)))⟩] [23, 24])
(.cond (.t 25) (.seq (.reg false [
⟨some 26, none, .build [.z (.str []), .z (.str []), .z (.str []), .z (.int .i64 0), .own ⟨false, ty_message_Line, 14, 168⟩] []⟩,
⟨none, none, .store 5 (.t 2) (.t 26)⟩,
⟨none, none, .store 1 (.t 3) (.k (.d (.int .i64 0)))⟩,
⟨none, none, .store 1 (.t 4) (.k (.d (.int .i64 26)))⟩] [26])
.ret)
 .skip))
(.seq (.reg false [
⟨some 5, none, .alloc ty_message_Message [.z (.str []), .z (.str []), .z (.str []), .z (.int .i64 0), .own ⟨false, ty_message_Line, 14, 168⟩]⟩] [])
(.seq (.reg false [
⟨some 6, none, .alloc ty_int [.z (.int .i64 0)]⟩,
⟨some 7, none, .alloc ty_bool [.z (.bool false)]⟩,
⟨none, none, .store 1 (.t 6) (.k (.d (.int .i64 0)))⟩,
⟨none, none, .store 1 (.t 7) (.k (.d (.bool false)))⟩] [])
(.seq (.seq (.reg false [
⟨some 27, none, .mv (.t 0)⟩,
⟨some 28, none, .call false false (.k (.fn n_message_texts [] [])) [.t 27]⟩] [0, 27])
(.block 0 (.rangeFn 141 (.t 28) [29, 30] b_message_ParseMessage_1 b_message_ParseMessage_2)))
(.seq (.seq (.reg false [
⟨some 121, none, .load none (.t 7)⟩,
⟨some 122, none, .un .not (.t 121)⟩] [7, 121])
(.cond (.t 122) (.seq (.reg true [
⟨some 123, none, .build [.z (.str []), .z (.str []), .z (.str []), .z (.int .i64 0), .own ⟨false, ty_message_Line, 14, 168⟩] []⟩,
⟨some 124, none, .load none (.t 6)⟩,
⟨none, none, .storeR 5 (.t 2) (.t 123) [6]⟩,
⟨none, none, .store 1 (.t 3) (.t 124)⟩,
⟨none, none, .store 1 (.t 4) (.k (.d (.int .i64 28)))⟩] [6, 123, 124])
.ret)
 .skip))
(.seq (.seq (.reg false [
⟨some 126, none, .fieldAddr 0 (.t 5)⟩,
⟨some 127, none, .load none (.t 126)⟩,
⟨some 128, none, .fieldAddr 4 (.t 5)⟩,
⟨some 129, none, .load none (.t 128)⟩,
⟨some 130, none, .call false true (.k (.fn n_message_checkLines [] [])) [.t 127, .t 129]⟩,
⟨some 125, none, .mv (.t 130)⟩,
⟨some 131, none, .extract (.t 125) 0⟩,
⟨some 132, none, .extract (.t 125) 1⟩,
⟨some 21, none, .mv (.t 131)⟩,
⟨some 22, none, .mv (.t 132)⟩] [125, 126, 127, 128, 129, 130, 131, 132])
(.seq (.reg false [
⟨some 133, none, .mv (.t 22)⟩,
⟨some 134, none, .bin .neq (.t 133) (.k (.d (.int .i64 0)))⟩] [133])
(.cond (.t 134) (.seq (.reg false [
⟨some 135, none, .build [.z (.str []), .z (.str []), .z (.str []), .z (.int .i64 0), .own ⟨false, ty_message_Line, 14, 168⟩] []⟩,
⟨some 136, none, .mv (.t 21)⟩,
⟨some 137, none, .bin .add (.t 136) (.k (.d (.int .i64 1)))⟩,
⟨some 138, none, .mv (.t 22)⟩,
⟨none, none, .store 5 (.t 2) (.t 135)⟩,
⟨none, none, .store 1 (.t 3) (.t 137)⟩,
⟨none, none, .store 1 (.t 4) (.t 138)⟩] [21, 22, 135, 136, 137, 138])
.ret)
 .skip)))
(.seq (.reg false [
⟨some 139, none, .load (some 5) (.t 5)⟩,
⟨none, none, .store 5 (.t 2) (.t 139)⟩,
⟨none, none, .store 1 (.t 3) (.k (.d (.int .i64 0)))⟩,
⟨none, none, .store 1 (.t 4) (.k (.d (.int .i64 0)))⟩] [5, 139])
.ret))))))))⟩

def b_ref02_ParseMessage_1 : C :=
  (.seq (.seq (.reg false [
⟨some 37, none, .mv (.t 8)⟩,
⟨some 38, none, .mv (.t 5)⟩,
⟨some 39, none, .len .slc (.t 38)⟩,
⟨some 40, none, .bin .lss (.t 37) (.t 39)⟩] [37, 38, 39])
(.cond (.t 40) .skip
 (.exit 0)))
(.seq (.block 1 (.seq (.reg false [
⟨some 44, none, .mv (.t 5)⟩,
⟨some 45, none, .mv (.t 8)⟩,
⟨some 46, none, .idxAddr 1 (.t 44) (.t 45)⟩,
⟨some 47, none, .load none (.t 46)⟩,
⟨some 48, none, .call false true (.k (.fn n_ref02_ended [] [])) [.t 47]⟩,
⟨some 43, none, .mv (.t 48)⟩,
⟨some 49, none, .extract (.t 43) 0⟩,
⟨some 50, none, .extract (.t 43) 1⟩,
⟨some 9, none, .mv (.t 49)⟩,
⟨some 10, none, .mv (.t 50)⟩] [43, 44, 45, 46, 47, 48, 49, 50])
(.seq (.seq (.reg false [
⟨some 51, none, .mv (.t 10)⟩,
⟨some 52, none, .un .not (.t 51)⟩] [10, 51])
(.cond (.t 52) (.seq (.reg false [
⟨some 53, none, .build [.z (.str []), .z (.str []), .z (.str []), .z (.int .i64 0), .own ⟨false, ty_turnroundref02_Line, 14, 168⟩] []⟩,
⟨some 54, none, .mv (.t 8)⟩,
⟨none, none, .store 5 (.t 2) (.t 53)⟩,
⟨some 3, none, .mv (.t 54)⟩,
⟨some 4, none, .mv (.k (.d (.int .i64 25)))⟩] [8, 53, 54])
.ret)
 .skip))
(.seq (.reg false [
⟨some 55, none, .mv (.t 9)⟩,
⟨some 56, none, .call false true (.k (.fn n_ref02_split [] [])) [.t 55]⟩,
⟨some 11, none, .mv (.t 56)⟩] [55, 56])
(.seq (.seq (.reg false [
⟨some 57, none, .mv (.t 11)⟩,
⟨some 58, none, .idxAddr 1 (.t 57) (.k (.d (.int .i64 0)))⟩,
⟨some 59, none, .load none (.t 58)⟩,
⟨some 60, none, .bin .neq (.t 59) (.k (.d (.str [69, 78, 68])))⟩] [57, 58, 59])
(.cond (.t 60) (.seq (.reg false [
⟨some 62, none, .mv (.t 9)⟩,
⟨some 63, none, .call false true (.k (.fn n_ref02_ParseLine [] [])) [.t 62]⟩,
⟨some 61, none, .mv (.t 63)⟩,
⟨some 64, none, .extract (.t 61) 0⟩,
⟨some 65, none, .extract (.t 61) 1⟩,
⟨some 66, none, .extract (.t 61) 2⟩,
⟨some 12, none, .alloc ty_turnroundref02_Line [.z (.str []), .z (.str []), .z (.str []), .z (.str []), .z (.str []), .z (.str []), .z (.str []), .z (.int .i64 0), .z (.int .i64 0), .z (.int .i64 0), .z (.int .i64 0), .z (.int .i64 0), .z (.int .i64 0), .z (.int .i64 0)]⟩,
⟨none, none, .store 14 (.t 12) (.t 64)⟩,
⟨some 13, none, .mv (.t 65)⟩,
⟨some 14, none, .mv (.t 66)⟩] [9, 13, 61, 62, 63, 64, 65, 66])
(.seq (.seq (.reg false [
⟨some 67, none, .mv (.t 14)⟩,
⟨some 68, none, .bin .eql (.t 67) (.k (.d (.int .i64 0)))⟩,
⟨some 69, none, .mv (.t 68)⟩,
⟨some 70, (some (69, true)), .mv (.t 8)⟩,
⟨some 71, (some (69, true)), .bin .gtr (.t 70) (.k (.d (.int .i64 64)))⟩,
⟨some 72, none, .pick (.t 69) (.t 71) (.k (.d (.bool false)))⟩] [67, 68, 69, 70, 71])
(.cond (.t 72) (.reg false [
⟨some 14, none, .mv (.k (.d (.int .i64 5)))⟩] [])
 .skip))
(.seq (.seq (.reg false [
⟨some 73, none, .mv (.t 14)⟩,
⟨some 74, none, .bin .neq (.t 73) (.k (.d (.int .i64 0)))⟩] [73])
(.cond (.t 74) (.seq (.reg false [
⟨some 75, none, .build [.z (.str []), .z (.str []), .z (.str []), .z (.int .i64 0), .own ⟨false, ty_turnroundref02_Line, 14, 168⟩] []⟩,
⟨some 76, none, .mv (.t 8)⟩,
⟨some 77, none, .mv (.t 14)⟩,
⟨none, none, .store 5 (.t 2) (.t 75)⟩,
⟨some 3, none, .mv (.t 76)⟩,
⟨some 4, none, .mv (.t 77)⟩] [8, 14, 75, 76, 77])
.ret)
 .skip))
(.seq (.reg false [
⟨some 78, none, .fieldAddr 4 (.t 6)⟩,
⟨some 79, none, .load none (.t 78)⟩,
⟨some 80, none, .load (some 14) (.t 12)⟩,
⟨some 81, none, .mkList 14 1 [.t 80]⟩,
⟨some 82, none, .append ⟨false, ty_turnroundref02_Line, 14, 168⟩ (.t 79) (.t 81)⟩,
⟨some 83, none, .fieldAddr 4 (.t 6)⟩,
⟨none, none, .store 1 (.t 83) (.t 82)⟩] [12, 78, 79, 80, 81, 82, 83])
(.exit 1)))))
 .skip))
(.seq (.seq (.reg false [
⟨some 84, none, .mv (.t 11)⟩,
⟨some 85, none, .len .slc (.t 84)⟩,
⟨some 86, none, .bin .neq (.t 85) (.k (.d (.int .i64 2)))⟩,
⟨some 87, none, .mv (.t 86)⟩,
⟨some 88, (some (87, false)), .mv (.t 11)⟩,
⟨some 89, (some (87, false)), .idxAddr 1 (.t 88) (.k (.d (.int .i64 1)))⟩,
⟨some 90, (some (87, false)), .load none (.t 89)⟩,
⟨some 91, (some (87, false)), .call false true (.k (.fn n_ref02_digits [] [])) [.t 90, .k (.d (.int .i64 2))]⟩,
⟨some 92, (some (87, false)), .bin .lss (.t 91) (.k (.d (.int .i64 0)))⟩,
⟨some 93, none, .pick (.t 87) (.k (.d (.bool true))) (.t 92)⟩] [84, 85, 86, 87, 88, 89, 90, 91, 92])
(.cond (.t 93) (.seq (.reg false [
⟨some 94, none, .build [.z (.str []), .z (.str []), .z (.str []), .z (.int .i64 0), .own ⟨false, ty_turnroundref02_Line, 14, 168⟩] []⟩,
⟨some 95, none, .mv (.t 8)⟩,
⟨none, none, .store 5 (.t 2) (.t 94)⟩,
⟨some 3, none, .mv (.t 95)⟩,
⟨some 4, none, .mv (.k (.d (.int .i64 25)))⟩] [8, 94, 95])
.ret)
 .skip))
(.seq (.seq (.reg false [
⟨some 96, none, .mv (.t 11)⟩,
⟨some 97, none, .idxAddr 1 (.t 96) (.k (.d (.int .i64 1)))⟩,
⟨some 98, none, .load none (.t 97)⟩,
⟨some 99, none, .call false true (.k (.fn n_ref02_digits [] [])) [.t 98, .k (.d (.int .i64 2))]⟩,
⟨some 100, none, .mv (.t 8)⟩,
⟨some 101, none, .bin .sub (.t 100) (.k (.d (.int .i64 1)))⟩,
⟨some 102, none, .bin .neq (.t 99) (.t 101)⟩] [11, 96, 97, 98, 99, 100, 101])
(.cond (.t 102) (.seq (.reg false [
⟨some 103, none, .build [.z (.str []), .z (.str []), .z (.str []), .z (.int .i64 0), .own ⟨false, ty_turnroundref02_Line, 14, 168⟩] []⟩,
⟨some 104, none, .mv (.t 8)⟩,
⟨none, none, .store 5 (.t 2) (.t 103)⟩,
⟨some 3, none, .mv (.t 104)⟩,
⟨some 4, none, .mv (.k (.d (.int .i64 27)))⟩] [8, 103, 104])
.ret)
 .skip))
(.seq (.seq (.reg false [
⟨some 105, none, .mv (.t 8)⟩,
⟨some 106, none, .bin .add (.t 105) (.k (.d (.int .i64 1)))⟩,
⟨some 107, none, .mv (.t 5)⟩,
⟨some 108, none, .len .slc (.t 107)⟩,
⟨some 109, none, .bin .lss (.t 106) (.t 108)⟩] [5, 105, 106, 107, 108])
(.cond (.t 109) (.seq (.reg false [
⟨some 110, none, .build [.z (.str []), .z (.str []), .z (.str []), .z (.int .i64 0), .own ⟨false, ty_turnroundref02_Line, 14, 168⟩] []⟩,
⟨some 111, none, .mv (.t 8)⟩,
⟨some 112, none, .bin .add (.t 111) (.k (.d (.int .i64 1)))⟩,
⟨none, none, .store 5 (.t 2) (.t 110)⟩,
⟨some 3, none, .mv (.t 112)⟩,
⟨some 4, none, .mv (.k (.d (.int .i64 25)))⟩] [8, 110, 111, 112])
.ret)
 .skip))
(.seq (.reg false [
⟨some 114, none, .fieldAddr 0 (.t 6)⟩,
⟨some 115, none, .load none (.t 114)⟩,
⟨some 116, none, .fieldAddr 4 (.t 6)⟩,
⟨some 117, none, .load none (.t 116)⟩,
⟨some 118, none, .call false true (.k (.fn n_ref02_CheckLines [] [])) [.t 115, .t 117]⟩,
⟨some 113, none, .mv (.t 118)⟩,
⟨some 119, none, .extract (.t 113) 0⟩,
⟨some 120, none, .extract (.t 113) 1⟩,
⟨some 15, none, .mv (.t 119)⟩,
⟨some 16, none, .mv (.t 120)⟩] [113, 114, 115, 116, 117, 118, 119, 120])
(.seq (.seq (.reg false [
⟨some 121, none, .mv (.t 16)⟩,
⟨some 122, none, .bin .neq (.t 121) (.k (.d (.int .i64 0)))⟩] [121])
(.cond (.t 122) (.seq (.reg false [
⟨some 123, none, .build [.z (.str []), .z (.str []), .z (.str []), .z (.int .i64 0), .own ⟨false, ty_turnroundref02_Line, 14, 168⟩] []⟩,
⟨some 124, none, .mv (.t 15)⟩,
⟨some 125, none, .bin .add (.t 124) (.k (.d (.int .i64 1)))⟩,
⟨some 126, none, .mv (.t 16)⟩,
⟨none, none, .store 5 (.t 2) (.t 123)⟩,
⟨some 3, none, .mv (.t 125)⟩,
⟨some 4, none, .mv (.t 126)⟩] [15, 16, 123, 124, 125, 126])
.ret)
 .skip))
(.seq (.reg false [
⟨some 127, none, .load (some 5) (.t 6)⟩,
⟨none, none, .store 5 (.t 2) (.t 127)⟩,
⟨some 3, none, .mv (.k (.d (.int .i64 0)))⟩,
⟨some 4, none, .mv (.k (.d (.int .i64 0)))⟩] [6, 127])
.ret)))))))))))
(.reg false [
⟨some 41, none, .mv (.t 8)⟩,
⟨some 42, none, .bin .add (.t 41) (.k (.d (.int .i64 1)))⟩,
⟨some 8, none, .mv (.t 42)⟩] [41, 42])))

/-- "turnround/turnroundref02.ParseMessage" -/
def c_ref02_ParseMessage : CF := ⟨[.cell 2 (some 5), .tmp 3, .tmp 4],
  (.seq (.reg false [
⟨some 2, none, .alloc ty_turnroundref02_Message [.z (.str []), .z (.str []), .z (.str []), .z (.int .i64 0), .own ⟨false, ty_turnroundref02_Line, 14, 168⟩]⟩,
⟨some 3, none, .mv (.k (.d (.int .i64 0)))⟩,
⟨some 4, none, .mv (.k (.d (.int .i64 0)))⟩] [3, 4])
(.seq (.seq (.reg false [
⟨some 17, none, .mv (.t 0)⟩,
⟨some 18, none, .len .str (.t 17)⟩,
⟨some 19, none, .bin .gtr (.t 18) (.k (.d (.int .i64 16384)))⟩] [17, 18])
(.cond (.t 19) (.seq (.reg false [
⟨some 20, none, .build [.z (.str []), .z (.str []), .z (.str []), .z (.int .i64 0), .own ⟨false, ty_turnroundref02_Line, 14, 168⟩] []⟩,
⟨none, none, .store 5 (.t 2) (.t 20)⟩,
⟨some 3, none, .mv (.k (.d (.int .i64 0)))⟩,
⟨some 4, none, .mv (.k (.d (.int .i64 26)))⟩] [20])
.ret)
 .skip))
(.seq (.reg false [
⟨some 21, none, .mv (.t 0)⟩,
⟨some 22, none, .call false true (.k (.fn n_ref02_pieces [] [])) [.t 21]⟩,
⟨some 5, none, .mv (.t 22)⟩] [0, 21, 22])
(.seq (.seq (.reg false [
⟨some 23, none, .mv (.t 5)⟩,
⟨some 24, none, .len .slc (.t 23)⟩,
⟨some 25, none, .bin .eql (.t 24) (.k (.d (.int .i64 0)))⟩] [23, 24])
(.cond (.t 25) (.seq (.reg false [
⟨some 26, none, .build [.z (.str []), .z (.str []), .z (.str []), .z (.int .i64 0), .own ⟨false, ty_turnroundref02_Line, 14, 168⟩] []⟩,
⟨none, none, .store 5 (.t 2) (.t 26)⟩,
⟨some 3, none, .mv (.k (.d (.int .i64 0)))⟩,
⟨some 4, none, .mv (.k (.d (.int .i64 28)))⟩] [26])
.ret)
 .skip))
(.seq (.reg false [
⟨some 28, none, .mv (.t 5)⟩,
⟨some 29, none, .idxAddr 1 (.t 28) (.k (.d (.int .i64 0)))⟩,
⟨some 30, none, .load none (.t 29)⟩,
⟨some 31, none, .call false false (.k (.fn n_ref02_head [] [])) [.t 30]⟩,
⟨some 27, none, .mv (.t 31)⟩,
⟨some 32, none, .extract (.t 27) 0⟩,
⟨some 33, none, .extract (.t 27) 1⟩,
⟨some 6, none, .alloc ty_turnroundref02_Message [.z (.str []), .z (.str []), .z (.str []), .z (.int .i64 0), .own ⟨false, ty_turnroundref02_Line, 14, 168⟩]⟩,
⟨none, none, .store 5 (.t 6) (.t 32)⟩,
⟨some 7, none, .mv (.t 33)⟩] [27, 28, 29, 30, 31, 32, 33])
(.seq (.seq (.reg false [
⟨some 34, none, .mv (.t 7)⟩,
⟨some 35, none, .un .not (.t 34)⟩] [7, 34])
(.cond (.t 35) (.seq (.reg false [
⟨some 36, none, .build [.z (.str []), .z (.str []), .z (.str []), .z (.int .i64 0), .own ⟨false, ty_turnroundref02_Line, 14, 168⟩] []⟩,
⟨none, none, .store 5 (.t 2) (.t 36)⟩,
⟨some 3, none, .mv (.k (.d (.int .i64 0)))⟩,
⟨some 4, none, .mv (.k (.d (.int .i64 25)))⟩] [36])
.ret)
 .skip))
(.seq (.seq (.reg false [
⟨some 8, none, .mv (.k (.d (.int .i64 1)))⟩] [])
(.block 0 (.loop [2, 5, 6, 8] b_ref02_ParseMessage_1)))
(.seq (.reg false [
⟨some 128, none, .build [.z (.str []), .z (.str []), .z (.str []), .z (.int .i64 0), .own ⟨false, ty_turnroundref02_Line, 14, 168⟩] []⟩,
⟨some 129, none, .mv (.t 5)⟩,
⟨some 130, none, .len .slc (.t 129)⟩,
⟨none, none, .store 5 (.t 2) (.t 128)⟩,
⟨some 3, none, .mv (.t 130)⟩,
⟨some 4, none, .mv (.k (.d (.int .i64 28)))⟩] [5, 128, 129, 130])
.ret))))))))⟩

/-- "turnround/turnroundref02.SameMessages" -/
def c_ref02_SameMessages : CF := ⟨[.tmp 4],
  (.seq (.reg false [
⟨some 2, none, .box ty_turnroundref02_Message (.t 0)⟩,
⟨some 3, none, .box ty_turnroundref02_Message (.t 1)⟩,
⟨some 4, none, .mv (.k (.d (.bool false)))⟩] [0, 1, 4])
(.seq (.reg false [
⟨some 5, none, .fieldAddr 0 (.t 2)⟩,
⟨some 6, none, .load none (.t 5)⟩,
⟨some 7, none, .fieldAddr 0 (.t 3)⟩,
⟨some 8, none, .load none (.t 7)⟩,
⟨some 9, none, .bin .eql (.t 6) (.t 8)⟩,
⟨some 10, none, .mv (.t 9)⟩,
⟨some 11, (some (10, true)), .fieldAddr 1 (.t 2)⟩,
⟨some 12, (some (10, true)), .load none (.t 11)⟩,
⟨some 13, (some (10, true)), .fieldAddr 1 (.t 3)⟩,
⟨some 14, (some (10, true)), .load none (.t 13)⟩,
⟨some 15, (some (10, true)), .bin .eql (.t 12) (.t 14)⟩,
⟨some 16, none, .pick (.t 10) (.t 15) (.k (.d (.bool false)))⟩,
⟨some 17, none, .mv (.t 16)⟩,
⟨some 18, (some (17, true)), .fieldAddr 2 (.t 2)⟩,
⟨some 19, (some (17, true)), .load none (.t 18)⟩,
⟨some 20, (some (17, true)), .fieldAddr 2 (.t 3)⟩,
⟨some 21, (some (17, true)), .load none (.t 20)⟩,
⟨some 22, (some (17, true)), .bin .eql (.t 19) (.t 21)⟩,
⟨some 23, none, .pick (.t 17) (.t 22) (.k (.d (.bool false)))⟩,
⟨some 24, none, .mv (.t 23)⟩,
⟨some 25, (some (24, true)), .fieldAddr 3 (.t 2)⟩,
⟨some 26, (some (24, true)), .load none (.t 25)⟩,
⟨some 27, (some (24, true)), .fieldAddr 3 (.t 3)⟩,
⟨some 28, (some (24, true)), .load none (.t 27)⟩,
⟨some 29, (some (24, true)), .bin .eql (.t 26) (.t 28)⟩,
⟨some 30, none, .pick (.t 24) (.t 29) (.k (.d (.bool false)))⟩,
⟨some 31, none, .mv (.t 30)⟩,
⟨some 32, (some (31, true)), .fieldAddr 4 (.t 2)⟩,
⟨some 33, (some (31, true)), .load none (.t 32)⟩,
⟨some 34, (some (31, true)), .fieldAddr 4 (.t 3)⟩,
⟨some 35, (some (31, true)), .load none (.t 34)⟩,
⟨some 36, (some (31, true)), .call false true (.k (.fn n_ref02_SameLines [] [])) [.t 33, .t 35]⟩,
⟨some 37, none, .pick (.t 31) (.t 36) (.k (.d (.bool false)))⟩,
⟨some 4, none, .mv (.t 37)⟩] [2, 3, 5, 6, 7, 8, 9, 10, 11, 12, 13, 14, 15, 16, 17, 18, 19, 20, 21, 22, 23, 24, 25, 26, 27, 28, 29, 30, 31, 32, 33, 34, 35, 36, 37])
.ret))⟩

/-- "turnround/turnroundlaw02.own" -/
def c_law02_own : CF := ⟨[.cell 2 (some 5)],
  (.seq (.reg false [
⟨some 1, none, .box ty_message_Message (.t 0)⟩,
⟨some 2, none, .alloc ty_turnroundref02_Message [.z (.str []), .z (.str []), .z (.str []), .z (.int .i64 0), .z (.list 0 [])]⟩] [0])
(.seq (.reg true [
⟨some 3, none, .fieldAddr 0 (.t 1)⟩,
⟨some 4, none, .load none (.t 3)⟩,
⟨some 5, none, .fieldAddr 1 (.t 1)⟩,
⟨some 6, none, .load none (.t 5)⟩,
⟨some 7, none, .fieldAddr 2 (.t 1)⟩,
⟨some 8, none, .load none (.t 7)⟩,
⟨some 9, none, .fieldAddr 3 (.t 1)⟩,
⟨some 10, none, .load none (.t 9)⟩,
⟨some 11, none, .fieldAddr 4 (.t 1)⟩,
⟨some 12, none, .load none (.t 11)⟩,
⟨some 13, none, .call false true (.k (.fn n_law02_ownLines [] [])) [.t 12]⟩,
⟨some 14, none, .build [.z (.str []), .z (.str []), .z (.str []), .z (.int .i64 0), .z (.list 0 [])] [(0, 1, .t 4), (1, 1, .t 6), (2, 1, .t 8), (3, 1, .t 10), (4, 1, .t 13)]⟩,
⟨none, none, .store 5 (.t 2) (.t 14)⟩] [1, 3, 4, 5, 6, 7, 8, 9, 10, 11, 12, 13, 14])
.ret))⟩

def b_message_Requests_1 : C :=
  (.seq (.reg false [
⟨some 67, none, .bin .lss (.t 66) (.t 65)⟩] [])
(.seq (.cond (.t 67) .skip
 (.exit 2))
(.seq (.block 3 (.seq (.reg false [
⟨some 68, none, .idxAddr 14 (.t 64) (.t 66)⟩,
⟨some 69, none, .load (some 14) (.t 68)⟩,
⟨some 12, none, .alloc ty_message_Line [.z (.str []), .z (.str []), .z (.str []), .z (.str []), .z (.str []), .z (.str []), .z (.str []), .z (.int .i64 0), .z (.int .i64 0), .z (.int .i64 0), .z (.int .i64 0), .z (.int .i64 0), .z (.int .i64 0), .z (.int .i64 0)]⟩,
⟨none, none, .store 14 (.t 12) (.t 69)⟩] [68, 69])
(.seq (.reg false [
⟨some 71, none, .mv (.t 5)⟩,
⟨some 72, none, .load (some 14) (.t 12)⟩,
⟨some 73, none, .fieldAddr 3 (.t 9)⟩,
⟨some 74, none, .load none (.t 73)⟩,
⟨some 75, none, .call true false (.k (.fn n_message_step [] [])) [.t 71, .t 72, .t 74]⟩,
⟨some 70, none, .mv (.t 75)⟩,
⟨some 76, none, .extract (.t 70) 0⟩,
⟨some 77, none, .extract (.t 70) 1⟩,
⟨some 5, none, .mv (.t 76)⟩,
⟨some 7, none, .mv (.t 77)⟩] [12, 70, 71, 72, 73, 74, 75, 76, 77])
(.seq (.reg false [
⟨some 78, none, .mv (.t 7)⟩,
⟨some 79, none, .bin .neq (.t 78) (.k (.d (.int .i64 0)))⟩] [78])
(.cond (.t 79) (.exit 0)
 .skip)))))
(.reg false [
⟨some 80, none, .bin .add (.t 66) (.k (.d (.int .i64 1)))⟩,
⟨some 66, none, .mv (.t 80)⟩] [80]))))

def b_message_Requests_2 : C :=
  (.seq (.reg false [
⟨some 19, none, .bin .lss (.t 18) (.t 17)⟩] [])
(.seq (.cond (.t 19) .skip
 (.exit 0))
(.seq (.block 1 (.seq (.reg false [
⟨some 20, none, .mv (.t 18)⟩,
⟨some 21, none, .idxAddr 5 (.t 16) (.t 18)⟩,
⟨some 22, none, .load (some 5) (.t 21)⟩,
⟨some 9, none, .alloc ty_message_Message [.z (.str []), .z (.str []), .z (.str []), .z (.int .i64 0), .z (.list 0 [])]⟩,
⟨some 8, none, .mv (.t 20)⟩,
⟨none, none, .store 5 (.t 9) (.t 22)⟩] [20, 21, 22])
(.seq (.reg false [
⟨some 23, none, .mv (.t 8)⟩,
⟨some 6, none, .mv (.t 23)⟩] [23])
(.seq (.reg false [
⟨some 24, none, .mv (.t 0)⟩,
⟨some 25, none, .mv (.t 8)⟩,
⟨some 26, none, .bin .sub (.t 25) (.k (.d (.int .i64 1)))⟩,
⟨some 27, none, .minmax true [.k (.d (.int .i64 0)), .t 26]⟩,
⟨some 28, none, .idxAddr 5 (.t 24) (.t 27)⟩,
⟨some 29, none, .load (some 5) (.t 28)⟩,
⟨some 10, none, .alloc ty_message_Message [.z (.str []), .z (.str []), .z (.str []), .z (.int .i64 0), .z (.list 0 [])]⟩,
⟨none, none, .store 5 (.t 10) (.t 29)⟩] [8, 24, 25, 26, 27, 28, 29])
(.seq (.seq (.reg true [
⟨some 30, none, .load (some 5) (.t 9)⟩,
⟨some 31, none, .call false true (.k (.fn n_message_CheckMessage [] [])) [.t 30]⟩,
⟨some 32, none, .fieldAddr 0 (.t 9)⟩,
⟨some 33, none, .load none (.t 32)⟩,
⟨some 34, none, .bin .neq (.t 33) (.k (.d (.str [82, 69, 81])))⟩,
⟨some 35, none, .call false true (.k (.fn n_message_when [] [])) [.t 34, .k (.d (.int .i64 13))]⟩,
⟨some 36, none, .fieldAddr 1 (.t 9)⟩,
⟨some 37, none, .load none (.t 36)⟩,
⟨some 38, none, .mv (.t 0)⟩,
⟨some 39, none, .idxAddr 5 (.t 38) (.k (.d (.int .i64 0)))⟩,
⟨some 40, none, .fieldAddr 1 (.t 39)⟩,
⟨some 41, none, .load none (.t 40)⟩,
⟨some 42, none, .bin .neq (.t 37) (.t 41)⟩,
⟨some 43, none, .mv (.t 42)⟩,
⟨some 44, (some (43, false)), .fieldAddr 2 (.t 9)⟩,
⟨some 45, (some (43, false)), .load none (.t 44)⟩,
⟨some 46, (some (43, false)), .mv (.t 0)⟩,
⟨some 47, (some (43, false)), .idxAddr 5 (.t 46) (.k (.d (.int .i64 0)))⟩,
⟨some 48, (some (43, false)), .fieldAddr 2 (.t 47)⟩,
⟨some 49, (some (43, false)), .load none (.t 48)⟩,
⟨some 50, (some (43, false)), .bin .neq (.t 45) (.t 49)⟩,
⟨some 51, none, .pick (.t 43) (.k (.d (.bool true))) (.t 50)⟩,
⟨some 52, none, .call false true (.k (.fn n_message_when [] [])) [.t 51, .k (.d (.int .i64 29))]⟩,
⟨some 53, none, .fieldAddr 3 (.t 9)⟩,
⟨some 54, none, .load none (.t 53)⟩,
⟨some 55, none, .fieldAddr 3 (.t 10)⟩,
⟨some 56, none, .load none (.t 55)⟩,
⟨some 57, none, .bin .lss (.t 54) (.t 56)⟩,
⟨some 58, none, .call false true (.k (.fn n_message_when [] [])) [.t 57, .k (.d (.int .i64 11))]⟩,
⟨some 59, none, .mkList 1 4 [.t 31, .t 35, .t 52, .t 58]⟩,
⟨some 60, none, .call false true (.k (.fn n_message_first [] [])) [.t 59]⟩,
⟨some 7, none, .mv (.t 60)⟩] [10, 30, 31, 32, 33, 34, 35, 36, 37, 38, 39, 40, 41, 42, 43, 44, 45, 46, 47, 48, 49, 50, 51, 52, 53, 54, 55, 56, 57, 58, 59, 60])
(.seq (.reg false [
⟨some 61, none, .mv (.t 7)⟩,
⟨some 62, none, .bin .neq (.t 61) (.k (.d (.int .i64 0)))⟩] [61])
(.cond (.t 62) (.exit 0)
 .skip)))
(.seq (.reg false [
⟨some 63, none, .fieldAddr 4 (.t 9)⟩,
⟨some 64, none, .load none (.t 63)⟩,
⟨some 65, none, .len .slc (.t 64)⟩,
⟨some 66, none, .mv (.k (.d (.int .i64 0)))⟩] [63])
(.block 2 (.loop [0, 5, 6, 7, 9, 16, 17, 18, 64, 65, 66] b_message_Requests_1))))))))
(.reg false [
⟨some 81, none, .bin .add (.t 18) (.k (.d (.int .i64 1)))⟩,
⟨some 18, none, .mv (.t 81)⟩] [81]))))

/-- "turnround/message.Requests" -/
def c_message_Requests : CF := ⟨[.tmp 2, .tmp 3, .tmp 4],
  (.seq (.reg false [
⟨some 2, none, .ownNil ⟨true, ty_message_Entry, 15, 168⟩⟩,
⟨some 3, none, .mv (.k (.d (.int .i64 0)))⟩,
⟨some 4, none, .mv (.k (.d (.int .i64 0)))⟩] [2, 3, 4])
(.scope (.seq (.seq (.reg false [
⟨some 13, none, .mv (.t 0)⟩,
⟨some 14, none, .len .slc (.t 13)⟩,
⟨some 15, none, .bin .gtr (.t 14) (.k (.d (.int .i64 64)))⟩] [13, 14])
(.cond (.t 15) (.seq (.reg false [
⟨some 2, none, .ownNil ⟨true, ty_message_Entry, 15, 168⟩⟩,
⟨some 3, none, .mv (.k (.d (.int .i64 0)))⟩,
⟨some 4, none, .mv (.k (.d (.int .i64 5)))⟩] [])
.ret)
 .skip))
(.seq (.reg false [
⟨some 5, none, .ownNil ⟨true, ty_message_Entry, 15, 168⟩⟩] [])
(.seq (.reg false [
⟨some 6, none, .mv (.k (.d (.int .i64 0)))⟩,
⟨some 7, none, .mv (.k (.d (.int .i64 0)))⟩] [])
(.seq .label
(.seq (.seq (.reg false [
⟨some 16, none, .mv (.t 0)⟩,
⟨some 17, none, .len .slc (.t 16)⟩,
⟨some 18, none, .mv (.k (.d (.int .i64 0)))⟩] [])
(.block 0 (.loop [0, 5, 6, 7, 16, 17, 18] b_message_Requests_2)))
(.seq (.seq (.reg false [
⟨some 82, none, .mv (.t 7)⟩,
⟨some 83, none, .bin .neq (.t 82) (.k (.d (.int .i64 0)))⟩] [82])
(.cond (.t 83) (.seq (.reg false [
⟨some 84, none, .mv (.t 6)⟩,
⟨some 85, none, .mv (.t 7)⟩,
⟨some 2, none, .ownNil ⟨true, ty_message_Entry, 15, 168⟩⟩,
⟨some 3, none, .mv (.t 84)⟩,
⟨some 4, none, .mv (.t 85)⟩] [6, 7, 84, 85])
.ret)
 .skip))
(.seq (.reg false [
⟨some 86, none, .mv (.t 5)⟩,
⟨some 2, none, .mv (.t 86)⟩,
⟨some 3, none, .mv (.k (.d (.int .i64 0)))⟩,
⟨some 4, none, .mv (.k (.d (.int .i64 0)))⟩] [5, 86])
.ret)))))))))⟩

def b_ref02_Requests_1 : C :=
  (.seq (.seq (.reg false [
⟨some 80, none, .mv (.t 9)⟩,
⟨some 81, none, .mv (.t 0)⟩,
⟨some 82, none, .mv (.t 6)⟩,
⟨some 83, none, .idxAddr 5 (.t 81) (.t 82)⟩,
⟨some 84, none, .fieldAddr 4 (.t 83)⟩,
⟨some 85, none, .load none (.t 84)⟩,
⟨some 86, none, .len .slc (.t 85)⟩,
⟨some 87, none, .bin .lss (.t 80) (.t 86)⟩,
⟨some 88, none, .mv (.t 87)⟩,
⟨some 89, (some (88, true)), .mv (.t 7)⟩,
⟨some 90, (some (88, true)), .bin .eql (.t 89) (.k (.d (.int .i64 0)))⟩,
⟨some 91, none, .pick (.t 88) (.t 90) (.k (.d (.bool false)))⟩] [80, 81, 82, 83, 84, 85, 86, 87, 88, 89, 90])
(.cond (.t 91) .skip
 (.exit 2)))
(.seq (.block 3 (.seq (.reg true [
⟨some 95, none, .mv (.t 5)⟩,
⟨some 96, none, .mv (.t 0)⟩,
⟨some 97, none, .mv (.t 6)⟩,
⟨some 98, none, .idxAddr 5 (.t 96) (.t 97)⟩,
⟨some 99, none, .fieldAddr 4 (.t 98)⟩,
⟨some 100, none, .load none (.t 99)⟩,
⟨some 101, none, .mv (.t 9)⟩,
⟨some 102, none, .idxAddr 14 (.t 100) (.t 101)⟩,
⟨some 103, none, .load (some 14) (.t 102)⟩,
⟨some 104, none, .load (some 14) (.t 8)⟩,
⟨some 105, none, .mv (.t 0)⟩,
⟨some 106, none, .mv (.t 6)⟩,
⟨some 107, none, .idxAddr 5 (.t 105) (.t 106)⟩,
⟨some 108, none, .fieldAddr 3 (.t 107)⟩,
⟨some 109, none, .load none (.t 108)⟩,
⟨some 110, none, .call false true (.k (.fn n_ref02_step [] [])) [.t 95, .t 103, .t 104, .t 109]⟩,
⟨some 94, none, .mv (.t 110)⟩,
⟨some 111, none, .extract (.t 94) 0⟩,
⟨some 112, none, .extract (.t 94) 1⟩,
⟨some 5, none, .mv (.t 111)⟩,
⟨some 7, none, .mv (.t 112)⟩] [94, 95, 96, 97, 98, 99, 100, 101, 102, 103, 104, 105, 106, 107, 108, 109, 110, 111, 112])
(.reg false [
⟨some 113, none, .mv (.t 0)⟩,
⟨some 114, none, .mv (.t 6)⟩,
⟨some 115, none, .idxAddr 5 (.t 113) (.t 114)⟩,
⟨some 116, none, .fieldAddr 4 (.t 115)⟩,
⟨some 117, none, .load none (.t 116)⟩,
⟨some 118, none, .mv (.t 9)⟩,
⟨some 119, none, .idxAddr 14 (.t 117) (.t 118)⟩,
⟨some 120, none, .load (some 14) (.t 119)⟩,
⟨none, none, .store 14 (.t 8) (.t 120)⟩] [113, 114, 115, 116, 117, 118, 119, 120])))
(.reg false [
⟨some 92, none, .mv (.t 9)⟩,
⟨some 93, none, .bin .add (.t 92) (.k (.d (.int .i64 1)))⟩,
⟨some 9, none, .mv (.t 93)⟩] [92, 93])))

def b_ref02_Requests_2 : C :=
  (.seq (.seq (.reg false [
⟨some 13, none, .mv (.t 6)⟩,
⟨some 14, none, .mv (.t 0)⟩,
⟨some 15, none, .len .slc (.t 14)⟩,
⟨some 16, none, .bin .lss (.t 13) (.t 15)⟩] [13, 14, 15])
(.cond (.t 16) .skip
 (.exit 0)))
(.seq (.block 1 (.seq (.reg false [
⟨some 19, none, .mv (.t 0)⟩,
⟨some 20, none, .mv (.t 6)⟩,
⟨some 21, none, .idxAddr 5 (.t 19) (.t 20)⟩,
⟨some 22, none, .load (some 5) (.t 21)⟩,
⟨some 23, none, .call false true (.k (.fn n_ref02_CheckMessage [] [])) [.t 22]⟩,
⟨some 7, none, .mv (.t 23)⟩] [19, 20, 21, 22, 23])
(.seq (.seq (.reg false [
⟨some 24, none, .mv (.t 7)⟩,
⟨some 25, none, .bin .eql (.t 24) (.k (.d (.int .i64 0)))⟩,
⟨some 26, none, .mv (.t 25)⟩,
⟨some 27, (some (26, true)), .mv (.t 0)⟩,
⟨some 28, (some (26, true)), .mv (.t 6)⟩,
⟨some 29, (some (26, true)), .idxAddr 5 (.t 27) (.t 28)⟩,
⟨some 30, (some (26, true)), .fieldAddr 0 (.t 29)⟩,
⟨some 31, (some (26, true)), .load none (.t 30)⟩,
⟨some 32, (some (26, true)), .bin .neq (.t 31) (.k (.d (.str [82, 69, 81])))⟩,
⟨some 33, none, .pick (.t 26) (.t 32) (.k (.d (.bool false)))⟩] [24, 25, 26, 27, 28, 29, 30, 31, 32])
(.cond (.t 33) (.reg false [
⟨some 7, none, .mv (.k (.d (.int .i64 13)))⟩] [])
 .skip))
(.seq (.seq (.reg true [
⟨some 34, none, .mv (.t 7)⟩,
⟨some 35, none, .bin .eql (.t 34) (.k (.d (.int .i64 0)))⟩,
⟨some 36, none, .mv (.t 35)⟩,
⟨some 37, (some (36, true)), .mv (.t 0)⟩,
⟨some 38, (some (36, true)), .mv (.t 6)⟩,
⟨some 39, (some (36, true)), .idxAddr 5 (.t 37) (.t 38)⟩,
⟨some 40, (some (36, true)), .fieldAddr 1 (.t 39)⟩,
⟨some 41, (some (36, true)), .load none (.t 40)⟩,
⟨some 42, (some (36, true)), .mv (.t 0)⟩,
⟨some 43, (some (36, true)), .idxAddr 5 (.t 42) (.k (.d (.int .i64 0)))⟩,
⟨some 44, (some (36, true)), .fieldAddr 1 (.t 43)⟩,
⟨some 45, (some (36, true)), .load none (.t 44)⟩,
⟨some 46, (some (36, true)), .bin .neq (.t 41) (.t 45)⟩,
⟨some 47, (some (36, true)), .mv (.t 46)⟩,
⟨some 48, (some (47, false)), .mv (.t 0)⟩,
⟨some 49, (some (47, false)), .mv (.t 6)⟩,
⟨some 50, (some (47, false)), .idxAddr 5 (.t 48) (.t 49)⟩,
⟨some 51, (some (47, false)), .fieldAddr 2 (.t 50)⟩,
⟨some 52, (some (47, false)), .load none (.t 51)⟩,
⟨some 53, (some (47, false)), .mv (.t 0)⟩,
⟨some 54, (some (47, false)), .idxAddr 5 (.t 53) (.k (.d (.int .i64 0)))⟩,
⟨some 55, (some (47, false)), .fieldAddr 2 (.t 54)⟩,
⟨some 56, (some (47, false)), .load none (.t 55)⟩,
⟨some 57, (some (47, false)), .bin .neq (.t 52) (.t 56)⟩,
⟨some 58, (some (36, true)), .pick (.t 47) (.k (.d (.bool true))) (.t 57)⟩,
⟨some 59, none, .pick (.t 36) (.t 58) (.k (.d (.bool false)))⟩] [34, 35, 36, 37, 38, 39, 40, 41, 42, 43, 44, 45, 46, 47, 48, 49, 50, 51, 52, 53, 54, 55, 56, 57, 58])
(.cond (.t 59) (.reg false [
⟨some 7, none, .mv (.k (.d (.int .i64 29)))⟩] [])
 .skip))
(.seq (.seq (.reg true [
⟨some 60, none, .mv (.t 7)⟩,
⟨some 61, none, .bin .eql (.t 60) (.k (.d (.int .i64 0)))⟩,
⟨some 62, none, .mv (.t 61)⟩,
⟨some 63, (some (62, true)), .mv (.t 6)⟩,
⟨some 64, (some (62, true)), .bin .gtr (.t 63) (.k (.d (.int .i64 0)))⟩,
⟨some 65, none, .pick (.t 62) (.t 64) (.k (.d (.bool false)))⟩,
⟨some 66, none, .mv (.t 65)⟩,
⟨some 67, (some (66, true)), .mv (.t 0)⟩,
⟨some 68, (some (66, true)), .mv (.t 6)⟩,
⟨some 69, (some (66, true)), .idxAddr 5 (.t 67) (.t 68)⟩,
⟨some 70, (some (66, true)), .fieldAddr 3 (.t 69)⟩,
⟨some 71, (some (66, true)), .load none (.t 70)⟩,
⟨some 72, (some (66, true)), .mv (.t 0)⟩,
⟨some 73, (some (66, true)), .mv (.t 6)⟩,
⟨some 74, (some (66, true)), .bin .sub (.t 73) (.k (.d (.int .i64 1)))⟩,
⟨some 75, (some (66, true)), .idxAddr 5 (.t 72) (.t 74)⟩,
⟨some 76, (some (66, true)), .fieldAddr 3 (.t 75)⟩,
⟨some 77, (some (66, true)), .load none (.t 76)⟩,
⟨some 78, (some (66, true)), .bin .lss (.t 71) (.t 77)⟩,
⟨some 79, none, .pick (.t 66) (.t 78) (.k (.d (.bool false)))⟩] [60, 61, 62, 63, 64, 65, 66, 67, 68, 69, 70, 71, 72, 73, 74, 75, 76, 77, 78])
(.cond (.t 79) (.reg false [
⟨some 7, none, .mv (.k (.d (.int .i64 11)))⟩] [])
 .skip))
(.seq (.reg false [
⟨some 8, none, .alloc ty_turnroundref02_Line [.z (.str []), .z (.str []), .z (.str []), .z (.str []), .z (.str []), .z (.str []), .z (.str []), .z (.int .i64 0), .z (.int .i64 0), .z (.int .i64 0), .z (.int .i64 0), .z (.int .i64 0), .z (.int .i64 0), .z (.int .i64 0)]⟩] [])
(.seq (.seq (.reg false [
⟨some 9, none, .mv (.k (.d (.int .i64 0)))⟩] [])
(.block 2 (.loop [0, 5, 6, 7, 8, 9] b_ref02_Requests_1)))
(.seq (.reg false [
⟨some 121, none, .mv (.t 7)⟩,
⟨some 122, none, .bin .neq (.t 121) (.k (.d (.int .i64 0)))⟩] [121])
(.cond (.t 122) (.seq (.reg false [
⟨some 123, none, .mv (.t 6)⟩,
⟨some 124, none, .mv (.t 7)⟩,
⟨some 2, none, .mv (.k (.d (.list 0 [])))⟩,
⟨some 3, none, .mv (.t 123)⟩,
⟨some 4, none, .mv (.t 124)⟩] [6, 7, 123, 124])
.ret)
 .skip)))))))))
(.reg false [
⟨some 17, none, .mv (.t 6)⟩,
⟨some 18, none, .bin .add (.t 17) (.k (.d (.int .i64 1)))⟩,
⟨some 6, none, .mv (.t 18)⟩] [17, 18])))

/-- "turnround/turnroundref02.Requests" -/
def c_ref02_Requests : CF := ⟨[.tmp 2, .tmp 3, .tmp 4],
  (.seq (.reg false [
⟨some 2, none, .mv (.k (.d (.list 0 [])))⟩,
⟨some 3, none, .mv (.k (.d (.int .i64 0)))⟩,
⟨some 4, none, .mv (.k (.d (.int .i64 0)))⟩] [2, 3, 4])
(.seq (.seq (.reg false [
⟨some 10, none, .mv (.t 0)⟩,
⟨some 11, none, .len .slc (.t 10)⟩,
⟨some 12, none, .bin .gtr (.t 11) (.k (.d (.int .i64 64)))⟩] [10, 11])
(.cond (.t 12) (.seq (.reg false [
⟨some 2, none, .mv (.k (.d (.list 0 [])))⟩,
⟨some 3, none, .mv (.k (.d (.int .i64 0)))⟩,
⟨some 4, none, .mv (.k (.d (.int .i64 5)))⟩] [])
.ret)
 .skip))
(.seq (.reg false [
⟨some 5, none, .mv (.k (.d (.list 0 [])))⟩] [])
(.seq (.seq (.reg false [
⟨some 6, none, .mv (.k (.d (.int .i64 0)))⟩] [])
(.block 0 (.loop [0, 5, 6] b_ref02_Requests_2)))
(.seq (.reg false [
⟨some 125, none, .mv (.t 5)⟩,
⟨some 2, none, .mv (.t 125)⟩,
⟨some 3, none, .mv (.k (.d (.int .i64 0)))⟩,
⟨some 4, none, .mv (.k (.d (.int .i64 0)))⟩] [5, 125])
.ret)))))⟩

def b_ref02_SameEntries_1 : C :=
  (.seq (.seq (.reg false [
⟨some 11, none, .mv (.t 5)⟩,
⟨some 12, none, .mv (.t 0)⟩,
⟨some 13, none, .len .slc (.t 12)⟩,
⟨some 14, none, .bin .lss (.t 11) (.t 13)⟩] [11, 12, 13])
(.cond (.t 14) .skip
 (.exit 0)))
(.seq (.block 1 (.seq (.reg true [
⟨some 17, none, .mv (.t 0)⟩,
⟨some 18, none, .mv (.t 5)⟩,
⟨some 19, none, .idxAddr 15 (.t 17) (.t 18)⟩,
⟨some 20, none, .load (some 15) (.t 19)⟩,
⟨some 21, none, .mv (.t 1)⟩,
⟨some 22, none, .mv (.t 5)⟩,
⟨some 23, none, .idxAddr 15 (.t 21) (.t 22)⟩,
⟨some 24, none, .load (some 15) (.t 23)⟩,
⟨some 25, none, .eqv (some [.str, .str, .str, .str, .str, .str, .int, .int, .int, .int, .int, .int, .int, .bool, .int]) true (.t 20) (.t 24)⟩] [17, 18, 19, 20, 21, 22, 23, 24])
(.cond (.t 25) (.seq (.reg false [
⟨some 4, none, .mv (.k (.d (.bool false)))⟩] [])
.ret)
 .skip)))
(.reg false [
⟨some 15, none, .mv (.t 5)⟩,
⟨some 16, none, .bin .add (.t 15) (.k (.d (.int .i64 1)))⟩,
⟨some 5, none, .mv (.t 16)⟩] [15, 16])))

/-- "turnround/turnroundref02.SameEntries" -/
def c_ref02_SameEntries : CF := ⟨[.tmp 4],
  (.seq (.reg false [
⟨some 4, none, .mv (.k (.d (.bool false)))⟩] [4])
(.seq (.seq (.reg false [
⟨some 6, none, .mv (.t 0)⟩,
⟨some 7, none, .len .slc (.t 6)⟩,
⟨some 8, none, .mv (.t 1)⟩,
⟨some 9, none, .len .slc (.t 8)⟩,
⟨some 10, none, .bin .neq (.t 7) (.t 9)⟩] [6, 7, 8, 9])
(.cond (.t 10) (.seq (.reg false [
⟨some 4, none, .mv (.k (.d (.bool false)))⟩] [])
.ret)
 .skip))
(.seq (.seq (.reg false [
⟨some 5, none, .mv (.k (.d (.int .i64 0)))⟩] [])
(.block 0 (.loop [0, 1, 5] b_ref02_SameEntries_1)))
(.seq (.reg false [
⟨some 4, none, .mv (.k (.d (.bool true)))⟩] [])
.ret))))⟩

def b_law02_ownEntries_1 : C :=
  (.seq (.reg false [
⟨some 9, none, .bin .lss (.t 8) (.t 7)⟩] [])
(.seq (.cond (.t 9) .skip
 (.exit 0))
(.seq (.block 1 (.seq (.reg false [
⟨some 10, none, .idxAddr 15 (.t 6) (.t 8)⟩,
⟨some 11, none, .load (some 15) (.t 10)⟩,
⟨some 5, none, .alloc ty_message_Entry [.z (.str []), .z (.str []), .z (.str []), .z (.str []), .z (.str []), .z (.str []), .z (.int .i64 0), .z (.int .i64 0), .z (.int .i64 0), .z (.int .i64 0), .z (.int .i64 0), .z (.int .i64 0), .z (.int .i64 0), .z (.bool false), .z (.int .i64 0)]⟩,
⟨none, none, .store 15 (.t 5) (.t 11)⟩] [10, 11])
(.reg false [
⟨some 12, none, .mv (.t 3)⟩,
⟨some 13, none, .load (some 15) (.t 5)⟩,
⟨some 14, none, .mkList 15 1 [.t 13]⟩,
⟨some 15, none, .append ⟨false, ty_turnroundref02_Entry, 15, 168⟩ (.t 12) (.t 14)⟩,
⟨some 3, none, .mv (.t 15)⟩] [5, 12, 13, 14, 15])))
(.reg false [
⟨some 16, none, .bin .add (.t 8) (.k (.d (.int .i64 1)))⟩,
⟨some 8, none, .mv (.t 16)⟩] [16]))))

/-- "turnround/turnroundlaw02.ownEntries" -/
def c_law02_ownEntries : CF := ⟨[.tmp 2],
  (.seq (.reg false [
⟨some 2, none, .ownNil ⟨false, ty_turnroundref02_Entry, 15, 168⟩⟩] [2])
(.seq (.reg false [
⟨some 3, none, .ownNil ⟨false, ty_turnroundref02_Entry, 15, 168⟩⟩] [])
(.seq (.seq (.reg false [
⟨some 6, none, .mv (.t 0)⟩,
⟨some 7, none, .len .slc (.t 6)⟩,
⟨some 8, none, .mv (.k (.d (.int .i64 0)))⟩] [0])
(.block 0 (.loop [3, 6, 7, 8] b_law02_ownEntries_1)))
(.seq (.reg false [
⟨some 17, none, .mv (.t 3)⟩,
⟨some 2, none, .mv (.t 17)⟩] [3, 17])
.ret))))⟩

def b_ref02_Short_1 : C :=
  (.seq (.seq (.reg false [
⟨some 15, none, .mv (.t 5)⟩,
⟨some 16, none, .mv (.t 0)⟩,
⟨some 17, none, .len .slc (.t 16)⟩,
⟨some 18, none, .bin .lss (.t 15) (.t 17)⟩] [15, 16, 17])
(.cond (.t 18) .skip
 (.exit 0)))
(.seq (.block 1 (.seq (.reg false [
⟨some 21, none, .mv (.t 0)⟩,
⟨some 22, none, .mv (.t 5)⟩,
⟨some 23, none, .idxAddr 13 (.t 21) (.t 22)⟩,
⟨some 24, none, .load (some 13) (.t 23)⟩,
⟨some 25, none, .call false true (.k (.fn n_ref02_Brief [] [])) [.t 24]⟩,
⟨some 26, none, .un .not (.t 25)⟩] [21, 22, 23, 24, 25])
(.cond (.t 26) (.seq (.reg false [
⟨some 4, none, .mv (.k (.d (.bool false)))⟩] [])
.ret)
 .skip)))
(.reg false [
⟨some 19, none, .mv (.t 5)⟩,
⟨some 20, none, .bin .add (.t 19) (.k (.d (.int .i64 1)))⟩,
⟨some 5, none, .mv (.t 20)⟩] [19, 20])))

/-- "turnround/turnroundref02.Short" -/
def c_ref02_Short : CF := ⟨[.tmp 4],
  (.seq (.reg false [
⟨some 4, none, .mv (.k (.d (.bool false)))⟩] [4])
(.seq (.seq (.reg false [
⟨some 6, none, .mv (.t 0)⟩,
⟨some 7, none, .len .slc (.t 6)⟩,
⟨some 8, none, .mv (.t 1)⟩,
⟨some 9, none, .bin .gtr (.t 7) (.t 8)⟩,
⟨some 10, none, .mv (.t 9)⟩,
⟨some 11, (some (10, true)), .mv (.t 0)⟩,
⟨some 12, (some (10, true)), .len .slc (.t 11)⟩,
⟨some 13, (some (10, true)), .bin .neq (.t 12) (.k (.d (.int .i64 65)))⟩,
⟨some 14, none, .pick (.t 10) (.t 13) (.k (.d (.bool false)))⟩] [1, 6, 7, 8, 9, 10, 11, 12, 13])
(.cond (.t 14) (.seq (.reg false [
⟨some 4, none, .mv (.k (.d (.bool false)))⟩] [])
.ret)
 .skip))
(.seq (.seq (.reg false [
⟨some 5, none, .mv (.k (.d (.int .i64 0)))⟩] [])
(.block 0 (.loop [0, 5] b_ref02_Short_1)))
(.seq (.reg false [
⟨some 4, none, .mv (.k (.d (.bool true)))⟩] [])
.ret))))⟩

def b_message_Changed_1 : C :=
  (.seq (.reg false [
⟨some 28, none, .bin .lss (.t 27) (.t 26)⟩] [])
(.seq (.cond (.t 28) .skip
 (.exit 0))
(.seq (.block 1 (.seq (.reg false [
⟨some 29, none, .idxAddr 13 (.t 25) (.t 27)⟩,
⟨some 30, none, .load (some 13) (.t 29)⟩,
⟨some 10, none, .alloc ty_api_Request [.z (.str []), .z (.str []), .z (.str []), .z (.str []), .z (.str []), .z (.str []), .z (.int .i64 0), .z (.int .i64 0), .z (.int .i64 0), .z (.int .i64 0), .z (.int .i64 0), .z (.int .i64 0), .z (.int .i64 0)]⟩,
⟨none, none, .store 13 (.t 10) (.t 30)⟩] [29, 30])
(.seq (.reg false [
⟨some 32, none, .load none (.t 7)⟩,
⟨some 33, none, .load none (.t 3)⟩,
⟨some 34, none, .load (some 13) (.t 10)⟩,
⟨some 35, none, .call true true (.t 32) [.t 33, .t 34]⟩,
⟨some 31, none, .mv (.t 35)⟩,
⟨some 36, none, .extract (.t 31) 0⟩,
⟨some 37, none, .extract (.t 31) 1⟩,
⟨some 11, none, .alloc ty_api_Request [.z (.str []), .z (.str []), .z (.str []), .z (.str []), .z (.str []), .z (.str []), .z (.int .i64 0), .z (.int .i64 0), .z (.int .i64 0), .z (.int .i64 0), .z (.int .i64 0), .z (.int .i64 0), .z (.int .i64 0)]⟩,
⟨none, none, .store 13 (.t 11) (.t 36)⟩,
⟨some 12, none, .mv (.t 37)⟩] [31, 32, 33, 34, 35, 36, 37])
(.seq (.reg false [
⟨some 38, none, .mv (.t 12)⟩,
⟨some 39, none, .mv (.t 38)⟩,
⟨some 40, (some (39, true)), .load (some 13) (.t 11)⟩,
⟨some 41, (some (39, true)), .load (some 13) (.t 10)⟩,
⟨some 42, (some (39, true)), .eqv (some [.str, .str, .str, .str, .str, .str, .int, .int, .int, .int, .int, .int, .int]) true (.t 40) (.t 41)⟩,
⟨some 43, none, .pick (.t 39) (.t 42) (.k (.d (.bool false)))⟩] [12, 38, 39, 40, 41, 42])
(.cond (.t 43) (.reg false [
⟨some 44, none, .mv (.t 8)⟩,
⟨some 45, none, .load (some 13) (.t 10)⟩,
⟨some 46, none, .build [.z (.str []), .z (.str []), .z (.str []), .z (.str []), .z (.str []), .z (.str []), .z (.str []), .z (.int .i64 0), .z (.int .i64 0), .z (.int .i64 0), .z (.int .i64 0), .z (.int .i64 0), .z (.int .i64 0), .z (.int .i64 0)] [(0, 1, .k (.d (.str [67]))), (1, 13, .t 45)]⟩,
⟨some 47, none, .load (some 13) (.t 11)⟩,
⟨some 48, none, .build [.z (.str []), .z (.str []), .z (.str []), .z (.str []), .z (.str []), .z (.str []), .z (.str []), .z (.int .i64 0), .z (.int .i64 0), .z (.int .i64 0), .z (.int .i64 0), .z (.int .i64 0), .z (.int .i64 0), .z (.int .i64 0)] [(0, 1, .k (.d (.str [82]))), (1, 13, .t 47)]⟩,
⟨some 49, none, .mkList 14 2 [.t 46, .t 48]⟩,
⟨some 50, none, .append ⟨false, ty_message_Line, 14, 168⟩ (.t 44) (.t 49)⟩,
⟨some 8, none, .mv (.t 50)⟩] [10, 11, 44, 45, 46, 47, 48, 49, 50])
 .skip)))))
(.reg false [
⟨some 51, none, .bin .add (.t 27) (.k (.d (.int .i64 1)))⟩,
⟨some 27, none, .mv (.t 51)⟩] [51]))))

/-- "turnround/message.Changed" -/
def c_message_Changed : CF := ⟨[.tmp 4, .tmp 5],
  (.seq (.reg false [
⟨some 2, none, .box ty_Lapi_Request (.t 0)⟩,
⟨some 3, none, .box ty_Lapi_Request (.t 1)⟩,
⟨some 4, none, .ownNil ⟨false, ty_message_Line, 14, 168⟩⟩,
⟨some 5, none, .mv (.k (.d (.int .i64 0)))⟩] [0, 1, 4, 5])
(.seq (.seq (.reg true [
⟨some 13, none, .load none (.t 2)⟩,
⟨some 14, none, .call false true (.k (.fn n_message_checkRequests [] [])) [.t 13]⟩,
⟨some 15, none, .load none (.t 3)⟩,
⟨some 16, none, .call false true (.k (.fn n_message_checkRequests [] [])) [.t 15]⟩,
⟨some 17, none, .mkList 1 2 [.t 14, .t 16]⟩,
⟨some 18, none, .call false true (.k (.fn n_message_first [] [])) [.t 17]⟩,
⟨some 6, none, .mv (.t 18)⟩] [13, 14, 15, 16, 17, 18])
(.seq (.reg false [
⟨some 19, none, .mv (.t 6)⟩,
⟨some 20, none, .bin .neq (.t 19) (.k (.d (.int .i64 0)))⟩] [19])
(.cond (.t 20) (.seq (.reg false [
⟨some 21, none, .mv (.t 6)⟩,
⟨some 4, none, .ownNil ⟨false, ty_message_Line, 14, 168⟩⟩,
⟨some 5, none, .mv (.t 21)⟩] [6, 21])
.ret)
 .skip)))
(.seq (.reg false [
⟨some 7, none, .alloc ty_func_Lapi_Request_api_Request_api_Request_bool [.z (.nilf)]⟩,
⟨none, none, .store 1 (.t 7) (.k (.fn n_message_Changed_1 [] []))⟩] [])
(.seq (.reg false [
⟨some 22, none, .load none (.t 2)⟩,
⟨some 23, none, .mkFunc n_message_Changed_2 [] [.t 7, .t 3]⟩,
⟨some 24, none, .call true false (.k (.fn n_message_filtered_api_Request_message_Line [] [])) [.t 22, .t 23]⟩,
⟨some 8, none, .mv (.t 24)⟩] [22, 23, 24])
(.seq (.seq (.reg false [
⟨some 25, none, .load none (.t 2)⟩,
⟨some 26, none, .len .slc (.t 25)⟩,
⟨some 27, none, .mv (.k (.d (.int .i64 0)))⟩] [])
(.block 0 (.loop [2, 3, 7, 8, 25, 26, 27] b_message_Changed_1)))
(.seq (.reg false [
⟨some 52, none, .mv (.t 8)⟩,
⟨some 53, none, .load none (.t 3)⟩,
⟨some 54, none, .mkFunc n_message_Changed_3 [] [.t 7, .t 2]⟩,
⟨some 55, none, .call true true (.k (.fn n_message_filtered_api_Request_message_Line [] [])) [.t 53, .t 54]⟩,
⟨some 56, none, .append ⟨false, ty_message_Line, 14, 168⟩ (.t 52) (.t 55)⟩,
⟨some 8, none, .mv (.t 56)⟩] [2, 3, 7, 52, 53, 54, 55, 56])
(.seq (.seq (.reg false [
⟨some 57, none, .mv (.t 8)⟩,
⟨some 58, none, .len .slc (.t 57)⟩,
⟨some 59, none, .bin .gtr (.t 58) (.k (.d (.int .i64 64)))⟩] [57, 58])
(.cond (.t 59) (.seq (.reg false [
⟨some 4, none, .ownNil ⟨false, ty_message_Line, 14, 168⟩⟩,
⟨some 5, none, .mv (.k (.d (.int .i64 5)))⟩] [])
.ret)
 .skip))
(.seq (.reg false [
⟨some 60, none, .mv (.t 8)⟩,
⟨some 4, none, .mv (.t 60)⟩,
⟨some 5, none, .mv (.k (.d (.int .i64 0)))⟩] [8, 60])
.ret))))))))⟩

/-- "turnround/turnroundlaw02.copied" -/
def c_law02_copied : CF := ⟨[.tmp 2],
  (.seq (.reg false [
⟨some 2, none, .ownNil ⟨false, ty_api_Request, 13, 152⟩⟩] [2])
(.seq (.reg false [
⟨some 3, none, .mkRow ⟨false, ty_api_Request, 13, 152⟩ 0 []⟩,
⟨some 4, none, .mv (.t 0)⟩,
⟨some 5, none, .append ⟨false, ty_api_Request, 13, 152⟩ (.t 3) (.t 4)⟩,
⟨some 2, none, .mv (.t 5)⟩] [0, 3, 4, 5])
.ret))⟩

def b_ref01_First_1 : C :=
  (.seq (.seq (.reg false [
⟨some 4, none, .mv (.t 3)⟩,
⟨some 5, none, .mv (.t 0)⟩,
⟨some 6, none, .len .slc (.t 5)⟩,
⟨some 7, none, .bin .lss (.t 4) (.t 6)⟩] [4, 5, 6])
(.cond (.t 7) .skip
 (.exit 0)))
(.seq (.block 1 (.seq (.reg false [
⟨some 10, none, .mv (.t 0)⟩,
⟨some 11, none, .mv (.t 3)⟩,
⟨some 12, none, .idxAddr 1 (.t 10) (.t 11)⟩,
⟨some 13, none, .load none (.t 12)⟩,
⟨some 14, none, .bin .neq (.t 13) (.k (.d (.int .i64 0)))⟩] [10, 11, 12, 13])
(.cond (.t 14) (.seq (.reg false [
⟨some 15, none, .mv (.t 0)⟩,
⟨some 16, none, .mv (.t 3)⟩,
⟨some 17, none, .idxAddr 1 (.t 15) (.t 16)⟩,
⟨some 18, none, .load none (.t 17)⟩,
⟨some 2, none, .mv (.t 18)⟩] [0, 3, 15, 16, 17, 18])
.ret)
 .skip)))
(.reg false [
⟨some 8, none, .mv (.t 3)⟩,
⟨some 9, none, .bin .add (.t 8) (.k (.d (.int .i64 1)))⟩,
⟨some 3, none, .mv (.t 9)⟩] [8, 9])))

/-- "turnround/turnroundref01.First" -/
def c_ref01_First : CF := ⟨[.tmp 2],
  (.seq (.reg false [
⟨some 2, none, .mv (.k (.d (.int .i64 0)))⟩] [2])
(.seq (.seq (.reg false [
⟨some 3, none, .mv (.k (.d (.int .i64 0)))⟩] [])
(.block 0 (.loop [0, 3] b_ref01_First_1)))
(.seq (.reg false [
⟨some 2, none, .mv (.k (.d (.int .i64 0)))⟩] [])
.ret)))⟩

def b_ref02_CheckRequests_1 : C :=
  (.seq (.seq (.reg false [
⟨some 8, none, .mv (.t 3)⟩,
⟨some 9, none, .mv (.t 0)⟩,
⟨some 10, none, .len .slc (.t 9)⟩,
⟨some 11, none, .bin .lss (.t 8) (.t 10)⟩] [8, 9, 10])
(.cond (.t 11) .skip
 (.exit 0)))
(.seq (.block 1 (.seq (.reg false [
⟨some 14, none, .mv (.t 0)⟩,
⟨some 15, none, .mv (.t 3)⟩,
⟨some 16, none, .idxAddr 13 (.t 14) (.t 15)⟩,
⟨some 17, none, .load (some 13) (.t 16)⟩,
⟨some 18, none, .call false true (.k (.fn n_ref02_CheckRequest [] [])) [.t 17]⟩,
⟨some 4, none, .mv (.t 18)⟩] [14, 15, 16, 17, 18])
(.seq (.seq (.reg true [
⟨some 19, none, .mv (.t 4)⟩,
⟨some 20, none, .bin .eql (.t 19) (.k (.d (.int .i64 0)))⟩,
⟨some 21, none, .mv (.t 20)⟩,
⟨some 22, (some (21, true)), .mv (.t 0)⟩,
⟨some 23, (some (21, true)), .mv (.t 3)⟩,
⟨some 24, (some (21, true)), .slice 13 (.t 22) none (some (.t 23)) none⟩,
⟨some 25, (some (21, true)), .mv (.t 0)⟩,
⟨some 26, (some (21, true)), .mv (.t 3)⟩,
⟨some 27, (some (21, true)), .idxAddr 13 (.t 25) (.t 26)⟩,
⟨some 28, (some (21, true)), .fieldAddr 0 (.t 27)⟩,
⟨some 29, (some (21, true)), .load none (.t 28)⟩,
⟨some 30, (some (21, true)), .call false true (.k (.fn n_ref02_At [] [])) [.t 24, .t 29]⟩,
⟨some 31, (some (21, true)), .bin .geq (.t 30) (.k (.d (.int .i64 0)))⟩,
⟨some 32, none, .pick (.t 21) (.t 31) (.k (.d (.bool false)))⟩] [19, 20, 21, 22, 23, 24, 25, 26, 27, 28, 29, 30, 31])
(.cond (.t 32) (.reg false [
⟨some 4, none, .mv (.k (.d (.int .i64 9)))⟩] [])
 .skip))
(.seq (.reg false [
⟨some 33, none, .mv (.t 4)⟩,
⟨some 34, none, .bin .neq (.t 33) (.k (.d (.int .i64 0)))⟩] [33])
(.cond (.t 34) (.seq (.reg false [
⟨some 35, none, .mv (.t 4)⟩,
⟨some 2, none, .mv (.t 35)⟩] [4, 35])
.ret)
 .skip)))))
(.reg false [
⟨some 12, none, .mv (.t 3)⟩,
⟨some 13, none, .bin .add (.t 12) (.k (.d (.int .i64 1)))⟩,
⟨some 3, none, .mv (.t 13)⟩] [12, 13])))

/-- "turnround/turnroundref02.CheckRequests" -/
def c_ref02_CheckRequests : CF := ⟨[.tmp 2],
  (.seq (.reg false [
⟨some 2, none, .mv (.k (.d (.int .i64 0)))⟩] [2])
(.seq (.seq (.reg false [
⟨some 5, none, .mv (.t 0)⟩,
⟨some 6, none, .len .slc (.t 5)⟩,
⟨some 7, none, .bin .gtr (.t 6) (.k (.d (.int .i64 64)))⟩] [5, 6])
(.cond (.t 7) (.seq (.reg false [
⟨some 2, none, .mv (.k (.d (.int .i64 5)))⟩] [])
.ret)
 .skip))
(.seq (.seq (.reg false [
⟨some 3, none, .mv (.k (.d (.int .i64 0)))⟩] [])
(.block 0 (.loop [0, 3] b_ref02_CheckRequests_1)))
(.seq (.reg false [
⟨some 2, none, .mv (.k (.d (.int .i64 0)))⟩] [])
.ret))))⟩

def b_ref02_Changed_1 : C :=
  (.seq (.seq (.reg false [
⟨some 10, none, .mv (.t 6)⟩,
⟨some 11, none, .mv (.t 0)⟩,
⟨some 12, none, .len .slc (.t 11)⟩,
⟨some 13, none, .bin .lss (.t 10) (.t 12)⟩] [10, 11, 12])
(.cond (.t 13) .skip
 (.exit 0)))
(.seq (.block 1 (.seq (.reg false [
⟨some 16, none, .mv (.t 1)⟩,
⟨some 17, none, .mv (.t 0)⟩,
⟨some 18, none, .mv (.t 6)⟩,
⟨some 19, none, .idxAddr 13 (.t 17) (.t 18)⟩,
⟨some 20, none, .load (some 13) (.t 19)⟩,
⟨some 21, none, .call false true (.k (.fn n_ref02_twin [] [])) [.t 16, .t 20]⟩,
⟨some 22, none, .bin .lss (.t 21) (.k (.d (.int .i64 0)))⟩] [16, 17, 18, 19, 20, 21])
(.cond (.t 22) (.reg false [
⟨some 23, none, .mv (.t 5)⟩,
⟨some 24, none, .mv (.t 0)⟩,
⟨some 25, none, .mv (.t 6)⟩,
⟨some 26, none, .idxAddr 13 (.t 24) (.t 25)⟩,
⟨some 27, none, .load (some 13) (.t 26)⟩,
⟨some 28, none, .build [.z (.str []), .z (.str []), .z (.str []), .z (.str []), .z (.str []), .z (.str []), .z (.str []), .z (.int .i64 0), .z (.int .i64 0), .z (.int .i64 0), .z (.int .i64 0), .z (.int .i64 0), .z (.int .i64 0), .z (.int .i64 0)] [(0, 1, .k (.d (.str [68]))), (1, 13, .t 27)]⟩,
⟨some 29, none, .mkList 14 1 [.t 28]⟩,
⟨some 30, none, .append ⟨false, ty_turnroundref02_Line, 14, 168⟩ (.t 23) (.t 29)⟩,
⟨some 5, none, .mv (.t 30)⟩] [23, 24, 25, 26, 27, 28, 29, 30])
 .skip)))
(.reg false [
⟨some 14, none, .mv (.t 6)⟩,
⟨some 15, none, .bin .add (.t 14) (.k (.d (.int .i64 1)))⟩,
⟨some 6, none, .mv (.t 15)⟩] [14, 15])))

def b_ref02_Changed_2 : C :=
  (.seq (.seq (.reg false [
⟨some 31, none, .mv (.t 7)⟩,
⟨some 32, none, .mv (.t 0)⟩,
⟨some 33, none, .len .slc (.t 32)⟩,
⟨some 34, none, .bin .lss (.t 31) (.t 33)⟩] [31, 32, 33])
(.cond (.t 34) .skip
 (.exit 2)))
(.seq (.block 3 (.seq (.reg false [
⟨some 37, none, .mv (.t 1)⟩,
⟨some 38, none, .mv (.t 0)⟩,
⟨some 39, none, .mv (.t 7)⟩,
⟨some 40, none, .idxAddr 13 (.t 38) (.t 39)⟩,
⟨some 41, none, .load (some 13) (.t 40)⟩,
⟨some 42, none, .call false true (.k (.fn n_ref02_twin [] [])) [.t 37, .t 41]⟩,
⟨some 8, none, .mv (.t 42)⟩] [37, 38, 39, 40, 41, 42])
(.seq (.reg true [
⟨some 43, none, .mv (.t 8)⟩,
⟨some 44, none, .bin .geq (.t 43) (.k (.d (.int .i64 0)))⟩,
⟨some 45, none, .mv (.t 44)⟩,
⟨some 46, (some (45, true)), .mv (.t 1)⟩,
⟨some 47, (some (45, true)), .mv (.t 8)⟩,
⟨some 48, (some (45, true)), .idxAddr 13 (.t 46) (.t 47)⟩,
⟨some 49, (some (45, true)), .load (some 13) (.t 48)⟩,
⟨some 50, (some (45, true)), .mv (.t 0)⟩,
⟨some 51, (some (45, true)), .mv (.t 7)⟩,
⟨some 52, (some (45, true)), .idxAddr 13 (.t 50) (.t 51)⟩,
⟨some 53, (some (45, true)), .load (some 13) (.t 52)⟩,
⟨some 54, (some (45, true)), .eqv (some [.str, .str, .str, .str, .str, .str, .int, .int, .int, .int, .int, .int, .int]) true (.t 49) (.t 53)⟩,
⟨some 55, none, .pick (.t 45) (.t 54) (.k (.d (.bool false)))⟩] [43, 44, 45, 46, 47, 48, 49, 50, 51, 52, 53, 54])
(.cond (.t 55) (.reg true [
⟨some 56, none, .mv (.t 5)⟩,
⟨some 57, none, .mv (.t 0)⟩,
⟨some 58, none, .mv (.t 7)⟩,
⟨some 59, none, .idxAddr 13 (.t 57) (.t 58)⟩,
⟨some 60, none, .load (some 13) (.t 59)⟩,
⟨some 61, none, .build [.z (.str []), .z (.str []), .z (.str []), .z (.str []), .z (.str []), .z (.str []), .z (.str []), .z (.int .i64 0), .z (.int .i64 0), .z (.int .i64 0), .z (.int .i64 0), .z (.int .i64 0), .z (.int .i64 0), .z (.int .i64 0)] [(0, 1, .k (.d (.str [67]))), (1, 13, .t 60)]⟩,
⟨some 62, none, .mv (.t 1)⟩,
⟨some 63, none, .mv (.t 8)⟩,
⟨some 64, none, .idxAddr 13 (.t 62) (.t 63)⟩,
⟨some 65, none, .load (some 13) (.t 64)⟩,
⟨some 66, none, .build [.z (.str []), .z (.str []), .z (.str []), .z (.str []), .z (.str []), .z (.str []), .z (.str []), .z (.int .i64 0), .z (.int .i64 0), .z (.int .i64 0), .z (.int .i64 0), .z (.int .i64 0), .z (.int .i64 0), .z (.int .i64 0)] [(0, 1, .k (.d (.str [82]))), (1, 13, .t 65)]⟩,
⟨some 67, none, .mkList 14 2 [.t 61, .t 66]⟩,
⟨some 68, none, .append ⟨false, ty_turnroundref02_Line, 14, 168⟩ (.t 56) (.t 67)⟩,
⟨some 5, none, .mv (.t 68)⟩] [8, 56, 57, 58, 59, 60, 61, 62, 63, 64, 65, 66, 67, 68])
 .skip))))
(.reg false [
⟨some 35, none, .mv (.t 7)⟩,
⟨some 36, none, .bin .add (.t 35) (.k (.d (.int .i64 1)))⟩,
⟨some 7, none, .mv (.t 36)⟩] [35, 36])))

def b_ref02_Changed_3 : C :=
  (.seq (.seq (.reg false [
⟨some 69, none, .mv (.t 9)⟩,
⟨some 70, none, .mv (.t 1)⟩,
⟨some 71, none, .len .slc (.t 70)⟩,
⟨some 72, none, .bin .lss (.t 69) (.t 71)⟩] [69, 70, 71])
(.cond (.t 72) .skip
 (.exit 4)))
(.seq (.block 5 (.seq (.reg false [
⟨some 75, none, .mv (.t 0)⟩,
⟨some 76, none, .mv (.t 1)⟩,
⟨some 77, none, .mv (.t 9)⟩,
⟨some 78, none, .idxAddr 13 (.t 76) (.t 77)⟩,
⟨some 79, none, .load (some 13) (.t 78)⟩,
⟨some 80, none, .call false true (.k (.fn n_ref02_twin [] [])) [.t 75, .t 79]⟩,
⟨some 81, none, .bin .lss (.t 80) (.k (.d (.int .i64 0)))⟩] [75, 76, 77, 78, 79, 80])
(.cond (.t 81) (.reg false [
⟨some 82, none, .mv (.t 5)⟩,
⟨some 83, none, .mv (.t 1)⟩,
⟨some 84, none, .mv (.t 9)⟩,
⟨some 85, none, .idxAddr 13 (.t 83) (.t 84)⟩,
⟨some 86, none, .load (some 13) (.t 85)⟩,
⟨some 87, none, .build [.z (.str []), .z (.str []), .z (.str []), .z (.str []), .z (.str []), .z (.str []), .z (.str []), .z (.int .i64 0), .z (.int .i64 0), .z (.int .i64 0), .z (.int .i64 0), .z (.int .i64 0), .z (.int .i64 0), .z (.int .i64 0)] [(0, 1, .k (.d (.str [78]))), (1, 13, .t 86)]⟩,
⟨some 88, none, .mkList 14 1 [.t 87]⟩,
⟨some 89, none, .append ⟨false, ty_turnroundref02_Line, 14, 168⟩ (.t 82) (.t 88)⟩,
⟨some 5, none, .mv (.t 89)⟩] [82, 83, 84, 85, 86, 87, 88, 89])
 .skip)))
(.reg false [
⟨some 73, none, .mv (.t 9)⟩,
⟨some 74, none, .bin .add (.t 73) (.k (.d (.int .i64 1)))⟩,
⟨some 9, none, .mv (.t 74)⟩] [73, 74])))

/-- "turnround/turnroundref02.Changed" -/
def c_ref02_Changed : CF := ⟨[.tmp 4],
  (.seq (.reg false [
⟨some 4, none, .ownNil ⟨false, ty_turnroundref02_Line, 14, 168⟩⟩] [4])
(.seq (.reg false [
⟨some 5, none, .ownNil ⟨false, ty_turnroundref02_Line, 14, 168⟩⟩] [])
(.seq (.seq (.reg false [
⟨some 6, none, .mv (.k (.d (.int .i64 0)))⟩] [])
(.block 0 (.loop [0, 1, 5, 6] b_ref02_Changed_1)))
(.seq (.seq (.reg false [
⟨some 7, none, .mv (.k (.d (.int .i64 0)))⟩] [])
(.block 2 (.loop [0, 1, 5, 7] b_ref02_Changed_2)))
(.seq (.seq (.reg false [
⟨some 9, none, .mv (.k (.d (.int .i64 0)))⟩] [])
(.block 4 (.loop [0, 1, 5, 9] b_ref02_Changed_3)))
(.seq (.reg false [
⟨some 90, none, .mv (.t 5)⟩,
⟨some 4, none, .mv (.t 90)⟩] [5, 90])
.ret))))))⟩

def b_ref02_SameLines_1 : C :=
  (.seq (.seq (.reg false [
⟨some 11, none, .mv (.t 5)⟩,
⟨some 12, none, .mv (.t 0)⟩,
⟨some 13, none, .len .slc (.t 12)⟩,
⟨some 14, none, .bin .lss (.t 11) (.t 13)⟩] [11, 12, 13])
(.cond (.t 14) .skip
 (.exit 0)))
(.seq (.block 1 (.seq (.reg true [
⟨some 17, none, .mv (.t 0)⟩,
⟨some 18, none, .mv (.t 5)⟩,
⟨some 19, none, .idxAddr 14 (.t 17) (.t 18)⟩,
⟨some 20, none, .load (some 14) (.t 19)⟩,
⟨some 21, none, .mv (.t 1)⟩,
⟨some 22, none, .mv (.t 5)⟩,
⟨some 23, none, .idxAddr 14 (.t 21) (.t 22)⟩,
⟨some 24, none, .load (some 14) (.t 23)⟩,
⟨some 25, none, .eqv (some [.str, .str, .str, .str, .str, .str, .str, .int, .int, .int, .int, .int, .int, .int]) true (.t 20) (.t 24)⟩] [17, 18, 19, 20, 21, 22, 23, 24])
(.cond (.t 25) (.seq (.reg false [
⟨some 4, none, .mv (.k (.d (.bool false)))⟩] [])
.ret)
 .skip)))
(.reg false [
⟨some 15, none, .mv (.t 5)⟩,
⟨some 16, none, .bin .add (.t 15) (.k (.d (.int .i64 1)))⟩,
⟨some 5, none, .mv (.t 16)⟩] [15, 16])))

/-- "turnround/turnroundref02.SameLines" -/
def c_ref02_SameLines : CF := ⟨[.tmp 4],
  (.seq (.reg false [
⟨some 4, none, .mv (.k (.d (.bool false)))⟩] [4])
(.seq (.seq (.reg false [
⟨some 6, none, .mv (.t 0)⟩,
⟨some 7, none, .len .slc (.t 6)⟩,
⟨some 8, none, .mv (.t 1)⟩,
⟨some 9, none, .len .slc (.t 8)⟩,
⟨some 10, none, .bin .neq (.t 7) (.t 9)⟩] [6, 7, 8, 9])
(.cond (.t 10) (.seq (.reg false [
⟨some 4, none, .mv (.k (.d (.bool false)))⟩] [])
.ret)
 .skip))
(.seq (.seq (.reg false [
⟨some 5, none, .mv (.k (.d (.int .i64 0)))⟩] [])
(.block 0 (.loop [0, 1, 5] b_ref02_SameLines_1)))
(.seq (.reg false [
⟨some 4, none, .mv (.k (.d (.bool true)))⟩] [])
.ret))))⟩

def b_law02_ownLines_1 : C :=
  (.seq (.reg false [
⟨some 9, none, .bin .lss (.t 8) (.t 7)⟩] [])
(.seq (.cond (.t 9) .skip
 (.exit 0))
(.seq (.block 1 (.seq (.reg false [
⟨some 10, none, .idxAddr 14 (.t 6) (.t 8)⟩,
⟨some 11, none, .load (some 14) (.t 10)⟩,
⟨some 5, none, .alloc ty_message_Line [.z (.str []), .z (.str []), .z (.str []), .z (.str []), .z (.str []), .z (.str []), .z (.str []), .z (.int .i64 0), .z (.int .i64 0), .z (.int .i64 0), .z (.int .i64 0), .z (.int .i64 0), .z (.int .i64 0), .z (.int .i64 0)]⟩,
⟨none, none, .store 14 (.t 5) (.t 11)⟩] [10, 11])
(.reg false [
⟨some 12, none, .mv (.t 3)⟩,
⟨some 13, none, .load (some 14) (.t 5)⟩,
⟨some 14, none, .mkList 14 1 [.t 13]⟩,
⟨some 15, none, .append ⟨false, ty_turnroundref02_Line, 14, 168⟩ (.t 12) (.t 14)⟩,
⟨some 3, none, .mv (.t 15)⟩] [5, 12, 13, 14, 15])))
(.reg false [
⟨some 16, none, .bin .add (.t 8) (.k (.d (.int .i64 1)))⟩,
⟨some 8, none, .mv (.t 16)⟩] [16]))))

/-- "turnround/turnroundlaw02.ownLines" -/
def c_law02_ownLines : CF := ⟨[.tmp 2],
  (.seq (.reg false [
⟨some 2, none, .ownNil ⟨false, ty_turnroundref02_Line, 14, 168⟩⟩] [2])
(.seq (.reg false [
⟨some 3, none, .ownNil ⟨false, ty_turnroundref02_Line, 14, 168⟩⟩] [])
(.seq (.seq (.reg false [
⟨some 6, none, .mv (.t 0)⟩,
⟨some 7, none, .len .slc (.t 6)⟩,
⟨some 8, none, .mv (.k (.d (.int .i64 0)))⟩] [0])
(.block 0 (.loop [3, 6, 7, 8] b_law02_ownLines_1)))
(.seq (.reg false [
⟨some 17, none, .mv (.t 3)⟩,
⟨some 2, none, .mv (.t 17)⟩] [3, 17])
.ret))))⟩

def b_message_Results_1 : C :=
  (.seq (.reg false [
⟨some 24, none, .bin .lss (.t 23) (.t 22)⟩] [])
(.seq (.cond (.t 24) .skip
 (.exit 0))
(.seq (.block 1 (.seq (.reg false [
⟨some 25, none, .idxAddr 14 (.t 21) (.t 23)⟩,
⟨some 26, none, .load (some 14) (.t 25)⟩,
⟨some 7, none, .alloc ty_message_Line [.z (.str []), .z (.str []), .z (.str []), .z (.str []), .z (.str []), .z (.str []), .z (.str []), .z (.int .i64 0), .z (.int .i64 0), .z (.int .i64 0), .z (.int .i64 0), .z (.int .i64 0), .z (.int .i64 0), .z (.int .i64 0)]⟩,
⟨none, none, .store 14 (.t 7) (.t 26)⟩] [25, 26])
(.seq (.seq (.reg false [
⟨some 27, none, .mv (.t 5)⟩,
⟨some 28, none, .fieldAddr 1 (.t 7)⟩,
⟨some 29, none, .fieldAddr 0 (.t 28)⟩,
⟨some 30, none, .load none (.t 29)⟩,
⟨some 31, none, .lookup .str (.bool false) false (.t 27) (.t 30)⟩] [27, 28, 29, 30])
(.cond (.t 31) (.seq (.reg false [
⟨some 2, none, .mv (.k (.d (.list 0 [])))⟩,
⟨some 3, none, .mv (.k (.d (.int .i64 9)))⟩] [])
.ret)
 .skip))
(.reg false [
⟨some 32, none, .mv (.t 5)⟩,
⟨some 33, none, .fieldAddr 1 (.t 7)⟩,
⟨some 34, none, .fieldAddr 0 (.t 33)⟩,
⟨some 35, none, .load none (.t 34)⟩,
⟨none, none, .mapSet .str (.t 32) (.t 35) (.k (.d (.bool true)))⟩] [7, 32, 33, 34, 35]))))
(.reg false [
⟨some 36, none, .bin .add (.t 23) (.k (.d (.int .i64 1)))⟩,
⟨some 23, none, .mv (.t 36)⟩] [36]))))

/-- "turnround/message.Results" -/
def c_message_Results : CF := ⟨[.tmp 2, .tmp 3],
  (.seq (.reg false [
⟨some 1, none, .box ty_message_Message (.t 0)⟩,
⟨some 2, none, .mv (.k (.d (.list 0 [])))⟩,
⟨some 3, none, .mv (.k (.d (.int .i64 0)))⟩] [0, 2, 3])
(.seq (.seq (.reg true [
⟨some 8, none, .load (some 5) (.t 1)⟩,
⟨some 9, none, .call false true (.k (.fn n_message_CheckMessage [] [])) [.t 8]⟩,
⟨some 10, none, .fieldAddr 0 (.t 1)⟩,
⟨some 11, none, .load none (.t 10)⟩,
⟨some 12, none, .bin .neq (.t 11) (.k (.d (.str [65, 78, 83])))⟩,
⟨some 13, none, .call false true (.k (.fn n_message_when [] [])) [.t 12, .k (.d (.int .i64 13))]⟩,
⟨some 14, none, .mkList 1 2 [.t 9, .t 13]⟩,
⟨some 15, none, .call false true (.k (.fn n_message_first [] [])) [.t 14]⟩,
⟨some 4, none, .mv (.t 15)⟩] [8, 9, 10, 11, 12, 13, 14, 15])
(.seq (.reg false [
⟨some 16, none, .mv (.t 4)⟩,
⟨some 17, none, .bin .neq (.t 16) (.k (.d (.int .i64 0)))⟩] [16])
(.cond (.t 17) (.seq (.reg false [
⟨some 18, none, .mv (.t 4)⟩,
⟨some 2, none, .mv (.k (.d (.list 0 [])))⟩,
⟨some 3, none, .mv (.t 18)⟩] [4, 18])
.ret)
 .skip)))
(.seq (.reg false [
⟨some 19, none, .mkMap⟩,
⟨some 5, none, .mv (.t 19)⟩] [19])
(.seq (.seq (.reg false [
⟨some 20, none, .fieldAddr 4 (.t 1)⟩,
⟨some 21, none, .load none (.t 20)⟩,
⟨some 22, none, .len .slc (.t 21)⟩,
⟨some 23, none, .mv (.k (.d (.int .i64 0)))⟩] [20])
(.block 0 (.loop [1, 5, 21, 22, 23] b_message_Results_1)))
(.seq (.reg false [
⟨some 37, none, .fieldAddr 4 (.t 1)⟩,
⟨some 38, none, .load none (.t 37)⟩,
⟨some 39, none, .call true true (.k (.fn n_message_filtered_message_Line_message_Result [] [])) [.t 38, .k (.fn n_message_Results_1 [] [])]⟩,
⟨some 2, none, .mv (.t 39)⟩,
⟨some 3, none, .mv (.k (.d (.int .i64 0)))⟩] [1, 37, 38, 39])
.ret)))))⟩

def b_ref02_Results_1 : C :=
  (.seq (.seq (.reg false [
⟨some 34, none, .mv (.t 8)⟩,
⟨some 35, none, .mv (.t 6)⟩,
⟨some 36, none, .bin .lss (.t 34) (.t 35)⟩] [34, 35])
(.cond (.t 36) .skip
 (.exit 2)))
(.seq (.block 3 (.seq (.reg true [
⟨some 39, none, .fieldAddr 4 (.t 1)⟩,
⟨some 40, none, .load none (.t 39)⟩,
⟨some 41, none, .mv (.t 8)⟩,
⟨some 42, none, .idxAddr 14 (.t 40) (.t 41)⟩,
⟨some 43, none, .fieldAddr 1 (.t 42)⟩,
⟨some 44, none, .fieldAddr 0 (.t 43)⟩,
⟨some 45, none, .load none (.t 44)⟩,
⟨some 46, none, .fieldAddr 1 (.t 7)⟩,
⟨some 47, none, .fieldAddr 0 (.t 46)⟩,
⟨some 48, none, .load none (.t 47)⟩,
⟨some 49, none, .bin .eql (.t 45) (.t 48)⟩] [39, 40, 41, 42, 43, 44, 45, 46, 47, 48])
(.cond (.t 49) (.seq (.reg false [
⟨some 2, none, .ownNil ⟨false, ty_turnroundref02_Result, 3, 32⟩⟩,
⟨some 3, none, .mv (.k (.d (.int .i64 9)))⟩] [])
.ret)
 .skip)))
(.reg false [
⟨some 37, none, .mv (.t 8)⟩,
⟨some 38, none, .bin .add (.t 37) (.k (.d (.int .i64 1)))⟩,
⟨some 8, none, .mv (.t 38)⟩] [37, 38])))

def b_ref02_Results_2 : C :=
  (.seq (.seq (.reg false [
⟨some 22, none, .mv (.t 6)⟩,
⟨some 23, none, .fieldAddr 4 (.t 1)⟩,
⟨some 24, none, .load none (.t 23)⟩,
⟨some 25, none, .len .slc (.t 24)⟩,
⟨some 26, none, .bin .lss (.t 22) (.t 25)⟩] [22, 23, 24, 25])
(.cond (.t 26) .skip
 (.exit 0)))
(.seq (.block 1 (.seq (.reg false [
⟨some 29, none, .fieldAddr 4 (.t 1)⟩,
⟨some 30, none, .load none (.t 29)⟩,
⟨some 31, none, .mv (.t 6)⟩,
⟨some 32, none, .idxAddr 14 (.t 30) (.t 31)⟩,
⟨some 33, none, .load (some 14) (.t 32)⟩,
⟨some 7, none, .alloc ty_turnroundref02_Line [.z (.str []), .z (.str []), .z (.str []), .z (.str []), .z (.str []), .z (.str []), .z (.str []), .z (.int .i64 0), .z (.int .i64 0), .z (.int .i64 0), .z (.int .i64 0), .z (.int .i64 0), .z (.int .i64 0), .z (.int .i64 0)]⟩,
⟨none, none, .store 14 (.t 7) (.t 33)⟩] [29, 30, 31, 32, 33])
(.seq (.seq (.reg false [
⟨some 8, none, .mv (.k (.d (.int .i64 0)))⟩] [])
(.block 2 (.loop [1, 5, 6, 7, 8] b_ref02_Results_1)))
(.seq (.reg false [
⟨some 50, none, .fieldAddr 1 (.t 7)⟩,
⟨some 51, none, .fieldAddr 0 (.t 50)⟩,
⟨some 52, none, .load none (.t 51)⟩,
⟨some 53, none, .build [.z (.str []), .z (.bool false), .z (.int .i64 0)] [(0, 1, .t 52)]⟩,
⟨some 9, none, .alloc ty_turnroundref02_Result [.z (.str []), .z (.bool false), .z (.int .i64 0)]⟩,
⟨none, none, .store 3 (.t 9) (.t 53)⟩] [50, 51, 52, 53])
(.seq (.seq (.reg false [
⟨some 54, none, .fieldAddr 0 (.t 7)⟩,
⟨some 55, none, .load none (.t 54)⟩,
⟨some 56, none, .bin .eql (.t 55) (.k (.d (.str [75])))⟩,
⟨some 57, none, .mv (.t 56)⟩,
⟨some 58, (some (57, false)), .fieldAddr 0 (.t 7)⟩,
⟨some 59, (some (57, false)), .load none (.t 58)⟩,
⟨some 60, (some (57, false)), .bin .eql (.t 59) (.k (.d (.str [79])))⟩,
⟨some 61, none, .pick (.t 57) (.k (.d (.bool true))) (.t 60)⟩] [54, 55, 56, 57, 58, 59, 60])
(.cond (.t 61) (.seq (.reg false [
⟨some 62, none, .fieldAddr 1 (.t 9)⟩,
⟨none, none, .store 1 (.t 62) (.k (.d (.bool true)))⟩] [62])
(.reg false [
⟨some 63, none, .fieldAddr 1 (.t 7)⟩,
⟨some 64, none, .fieldAddr 9 (.t 63)⟩,
⟨some 65, none, .load none (.t 64)⟩,
⟨some 66, none, .fieldAddr 2 (.t 9)⟩,
⟨none, none, .store 1 (.t 66) (.t 65)⟩] [7, 63, 64, 65, 66]))
 .skip))
(.reg false [
⟨some 67, none, .mv (.t 5)⟩,
⟨some 68, none, .load (some 3) (.t 9)⟩,
⟨some 69, none, .mkList 3 1 [.t 68]⟩,
⟨some 70, none, .append ⟨false, ty_turnroundref02_Result, 3, 32⟩ (.t 67) (.t 69)⟩,
⟨some 5, none, .mv (.t 70)⟩] [9, 67, 68, 69, 70]))))))
(.reg false [
⟨some 27, none, .mv (.t 6)⟩,
⟨some 28, none, .bin .add (.t 27) (.k (.d (.int .i64 1)))⟩,
⟨some 6, none, .mv (.t 28)⟩] [27, 28])))

/-- "turnround/turnroundref02.Results" -/
def c_ref02_Results : CF := ⟨[.tmp 2, .tmp 3],
  (.seq (.reg false [
⟨some 1, none, .box ty_turnroundref02_Message (.t 0)⟩,
⟨some 2, none, .ownNil ⟨false, ty_turnroundref02_Result, 3, 32⟩⟩,
⟨some 3, none, .mv (.k (.d (.int .i64 0)))⟩] [0, 2, 3])
(.seq (.reg false [
⟨some 10, none, .load (some 5) (.t 1)⟩,
⟨some 11, none, .call false true (.k (.fn n_ref02_CheckMessage [] [])) [.t 10]⟩,
⟨some 4, none, .mv (.t 11)⟩] [10, 11])
(.seq (.seq (.reg false [
⟨some 12, none, .mv (.t 4)⟩,
⟨some 13, none, .bin .eql (.t 12) (.k (.d (.int .i64 0)))⟩,
⟨some 14, none, .mv (.t 13)⟩,
⟨some 15, (some (14, true)), .fieldAddr 0 (.t 1)⟩,
⟨some 16, (some (14, true)), .load none (.t 15)⟩,
⟨some 17, (some (14, true)), .bin .neq (.t 16) (.k (.d (.str [65, 78, 83])))⟩,
⟨some 18, none, .pick (.t 14) (.t 17) (.k (.d (.bool false)))⟩] [12, 13, 14, 15, 16, 17])
(.cond (.t 18) (.reg false [
⟨some 4, none, .mv (.k (.d (.int .i64 13)))⟩] [])
 .skip))
(.seq (.seq (.reg false [
⟨some 19, none, .mv (.t 4)⟩,
⟨some 20, none, .bin .neq (.t 19) (.k (.d (.int .i64 0)))⟩] [19])
(.cond (.t 20) (.seq (.reg false [
⟨some 21, none, .mv (.t 4)⟩,
⟨some 2, none, .ownNil ⟨false, ty_turnroundref02_Result, 3, 32⟩⟩,
⟨some 3, none, .mv (.t 21)⟩] [4, 21])
.ret)
 .skip))
(.seq (.reg false [
⟨some 5, none, .ownNil ⟨false, ty_turnroundref02_Result, 3, 32⟩⟩] [])
(.seq (.seq (.reg false [
⟨some 6, none, .mv (.k (.d (.int .i64 0)))⟩] [])
(.block 0 (.loop [1, 5, 6] b_ref02_Results_2)))
(.seq (.reg false [
⟨some 71, none, .mv (.t 5)⟩,
⟨some 2, none, .mv (.t 71)⟩,
⟨some 3, none, .mv (.k (.d (.int .i64 0)))⟩] [5, 71])
.ret)))))))⟩

def b_ref02_SameResults_1 : C :=
  (.seq (.seq (.reg false [
⟨some 11, none, .mv (.t 5)⟩,
⟨some 12, none, .mv (.t 0)⟩,
⟨some 13, none, .len .slc (.t 12)⟩,
⟨some 14, none, .bin .lss (.t 11) (.t 13)⟩] [11, 12, 13])
(.cond (.t 14) .skip
 (.exit 0)))
(.seq (.block 1 (.seq (.reg true [
⟨some 17, none, .mv (.t 0)⟩,
⟨some 18, none, .mv (.t 5)⟩,
⟨some 19, none, .idxAddr 3 (.t 17) (.t 18)⟩,
⟨some 20, none, .load (some 3) (.t 19)⟩,
⟨some 21, none, .mv (.t 1)⟩,
⟨some 22, none, .mv (.t 5)⟩,
⟨some 23, none, .idxAddr 3 (.t 21) (.t 22)⟩,
⟨some 24, none, .load (some 3) (.t 23)⟩,
⟨some 25, none, .eqv (some [.str, .bool, .int]) true (.t 20) (.t 24)⟩] [17, 18, 19, 20, 21, 22, 23, 24])
(.cond (.t 25) (.seq (.reg false [
⟨some 4, none, .mv (.k (.d (.bool false)))⟩] [])
.ret)
 .skip)))
(.reg false [
⟨some 15, none, .mv (.t 5)⟩,
⟨some 16, none, .bin .add (.t 15) (.k (.d (.int .i64 1)))⟩,
⟨some 5, none, .mv (.t 16)⟩] [15, 16])))

/-- "turnround/turnroundref02.SameResults" -/
def c_ref02_SameResults : CF := ⟨[.tmp 4],
  (.seq (.reg false [
⟨some 4, none, .mv (.k (.d (.bool false)))⟩] [4])
(.seq (.seq (.reg false [
⟨some 6, none, .mv (.t 0)⟩,
⟨some 7, none, .len .slc (.t 6)⟩,
⟨some 8, none, .mv (.t 1)⟩,
⟨some 9, none, .len .slc (.t 8)⟩,
⟨some 10, none, .bin .neq (.t 7) (.t 9)⟩] [6, 7, 8, 9])
(.cond (.t 10) (.seq (.reg false [
⟨some 4, none, .mv (.k (.d (.bool false)))⟩] [])
.ret)
 .skip))
(.seq (.seq (.reg false [
⟨some 5, none, .mv (.k (.d (.int .i64 0)))⟩] [])
(.block 0 (.loop [0, 1, 5] b_ref02_SameResults_1)))
(.seq (.reg false [
⟨some 4, none, .mv (.k (.d (.bool true)))⟩] [])
.ret))))⟩

def b_law02_ownResults_1 : C :=
  (.seq (.reg false [
⟨some 9, none, .bin .lss (.t 8) (.t 7)⟩] [])
(.seq (.cond (.t 9) .skip
 (.exit 0))
(.seq (.block 1 (.seq (.reg false [
⟨some 10, none, .idxAddr 3 (.t 6) (.t 8)⟩,
⟨some 11, none, .load (some 3) (.t 10)⟩,
⟨some 5, none, .alloc ty_message_Result [.z (.str []), .z (.bool false), .z (.int .i64 0)]⟩,
⟨none, none, .store 3 (.t 5) (.t 11)⟩] [10, 11])
(.reg false [
⟨some 12, none, .mv (.t 3)⟩,
⟨some 13, none, .load (some 3) (.t 5)⟩,
⟨some 14, none, .mkList 3 1 [.t 13]⟩,
⟨some 15, none, .append ⟨false, ty_turnroundref02_Result, 3, 32⟩ (.t 12) (.t 14)⟩,
⟨some 3, none, .mv (.t 15)⟩] [5, 12, 13, 14, 15])))
(.reg false [
⟨some 16, none, .bin .add (.t 8) (.k (.d (.int .i64 1)))⟩,
⟨some 8, none, .mv (.t 16)⟩] [16]))))

/-- "turnround/turnroundlaw02.ownResults" -/
def c_law02_ownResults : CF := ⟨[.tmp 2],
  (.seq (.reg false [
⟨some 2, none, .ownNil ⟨false, ty_turnroundref02_Result, 3, 32⟩⟩] [2])
(.seq (.reg false [
⟨some 3, none, .ownNil ⟨false, ty_turnroundref02_Result, 3, 32⟩⟩] [])
(.seq (.seq (.reg false [
⟨some 6, none, .mv (.t 0)⟩,
⟨some 7, none, .len .slc (.t 6)⟩,
⟨some 8, none, .mv (.k (.d (.int .i64 0)))⟩] [0])
(.block 0 (.loop [3, 6, 7, 8] b_law02_ownResults_1)))
(.seq (.reg false [
⟨some 17, none, .mv (.t 3)⟩,
⟨some 2, none, .mv (.t 17)⟩] [3, 17])
.ret))))⟩

/-- "turnround/message.PrintLine" -/
def c_message_PrintLine : CF := ⟨[.tmp 2, .tmp 3],
  (.seq (.reg false [
⟨some 1, none, .box ty_message_Line (.t 0)⟩,
⟨some 2, none, .mv (.k (.d (.str [])))⟩,
⟨some 3, none, .mv (.k (.d (.int .i64 0)))⟩] [0, 2, 3])
(.seq (.seq (.reg false [
⟨some 5, none, .load (some 14) (.t 1)⟩,
⟨some 6, none, .call false true (.k (.fn n_message_CheckLine [] [])) [.t 5]⟩,
⟨some 4, none, .mv (.t 6)⟩] [5, 6])
(.seq (.reg false [
⟨some 7, none, .mv (.t 4)⟩,
⟨some 8, none, .bin .neq (.t 7) (.k (.d (.int .i64 0)))⟩] [7])
(.cond (.t 8) (.seq (.reg false [
⟨some 9, none, .mv (.t 4)⟩,
⟨some 2, none, .mv (.k (.d (.str [])))⟩,
⟨some 3, none, .mv (.t 9)⟩] [4, 9])
.ret)
 .skip)))
(.seq (.reg false [
⟨some 10, none, .load (some 14) (.t 1)⟩,
⟨some 11, none, .call false true (.k (.fn n_message_printLine [] [])) [.t 10]⟩,
⟨some 2, none, .mv (.t 11)⟩,
⟨some 3, none, .mv (.k (.d (.int .i64 0)))⟩] [1, 10, 11])
.ret)))⟩

def b_message_ParseLine_1 : C :=
  (.seq (.reg false [
⟨some 22, none, .bin .lss (.t 21) (.k (.d (.int .i64 14)))⟩] [])
(.seq (.cond (.t 22) .skip
 (.exit 0))
(.seq (.block 1 (.seq (.reg false [
⟨some 23, none, .mv (.t 21)⟩,
⟨some 8, none, .mv (.t 23)⟩] [23])
(.seq (.reg false [
⟨some 24, none, .mv (.t 8)⟩,
⟨some 25, none, .idxAddrA 14 2 (.t 7) (.t 24)⟩,
⟨some 26, none, .fieldAddr 1 (.t 25)⟩,
⟨some 27, none, .load none (.t 26)⟩,
⟨some 9, none, .mv (.t 27)⟩] [24, 25, 26, 27])
(.seq (.reg false [
⟨some 28, none, .mv (.t 9)⟩,
⟨some 29, none, .mv (.t 5)⟩,
⟨some 30, none, .mv (.t 8)⟩,
⟨some 31, none, .idxAddr 1 (.t 29) (.t 30)⟩,
⟨some 32, none, .load none (.t 31)⟩,
⟨some 33, none, .call true true (.t 28) [.t 6, .t 32]⟩,
⟨some 34, none, .un .not (.t 33)⟩] [9, 28, 29, 30, 31, 32, 33])
(.cond (.t 34) (.seq (.reg false [
⟨some 35, none, .build [.z (.str []), .z (.str []), .z (.str []), .z (.str []), .z (.str []), .z (.str []), .z (.str []), .z (.int .i64 0), .z (.int .i64 0), .z (.int .i64 0), .z (.int .i64 0), .z (.int .i64 0), .z (.int .i64 0), .z (.int .i64 0)] []⟩,
⟨some 36, none, .mv (.t 8)⟩,
⟨none, none, .store 14 (.t 2) (.t 35)⟩,
⟨some 3, none, .mv (.t 36)⟩,
⟨some 4, none, .mv (.k (.d (.int .i64 25)))⟩] [8, 35, 36])
.ret)
 .skip)))))
(.reg false [
⟨some 37, none, .bin .add (.t 21) (.k (.d (.int .i64 1)))⟩,
⟨some 21, none, .mv (.t 37)⟩] [37]))))

/-- "turnround/message.ParseLine" -/
def c_message_ParseLine : CF := ⟨[.cell 2 (some 14), .tmp 3, .tmp 4],
  (.seq (.reg false [
⟨some 2, none, .alloc ty_message_Line [.z (.str []), .z (.str []), .z (.str []), .z (.str []), .z (.str []), .z (.str []), .z (.str []), .z (.int .i64 0), .z (.int .i64 0), .z (.int .i64 0), .z (.int .i64 0), .z (.int .i64 0), .z (.int .i64 0), .z (.int .i64 0)]⟩,
⟨some 3, none, .mv (.k (.d (.int .i64 0)))⟩,
⟨some 4, none, .mv (.k (.d (.int .i64 0)))⟩] [3, 4])
(.seq (.reg false [
⟨some 11, none, .mv (.t 0)⟩,
⟨some 12, none, .call false true (.k (.fn n_strings_Split [] [])) [.t 11, .k (.d (.str [32]))]⟩,
⟨some 5, none, .mv (.t 12)⟩] [0, 11, 12])
(.seq (.seq (.reg false [
⟨some 13, none, .mv (.t 5)⟩,
⟨some 14, none, .len .slc (.t 13)⟩,
⟨some 15, none, .bin .neq (.t 14) (.k (.d (.int .i64 14)))⟩] [13, 14])
(.cond (.t 15) (.seq (.reg false [
⟨some 16, none, .build [.z (.str []), .z (.str []), .z (.str []), .z (.str []), .z (.str []), .z (.str []), .z (.str []), .z (.int .i64 0), .z (.int .i64 0), .z (.int .i64 0), .z (.int .i64 0), .z (.int .i64 0), .z (.int .i64 0), .z (.int .i64 0)] []⟩,
⟨some 17, none, .mv (.t 5)⟩,
⟨some 18, none, .len .slc (.t 17)⟩,
⟨some 19, none, .minmax false [.t 18, .k (.d (.int .i64 13))]⟩,
⟨none, none, .store 14 (.t 2) (.t 16)⟩,
⟨some 3, none, .mv (.t 19)⟩,
⟨some 4, none, .mv (.k (.d (.int .i64 25)))⟩] [5, 16, 17, 18, 19])
.ret)
 .skip))
(.seq (.reg false [
⟨some 6, none, .alloc ty_message_Line [.z (.str []), .z (.str []), .z (.str []), .z (.str []), .z (.str []), .z (.str []), .z (.str []), .z (.int .i64 0), .z (.int .i64 0), .z (.int .i64 0), .z (.int .i64 0), .z (.int .i64 0), .z (.int .i64 0), .z (.int .i64 0)]⟩] [])
(.seq (.reg false [
⟨some 20, none, .call false false (.k (.fn n_message_fields [] [])) []⟩,
⟨some 7, none, .alloc ty_14_message_field [.z (.nilf), .z (.nilf), .z (.nilf), .z (.nilf), .z (.nilf), .z (.nilf), .z (.nilf), .z (.nilf), .z (.nilf), .z (.nilf), .z (.nilf), .z (.nilf), .z (.nilf), .z (.nilf), .z (.nilf), .z (.nilf), .z (.nilf), .z (.nilf), .z (.nilf), .z (.nilf), .z (.nilf), .z (.nilf), .z (.nilf), .z (.nilf), .z (.nilf), .z (.nilf), .z (.nilf), .z (.nilf)]⟩,
⟨none, none, .store 28 (.t 7) (.t 20)⟩] [20])
(.seq (.seq (.reg false [
⟨some 21, none, .mv (.k (.d (.int .i64 0)))⟩] [])
(.block 0 (.loop [2, 5, 6, 7, 21] b_message_ParseLine_1)))
(.seq (.seq (.reg false [
⟨some 38, none, .load (some 14) (.t 6)⟩,
⟨some 39, none, .call false true (.k (.fn n_message_CheckLine [] [])) [.t 38]⟩,
⟨some 10, none, .mv (.t 39)⟩] [38, 39])
(.seq (.reg false [
⟨some 40, none, .mv (.t 10)⟩,
⟨some 41, none, .bin .neq (.t 40) (.k (.d (.int .i64 0)))⟩] [40])
(.cond (.t 41) (.seq (.reg false [
⟨some 42, none, .build [.z (.str []), .z (.str []), .z (.str []), .z (.str []), .z (.str []), .z (.str []), .z (.str []), .z (.int .i64 0), .z (.int .i64 0), .z (.int .i64 0), .z (.int .i64 0), .z (.int .i64 0), .z (.int .i64 0), .z (.int .i64 0)] []⟩,
⟨some 43, none, .mv (.t 10)⟩,
⟨none, none, .store 14 (.t 2) (.t 42)⟩,
⟨some 3, none, .mv (.k (.d (.int .i64 14)))⟩,
⟨some 4, none, .mv (.t 43)⟩] [10, 42, 43])
.ret)
 .skip)))
(.seq (.reg false [
⟨some 44, none, .load (some 14) (.t 6)⟩,
⟨none, none, .store 14 (.t 2) (.t 44)⟩,
⟨some 3, none, .mv (.k (.d (.int .i64 0)))⟩,
⟨some 4, none, .mv (.k (.d (.int .i64 0)))⟩] [6, 44])
.ret))))))))⟩

/-- "turnround/message.ParseMinute" -/
def c_message_ParseMinute : CF := ⟨[.tmp 2, .tmp 3],
  (.seq (.reg false [
⟨some 2, none, .mv (.k (.d (.int .i64 0)))⟩,
⟨some 3, none, .mv (.k (.d (.int .i64 0)))⟩] [2, 3])
(.seq (.reg false [
⟨some 7, none, .mv (.t 0)⟩,
⟨some 8, none, .call false true (.k (.fn n_message_number [] [])) [.t 7, .k (.d (.int .i64 4))]⟩,
⟨some 6, none, .mv (.t 8)⟩,
⟨some 9, none, .extract (.t 6) 0⟩,
⟨some 10, none, .extract (.t 6) 1⟩,
⟨some 4, none, .mv (.t 9)⟩,
⟨some 5, none, .mv (.t 10)⟩] [0, 6, 7, 8, 9, 10])
(.seq (.seq (.reg false [
⟨some 11, none, .mv (.t 5)⟩,
⟨some 12, none, .un .not (.t 11)⟩,
⟨some 13, none, .mv (.t 12)⟩,
⟨some 14, (some (13, false)), .mv (.t 4)⟩,
⟨some 15, (some (13, false)), .bin .quo (.t 14) (.k (.d (.int .i64 100)))⟩,
⟨some 16, (some (13, false)), .bin .gtr (.t 15) (.k (.d (.int .i64 23)))⟩,
⟨some 17, none, .pick (.t 13) (.k (.d (.bool true))) (.t 16)⟩,
⟨some 18, none, .mv (.t 17)⟩,
⟨some 19, (some (18, false)), .mv (.t 4)⟩,
⟨some 20, (some (18, false)), .bin .rem (.t 19) (.k (.d (.int .i64 100)))⟩,
⟨some 21, (some (18, false)), .bin .gtr (.t 20) (.k (.d (.int .i64 59)))⟩,
⟨some 22, none, .pick (.t 18) (.k (.d (.bool true))) (.t 21)⟩] [5, 11, 12, 13, 14, 15, 16, 17, 18, 19, 20, 21])
(.cond (.t 22) (.seq (.reg false [
⟨some 2, none, .mv (.k (.d (.int .i64 0)))⟩,
⟨some 3, none, .mv (.k (.d (.int .i64 25)))⟩] [])
.ret)
 .skip))
(.seq (.reg false [
⟨some 23, none, .mv (.t 4)⟩,
⟨some 24, none, .bin .quo (.t 23) (.k (.d (.int .i64 100)))⟩,
⟨some 25, none, .bin .mul (.t 24) (.k (.d (.int .i64 60)))⟩,
⟨some 26, none, .mv (.t 4)⟩,
⟨some 27, none, .bin .rem (.t 26) (.k (.d (.int .i64 100)))⟩,
⟨some 28, none, .bin .add (.t 25) (.t 27)⟩,
⟨some 2, none, .mv (.t 28)⟩,
⟨some 3, none, .mv (.k (.d (.int .i64 0)))⟩] [4, 23, 24, 25, 26, 27, 28])
.ret))))⟩

/-- "turnround/message.PrintMinute" -/
def c_message_PrintMinute : CF := ⟨[.tmp 2, .tmp 3],
  (.seq (.reg false [
⟨some 2, none, .mv (.k (.d (.str [])))⟩,
⟨some 3, none, .mv (.k (.d (.int .i64 0)))⟩] [2, 3])
(.seq (.seq (.reg false [
⟨some 5, none, .mv (.t 0)⟩,
⟨some 6, none, .call false true (.k (.fn n_message_within [] [])) [.t 5, .k (.d (.int .i64 0)), .k (.d (.int .i64 1439))]⟩,
⟨some 4, none, .mv (.t 6)⟩] [5, 6])
(.seq (.reg false [
⟨some 7, none, .mv (.t 4)⟩,
⟨some 8, none, .bin .neq (.t 7) (.k (.d (.int .i64 0)))⟩] [7])
(.cond (.t 8) (.seq (.reg false [
⟨some 9, none, .mv (.t 4)⟩,
⟨some 2, none, .mv (.k (.d (.str [])))⟩,
⟨some 3, none, .mv (.t 9)⟩] [4, 9])
.ret)
 .skip)))
(.seq (.reg false [
⟨some 10, none, .mv (.t 0)⟩,
⟨some 11, none, .bin .quo (.t 10) (.k (.d (.int .i64 60)))⟩,
⟨some 12, none, .call false true (.k (.fn n_message_wide [] [])) [.t 11, .k (.d (.int .i64 2))]⟩,
⟨some 13, none, .mv (.t 0)⟩,
⟨some 14, none, .bin .rem (.t 13) (.k (.d (.int .i64 60)))⟩,
⟨some 15, none, .call false true (.k (.fn n_message_wide [] [])) [.t 14, .k (.d (.int .i64 2))]⟩,
⟨some 16, none, .bin .add (.t 12) (.t 15)⟩,
⟨some 2, none, .mv (.t 16)⟩,
⟨some 3, none, .mv (.k (.d (.int .i64 0)))⟩] [0, 10, 11, 12, 13, 14, 15, 16])
.ret)))⟩

def b_ref02_ShortLines_1 : C :=
  (.seq (.seq (.reg false [
⟨some 15, none, .mv (.t 5)⟩,
⟨some 16, none, .mv (.t 0)⟩,
⟨some 17, none, .len .slc (.t 16)⟩,
⟨some 18, none, .bin .lss (.t 15) (.t 17)⟩] [15, 16, 17])
(.cond (.t 18) .skip
 (.exit 0)))
(.seq (.block 1 (.seq (.reg false [
⟨some 21, none, .mv (.t 0)⟩,
⟨some 22, none, .mv (.t 5)⟩,
⟨some 23, none, .idxAddr 14 (.t 21) (.t 22)⟩,
⟨some 24, none, .fieldAddr 0 (.t 23)⟩,
⟨some 25, none, .load none (.t 24)⟩,
⟨some 26, none, .len .str (.t 25)⟩,
⟨some 27, none, .bin .gtr (.t 26) (.k (.d (.int .i64 40)))⟩,
⟨some 28, none, .mv (.t 27)⟩,
⟨some 29, (some (28, false)), .mv (.t 0)⟩,
⟨some 30, (some (28, false)), .mv (.t 5)⟩,
⟨some 31, (some (28, false)), .idxAddr 14 (.t 29) (.t 30)⟩,
⟨some 32, (some (28, false)), .fieldAddr 1 (.t 31)⟩,
⟨some 33, (some (28, false)), .load (some 13) (.t 32)⟩,
⟨some 34, (some (28, false)), .call false true (.k (.fn n_ref02_Brief [] [])) [.t 33]⟩,
⟨some 35, (some (28, false)), .un .not (.t 34)⟩,
⟨some 36, none, .pick (.t 28) (.k (.d (.bool true))) (.t 35)⟩] [21, 22, 23, 24, 25, 26, 27, 28, 29, 30, 31, 32, 33, 34, 35])
(.cond (.t 36) (.seq (.reg false [
⟨some 4, none, .mv (.k (.d (.bool false)))⟩] [])
.ret)
 .skip)))
(.reg false [
⟨some 19, none, .mv (.t 5)⟩,
⟨some 20, none, .bin .add (.t 19) (.k (.d (.int .i64 1)))⟩,
⟨some 5, none, .mv (.t 20)⟩] [19, 20])))

/-- "turnround/turnroundref02.ShortLines" -/
def c_ref02_ShortLines : CF := ⟨[.tmp 4],
  (.seq (.reg false [
⟨some 4, none, .mv (.k (.d (.bool false)))⟩] [4])
(.seq (.seq (.reg false [
⟨some 6, none, .mv (.t 0)⟩,
⟨some 7, none, .len .slc (.t 6)⟩,
⟨some 8, none, .mv (.t 1)⟩,
⟨some 9, none, .bin .gtr (.t 7) (.t 8)⟩,
⟨some 10, none, .mv (.t 9)⟩,
⟨some 11, (some (10, true)), .mv (.t 0)⟩,
⟨some 12, (some (10, true)), .len .slc (.t 11)⟩,
⟨some 13, (some (10, true)), .bin .neq (.t 12) (.k (.d (.int .i64 65)))⟩,
⟨some 14, none, .pick (.t 10) (.t 13) (.k (.d (.bool false)))⟩] [1, 6, 7, 8, 9, 10, 11, 12, 13])
(.cond (.t 14) (.seq (.reg false [
⟨some 4, none, .mv (.k (.d (.bool false)))⟩] [])
.ret)
 .skip))
(.seq (.seq (.reg false [
⟨some 5, none, .mv (.k (.d (.int .i64 0)))⟩] [])
(.block 0 (.loop [0, 5] b_ref02_ShortLines_1)))
(.seq (.reg false [
⟨some 4, none, .mv (.k (.d (.bool true)))⟩] [])
.ret))))⟩

/-- "turnround/turnroundlaw02.sample" -/
def c_law02_sample : CF := ⟨[.cell 0 (some 13)],
  (.seq (.reg false [
⟨some 0, none, .alloc ty_api_Request [.z (.str []), .z (.str []), .z (.str []), .z (.str []), .z (.str []), .z (.str []), .z (.int .i64 0), .z (.int .i64 0), .z (.int .i64 0), .z (.int .i64 0), .z (.int .i64 0), .z (.int .i64 0), .z (.int .i64 0)]⟩] [])
(.seq (.reg false [
⟨some 1, none, .build [.z (.int .i64 0), .z (.int .i64 0), .z (.int .i64 0)] [(0, 1, .k (.d (.int .i64 8900))), (1, 1, .k (.d (.int .i64 8920))), (2, 1, .k (.d (.int .i64 5)))]⟩,
⟨some 2, none, .build [.z (.str []), .z (.str []), .z (.str []), .z (.str []), .z (.str []), .z (.str []), .z (.int .i64 0), .z (.int .i64 0), .z (.int .i64 0), .z (.int .i64 0), .z (.int .i64 0), .z (.int .i64 0), .z (.int .i64 0)] [(0, 1, .k (.d (.str [113, 49]))), (1, 1, .k (.d (.str [97, 98]))), (2, 1, .k (.d (.str [65]))), (3, 1, .k (.d (.str [116, 49]))), (4, 1, .k (.d (.str [102, 97, 114]))), (6, 3, .t 1), (9, 1, .k (.d (.int .i64 605))), (10, 1, .k (.d (.int .i64 180))), (11, 1, .k (.d (.int .i64 4))), (12, 1, .k (.d (.int .i64 12)))]⟩,
⟨none, none, .store 13 (.t 0) (.t 2)⟩] [1, 2])
.ret))⟩

def b_message_Answers_1 : C :=
  (.seq (.reg false [
⟨some 37, none, .bin .lss (.t 36) (.t 35)⟩] [])
(.seq (.cond (.t 37) .skip
 (.exit 0))
(.seq (.block 1 (.seq (.reg false [
⟨some 38, none, .mv (.t 36)⟩,
⟨some 39, none, .idxAddr 3 (.t 34) (.t 36)⟩,
⟨some 40, none, .load (some 3) (.t 39)⟩,
⟨some 15, none, .alloc ty_message_Result [.z (.str []), .z (.bool false), .z (.int .i64 0)]⟩,
⟨some 14, none, .mv (.t 38)⟩,
⟨none, none, .store 3 (.t 15) (.t 40)⟩] [38, 39, 40])
(.seq (.reg false [
⟨some 41, none, .mv (.t 3)⟩,
⟨some 42, none, .mv (.t 14)⟩,
⟨some 43, none, .idxAddr 13 (.t 41) (.t 42)⟩,
⟨some 44, none, .load (some 13) (.t 43)⟩,
⟨some 16, none, .alloc ty_api_Request [.z (.str []), .z (.str []), .z (.str []), .z (.str []), .z (.str []), .z (.str []), .z (.int .i64 0), .z (.int .i64 0), .z (.int .i64 0), .z (.int .i64 0), .z (.int .i64 0), .z (.int .i64 0), .z (.int .i64 0)]⟩,
⟨none, none, .store 13 (.t 16) (.t 44)⟩] [14, 41, 42, 43, 44])
(.block 2 (.seq (.reg false [
⟨some 56, none, .fieldAddr 1 (.t 15)⟩,
⟨some 57, none, .load none (.t 56)⟩,
⟨some 58, none, .un .not (.t 57)⟩,
⟨some 55, none, .mv (.t 58)⟩] [56, 57, 58])
(.cond (.t 55) (.reg false [
⟨some 59, none, .fieldAddr 4 (.t 13)⟩,
⟨some 60, none, .load none (.t 59)⟩,
⟨some 61, none, .load (some 13) (.t 16)⟩,
⟨some 62, none, .build [.z (.str []), .z (.str []), .z (.str []), .z (.str []), .z (.str []), .z (.str []), .z (.str []), .z (.int .i64 0), .z (.int .i64 0), .z (.int .i64 0), .z (.int .i64 0), .z (.int .i64 0), .z (.int .i64 0), .z (.int .i64 0)] [(0, 1, .k (.d (.str [85]))), (1, 13, .t 61)]⟩,
⟨some 63, none, .mkList 14 1 [.t 62]⟩,
⟨some 64, none, .append ⟨false, ty_message_Line, 14, 168⟩ (.t 60) (.t 63)⟩,
⟨some 65, none, .fieldAddr 4 (.t 13)⟩,
⟨none, none, .store 1 (.t 65) (.t 64)⟩] [16, 59, 60, 61, 62, 63, 64, 65])
 (.seq (.reg false [
⟨some 67, none, .fieldAddr 2 (.t 15)⟩,
⟨some 68, none, .load none (.t 67)⟩,
⟨some 69, none, .fieldAddr 9 (.t 16)⟩,
⟨some 70, none, .load none (.t 69)⟩,
⟨some 71, none, .bin .eql (.t 68) (.t 70)⟩,
⟨some 66, none, .mv (.t 71)⟩] [67, 68, 69, 70, 71])
(.cond (.t 66) (.reg false [
⟨some 72, none, .fieldAddr 4 (.t 13)⟩,
⟨some 73, none, .load none (.t 72)⟩,
⟨some 74, none, .load (some 13) (.t 16)⟩,
⟨some 75, none, .build [.z (.str []), .z (.str []), .z (.str []), .z (.str []), .z (.str []), .z (.str []), .z (.str []), .z (.int .i64 0), .z (.int .i64 0), .z (.int .i64 0), .z (.int .i64 0), .z (.int .i64 0), .z (.int .i64 0), .z (.int .i64 0)] [(0, 1, .k (.d (.str [75]))), (1, 13, .t 74)]⟩,
⟨some 76, none, .mkList 14 1 [.t 75]⟩,
⟨some 77, none, .append ⟨false, ty_message_Line, 14, 168⟩ (.t 73) (.t 76)⟩,
⟨some 78, none, .fieldAddr 4 (.t 13)⟩,
⟨none, none, .store 1 (.t 78) (.t 77)⟩] [16, 72, 73, 74, 75, 76, 77, 78])
 (.reg true [
⟨some 45, none, .fieldAddr 4 (.t 13)⟩,
⟨some 46, none, .load none (.t 45)⟩,
⟨some 47, none, .load (some 13) (.t 16)⟩,
⟨some 48, none, .fieldAddr 2 (.t 15)⟩,
⟨some 49, none, .load none (.t 48)⟩,
⟨some 50, none, .call false true (.k (.fn n_message_moved [] [])) [.t 47, .t 49]⟩,
⟨some 51, none, .build [.z (.str []), .z (.str []), .z (.str []), .z (.str []), .z (.str []), .z (.str []), .z (.str []), .z (.int .i64 0), .z (.int .i64 0), .z (.int .i64 0), .z (.int .i64 0), .z (.int .i64 0), .z (.int .i64 0), .z (.int .i64 0)] [(0, 1, .k (.d (.str [79]))), (1, 13, .t 50)]⟩,
⟨some 52, none, .mkList 14 1 [.t 51]⟩,
⟨some 53, none, .append ⟨false, ty_message_Line, 14, 168⟩ (.t 46) (.t 52)⟩,
⟨some 54, none, .fieldAddr 4 (.t 13)⟩,
⟨none, none, .store 1 (.t 54) (.t 53)⟩] [15, 16, 45, 46, 47, 48, 49, 50, 51, 52, 53, 54])))))))))
(.reg false [
⟨some 79, none, .bin .add (.t 36) (.k (.d (.int .i64 1)))⟩,
⟨some 36, none, .mv (.t 79)⟩] [79]))))

/-- "turnround/message.Answers" -/
def c_message_Answers : CF := ⟨[.cell 10 (some 5), .tmp 11],
  (.seq (.reg false [
⟨some 10, none, .alloc ty_message_Message [.z (.str []), .z (.str []), .z (.str []), .z (.int .i64 0), .own ⟨false, ty_message_Line, 14, 168⟩]⟩,
⟨some 11, none, .mv (.k (.d (.int .i64 0)))⟩] [11])
(.seq (.seq (.reg false [
⟨some 17, none, .mv (.t 0)⟩,
⟨some 18, none, .mv (.t 1)⟩,
⟨some 19, none, .mv (.t 2)⟩,
⟨some 20, none, .call false true (.k (.fn n_message_checkHead [] [])) [.t 17, .t 18, .t 19]⟩,
⟨some 21, none, .mv (.t 3)⟩,
⟨some 22, none, .mv (.t 4)⟩,
⟨some 23, none, .call false true (.k (.fn n_message_checkBoth [] [])) [.t 21, .t 22]⟩,
⟨some 24, none, .mkList 1 2 [.t 20, .t 23]⟩,
⟨some 25, none, .call false true (.k (.fn n_message_first [] [])) [.t 24]⟩,
⟨some 12, none, .mv (.t 25)⟩] [17, 18, 19, 20, 21, 22, 23, 24, 25])
(.seq (.reg false [
⟨some 26, none, .mv (.t 12)⟩,
⟨some 27, none, .bin .neq (.t 26) (.k (.d (.int .i64 0)))⟩] [26])
(.cond (.t 27) (.seq (.reg false [
⟨some 28, none, .build [.z (.str []), .z (.str []), .z (.str []), .z (.int .i64 0), .own ⟨false, ty_message_Line, 14, 168⟩] []⟩,
⟨some 29, none, .mv (.t 12)⟩,
⟨none, none, .store 5 (.t 10) (.t 28)⟩,
⟨some 11, none, .mv (.t 29)⟩] [12, 28, 29])
.ret)
 .skip)))
(.seq (.reg false [
⟨some 30, none, .mv (.t 0)⟩,
⟨some 31, none, .mv (.t 1)⟩,
⟨some 32, none, .mv (.t 2)⟩,
⟨some 33, none, .build [.z (.str []), .z (.str []), .z (.str []), .z (.int .i64 0), .own ⟨false, ty_message_Line, 14, 168⟩] [(0, 1, .k (.d (.str [65, 78, 83]))), (1, 1, .t 30), (2, 1, .t 31), (3, 1, .t 32)]⟩,
⟨some 13, none, .alloc ty_message_Message [.z (.str []), .z (.str []), .z (.str []), .z (.int .i64 0), .own ⟨false, ty_message_Line, 14, 168⟩]⟩,
⟨none, none, .store 5 (.t 13) (.t 33)⟩] [0, 1, 2, 30, 31, 32, 33])
(.seq (.seq (.reg false [
⟨some 34, none, .mv (.t 4)⟩,
⟨some 35, none, .len .slc (.t 34)⟩,
⟨some 36, none, .mv (.k (.d (.int .i64 0)))⟩] [4])
(.block 0 (.loop [3, 10, 13, 34, 35, 36] b_message_Answers_1)))
(.seq (.reg false [
⟨some 80, none, .load (some 5) (.t 13)⟩,
⟨none, none, .store 5 (.t 10) (.t 80)⟩,
⟨some 11, none, .mv (.k (.d (.int .i64 0)))⟩] [13, 80])
.ret)))))⟩

/-- "(*strings.Builder).WriteString" -/
def c_strings_Builder_WriteString : CF := ⟨[.tmp 4, .tmp 5],
  (.seq (.reg false [
⟨some 4, none, .mv (.k (.d (.int .i64 0)))⟩,
⟨some 5, none, .mv (.k (.d (.nili)))⟩] [4, 5])
(.seq (.reg false [
⟨some 6, none, .mv (.t 0)⟩,
⟨some 7, none, .call true true (.k (.fn n_strings_Builder_copyCheck [] [])) [.t 6]⟩] [6, 7])
(.seq (.reg false [
⟨some 8, none, .mv (.t 0)⟩,
⟨some 9, none, .mv (.t 0)⟩,
⟨some 10, none, .nilCheck (.t 9)⟩,
⟨some 11, none, .fieldAddr 1 (.t 10)⟩,
⟨some 12, none, .load none (.t 11)⟩,
⟨some 13, none, .mv (.t 1)⟩,
⟨some 14, none, .appendS ⟨false, ty_uint8, 1, 1⟩ (.t 12) (.t 13)⟩,
⟨some 15, none, .nilCheck (.t 8)⟩,
⟨some 16, none, .fieldAddr 1 (.t 15)⟩,
⟨none, none, .store 1 (.t 16) (.t 14)⟩] [0, 8, 9, 10, 11, 12, 13, 14, 15, 16])
(.seq (.reg false [
⟨some 17, none, .mv (.t 1)⟩,
⟨some 18, none, .len .str (.t 17)⟩,
⟨some 4, none, .mv (.t 18)⟩,
⟨some 5, none, .mv (.k (.d (.nili)))⟩] [1, 17, 18])
.ret))))⟩

/-- "turnround/message.wide" -/
def c_message_wide : CF := ⟨[.tmp 4],
  (.seq (.reg false [
⟨some 4, none, .mv (.k (.d (.str [])))⟩] [4])
(.seq (.reg false [
⟨some 6, none, .mv (.t 0)⟩,
⟨some 7, none, .call false true (.k (.fn n_strconv_Itoa [] [])) [.t 6]⟩,
⟨some 5, none, .mv (.t 7)⟩] [0, 6, 7])
(.seq (.reg false [
⟨some 8, none, .mv (.t 1)⟩,
⟨some 9, none, .mv (.t 5)⟩,
⟨some 10, none, .len .str (.t 9)⟩,
⟨some 11, none, .bin .sub (.t 8) (.t 10)⟩,
⟨some 12, none, .minmax true [.k (.d (.int .i64 0)), .t 11]⟩,
⟨some 13, none, .call false true (.k (.fn n_strings_Repeat [] [])) [.k (.d (.str [48])), .t 12]⟩,
⟨some 14, none, .mv (.t 5)⟩,
⟨some 15, none, .bin .add (.t 13) (.t 14)⟩,
⟨some 4, none, .mv (.t 15)⟩] [1, 5, 8, 9, 10, 11, 12, 13, 14, 15])
.ret)))⟩

def b_message_printLine_1 : C :=
  (.seq (.reg false [
⟨some 8, none, .bin .lss (.t 7) (.k (.d (.int .i64 14)))⟩] [])
(.seq (.cond (.t 8) .skip
 (.exit 0))
(.seq (.block 1 (.seq (.reg false [
⟨some 9, none, .idxA 14 2 (some 2) (.t 6) (.t 7)⟩,
⟨some 5, none, .alloc ty_message_field [.z (.nilf), .z (.nilf)]⟩,
⟨none, none, .store 2 (.t 5) (.t 9)⟩] [9])
(.reg false [
⟨some 10, none, .mv (.t 3)⟩,
⟨some 11, none, .fieldAddr 0 (.t 5)⟩,
⟨some 12, none, .load none (.t 11)⟩,
⟨some 13, none, .load (some 14) (.t 1)⟩,
⟨some 14, none, .call true true (.t 12) [.t 13]⟩,
⟨some 15, none, .mkList 1 1 [.t 14]⟩,
⟨some 16, none, .append ⟨false, ty_string, 1, 16⟩ (.t 10) (.t 15)⟩,
⟨some 3, none, .mv (.t 16)⟩] [5, 10, 11, 12, 13, 14, 15, 16])))
(.reg false [
⟨some 17, none, .bin .add (.t 7) (.k (.d (.int .i64 1)))⟩,
⟨some 7, none, .mv (.t 17)⟩] [17]))))

/-- "turnround/message.printLine" -/
def c_message_printLine : CF := ⟨[.tmp 2],
  (.seq (.reg false [
⟨some 1, none, .box ty_message_Line (.t 0)⟩,
⟨some 2, none, .mv (.k (.d (.str [])))⟩] [0, 2])
(.seq (.reg false [
⟨some 3, none, .ownNil ⟨false, ty_string, 1, 16⟩⟩] [])
(.seq (.seq (.reg false [
⟨some 6, none, .call false false (.k (.fn n_message_fields [] [])) []⟩,
⟨some 7, none, .mv (.k (.d (.int .i64 0)))⟩] [])
(.block 0 (.loop [1, 3, 6, 7] b_message_printLine_1)))
(.seq (.reg false [
⟨some 18, none, .mv (.t 3)⟩,
⟨some 19, none, .call false true (.k (.fn n_strings_Join [] [])) [.t 18, .k (.d (.str [32]))]⟩,
⟨some 2, none, .mv (.t 19)⟩] [3, 18, 19])
.ret))))⟩

def b_law02_lines_1 : C :=
  (.seq (.reg false [
⟨some 9, none, .bin .lss (.t 8) (.t 7)⟩] [])
(.seq (.cond (.t 9) .skip
 (.exit 0))
(.seq (.block 1 (.seq (.reg false [
⟨some 10, none, .idxAddr 14 (.t 6) (.t 8)⟩,
⟨some 11, none, .load (some 14) (.t 10)⟩,
⟨some 5, none, .alloc ty_turnroundref02_Line [.z (.str []), .z (.str []), .z (.str []), .z (.str []), .z (.str []), .z (.str []), .z (.str []), .z (.int .i64 0), .z (.int .i64 0), .z (.int .i64 0), .z (.int .i64 0), .z (.int .i64 0), .z (.int .i64 0), .z (.int .i64 0)]⟩,
⟨none, none, .store 14 (.t 5) (.t 11)⟩] [10, 11])
(.reg false [
⟨some 12, none, .mv (.t 3)⟩,
⟨some 13, none, .load (some 14) (.t 5)⟩,
⟨some 14, none, .mkList 14 1 [.t 13]⟩,
⟨some 15, none, .append ⟨false, ty_message_Line, 14, 168⟩ (.t 12) (.t 14)⟩,
⟨some 3, none, .mv (.t 15)⟩] [5, 12, 13, 14, 15])))
(.reg false [
⟨some 16, none, .bin .add (.t 8) (.k (.d (.int .i64 1)))⟩,
⟨some 8, none, .mv (.t 16)⟩] [16]))))

/-- "turnround/turnroundlaw02.lines" -/
def c_law02_lines : CF := ⟨[.tmp 2],
  (.seq (.reg false [
⟨some 2, none, .ownNil ⟨false, ty_message_Line, 14, 168⟩⟩] [2])
(.seq (.reg false [
⟨some 3, none, .ownNil ⟨false, ty_message_Line, 14, 168⟩⟩] [])
(.seq (.seq (.reg false [
⟨some 6, none, .mv (.t 0)⟩,
⟨some 7, none, .len .slc (.t 6)⟩,
⟨some 8, none, .mv (.k (.d (.int .i64 0)))⟩] [0])
(.block 0 (.loop [3, 6, 7, 8] b_law02_lines_1)))
(.seq (.reg false [
⟨some 17, none, .mv (.t 3)⟩,
⟨some 2, none, .mv (.t 17)⟩] [3, 17])
.ret))))⟩

/-- "turnround/turnroundref02.CheckHead" -/
def c_ref02_CheckHead : CF := ⟨[.tmp 6],
  (.seq (.reg false [
⟨some 6, none, .mv (.k (.d (.int .i64 0)))⟩] [6])
(.seq (.seq (.reg false [
⟨some 7, none, .mv (.t 0)⟩,
⟨some 8, none, .call false true (.k (.fn n_ref01_IsName [] [])) [.t 7]⟩,
⟨some 9, none, .un .not (.t 8)⟩] [0, 7, 8])
(.cond (.t 9) (.seq (.reg false [
⟨some 6, none, .mv (.k (.d (.int .i64 8)))⟩] [])
.ret)
 .skip))
(.seq (.seq (.reg false [
⟨some 10, none, .mv (.t 1)⟩,
⟨some 11, none, .call false true (.k (.fn n_ref02_IsSeason [] [])) [.t 10]⟩,
⟨some 12, none, .un .not (.t 11)⟩] [1, 10, 11])
(.cond (.t 12) (.seq (.reg false [
⟨some 6, none, .mv (.k (.d (.int .i64 1)))⟩] [])
.ret)
 .skip))
(.seq (.reg false [
⟨some 13, none, .mv (.t 2)⟩,
⟨some 14, none, .call false true (.k (.fn n_ref01_CheckDay [] [])) [.t 13]⟩,
⟨some 6, none, .mv (.t 14)⟩] [2, 13, 14])
.ret))))⟩

def b_ref02_CheckLines_1 : C :=
  (.seq (.seq (.reg false [
⟨some 9, none, .mv (.t 6)⟩,
⟨some 10, none, .mv (.t 1)⟩,
⟨some 11, none, .len .slc (.t 10)⟩,
⟨some 12, none, .bin .lss (.t 9) (.t 11)⟩] [9, 10, 11])
(.cond (.t 12) .skip
 (.exit 0)))
(.seq (.block 1 (.seq (.reg false [
⟨some 15, none, .mv (.t 1)⟩,
⟨some 16, none, .mv (.t 6)⟩,
⟨some 17, none, .idxAddr 14 (.t 15) (.t 16)⟩,
⟨some 18, none, .load (some 14) (.t 17)⟩,
⟨some 19, none, .call false true (.k (.fn n_ref02_CheckLine [] [])) [.t 18]⟩,
⟨some 7, none, .mv (.t 19)⟩] [15, 16, 17, 18, 19])
(.seq (.seq (.reg false [
⟨some 20, none, .mv (.t 7)⟩,
⟨some 21, none, .bin .eql (.t 20) (.k (.d (.int .i64 0)))⟩,
⟨some 22, none, .mv (.t 21)⟩,
⟨some 23, (some (22, true)), .mv (.t 1)⟩,
⟨some 24, (some (22, true)), .mv (.t 6)⟩,
⟨some 25, (some (22, true)), .idxAddr 14 (.t 23) (.t 24)⟩,
⟨some 26, (some (22, true)), .fieldAddr 0 (.t 25)⟩,
⟨some 27, (some (22, true)), .load none (.t 26)⟩,
⟨some 28, (some (22, true)), .call false true (.k (.fn n_ref02_Asks [] [])) [.t 27]⟩,
⟨some 29, (some (22, true)), .mv (.t 0)⟩,
⟨some 30, (some (22, true)), .bin .eql (.t 29) (.k (.d (.str [82, 69, 81])))⟩,
⟨some 31, (some (22, true)), .eqv none true (.t 28) (.t 30)⟩,
⟨some 32, none, .pick (.t 22) (.t 31) (.k (.d (.bool false)))⟩] [20, 21, 22, 23, 24, 25, 26, 27, 28, 29, 30, 31])
(.cond (.t 32) (.reg false [
⟨some 7, none, .mv (.k (.d (.int .i64 18)))⟩] [])
 .skip))
(.seq (.reg false [
⟨some 33, none, .mv (.t 6)⟩,
⟨some 34, none, .bin .gtr (.t 33) (.k (.d (.int .i64 0)))⟩,
⟨some 35, none, .mv (.t 34)⟩,
⟨some 36, (some (35, true)), .mv (.t 1)⟩,
⟨some 37, (some (35, true)), .mv (.t 6)⟩,
⟨some 38, (some (35, true)), .bin .sub (.t 37) (.k (.d (.int .i64 1)))⟩,
⟨some 39, (some (35, true)), .idxAddr 14 (.t 36) (.t 38)⟩,
⟨some 40, (some (35, true)), .fieldAddr 0 (.t 39)⟩,
⟨some 41, (some (35, true)), .load none (.t 40)⟩,
⟨some 42, (some (35, true)), .bin .eql (.t 41) (.k (.d (.str [67])))⟩,
⟨some 43, none, .pick (.t 35) (.t 42) (.k (.d (.bool false)))⟩,
⟨some 8, none, .mv (.t 43)⟩] [33, 34, 35, 36, 37, 38, 39, 40, 41, 42, 43])
(.seq (.seq (.reg true [
⟨some 44, none, .mv (.t 7)⟩,
⟨some 45, none, .bin .eql (.t 44) (.k (.d (.int .i64 0)))⟩,
⟨some 46, none, .mv (.t 45)⟩,
⟨some 47, (some (46, true)), .mv (.t 8)⟩,
⟨some 48, none, .pick (.t 46) (.t 47) (.k (.d (.bool false)))⟩,
⟨some 49, none, .mv (.t 48)⟩,
⟨some 50, (some (49, true)), .mv (.t 1)⟩,
⟨some 51, (some (49, true)), .mv (.t 6)⟩,
⟨some 52, (some (49, true)), .idxAddr 14 (.t 50) (.t 51)⟩,
⟨some 53, (some (49, true)), .fieldAddr 0 (.t 52)⟩,
⟨some 54, (some (49, true)), .load none (.t 53)⟩,
⟨some 55, (some (49, true)), .bin .neq (.t 54) (.k (.d (.str [82])))⟩,
⟨some 56, (some (49, true)), .mv (.t 55)⟩,
⟨some 57, (some (56, false)), .mv (.t 1)⟩,
⟨some 58, (some (56, false)), .mv (.t 6)⟩,
⟨some 59, (some (56, false)), .idxAddr 14 (.t 57) (.t 58)⟩,
⟨some 60, (some (56, false)), .fieldAddr 1 (.t 59)⟩,
⟨some 61, (some (56, false)), .fieldAddr 1 (.t 60)⟩,
⟨some 62, (some (56, false)), .load none (.t 61)⟩,
⟨some 63, (some (56, false)), .mv (.t 1)⟩,
⟨some 64, (some (56, false)), .mv (.t 6)⟩,
⟨some 65, (some (56, false)), .bin .sub (.t 64) (.k (.d (.int .i64 1)))⟩,
⟨some 66, (some (56, false)), .idxAddr 14 (.t 63) (.t 65)⟩,
⟨some 67, (some (56, false)), .fieldAddr 1 (.t 66)⟩,
⟨some 68, (some (56, false)), .fieldAddr 1 (.t 67)⟩,
⟨some 69, (some (56, false)), .load none (.t 68)⟩,
⟨some 70, (some (56, false)), .bin .neq (.t 62) (.t 69)⟩,
⟨some 71, (some (49, true)), .pick (.t 56) (.k (.d (.bool true))) (.t 70)⟩,
⟨some 72, (some (49, true)), .mv (.t 71)⟩,
⟨some 73, (some (72, false)), .mv (.t 1)⟩,
⟨some 74, (some (72, false)), .mv (.t 6)⟩,
⟨some 75, (some (72, false)), .idxAddr 14 (.t 73) (.t 74)⟩,
⟨some 76, (some (72, false)), .fieldAddr 1 (.t 75)⟩,
⟨some 77, (some (72, false)), .fieldAddr 0 (.t 76)⟩,
⟨some 78, (some (72, false)), .load none (.t 77)⟩,
⟨some 79, (some (72, false)), .mv (.t 1)⟩,
⟨some 80, (some (72, false)), .mv (.t 6)⟩,
⟨some 81, (some (72, false)), .bin .sub (.t 80) (.k (.d (.int .i64 1)))⟩,
⟨some 82, (some (72, false)), .idxAddr 14 (.t 79) (.t 81)⟩,
⟨some 83, (some (72, false)), .fieldAddr 1 (.t 82)⟩,
⟨some 84, (some (72, false)), .fieldAddr 0 (.t 83)⟩,
⟨some 85, (some (72, false)), .load none (.t 84)⟩,
⟨some 86, (some (72, false)), .bin .neq (.t 78) (.t 85)⟩,
⟨some 87, (some (49, true)), .pick (.t 72) (.k (.d (.bool true))) (.t 86)⟩,
⟨some 88, none, .pick (.t 49) (.t 87) (.k (.d (.bool false)))⟩] [44, 45, 46, 47, 48, 49, 50, 51, 52, 53, 54, 55, 56, 57, 58, 59, 60, 61, 62, 63, 64, 65, 66, 67, 68, 69, 70, 71, 72, 73, 74, 75, 76, 77, 78, 79, 80, 81, 82, 83, 84, 85, 86, 87])
(.cond (.t 88) (.reg false [
⟨some 7, none, .mv (.k (.d (.int .i64 11)))⟩] [])
 .skip))
(.seq (.seq (.reg false [
⟨some 89, none, .mv (.t 7)⟩,
⟨some 90, none, .bin .eql (.t 89) (.k (.d (.int .i64 0)))⟩,
⟨some 91, none, .mv (.t 90)⟩,
⟨some 92, (some (91, true)), .mv (.t 1)⟩,
⟨some 93, (some (91, true)), .mv (.t 6)⟩,
⟨some 94, (some (91, true)), .idxAddr 14 (.t 92) (.t 93)⟩,
⟨some 95, (some (91, true)), .fieldAddr 0 (.t 94)⟩,
⟨some 96, (some (91, true)), .load none (.t 95)⟩,
⟨some 97, (some (91, true)), .bin .eql (.t 96) (.k (.d (.str [82])))⟩,
⟨some 98, none, .pick (.t 91) (.t 97) (.k (.d (.bool false)))⟩,
⟨some 99, none, .mv (.t 98)⟩,
⟨some 100, (some (99, true)), .mv (.t 8)⟩,
⟨some 101, (some (99, true)), .un .not (.t 100)⟩,
⟨some 102, none, .pick (.t 99) (.t 101) (.k (.d (.bool false)))⟩] [8, 89, 90, 91, 92, 93, 94, 95, 96, 97, 98, 99, 100, 101])
(.cond (.t 102) (.reg false [
⟨some 7, none, .mv (.k (.d (.int .i64 11)))⟩] [])
 .skip))
(.seq (.reg false [
⟨some 103, none, .mv (.t 7)⟩,
⟨some 104, none, .bin .neq (.t 103) (.k (.d (.int .i64 0)))⟩] [103])
(.cond (.t 104) (.seq (.reg false [
⟨some 105, none, .mv (.t 6)⟩,
⟨some 106, none, .mv (.t 7)⟩,
⟨some 4, none, .mv (.t 105)⟩,
⟨some 5, none, .mv (.t 106)⟩] [6, 7, 105, 106])
.ret)
 .skip))))))))
(.reg false [
⟨some 13, none, .mv (.t 6)⟩,
⟨some 14, none, .bin .add (.t 13) (.k (.d (.int .i64 1)))⟩,
⟨some 6, none, .mv (.t 14)⟩] [13, 14])))

/-- "turnround/turnroundref02.CheckLines" -/
def c_ref02_CheckLines : CF := ⟨[.tmp 4, .tmp 5],
  (.seq (.reg false [
⟨some 4, none, .mv (.k (.d (.int .i64 0)))⟩,
⟨some 5, none, .mv (.k (.d (.int .i64 0)))⟩] [4, 5])
(.seq (.seq (.reg false [
⟨some 6, none, .mv (.k (.d (.int .i64 0)))⟩] [])
(.block 0 (.loop [0, 1, 6] b_ref02_CheckLines_1)))
(.seq (.seq (.reg false [
⟨some 107, none, .mv (.t 1)⟩,
⟨some 108, none, .len .slc (.t 107)⟩,
⟨some 109, none, .bin .gtr (.t 108) (.k (.d (.int .i64 0)))⟩,
⟨some 110, none, .mv (.t 109)⟩,
⟨some 111, (some (110, true)), .mv (.t 1)⟩,
⟨some 112, (some (110, true)), .mv (.t 1)⟩,
⟨some 113, (some (110, true)), .len .slc (.t 112)⟩,
⟨some 114, (some (110, true)), .bin .sub (.t 113) (.k (.d (.int .i64 1)))⟩,
⟨some 115, (some (110, true)), .idxAddr 14 (.t 111) (.t 114)⟩,
⟨some 116, (some (110, true)), .fieldAddr 0 (.t 115)⟩,
⟨some 117, (some (110, true)), .load none (.t 116)⟩,
⟨some 118, (some (110, true)), .bin .eql (.t 117) (.k (.d (.str [67])))⟩,
⟨some 119, none, .pick (.t 110) (.t 118) (.k (.d (.bool false)))⟩] [107, 108, 109, 110, 111, 112, 113, 114, 115, 116, 117, 118])
(.cond (.t 119) (.seq (.reg false [
⟨some 120, none, .mv (.t 1)⟩,
⟨some 121, none, .len .slc (.t 120)⟩,
⟨some 122, none, .bin .sub (.t 121) (.k (.d (.int .i64 1)))⟩,
⟨some 4, none, .mv (.t 122)⟩,
⟨some 5, none, .mv (.k (.d (.int .i64 11)))⟩] [1, 120, 121, 122])
.ret)
 .skip))
(.seq (.reg false [
⟨some 4, none, .mv (.k (.d (.int .i64 0)))⟩,
⟨some 5, none, .mv (.k (.d (.int .i64 0)))⟩] [])
.ret))))⟩

def b_ref02_joined_1 : C :=
  (.seq (.seq (.reg false [
⟨some 5, none, .mv (.t 4)⟩,
⟨some 6, none, .mv (.t 0)⟩,
⟨some 7, none, .len .slc (.t 6)⟩,
⟨some 8, none, .bin .lss (.t 5) (.t 7)⟩] [5, 6, 7])
(.cond (.t 8) .skip
 (.exit 0)))
(.seq (.block 1 (.seq (.seq (.reg false [
⟨some 11, none, .mv (.t 4)⟩,
⟨some 12, none, .bin .gtr (.t 11) (.k (.d (.int .i64 0)))⟩] [11])
(.cond (.t 12) (.reg false [
⟨some 13, none, .mv (.t 3)⟩,
⟨some 14, none, .bin .add (.t 13) (.k (.d (.str [32])))⟩,
⟨some 3, none, .mv (.t 14)⟩] [13, 14])
 .skip))
(.reg false [
⟨some 15, none, .mv (.t 3)⟩,
⟨some 16, none, .mv (.t 0)⟩,
⟨some 17, none, .mv (.t 4)⟩,
⟨some 18, none, .idxAddr 1 (.t 16) (.t 17)⟩,
⟨some 19, none, .load none (.t 18)⟩,
⟨some 20, none, .bin .add (.t 15) (.t 19)⟩,
⟨some 3, none, .mv (.t 20)⟩] [15, 16, 17, 18, 19, 20])))
(.reg false [
⟨some 9, none, .mv (.t 4)⟩,
⟨some 10, none, .bin .add (.t 9) (.k (.d (.int .i64 1)))⟩,
⟨some 4, none, .mv (.t 10)⟩] [9, 10])))

/-- "turnround/turnroundref02.joined" -/
def c_ref02_joined : CF := ⟨[.tmp 2],
  (.seq (.reg false [
⟨some 2, none, .mv (.k (.d (.str [])))⟩] [2])
(.seq (.reg false [
⟨some 3, none, .mv (.k (.d (.str [])))⟩] [])
(.seq (.seq (.reg false [
⟨some 4, none, .mv (.k (.d (.int .i64 0)))⟩] [])
(.block 0 (.loop [0, 3, 4] b_ref02_joined_1)))
(.seq (.reg false [
⟨some 21, none, .mv (.t 3)⟩,
⟨some 2, none, .mv (.t 21)⟩] [3, 21])
.ret))))⟩

def b_ref02_wide_1 : C :=
  (.seq (.seq (.reg false [
⟨some 8, none, .mv (.t 5)⟩,
⟨some 9, none, .len .str (.t 8)⟩,
⟨some 10, none, .mv (.t 1)⟩,
⟨some 11, none, .bin .lss (.t 9) (.t 10)⟩] [8, 9, 10])
(.cond (.t 11) .skip
 (.exit 0)))
(.block 1 (.reg false [
⟨some 12, none, .mv (.t 5)⟩,
⟨some 13, none, .bin .add (.k (.d (.str [48]))) (.t 12)⟩,
⟨some 5, none, .mv (.t 13)⟩] [12, 13])))

/-- "turnround/turnroundref02.wide" -/
def c_ref02_wide : CF := ⟨[.tmp 4],
  (.seq (.reg false [
⟨some 4, none, .mv (.k (.d (.str [])))⟩] [4])
(.seq (.reg false [
⟨some 6, none, .mv (.t 0)⟩,
⟨some 7, none, .call false true (.k (.fn n_ref01_Text [] [])) [.t 6]⟩,
⟨some 5, none, .mv (.t 7)⟩] [0, 6, 7])
(.seq (.block 0 (.loop [1, 5] b_ref02_wide_1))
(.seq (.reg false [
⟨some 14, none, .mv (.t 5)⟩,
⟨some 4, none, .mv (.t 14)⟩] [5, 14])
.ret))))⟩

/-- "turnround/turnroundref02.PrintLine" -/
def c_ref02_PrintLine : CF := ⟨[.tmp 2],
  (.seq (.reg false [
⟨some 1, none, .box ty_turnroundref02_Line (.t 0)⟩,
⟨some 2, none, .mv (.k (.d (.str [])))⟩] [0, 2])
(.seq (.reg false [
⟨some 3, none, .load (some 14) (.t 1)⟩,
⟨some 4, none, .call false true (.k (.fn n_ref02_Fields [] [])) [.t 3]⟩,
⟨some 5, none, .call false true (.k (.fn n_ref02_joined [] [])) [.t 4]⟩,
⟨some 2, none, .mv (.t 5)⟩] [1, 3, 4, 5])
.ret))⟩

def b_message_first_1 : C :=
  (.seq (.reg false [
⟨some 8, none, .bin .lss (.t 7) (.t 6)⟩] [])
(.seq (.cond (.t 8) .skip
 (.exit 0))
(.seq (.block 1 (.seq (.reg false [
⟨some 9, none, .idxAddr 1 (.t 5) (.t 7)⟩,
⟨some 10, none, .load none (.t 9)⟩,
⟨some 4, none, .mv (.t 10)⟩] [9, 10])
(.seq (.reg false [
⟨some 11, none, .mv (.t 4)⟩,
⟨some 12, none, .bin .neq (.t 11) (.k (.d (.int .i64 0)))⟩] [11])
(.cond (.t 12) (.seq (.reg false [
⟨some 13, none, .mv (.t 4)⟩,
⟨some 2, none, .mv (.t 13)⟩] [4, 13])
.ret)
 .skip))))
(.reg false [
⟨some 14, none, .bin .add (.t 7) (.k (.d (.int .i64 1)))⟩,
⟨some 7, none, .mv (.t 14)⟩] [14]))))

/-- "turnround/message.first" -/
def c_message_first : CF := ⟨[.tmp 2],
  (.seq (.reg false [
⟨some 2, none, .mv (.k (.d (.int .i64 0)))⟩] [2])
(.seq (.seq (.reg false [
⟨some 5, none, .mv (.t 0)⟩,
⟨some 6, none, .len .slc (.t 5)⟩,
⟨some 7, none, .mv (.k (.d (.int .i64 0)))⟩] [0])
(.block 0 (.loop [5, 6, 7] b_message_first_1)))
(.seq (.reg false [
⟨some 2, none, .mv (.k (.d (.int .i64 0)))⟩] [])
.ret)))⟩

/-- "turnround/message.when" -/
def c_message_when : CF := ⟨[.tmp 4],
  (.seq (.reg false [
⟨some 4, none, .mv (.k (.d (.int .i64 0)))⟩] [4])
(.seq (.seq (.reg false [
⟨some 5, none, .mv (.t 0)⟩] [0])
(.cond (.t 5) (.seq (.reg false [
⟨some 6, none, .mv (.t 1)⟩,
⟨some 4, none, .mv (.t 6)⟩] [1, 6])
.ret)
 .skip))
(.seq (.reg false [
⟨some 4, none, .mv (.k (.d (.int .i64 0)))⟩] [])
.ret)))⟩

/-- "turnround/message.isMessage" -/
def c_message_isMessage : CF := ⟨[.tmp 2],
  (.seq (.reg false [
⟨some 2, none, .mv (.k (.d (.bool false)))⟩] [2])
(.seq (.reg false [
⟨some 3, none, .mv (.t 0)⟩,
⟨some 4, none, .bin .eql (.t 3) (.k (.d (.str [82, 69, 81])))⟩,
⟨some 5, none, .mv (.t 4)⟩,
⟨some 6, (some (5, false)), .mv (.t 0)⟩,
⟨some 7, (some (5, false)), .bin .eql (.t 6) (.k (.d (.str [65, 78, 83])))⟩,
⟨some 8, none, .pick (.t 5) (.k (.d (.bool true))) (.t 7)⟩,
⟨some 2, none, .mv (.t 8)⟩] [0, 3, 4, 5, 6, 7, 8])
.ret))⟩

/-- "turnround/message.checkHead" -/
def c_message_checkHead : CF := ⟨[.tmp 6],
  (.seq (.reg false [
⟨some 6, none, .mv (.k (.d (.int .i64 0)))⟩] [6])
(.seq (.reg false [
⟨some 7, none, .mv (.t 0)⟩,
⟨some 8, none, .call false true (.k (.fn n_message_named [] [])) [.t 7]⟩,
⟨some 9, none, .mv (.t 1)⟩,
⟨some 10, none, .call false true (.k (.fn n_message_isSeason [] [])) [.t 9]⟩,
⟨some 11, none, .un .not (.t 10)⟩,
⟨some 12, none, .call false true (.k (.fn n_message_when [] [])) [.t 11, .k (.d (.int .i64 1))]⟩,
⟨some 13, none, .mv (.t 2)⟩,
⟨some 14, none, .call false true (.k (.fn n_message_within [] [])) [.t 13, .k (.d (.int .i64 0)), .k (.d (.int .i64 99999))]⟩,
⟨some 15, none, .mkList 1 3 [.t 8, .t 12, .t 14]⟩,
⟨some 16, none, .call false true (.k (.fn n_message_first [] [])) [.t 15]⟩,
⟨some 6, none, .mv (.t 16)⟩] [0, 1, 2, 7, 8, 9, 10, 11, 12, 13, 14, 15, 16])
.ret))⟩

def b_message_checkLines_1 : C :=
  (.seq (.reg false [
⟨some 15, none, .bin .lss (.t 14) (.t 13)⟩] [])
(.seq (.cond (.t 15) .skip
 (.exit 0))
(.seq (.block 1 (.seq (.reg false [
⟨some 16, none, .mv (.t 14)⟩,
⟨some 17, none, .idxAddr 14 (.t 12) (.t 14)⟩,
⟨some 18, none, .load (some 14) (.t 17)⟩,
⟨some 7, none, .alloc ty_message_Line [.z (.str []), .z (.str []), .z (.str []), .z (.str []), .z (.str []), .z (.str []), .z (.str []), .z (.int .i64 0), .z (.int .i64 0), .z (.int .i64 0), .z (.int .i64 0), .z (.int .i64 0), .z (.int .i64 0), .z (.int .i64 0)]⟩,
⟨some 6, none, .mv (.t 16)⟩,
⟨none, none, .store 14 (.t 7) (.t 18)⟩] [16, 17, 18])
(.seq (.reg false [
⟨some 19, none, .mv (.t 6)⟩,
⟨some 20, none, .bin .gtr (.t 19) (.k (.d (.int .i64 0)))⟩,
⟨some 21, none, .mv (.t 20)⟩,
⟨some 22, (some (21, true)), .mv (.t 1)⟩,
⟨some 23, (some (21, true)), .mv (.t 6)⟩,
⟨some 24, (some (21, true)), .bin .sub (.t 23) (.k (.d (.int .i64 1)))⟩,
⟨some 25, (some (21, true)), .idxAddr 14 (.t 22) (.t 24)⟩,
⟨some 26, (some (21, true)), .fieldAddr 0 (.t 25)⟩,
⟨some 27, (some (21, true)), .load none (.t 26)⟩,
⟨some 28, (some (21, true)), .bin .eql (.t 27) (.k (.d (.str [67])))⟩,
⟨some 29, none, .pick (.t 21) (.t 28) (.k (.d (.bool false)))⟩,
⟨some 8, none, .mv (.t 29)⟩] [19, 20, 21, 22, 23, 24, 25, 26, 27, 28, 29])
(.seq (.reg true [
⟨some 30, none, .mv (.t 8)⟩,
⟨some 31, none, .mv (.t 30)⟩,
⟨some 32, (some (31, true)), .fieldAddr 0 (.t 7)⟩,
⟨some 33, (some (31, true)), .load none (.t 32)⟩,
⟨some 34, (some (31, true)), .bin .eql (.t 33) (.k (.d (.str [82])))⟩,
⟨some 35, none, .pick (.t 31) (.t 34) (.k (.d (.bool false)))⟩,
⟨some 36, none, .mv (.t 35)⟩,
⟨some 37, (some (36, true)), .mv (.t 1)⟩,
⟨some 38, (some (36, true)), .mv (.t 6)⟩,
⟨some 39, (some (36, true)), .bin .sub (.t 38) (.k (.d (.int .i64 1)))⟩,
⟨some 40, (some (36, true)), .idxAddr 14 (.t 37) (.t 39)⟩,
⟨some 41, (some (36, true)), .fieldAddr 1 (.t 40)⟩,
⟨some 42, (some (36, true)), .load (some 13) (.t 41)⟩,
⟨some 43, (some (36, true)), .fieldAddr 1 (.t 7)⟩,
⟨some 44, (some (36, true)), .load (some 13) (.t 43)⟩,
⟨some 45, (some (36, true)), .call false true (.k (.fn n_message_twins [] [])) [.t 42, .t 44]⟩,
⟨some 46, none, .pick (.t 36) (.t 45) (.k (.d (.bool false)))⟩,
⟨some 9, none, .mv (.t 46)⟩] [30, 31, 32, 33, 34, 35, 36, 37, 38, 39, 40, 41, 42, 43, 44, 45, 46])
(.seq (.reg true [
⟨some 47, none, .load (some 14) (.t 7)⟩,
⟨some 48, none, .call false true (.k (.fn n_message_CheckLine [] [])) [.t 47]⟩,
⟨some 49, none, .call false false (.k (.fn n_message_actions [] [])) []⟩,
⟨some 50, none, .fieldAddr 0 (.t 7)⟩,
⟨some 51, none, .load none (.t 50)⟩,
⟨some 52, none, .lookup .str (.str []) false (.t 49) (.t 51)⟩,
⟨some 53, none, .mv (.t 0)⟩,
⟨some 54, none, .bin .neq (.t 52) (.t 53)⟩,
⟨some 55, none, .call false true (.k (.fn n_message_when [] [])) [.t 54, .k (.d (.int .i64 18))]⟩,
⟨some 56, none, .mv (.t 8)⟩,
⟨some 57, none, .mv (.t 56)⟩,
⟨some 58, (some (57, false)), .fieldAddr 0 (.t 7)⟩,
⟨some 59, (some (57, false)), .load none (.t 58)⟩,
⟨some 60, (some (57, false)), .bin .eql (.t 59) (.k (.d (.str [82])))⟩,
⟨some 61, none, .pick (.t 57) (.k (.d (.bool true))) (.t 60)⟩,
⟨some 62, none, .mv (.t 61)⟩,
⟨some 63, (some (62, true)), .mv (.t 9)⟩,
⟨some 64, (some (62, true)), .un .not (.t 63)⟩,
⟨some 65, none, .pick (.t 62) (.t 64) (.k (.d (.bool false)))⟩,
⟨some 66, none, .call false true (.k (.fn n_message_when [] [])) [.t 65, .k (.d (.int .i64 11))]⟩,
⟨some 67, none, .mkList 1 3 [.t 48, .t 55, .t 66]⟩,
⟨some 68, none, .call false true (.k (.fn n_message_first [] [])) [.t 67]⟩,
⟨some 10, none, .mv (.t 68)⟩] [7, 8, 9, 47, 48, 49, 50, 51, 52, 53, 54, 55, 56, 57, 58, 59, 60, 61, 62, 63, 64, 65, 66, 67, 68])
(.seq (.reg false [
⟨some 69, none, .mv (.t 10)⟩,
⟨some 70, none, .bin .neq (.t 69) (.k (.d (.int .i64 0)))⟩] [69])
(.cond (.t 70) (.seq (.reg false [
⟨some 71, none, .mv (.t 6)⟩,
⟨some 72, none, .mv (.t 10)⟩,
⟨some 4, none, .mv (.t 71)⟩,
⟨some 5, none, .mv (.t 72)⟩] [6, 10, 71, 72])
.ret)
 .skip)))))))
(.reg false [
⟨some 73, none, .bin .add (.t 14) (.k (.d (.int .i64 1)))⟩,
⟨some 14, none, .mv (.t 73)⟩] [73]))))

/-- "turnround/message.checkLines" -/
def c_message_checkLines : CF := ⟨[.tmp 4, .tmp 5],
  (.seq (.reg false [
⟨some 4, none, .mv (.k (.d (.int .i64 0)))⟩,
⟨some 5, none, .mv (.k (.d (.int .i64 0)))⟩] [4, 5])
(.seq (.seq (.reg false [
⟨some 12, none, .mv (.t 1)⟩,
⟨some 13, none, .len .slc (.t 12)⟩,
⟨some 14, none, .mv (.k (.d (.int .i64 0)))⟩] [])
(.block 0 (.loop [0, 1, 12, 13, 14] b_message_checkLines_1)))
(.seq (.seq (.reg false [
⟨some 74, none, .mv (.t 1)⟩,
⟨some 75, none, .len .slc (.t 74)⟩,
⟨some 11, none, .mv (.t 75)⟩] [74, 75])
(.seq (.reg false [
⟨some 76, none, .mv (.t 11)⟩,
⟨some 77, none, .bin .gtr (.t 76) (.k (.d (.int .i64 0)))⟩,
⟨some 78, none, .mv (.t 77)⟩,
⟨some 79, (some (78, true)), .mv (.t 1)⟩,
⟨some 80, (some (78, true)), .mv (.t 11)⟩,
⟨some 81, (some (78, true)), .bin .sub (.t 80) (.k (.d (.int .i64 1)))⟩,
⟨some 82, (some (78, true)), .idxAddr 14 (.t 79) (.t 81)⟩,
⟨some 83, (some (78, true)), .fieldAddr 0 (.t 82)⟩,
⟨some 84, (some (78, true)), .load none (.t 83)⟩,
⟨some 85, (some (78, true)), .bin .eql (.t 84) (.k (.d (.str [67])))⟩,
⟨some 86, none, .pick (.t 78) (.t 85) (.k (.d (.bool false)))⟩] [1, 76, 77, 78, 79, 80, 81, 82, 83, 84, 85])
(.cond (.t 86) (.seq (.reg false [
⟨some 87, none, .mv (.t 11)⟩,
⟨some 88, none, .bin .sub (.t 87) (.k (.d (.int .i64 1)))⟩,
⟨some 4, none, .mv (.t 88)⟩,
⟨some 5, none, .mv (.k (.d (.int .i64 11)))⟩] [11, 87, 88])
.ret)
 .skip)))
(.seq (.reg false [
⟨some 4, none, .mv (.k (.d (.int .i64 0)))⟩,
⟨some 5, none, .mv (.k (.d (.int .i64 0)))⟩] [])
.ret))))⟩

/-- "turnround/message.texts" -/
def c_message_texts : CF := ⟨[.tmp 2],
  (.seq (.reg false [
⟨some 1, none, .box ty_string (.t 0)⟩,
⟨some 2, none, .mv (.k (.d (.nilf)))⟩] [0, 2])
(.seq (.reg false [
⟨some 3, none, .mkFunc n_message_texts_1 [] [.t 1]⟩,
⟨some 2, none, .mv (.t 3)⟩] [1, 3])
.ret))⟩

/-- "strings.CutSuffix" -/
def c_strings_CutSuffix : CF := ⟨[.tmp 4, .tmp 5],
  (.seq (.reg false [
⟨some 4, none, .mv (.k (.d (.str [])))⟩,
⟨some 5, none, .mv (.k (.d (.bool false)))⟩] [4, 5])
(.seq (.reg false [
⟨some 6, none, .mv (.t 0)⟩,
⟨some 7, none, .mv (.t 1)⟩,
⟨some 8, none, .call false true (.k (.fn n_internal_stringslite_CutSuffix [] [])) [.t 6, .t 7]⟩,
⟨some 9, none, .extract (.t 8) 0⟩,
⟨some 10, none, .extract (.t 8) 1⟩,
⟨some 4, none, .mv (.t 9)⟩,
⟨some 5, none, .mv (.t 10)⟩] [0, 1, 6, 7, 8, 9, 10])
.ret))⟩

/-- "turnround/message.head" -/
def c_message_head : CF := ⟨[.cell 2 (some 5), .tmp 3],
  (.seq (.reg false [
⟨some 2, none, .alloc ty_message_Message [.z (.str []), .z (.str []), .z (.str []), .z (.int .i64 0), .own ⟨false, ty_message_Line, 14, 168⟩]⟩,
⟨some 3, none, .mv (.k (.d (.bool false)))⟩] [3])
(.seq (.reg false [
⟨some 10, none, .mv (.t 0)⟩,
⟨some 11, none, .call false true (.k (.fn n_strings_CutSuffix [] [])) [.t 10, .k (.d (.str [10]))]⟩,
⟨some 9, none, .mv (.t 11)⟩,
⟨some 12, none, .extract (.t 9) 0⟩,
⟨some 13, none, .extract (.t 9) 1⟩,
⟨some 4, none, .mv (.t 12)⟩,
⟨some 5, none, .mv (.t 13)⟩] [0, 9, 10, 11, 12, 13])
(.seq (.reg false [
⟨some 14, none, .mv (.t 4)⟩,
⟨some 15, none, .call false true (.k (.fn n_strings_Split [] [])) [.t 14, .k (.d (.str [32]))]⟩,
⟨some 6, none, .mv (.t 15)⟩] [4, 14, 15])
(.seq (.seq (.reg false [
⟨some 16, none, .mv (.t 5)⟩,
⟨some 17, none, .un .not (.t 16)⟩,
⟨some 18, none, .mv (.t 17)⟩,
⟨some 19, (some (18, false)), .mv (.t 6)⟩,
⟨some 20, (some (18, false)), .len .slc (.t 19)⟩,
⟨some 21, (some (18, false)), .bin .neq (.t 20) (.k (.d (.int .i64 5)))⟩,
⟨some 22, none, .pick (.t 18) (.k (.d (.bool true))) (.t 21)⟩,
⟨some 23, none, .mv (.t 22)⟩,
⟨some 24, (some (23, false)), .mv (.t 6)⟩,
⟨some 25, (some (23, false)), .idxAddr 1 (.t 24) (.k (.d (.int .i64 0)))⟩,
⟨some 26, (some (23, false)), .load none (.t 25)⟩,
⟨some 27, (some (23, false)), .bin .neq (.t 26) (.k (.d (.str [83, 76, 79, 84, 83])))⟩,
⟨some 28, none, .pick (.t 23) (.k (.d (.bool true))) (.t 27)⟩,
⟨some 29, none, .mv (.t 28)⟩,
⟨some 30, (some (29, false)), .mv (.t 6)⟩,
⟨some 31, (some (29, false)), .idxAddr 1 (.t 30) (.k (.d (.int .i64 1)))⟩,
⟨some 32, (some (29, false)), .load none (.t 31)⟩,
⟨some 33, (some (29, false)), .call false true (.k (.fn n_message_isMessage [] [])) [.t 32]⟩,
⟨some 34, (some (29, false)), .un .not (.t 33)⟩,
⟨some 35, none, .pick (.t 29) (.k (.d (.bool true))) (.t 34)⟩] [5, 16, 17, 18, 19, 20, 21, 22, 23, 24, 25, 26, 27, 28, 29, 30, 31, 32, 33, 34])
(.cond (.t 35) (.seq (.reg false [
⟨some 36, none, .build [.z (.str []), .z (.str []), .z (.str []), .z (.int .i64 0), .own ⟨false, ty_message_Line, 14, 168⟩] []⟩,
⟨none, none, .store 5 (.t 2) (.t 36)⟩,
⟨some 3, none, .mv (.k (.d (.bool false)))⟩] [36])
.ret)
 .skip))
(.seq (.reg false [
⟨some 38, none, .mv (.t 6)⟩,
⟨some 39, none, .idxAddr 1 (.t 38) (.k (.d (.int .i64 4)))⟩,
⟨some 40, none, .load none (.t 39)⟩,
⟨some 41, none, .call false true (.k (.fn n_message_number [] [])) [.t 40, .k (.d (.int .i64 5))]⟩,
⟨some 37, none, .mv (.t 41)⟩,
⟨some 42, none, .extract (.t 37) 0⟩,
⟨some 43, none, .extract (.t 37) 1⟩,
⟨some 7, none, .mv (.t 42)⟩,
⟨some 8, none, .mv (.t 43)⟩] [37, 38, 39, 40, 41, 42, 43])
(.seq (.reg true [
⟨some 44, none, .mv (.t 6)⟩,
⟨some 45, none, .idxAddr 1 (.t 44) (.k (.d (.int .i64 1)))⟩,
⟨some 46, none, .load none (.t 45)⟩,
⟨some 47, none, .mv (.t 6)⟩,
⟨some 48, none, .idxAddr 1 (.t 47) (.k (.d (.int .i64 2)))⟩,
⟨some 49, none, .load none (.t 48)⟩,
⟨some 50, none, .mv (.t 6)⟩,
⟨some 51, none, .idxAddr 1 (.t 50) (.k (.d (.int .i64 3)))⟩,
⟨some 52, none, .load none (.t 51)⟩,
⟨some 53, none, .mv (.t 7)⟩,
⟨some 54, none, .build [.z (.str []), .z (.str []), .z (.str []), .z (.int .i64 0), .own ⟨false, ty_message_Line, 14, 168⟩] [(0, 1, .t 46), (1, 1, .t 49), (2, 1, .t 52), (3, 1, .t 53)]⟩,
⟨some 55, none, .mv (.t 8)⟩,
⟨some 56, none, .mv (.t 55)⟩,
⟨some 57, (some (56, true)), .mv (.t 6)⟩,
⟨some 58, (some (56, true)), .idxAddr 1 (.t 57) (.k (.d (.int .i64 2)))⟩,
⟨some 59, (some (56, true)), .load none (.t 58)⟩,
⟨some 60, (some (56, true)), .mv (.t 6)⟩,
⟨some 61, (some (56, true)), .idxAddr 1 (.t 60) (.k (.d (.int .i64 3)))⟩,
⟨some 62, (some (56, true)), .load none (.t 61)⟩,
⟨some 63, (some (56, true)), .mv (.t 7)⟩,
⟨some 64, (some (56, true)), .call false true (.k (.fn n_message_checkHead [] [])) [.t 59, .t 62, .t 63]⟩,
⟨some 65, (some (56, true)), .bin .eql (.t 64) (.k (.d (.int .i64 0)))⟩,
⟨some 66, none, .pick (.t 56) (.t 65) (.k (.d (.bool false)))⟩,
⟨none, none, .store 5 (.t 2) (.t 54)⟩,
⟨some 3, none, .mv (.t 66)⟩] [6, 7, 8, 44, 45, 46, 47, 48, 49, 50, 51, 52, 53, 54, 55, 56, 57, 58, 59, 60, 61, 62, 63, 64, 65, 66])
.ret))))))⟩

def b_message_number_1 : C :=
  (.seq (.reg false [
⟨some 15, none, .nextS (.t 14)⟩,
⟨some 16, none, .extract (.t 15) 0⟩] [])
(.seq (.cond (.t 16) .skip
 (.exit 0))
(.block 1 (.seq (.reg false [
⟨some 17, none, .extract (.t 15) 2⟩,
⟨some 8, none, .mv (.t 17)⟩] [15, 17])
(.seq (.seq (.reg false [
⟨some 18, none, .mv (.t 8)⟩,
⟨some 19, none, .bin .lss (.t 18) (.k (.d (.int .i32 48)))⟩,
⟨some 20, none, .mv (.t 19)⟩,
⟨some 21, (some (20, false)), .mv (.t 8)⟩,
⟨some 22, (some (20, false)), .bin .gtr (.t 21) (.k (.d (.int .i32 57)))⟩,
⟨some 23, none, .pick (.t 20) (.k (.d (.bool true))) (.t 22)⟩] [18, 19, 20, 21, 22])
(.cond (.t 23) (.seq (.reg false [
⟨some 4, none, .mv (.k (.d (.int .i64 0)))⟩,
⟨some 5, none, .mv (.k (.d (.bool false)))⟩] [])
.ret)
 .skip))
(.reg false [
⟨some 24, none, .mv (.t 6)⟩,
⟨some 25, none, .bin .mul (.k (.d (.int .i64 10))) (.t 24)⟩,
⟨some 26, none, .mv (.t 8)⟩,
⟨some 27, none, .bin .sub (.t 26) (.k (.d (.int .i32 48)))⟩,
⟨some 28, none, .conv .i64 (.t 27)⟩,
⟨some 29, none, .bin .add (.t 25) (.t 28)⟩,
⟨some 6, none, .mv (.t 29)⟩] [8, 24, 25, 26, 27, 28, 29]))))))

/-- "turnround/message.number" -/
def c_message_number : CF := ⟨[.tmp 4, .tmp 5],
  (.seq (.reg false [
⟨some 4, none, .mv (.k (.d (.int .i64 0)))⟩,
⟨some 5, none, .mv (.k (.d (.bool false)))⟩] [4, 5])
(.seq (.seq (.reg false [
⟨some 9, none, .mv (.t 0)⟩,
⟨some 10, none, .len .str (.t 9)⟩,
⟨some 11, none, .mv (.t 1)⟩,
⟨some 12, none, .bin .neq (.t 10) (.t 11)⟩] [1, 9, 10, 11])
(.cond (.t 12) (.seq (.reg false [
⟨some 4, none, .mv (.k (.d (.int .i64 0)))⟩,
⟨some 5, none, .mv (.k (.d (.bool false)))⟩] [])
.ret)
 .skip))
(.seq (.reg false [
⟨some 6, none, .mv (.k (.d (.int .i64 0)))⟩] [])
(.seq (.seq (.reg false [
⟨some 13, none, .mv (.t 0)⟩,
⟨some 14, none, .rangeS (.t 13)⟩] [0, 13])
(.block 0 (.loop [6, 14] b_message_number_1)))
(.seq (.reg false [
⟨some 30, none, .mv (.t 6)⟩,
⟨some 4, none, .mv (.t 30)⟩,
⟨some 5, none, .mv (.k (.d (.bool true)))⟩] [6, 30])
.ret)))))⟩

def b_ref02_pieces_1 : C :=
  (.seq (.seq (.reg false [
⟨some 6, none, .mv (.t 5)⟩,
⟨some 7, none, .mv (.t 0)⟩,
⟨some 8, none, .len .str (.t 7)⟩,
⟨some 9, none, .bin .lss (.t 6) (.t 8)⟩] [6, 7, 8])
(.cond (.t 9) .skip
 (.exit 0)))
(.seq (.block 1 (.seq (.reg false [
⟨some 12, none, .mv (.t 0)⟩,
⟨some 13, none, .mv (.t 5)⟩,
⟨some 14, none, .idxS (.t 12) (.t 13)⟩,
⟨some 15, none, .bin .eql (.t 14) (.k (.d (.int .u8 10)))⟩] [12, 13, 14])
(.cond (.t 15) (.seq (.reg false [
⟨some 16, none, .mv (.t 3)⟩,
⟨some 17, none, .mv (.t 0)⟩,
⟨some 18, none, .mv (.t 4)⟩,
⟨some 19, none, .mv (.t 5)⟩,
⟨some 20, none, .bin .add (.t 19) (.k (.d (.int .i64 1)))⟩,
⟨some 21, none, .sliceS (.t 17) (some (.t 18)) (some (.t 20))⟩,
⟨some 22, none, .mkList 1 1 [.t 21]⟩,
⟨some 23, none, .append ⟨false, ty_string, 1, 16⟩ (.t 16) (.t 22)⟩,
⟨some 3, none, .mv (.t 23)⟩] [4, 16, 17, 18, 19, 20, 21, 22, 23])
(.reg false [
⟨some 24, none, .mv (.t 5)⟩,
⟨some 25, none, .bin .add (.t 24) (.k (.d (.int .i64 1)))⟩,
⟨some 4, none, .mv (.t 25)⟩] [24, 25]))
 .skip)))
(.reg false [
⟨some 10, none, .mv (.t 5)⟩,
⟨some 11, none, .bin .add (.t 10) (.k (.d (.int .i64 1)))⟩,
⟨some 5, none, .mv (.t 11)⟩] [10, 11])))

/-- "turnround/turnroundref02.pieces" -/
def c_ref02_pieces : CF := ⟨[.tmp 2],
  (.seq (.reg false [
⟨some 2, none, .ownNil ⟨false, ty_string, 1, 16⟩⟩] [2])
(.seq (.reg false [
⟨some 3, none, .ownNil ⟨false, ty_string, 1, 16⟩⟩] [])
(.seq (.reg false [
⟨some 4, none, .mv (.k (.d (.int .i64 0)))⟩] [])
(.seq (.seq (.reg false [
⟨some 5, none, .mv (.k (.d (.int .i64 0)))⟩] [])
(.block 0 (.loop [0, 3, 4, 5] b_ref02_pieces_1)))
(.seq (.seq (.reg false [
⟨some 26, none, .mv (.t 4)⟩,
⟨some 27, none, .mv (.t 0)⟩,
⟨some 28, none, .len .str (.t 27)⟩,
⟨some 29, none, .bin .lss (.t 26) (.t 28)⟩] [26, 27, 28])
(.cond (.t 29) (.reg false [
⟨some 30, none, .mv (.t 3)⟩,
⟨some 31, none, .mv (.t 0)⟩,
⟨some 32, none, .mv (.t 4)⟩,
⟨some 33, none, .sliceS (.t 31) (some (.t 32)) none⟩,
⟨some 34, none, .mkList 1 1 [.t 33]⟩,
⟨some 35, none, .append ⟨false, ty_string, 1, 16⟩ (.t 30) (.t 34)⟩,
⟨some 3, none, .mv (.t 35)⟩] [0, 4, 30, 31, 32, 33, 34, 35])
 .skip))
(.seq (.reg false [
⟨some 36, none, .mv (.t 3)⟩,
⟨some 2, none, .mv (.t 36)⟩] [3, 36])
.ret))))))⟩

/-- "turnround/turnroundref02.head" -/
def c_ref02_head : CF := ⟨[.cell 2 (some 5), .tmp 3],
  (.seq (.reg false [
⟨some 2, none, .alloc ty_turnroundref02_Message [.z (.str []), .z (.str []), .z (.str []), .z (.int .i64 0), .own ⟨false, ty_turnroundref02_Line, 14, 168⟩]⟩,
⟨some 3, none, .mv (.k (.d (.bool false)))⟩] [3])
(.seq (.reg false [
⟨some 9, none, .mv (.t 0)⟩,
⟨some 10, none, .call false true (.k (.fn n_ref02_ended [] [])) [.t 9]⟩,
⟨some 8, none, .mv (.t 10)⟩,
⟨some 11, none, .extract (.t 8) 0⟩,
⟨some 12, none, .extract (.t 8) 1⟩,
⟨some 4, none, .mv (.t 11)⟩,
⟨some 5, none, .mv (.t 12)⟩] [0, 8, 9, 10, 11, 12])
(.seq (.reg false [
⟨some 13, none, .mv (.t 4)⟩,
⟨some 14, none, .call false true (.k (.fn n_ref02_split [] [])) [.t 13]⟩,
⟨some 6, none, .mv (.t 14)⟩] [4, 13, 14])
(.seq (.seq (.reg false [
⟨some 15, none, .mv (.t 5)⟩,
⟨some 16, none, .un .not (.t 15)⟩,
⟨some 17, none, .mv (.t 16)⟩,
⟨some 18, (some (17, false)), .mv (.t 6)⟩,
⟨some 19, (some (17, false)), .len .slc (.t 18)⟩,
⟨some 20, (some (17, false)), .bin .neq (.t 19) (.k (.d (.int .i64 5)))⟩,
⟨some 21, none, .pick (.t 17) (.k (.d (.bool true))) (.t 20)⟩,
⟨some 22, none, .mv (.t 21)⟩,
⟨some 23, (some (22, false)), .mv (.t 6)⟩,
⟨some 24, (some (22, false)), .idxAddr 1 (.t 23) (.k (.d (.int .i64 0)))⟩,
⟨some 25, (some (22, false)), .load none (.t 24)⟩,
⟨some 26, (some (22, false)), .bin .neq (.t 25) (.k (.d (.str [83, 76, 79, 84, 83])))⟩,
⟨some 27, none, .pick (.t 22) (.k (.d (.bool true))) (.t 26)⟩,
⟨some 28, none, .mv (.t 27)⟩,
⟨some 29, (some (28, false)), .mv (.t 6)⟩,
⟨some 30, (some (28, false)), .idxAddr 1 (.t 29) (.k (.d (.int .i64 1)))⟩,
⟨some 31, (some (28, false)), .load none (.t 30)⟩,
⟨some 32, (some (28, false)), .bin .neq (.t 31) (.k (.d (.str [82, 69, 81])))⟩,
⟨some 33, (some (28, false)), .mv (.t 32)⟩,
⟨some 34, (some (33, true)), .mv (.t 6)⟩,
⟨some 35, (some (33, true)), .idxAddr 1 (.t 34) (.k (.d (.int .i64 1)))⟩,
⟨some 36, (some (33, true)), .load none (.t 35)⟩,
⟨some 37, (some (33, true)), .bin .neq (.t 36) (.k (.d (.str [65, 78, 83])))⟩,
⟨some 38, (some (28, false)), .pick (.t 33) (.t 37) (.k (.d (.bool false)))⟩,
⟨some 39, none, .pick (.t 28) (.k (.d (.bool true))) (.t 38)⟩] [5, 15, 16, 17, 18, 19, 20, 21, 22, 23, 24, 25, 26, 27, 28, 29, 30, 31, 32, 33, 34, 35, 36, 37, 38])
(.cond (.t 39) (.seq (.reg false [
⟨some 40, none, .build [.z (.str []), .z (.str []), .z (.str []), .z (.int .i64 0), .own ⟨false, ty_turnroundref02_Line, 14, 168⟩] []⟩,
⟨none, none, .store 5 (.t 2) (.t 40)⟩,
⟨some 3, none, .mv (.k (.d (.bool false)))⟩] [40])
.ret)
 .skip))
(.seq (.reg true [
⟨some 41, none, .mv (.t 6)⟩,
⟨some 42, none, .idxAddr 1 (.t 41) (.k (.d (.int .i64 1)))⟩,
⟨some 43, none, .load none (.t 42)⟩,
⟨some 44, none, .mv (.t 6)⟩,
⟨some 45, none, .idxAddr 1 (.t 44) (.k (.d (.int .i64 2)))⟩,
⟨some 46, none, .load none (.t 45)⟩,
⟨some 47, none, .mv (.t 6)⟩,
⟨some 48, none, .idxAddr 1 (.t 47) (.k (.d (.int .i64 3)))⟩,
⟨some 49, none, .load none (.t 48)⟩,
⟨some 50, none, .mv (.t 6)⟩,
⟨some 51, none, .idxAddr 1 (.t 50) (.k (.d (.int .i64 4)))⟩,
⟨some 52, none, .load none (.t 51)⟩,
⟨some 53, none, .call false true (.k (.fn n_ref02_digits [] [])) [.t 52, .k (.d (.int .i64 5))]⟩,
⟨some 54, none, .build [.z (.str []), .z (.str []), .z (.str []), .z (.int .i64 0), .z (.nil)] [(0, 1, .t 43), (1, 1, .t 46), (2, 1, .t 49), (3, 1, .t 53)]⟩,
⟨some 7, none, .alloc ty_turnroundref02_Message [.z (.str []), .z (.str []), .z (.str []), .z (.int .i64 0), .own ⟨false, ty_turnroundref02_Line, 14, 168⟩]⟩,
⟨none, none, .store 5 (.t 7) (.t 54)⟩] [6, 41, 42, 43, 44, 45, 46, 47, 48, 49, 50, 51, 52, 53, 54])
(.seq (.reg true [
⟨some 55, none, .load (some 5) (.t 7)⟩,
⟨some 56, none, .fieldAddr 1 (.t 7)⟩,
⟨some 57, none, .load none (.t 56)⟩,
⟨some 58, none, .fieldAddr 2 (.t 7)⟩,
⟨some 59, none, .load none (.t 58)⟩,
⟨some 60, none, .fieldAddr 3 (.t 7)⟩,
⟨some 61, none, .load none (.t 60)⟩,
⟨some 62, none, .call false true (.k (.fn n_ref02_CheckHead [] [])) [.t 57, .t 59, .t 61]⟩,
⟨some 63, none, .bin .eql (.t 62) (.k (.d (.int .i64 0)))⟩,
⟨none, none, .store 5 (.t 2) (.t 55)⟩,
⟨some 3, none, .mv (.t 63)⟩] [7, 55, 56, 57, 58, 59, 60, 61, 62, 63])
.ret))))))⟩

/-- "turnround/turnroundref02.ended" -/
def c_ref02_ended : CF := ⟨[.tmp 2, .tmp 3],
  (.seq (.reg false [
⟨some 2, none, .mv (.k (.d (.str [])))⟩,
⟨some 3, none, .mv (.k (.d (.bool false)))⟩] [2, 3])
(.seq (.seq (.reg false [
⟨some 4, none, .mv (.t 0)⟩,
⟨some 5, none, .len .str (.t 4)⟩,
⟨some 6, none, .bin .eql (.t 5) (.k (.d (.int .i64 0)))⟩,
⟨some 7, none, .mv (.t 6)⟩,
⟨some 8, (some (7, false)), .mv (.t 0)⟩,
⟨some 9, (some (7, false)), .mv (.t 0)⟩,
⟨some 10, (some (7, false)), .len .str (.t 9)⟩,
⟨some 11, (some (7, false)), .bin .sub (.t 10) (.k (.d (.int .i64 1)))⟩,
⟨some 12, (some (7, false)), .idxS (.t 8) (.t 11)⟩,
⟨some 13, (some (7, false)), .bin .neq (.t 12) (.k (.d (.int .u8 10)))⟩,
⟨some 14, none, .pick (.t 7) (.k (.d (.bool true))) (.t 13)⟩] [4, 5, 6, 7, 8, 9, 10, 11, 12, 13])
(.cond (.t 14) (.seq (.reg false [
⟨some 15, none, .mv (.t 0)⟩,
⟨some 2, none, .mv (.t 15)⟩,
⟨some 3, none, .mv (.k (.d (.bool false)))⟩] [0, 15])
.ret)
 .skip))
(.seq (.reg false [
⟨some 16, none, .mv (.t 0)⟩,
⟨some 17, none, .mv (.t 0)⟩,
⟨some 18, none, .len .str (.t 17)⟩,
⟨some 19, none, .bin .sub (.t 18) (.k (.d (.int .i64 1)))⟩,
⟨some 20, none, .sliceS (.t 16) none (some (.t 19))⟩,
⟨some 2, none, .mv (.t 20)⟩,
⟨some 3, none, .mv (.k (.d (.bool true)))⟩] [0, 16, 17, 18, 19, 20])
.ret)))⟩

def b_ref02_split_1 : C :=
  (.seq (.seq (.reg false [
⟨some 6, none, .mv (.t 5)⟩,
⟨some 7, none, .mv (.t 0)⟩,
⟨some 8, none, .len .str (.t 7)⟩,
⟨some 9, none, .bin .leq (.t 6) (.t 8)⟩] [6, 7, 8])
(.cond (.t 9) .skip
 (.exit 0)))
(.seq (.block 1 (.seq (.reg false [
⟨some 12, none, .mv (.t 5)⟩,
⟨some 13, none, .mv (.t 0)⟩,
⟨some 14, none, .len .str (.t 13)⟩,
⟨some 15, none, .bin .eql (.t 12) (.t 14)⟩,
⟨some 16, none, .mv (.t 15)⟩,
⟨some 17, (some (16, false)), .mv (.t 0)⟩,
⟨some 18, (some (16, false)), .mv (.t 5)⟩,
⟨some 19, (some (16, false)), .idxS (.t 17) (.t 18)⟩,
⟨some 20, (some (16, false)), .bin .eql (.t 19) (.k (.d (.int .u8 32)))⟩,
⟨some 21, none, .pick (.t 16) (.k (.d (.bool true))) (.t 20)⟩] [12, 13, 14, 15, 16, 17, 18, 19, 20])
(.cond (.t 21) (.seq (.reg false [
⟨some 22, none, .mv (.t 3)⟩,
⟨some 23, none, .mv (.t 0)⟩,
⟨some 24, none, .mv (.t 4)⟩,
⟨some 25, none, .mv (.t 5)⟩,
⟨some 26, none, .sliceS (.t 23) (some (.t 24)) (some (.t 25))⟩,
⟨some 27, none, .mkList 1 1 [.t 26]⟩,
⟨some 28, none, .append ⟨false, ty_string, 1, 16⟩ (.t 22) (.t 27)⟩,
⟨some 3, none, .mv (.t 28)⟩] [4, 22, 23, 24, 25, 26, 27, 28])
(.reg false [
⟨some 29, none, .mv (.t 5)⟩,
⟨some 30, none, .bin .add (.t 29) (.k (.d (.int .i64 1)))⟩,
⟨some 4, none, .mv (.t 30)⟩] [29, 30]))
 .skip)))
(.reg false [
⟨some 10, none, .mv (.t 5)⟩,
⟨some 11, none, .bin .add (.t 10) (.k (.d (.int .i64 1)))⟩,
⟨some 5, none, .mv (.t 11)⟩] [10, 11])))

/-- "turnround/turnroundref02.split" -/
def c_ref02_split : CF := ⟨[.tmp 2],
  (.seq (.reg false [
⟨some 2, none, .ownNil ⟨false, ty_string, 1, 16⟩⟩] [2])
(.seq (.reg false [
⟨some 3, none, .ownNil ⟨false, ty_string, 1, 16⟩⟩] [])
(.seq (.reg false [
⟨some 4, none, .mv (.k (.d (.int .i64 0)))⟩] [])
(.seq (.seq (.reg false [
⟨some 5, none, .mv (.k (.d (.int .i64 0)))⟩] [])
(.block 0 (.loop [0, 3, 4, 5] b_ref02_split_1)))
(.seq (.reg false [
⟨some 31, none, .mv (.t 3)⟩,
⟨some 2, none, .mv (.t 31)⟩] [3, 31])
.ret)))))⟩

def b_ref02_ParseLine_1 : C :=
  (.seq (.seq (.reg false [
⟨some 21, none, .mv (.t 6)⟩,
⟨some 22, none, .bin .lss (.t 21) (.k (.d (.int .i64 14)))⟩] [21])
(.cond (.t 22) .skip
 (.exit 0)))
(.seq (.block 1 (.seq (.reg false [
⟨some 25, none, .mv (.t 6)⟩,
⟨some 26, none, .mv (.t 5)⟩,
⟨some 27, none, .mv (.t 6)⟩,
⟨some 28, none, .idxAddr 1 (.t 26) (.t 27)⟩,
⟨some 29, none, .load none (.t 28)⟩,
⟨some 30, none, .call false true (.k (.fn n_ref02_fits [] [])) [.t 25, .t 29]⟩,
⟨some 31, none, .un .not (.t 30)⟩] [25, 26, 27, 28, 29, 30])
(.cond (.t 31) (.seq (.reg false [
⟨some 32, none, .build [.z (.str []), .z (.str []), .z (.str []), .z (.str []), .z (.str []), .z (.str []), .z (.str []), .z (.int .i64 0), .z (.int .i64 0), .z (.int .i64 0), .z (.int .i64 0), .z (.int .i64 0), .z (.int .i64 0), .z (.int .i64 0)] []⟩,
⟨some 33, none, .mv (.t 6)⟩,
⟨none, none, .store 14 (.t 2) (.t 32)⟩,
⟨some 3, none, .mv (.t 33)⟩,
⟨some 4, none, .mv (.k (.d (.int .i64 25)))⟩] [6, 32, 33])
.ret)
 .skip)))
(.reg false [
⟨some 23, none, .mv (.t 6)⟩,
⟨some 24, none, .bin .add (.t 23) (.k (.d (.int .i64 1)))⟩,
⟨some 6, none, .mv (.t 24)⟩] [23, 24])))

/-- "turnround/turnroundref02.ParseLine" -/
def c_ref02_ParseLine : CF := ⟨[.cell 2 (some 14), .tmp 3, .tmp 4],
  (.seq (.reg false [
⟨some 2, none, .alloc ty_turnroundref02_Line [.z (.str []), .z (.str []), .z (.str []), .z (.str []), .z (.str []), .z (.str []), .z (.str []), .z (.int .i64 0), .z (.int .i64 0), .z (.int .i64 0), .z (.int .i64 0), .z (.int .i64 0), .z (.int .i64 0), .z (.int .i64 0)]⟩,
⟨some 3, none, .mv (.k (.d (.int .i64 0)))⟩,
⟨some 4, none, .mv (.k (.d (.int .i64 0)))⟩] [3, 4])
(.seq (.reg false [
⟨some 12, none, .mv (.t 0)⟩,
⟨some 13, none, .call false true (.k (.fn n_ref02_split [] [])) [.t 12]⟩,
⟨some 5, none, .mv (.t 13)⟩] [0, 12, 13])
(.seq (.seq (.reg false [
⟨some 14, none, .mv (.t 5)⟩,
⟨some 15, none, .len .slc (.t 14)⟩,
⟨some 16, none, .bin .neq (.t 15) (.k (.d (.int .i64 14)))⟩] [14, 15])
(.cond (.t 16) (.seq (.reg false [
⟨some 17, none, .build [.z (.str []), .z (.str []), .z (.str []), .z (.str []), .z (.str []), .z (.str []), .z (.str []), .z (.int .i64 0), .z (.int .i64 0), .z (.int .i64 0), .z (.int .i64 0), .z (.int .i64 0), .z (.int .i64 0), .z (.int .i64 0)] []⟩,
⟨some 18, none, .mv (.t 5)⟩,
⟨some 19, none, .len .slc (.t 18)⟩,
⟨some 20, none, .minmax false [.t 19, .k (.d (.int .i64 13))]⟩,
⟨none, none, .store 14 (.t 2) (.t 17)⟩,
⟨some 3, none, .mv (.t 20)⟩,
⟨some 4, none, .mv (.k (.d (.int .i64 25)))⟩] [5, 17, 18, 19, 20])
.ret)
 .skip))
(.seq (.seq (.reg false [
⟨some 6, none, .mv (.k (.d (.int .i64 0)))⟩] [])
(.block 0 (.loop [2, 5, 6] b_ref02_ParseLine_1)))
(.seq (.reg false [
⟨some 35, none, .mv (.t 5)⟩,
⟨some 36, none, .idxAddr 1 (.t 35) (.k (.d (.int .i64 7)))⟩,
⟨some 37, none, .load none (.t 36)⟩,
⟨some 38, none, .call false true (.k (.fn n_ref01_ParseMask [] [])) [.t 37]⟩,
⟨some 34, none, .mv (.t 38)⟩,
⟨some 39, none, .extract (.t 34) 0⟩,
⟨some 40, none, .extract (.t 34) 1⟩,
⟨some 7, none, .mv (.t 39)⟩,
⟨some 8, none, .mv (.t 40)⟩] [8, 34, 35, 36, 37, 38, 39, 40])
(.seq (.reg true [
⟨some 41, none, .mv (.t 5)⟩,
⟨some 42, none, .idxAddr 1 (.t 41) (.k (.d (.int .i64 5)))⟩,
⟨some 43, none, .load none (.t 42)⟩,
⟨some 44, none, .call false true (.k (.fn n_ref02_digits [] [])) [.t 43, .k (.d (.int .i64 5))]⟩,
⟨some 45, none, .mv (.t 5)⟩,
⟨some 46, none, .idxAddr 1 (.t 45) (.k (.d (.int .i64 6)))⟩,
⟨some 47, none, .load none (.t 46)⟩,
⟨some 48, none, .call false true (.k (.fn n_ref02_digits [] [])) [.t 47, .k (.d (.int .i64 5))]⟩,
⟨some 49, none, .mv (.t 7)⟩,
⟨some 50, none, .build [.z (.int .i64 0), .z (.int .i64 0), .z (.int .i64 0)] [(0, 1, .t 44), (1, 1, .t 48), (2, 1, .t 49)]⟩,
⟨some 9, none, .alloc ty_api_Period [.z (.int .i64 0), .z (.int .i64 0), .z (.int .i64 0)]⟩,
⟨none, none, .store 3 (.t 9) (.t 50)⟩] [7, 41, 42, 43, 44, 45, 46, 47, 48, 49, 50])
(.seq (.reg true [
⟨some 51, none, .mv (.t 5)⟩,
⟨some 52, none, .idxAddr 1 (.t 51) (.k (.d (.int .i64 0)))⟩,
⟨some 53, none, .load none (.t 52)⟩,
⟨some 54, none, .mv (.t 5)⟩,
⟨some 55, none, .idxAddr 1 (.t 54) (.k (.d (.int .i64 2)))⟩,
⟨some 56, none, .load none (.t 55)⟩,
⟨some 57, none, .mv (.t 5)⟩,
⟨some 58, none, .idxAddr 1 (.t 57) (.k (.d (.int .i64 1)))⟩,
⟨some 59, none, .load none (.t 58)⟩,
⟨some 60, none, .mv (.t 5)⟩,
⟨some 61, none, .idxAddr 1 (.t 60) (.k (.d (.int .i64 3)))⟩,
⟨some 62, none, .load none (.t 61)⟩,
⟨some 63, none, .mv (.t 5)⟩,
⟨some 64, none, .idxAddr 1 (.t 63) (.k (.d (.int .i64 12)))⟩,
⟨some 65, none, .load none (.t 64)⟩,
⟨some 66, none, .call false true (.k (.fn n_ref02_undashed [] [])) [.t 65]⟩,
⟨some 67, none, .mv (.t 5)⟩,
⟨some 68, none, .idxAddr 1 (.t 67) (.k (.d (.int .i64 4)))⟩,
⟨some 69, none, .load none (.t 68)⟩,
⟨some 70, none, .mv (.t 5)⟩,
⟨some 71, none, .idxAddr 1 (.t 70) (.k (.d (.int .i64 13)))⟩,
⟨some 72, none, .load none (.t 71)⟩,
⟨some 73, none, .call false true (.k (.fn n_ref02_undashed [] [])) [.t 72]⟩,
⟨some 74, none, .load (some 3) (.t 9)⟩,
⟨some 75, none, .mv (.t 5)⟩,
⟨some 76, none, .idxAddr 1 (.t 75) (.k (.d (.int .i64 8)))⟩,
⟨some 77, none, .load none (.t 76)⟩,
⟨some 78, none, .call false true (.k (.fn n_ref02_ParseMinute [] [])) [.t 77]⟩,
⟨some 79, none, .mv (.t 5)⟩,
⟨some 80, none, .idxAddr 1 (.t 79) (.k (.d (.int .i64 9)))⟩,
⟨some 81, none, .load none (.t 80)⟩,
⟨some 82, none, .call false true (.k (.fn n_ref02_digits [] [])) [.t 81, .k (.d (.int .i64 3))]⟩,
⟨some 83, none, .mv (.t 5)⟩,
⟨some 84, none, .idxAddr 1 (.t 83) (.k (.d (.int .i64 10)))⟩,
⟨some 85, none, .load none (.t 84)⟩,
⟨some 86, none, .call false true (.k (.fn n_ref02_digits [] [])) [.t 85, .k (.d (.int .i64 1))]⟩,
⟨some 87, none, .mv (.t 5)⟩,
⟨some 88, none, .idxAddr 1 (.t 87) (.k (.d (.int .i64 11)))⟩,
⟨some 89, none, .load none (.t 88)⟩,
⟨some 90, none, .call false true (.k (.fn n_ref02_digits [] [])) [.t 89, .k (.d (.int .i64 2))]⟩,
⟨some 91, none, .build [.z (.str []), .z (.str []), .z (.str []), .z (.str []), .z (.str []), .z (.str []), .z (.int .i64 0), .z (.int .i64 0), .z (.int .i64 0), .z (.int .i64 0), .z (.int .i64 0), .z (.int .i64 0), .z (.int .i64 0)] [(0, 1, .t 56), (1, 1, .t 59), (2, 1, .t 62), (3, 1, .t 66), (4, 1, .t 69), (5, 1, .t 73), (6, 3, .t 74), (9, 1, .t 78), (10, 1, .t 82), (11, 1, .t 86), (12, 1, .t 90)]⟩,
⟨some 92, none, .build [.z (.str []), .z (.str []), .z (.str []), .z (.str []), .z (.str []), .z (.str []), .z (.str []), .z (.int .i64 0), .z (.int .i64 0), .z (.int .i64 0), .z (.int .i64 0), .z (.int .i64 0), .z (.int .i64 0), .z (.int .i64 0)] [(0, 1, .t 53), (1, 13, .t 91)]⟩,
⟨some 10, none, .alloc ty_turnroundref02_Line [.z (.str []), .z (.str []), .z (.str []), .z (.str []), .z (.str []), .z (.str []), .z (.str []), .z (.int .i64 0), .z (.int .i64 0), .z (.int .i64 0), .z (.int .i64 0), .z (.int .i64 0), .z (.int .i64 0), .z (.int .i64 0)]⟩,
⟨none, none, .store 14 (.t 10) (.t 92)⟩] [5, 9, 51, 52, 53, 54, 55, 56, 57, 58, 59, 60, 61, 62, 63, 64, 65, 66, 67, 68, 69, 70, 71, 72, 73, 74, 75, 76, 77, 78, 79, 80, 81, 82, 83, 84, 85, 86, 87, 88, 89, 90, 91, 92])
(.seq (.reg false [
⟨some 93, none, .load (some 14) (.t 10)⟩,
⟨some 94, none, .call false true (.k (.fn n_ref02_CheckLine [] [])) [.t 93]⟩,
⟨some 11, none, .mv (.t 94)⟩] [93, 94])
(.seq (.seq (.reg false [
⟨some 95, none, .mv (.t 11)⟩,
⟨some 96, none, .bin .neq (.t 95) (.k (.d (.int .i64 0)))⟩] [95])
(.cond (.t 96) (.seq (.reg false [
⟨some 97, none, .build [.z (.str []), .z (.str []), .z (.str []), .z (.str []), .z (.str []), .z (.str []), .z (.str []), .z (.int .i64 0), .z (.int .i64 0), .z (.int .i64 0), .z (.int .i64 0), .z (.int .i64 0), .z (.int .i64 0), .z (.int .i64 0)] []⟩,
⟨some 98, none, .mv (.t 11)⟩,
⟨none, none, .store 14 (.t 2) (.t 97)⟩,
⟨some 3, none, .mv (.k (.d (.int .i64 14)))⟩,
⟨some 4, none, .mv (.t 98)⟩] [11, 97, 98])
.ret)
 .skip))
(.seq (.reg false [
⟨some 99, none, .load (some 14) (.t 10)⟩,
⟨none, none, .store 14 (.t 2) (.t 99)⟩,
⟨some 3, none, .mv (.k (.d (.int .i64 0)))⟩,
⟨some 4, none, .mv (.k (.d (.int .i64 0)))⟩] [10, 99])
.ret))))))))))⟩

def b_ref02_digits_1 : C :=
  (.seq (.seq (.reg false [
⟨some 11, none, .mv (.t 6)⟩,
⟨some 12, none, .mv (.t 0)⟩,
⟨some 13, none, .len .str (.t 12)⟩,
⟨some 14, none, .bin .lss (.t 11) (.t 13)⟩] [11, 12, 13])
(.cond (.t 14) .skip
 (.exit 0)))
(.seq (.block 1 (.seq (.seq (.reg false [
⟨some 17, none, .mv (.t 0)⟩,
⟨some 18, none, .mv (.t 6)⟩,
⟨some 19, none, .idxS (.t 17) (.t 18)⟩,
⟨some 20, none, .bin .lss (.t 19) (.k (.d (.int .u8 48)))⟩,
⟨some 21, none, .mv (.t 20)⟩,
⟨some 22, (some (21, false)), .mv (.t 0)⟩,
⟨some 23, (some (21, false)), .mv (.t 6)⟩,
⟨some 24, (some (21, false)), .idxS (.t 22) (.t 23)⟩,
⟨some 25, (some (21, false)), .bin .gtr (.t 24) (.k (.d (.int .u8 57)))⟩,
⟨some 26, none, .pick (.t 21) (.k (.d (.bool true))) (.t 25)⟩] [17, 18, 19, 20, 21, 22, 23, 24, 25])
(.cond (.t 26) (.seq (.reg false [
⟨some 4, none, .mv (.k (.d (.int .i64 (-1))))⟩] [])
.ret)
 .skip))
(.reg false [
⟨some 27, none, .mv (.t 5)⟩,
⟨some 28, none, .bin .mul (.k (.d (.int .i64 10))) (.t 27)⟩,
⟨some 29, none, .mv (.t 0)⟩,
⟨some 30, none, .mv (.t 6)⟩,
⟨some 31, none, .idxS (.t 29) (.t 30)⟩,
⟨some 32, none, .bin .sub (.t 31) (.k (.d (.int .u8 48)))⟩,
⟨some 33, none, .conv .i64 (.t 32)⟩,
⟨some 34, none, .bin .add (.t 28) (.t 33)⟩,
⟨some 5, none, .mv (.t 34)⟩] [27, 28, 29, 30, 31, 32, 33, 34])))
(.reg false [
⟨some 15, none, .mv (.t 6)⟩,
⟨some 16, none, .bin .add (.t 15) (.k (.d (.int .i64 1)))⟩,
⟨some 6, none, .mv (.t 16)⟩] [15, 16])))

/-- "turnround/turnroundref02.digits" -/
def c_ref02_digits : CF := ⟨[.tmp 4],
  (.seq (.reg false [
⟨some 4, none, .mv (.k (.d (.int .i64 0)))⟩] [4])
(.seq (.seq (.reg false [
⟨some 7, none, .mv (.t 0)⟩,
⟨some 8, none, .len .str (.t 7)⟩,
⟨some 9, none, .mv (.t 1)⟩,
⟨some 10, none, .bin .neq (.t 8) (.t 9)⟩] [1, 7, 8, 9])
(.cond (.t 10) (.seq (.reg false [
⟨some 4, none, .mv (.k (.d (.int .i64 (-1))))⟩] [])
.ret)
 .skip))
(.seq (.reg false [
⟨some 5, none, .mv (.k (.d (.int .i64 0)))⟩] [])
(.seq (.seq (.reg false [
⟨some 6, none, .mv (.k (.d (.int .i64 0)))⟩] [])
(.block 0 (.loop [0, 5, 6] b_ref02_digits_1)))
(.seq (.reg false [
⟨some 35, none, .mv (.t 5)⟩,
⟨some 4, none, .mv (.t 35)⟩] [5, 35])
.ret)))))⟩

/-- "turnround/message.step" -/
def c_message_step : CF := ⟨[.tmp 6, .tmp 7],
  (.seq (.reg false [
⟨some 4, none, .box ty_message_Line (.t 1)⟩,
⟨some 6, none, .ownNil ⟨true, ty_message_Entry, 15, 168⟩⟩,
⟨some 7, none, .mv (.k (.d (.int .i64 0)))⟩] [1, 6, 7])
(.seq (.reg false [
⟨some 11, none, .mv (.t 0)⟩,
⟨some 12, none, .fieldAddr 1 (.t 4)⟩,
⟨some 13, none, .fieldAddr 0 (.t 12)⟩,
⟨some 14, none, .load none (.t 13)⟩,
⟨some 15, none, .call true true (.k (.fn n_message_find [] [])) [.t 11, .t 14]⟩,
⟨some 8, none, .mv (.t 15)⟩] [11, 12, 13, 14, 15])
(.seq (.seq (.reg false [
⟨some 16, none, .fieldAddr 0 (.t 4)⟩,
⟨some 17, none, .load none (.t 16)⟩] [16])
(.block 0 (.seq (.seq (.reg false [
⟨some 19, none, .bin .eql (.t 17) (.k (.d (.str [78])))⟩,
⟨some 18, none, .mv (.t 19)⟩] [19])
(.cond (.t 18) .skip
 (.reg false [
⟨some 20, none, .bin .eql (.t 17) (.k (.d (.str [72])))⟩,
⟨some 18, none, .mv (.t 20)⟩] [20])))
(.cond (.t 18) (.seq (.seq (.reg false [
⟨some 21, none, .mv (.t 8)⟩,
⟨some 22, none, .bin .geq (.t 21) (.k (.d (.int .i64 0)))⟩,
⟨some 23, none, .call false true (.k (.fn n_message_when [] [])) [.t 22, .k (.d (.int .i64 9))]⟩,
⟨some 24, none, .mv (.t 0)⟩,
⟨some 25, none, .len .slc (.t 24)⟩,
⟨some 26, none, .bin .geq (.t 25) (.k (.d (.int .i64 64)))⟩,
⟨some 27, none, .call false true (.k (.fn n_message_when [] [])) [.t 26, .k (.d (.int .i64 5))]⟩,
⟨some 28, none, .mkList 1 2 [.t 23, .t 27]⟩,
⟨some 29, none, .call false true (.k (.fn n_message_first [] [])) [.t 28]⟩,
⟨some 9, none, .mv (.t 29)⟩] [8, 21, 22, 23, 24, 25, 26, 27, 28, 29])
(.seq (.reg false [
⟨some 30, none, .mv (.t 9)⟩,
⟨some 31, none, .bin .neq (.t 30) (.k (.d (.int .i64 0)))⟩] [30])
(.cond (.t 31) (.seq (.reg false [
⟨some 32, none, .mv (.t 9)⟩,
⟨some 6, none, .ownNil ⟨true, ty_message_Entry, 15, 168⟩⟩,
⟨some 7, none, .mv (.t 32)⟩] [9, 32])
.ret)
 .skip)))
(.seq (.reg false [
⟨some 33, none, .mv (.t 0)⟩,
⟨some 34, none, .fieldAddr 1 (.t 4)⟩,
⟨some 35, none, .load (some 13) (.t 34)⟩,
⟨some 36, none, .fieldAddr 0 (.t 4)⟩,
⟨some 37, none, .load none (.t 36)⟩,
⟨some 38, none, .bin .eql (.t 37) (.k (.d (.str [72])))⟩,
⟨some 39, none, .mv (.t 2)⟩,
⟨some 40, none, .build [.z (.str []), .z (.str []), .z (.str []), .z (.str []), .z (.str []), .z (.str []), .z (.int .i64 0), .z (.int .i64 0), .z (.int .i64 0), .z (.int .i64 0), .z (.int .i64 0), .z (.int .i64 0), .z (.int .i64 0), .z (.bool false), .z (.int .i64 0)] [(0, 13, .t 35), (13, 1, .t 38), (14, 1, .t 39)]⟩,
⟨some 41, none, .mkList 15 1 [.t 40]⟩,
⟨some 42, none, .append ⟨true, ty_message_Entry, 15, 168⟩ (.t 33) (.t 41)⟩,
⟨some 6, none, .mv (.t 42)⟩,
⟨some 7, none, .mv (.k (.d (.int .i64 0)))⟩] [0, 2, 4, 33, 34, 35, 36, 37, 38, 39, 40, 41, 42])
.ret))
 (.seq (.reg false [
⟨some 44, none, .bin .eql (.t 17) (.k (.d (.str [82])))⟩,
⟨some 43, none, .mv (.t 44)⟩] [17, 44])
(.cond (.t 43) (.seq (.reg true [
⟨some 45, none, .mv (.t 0)⟩,
⟨some 46, none, .mv (.t 8)⟩,
⟨some 47, none, .fieldAddr 1 (.t 4)⟩,
⟨some 48, none, .load (some 13) (.t 47)⟩,
⟨some 49, none, .mv (.t 0)⟩,
⟨some 50, none, .mv (.t 8)⟩,
⟨some 51, none, .idxAddr 15 (.t 49) (.t 50)⟩,
⟨some 52, none, .fieldAddr 13 (.t 51)⟩,
⟨some 53, none, .load none (.t 52)⟩,
⟨some 54, none, .mv (.t 2)⟩,
⟨some 55, none, .build [.z (.str []), .z (.str []), .z (.str []), .z (.str []), .z (.str []), .z (.str []), .z (.int .i64 0), .z (.int .i64 0), .z (.int .i64 0), .z (.int .i64 0), .z (.int .i64 0), .z (.int .i64 0), .z (.int .i64 0), .z (.bool false), .z (.int .i64 0)] [(0, 13, .t 48), (13, 1, .t 53), (14, 1, .t 54)]⟩,
⟨some 56, none, .idxAddr 15 (.t 45) (.t 46)⟩,
⟨none, none, .store 15 (.t 56) (.t 55)⟩] [2, 4, 8, 45, 46, 47, 48, 49, 50, 51, 52, 53, 54, 55, 56])
(.seq (.reg false [
⟨some 57, none, .mv (.t 0)⟩,
⟨some 6, none, .mv (.t 57)⟩,
⟨some 7, none, .mv (.k (.d (.int .i64 0)))⟩] [0, 57])
.ret))
 .skip))))))
(.seq (.seq (.reg false [
⟨some 58, none, .mv (.t 8)⟩,
⟨some 59, none, .bin .lss (.t 58) (.k (.d (.int .i64 0)))⟩] [58])
(.cond (.t 59) (.seq (.reg false [
⟨some 6, none, .ownNil ⟨true, ty_message_Entry, 15, 168⟩⟩,
⟨some 7, none, .mv (.k (.d (.int .i64 10)))⟩] [])
.ret)
 .skip))
(.seq (.seq (.reg true [
⟨some 60, none, .mv (.t 0)⟩,
⟨some 61, none, .mv (.t 8)⟩,
⟨some 62, none, .idxAddr 15 (.t 60) (.t 61)⟩,
⟨some 63, none, .fieldAddr 0 (.t 62)⟩,
⟨some 64, none, .load (some 13) (.t 63)⟩,
⟨some 65, none, .fieldAddr 1 (.t 4)⟩,
⟨some 66, none, .load (some 13) (.t 65)⟩,
⟨some 67, none, .eqv (some [.str, .str, .str, .str, .str, .str, .int, .int, .int, .int, .int, .int, .int]) true (.t 64) (.t 66)⟩] [60, 61, 62, 63, 64, 65, 66])
(.cond (.t 67) (.seq (.reg false [
⟨some 6, none, .ownNil ⟨true, ty_message_Entry, 15, 168⟩⟩,
⟨some 7, none, .mv (.k (.d (.int .i64 29)))⟩] [])
.ret)
 .skip))
(.seq (.seq (.reg false [
⟨some 68, none, .fieldAddr 0 (.t 4)⟩,
⟨some 69, none, .load none (.t 68)⟩,
⟨some 70, none, .bin .eql (.t 69) (.k (.d (.str [68])))⟩] [4, 68, 69])
(.cond (.t 70) (.seq (.reg false [
⟨some 71, none, .mv (.t 0)⟩,
⟨some 72, none, .len .slc (.t 71)⟩,
⟨some 73, none, .bin .sub (.t 72) (.k (.d (.int .i64 1)))⟩,
⟨some 74, none, .makeRow ⟨true, ty_message_Entry, 15, 168⟩ [.str [], .str [], .str [], .str [], .str [], .str [], .int .i64 0, .int .i64 0, .int .i64 0, .int .i64 0, .int .i64 0, .int .i64 0, .int .i64 0, .bool false, .int .i64 0] (.t 73)⟩,
⟨some 10, none, .mv (.t 74)⟩] [71, 72, 73, 74])
(.seq (.reg false [
⟨some 75, none, .mv (.t 10)⟩,
⟨some 76, none, .mv (.t 0)⟩,
⟨some 77, none, .mv (.t 8)⟩,
⟨some 78, none, .slice 15 (.t 76) none (some (.t 77)) none⟩,
⟨some 79, none, .copy 15 (.t 75) (.t 78)⟩] [75, 76, 77, 78, 79])
(.seq (.reg true [
⟨some 80, none, .mv (.t 10)⟩,
⟨some 81, none, .mv (.t 8)⟩,
⟨some 82, none, .slice 15 (.t 80) (some (.t 81)) none none⟩,
⟨some 83, none, .mv (.t 0)⟩,
⟨some 84, none, .mv (.t 8)⟩,
⟨some 85, none, .bin .add (.t 84) (.k (.d (.int .i64 1)))⟩,
⟨some 86, none, .slice 15 (.t 83) (some (.t 85)) none none⟩,
⟨some 87, none, .copy 15 (.t 82) (.t 86)⟩] [0, 8, 80, 81, 82, 83, 84, 85, 86, 87])
(.seq (.reg false [
⟨some 88, none, .mv (.t 10)⟩,
⟨some 6, none, .mv (.t 88)⟩,
⟨some 7, none, .mv (.k (.d (.int .i64 0)))⟩] [10, 88])
.ret))))
 .skip))
(.seq (.reg false [
⟨some 89, none, .mv (.t 0)⟩,
⟨some 6, none, .mv (.t 89)⟩,
⟨some 7, none, .mv (.k (.d (.int .i64 0)))⟩] [0, 89])
.ret)))))))⟩

/-- "turnround/turnroundref02.step" -/
def c_ref02_step : CF := ⟨[.tmp 8, .tmp 9],
  (.seq (.reg false [
⟨some 5, none, .box ty_turnroundref02_Line (.t 1)⟩,
⟨some 6, none, .box ty_turnroundref02_Line (.t 2)⟩,
⟨some 8, none, .ownNil ⟨true, ty_turnroundref02_Entry, 15, 168⟩⟩,
⟨some 9, none, .mv (.k (.d (.int .i64 0)))⟩] [1, 2, 6, 8, 9])
(.seq (.reg false [
⟨some 12, none, .mv (.t 0)⟩,
⟨some 13, none, .fieldAddr 1 (.t 5)⟩,
⟨some 14, none, .fieldAddr 0 (.t 13)⟩,
⟨some 15, none, .load none (.t 14)⟩,
⟨some 16, none, .call false true (.k (.fn n_ref02_place [] [])) [.t 12, .t 15]⟩,
⟨some 10, none, .mv (.t 16)⟩] [12, 13, 14, 15, 16])
(.seq (.reg false [
⟨some 17, none, .mkRow ⟨true, ty_turnroundref02_Entry, 15, 168⟩ 0 []⟩,
⟨some 18, none, .mv (.t 0)⟩,
⟨some 19, none, .append ⟨true, ty_turnroundref02_Entry, 15, 168⟩ (.t 17) (.t 18)⟩,
⟨some 11, none, .mv (.t 19)⟩] [17, 18, 19])
(.seq (.seq (.reg false [
⟨some 20, none, .fieldAddr 0 (.t 5)⟩,
⟨some 21, none, .load none (.t 20)⟩] [20])
(.block 0 (.seq (.seq (.reg false [
⟨some 23, none, .bin .eql (.t 21) (.k (.d (.str [78])))⟩,
⟨some 22, none, .mv (.t 23)⟩] [23])
(.cond (.t 22) .skip
 (.reg false [
⟨some 24, none, .bin .eql (.t 21) (.k (.d (.str [72])))⟩,
⟨some 22, none, .mv (.t 24)⟩] [24])))
(.cond (.t 22) (.seq (.seq (.reg false [
⟨some 25, none, .mv (.t 10)⟩,
⟨some 26, none, .bin .geq (.t 25) (.k (.d (.int .i64 0)))⟩] [10, 25])
(.cond (.t 26) (.seq (.reg false [
⟨some 8, none, .ownNil ⟨true, ty_turnroundref02_Entry, 15, 168⟩⟩,
⟨some 9, none, .mv (.k (.d (.int .i64 9)))⟩] [])
.ret)
 .skip))
(.seq (.seq (.reg false [
⟨some 27, none, .mv (.t 0)⟩,
⟨some 28, none, .len .slc (.t 27)⟩,
⟨some 29, none, .bin .eql (.t 28) (.k (.d (.int .i64 64)))⟩] [0, 27, 28])
(.cond (.t 29) (.seq (.reg false [
⟨some 8, none, .ownNil ⟨true, ty_turnroundref02_Entry, 15, 168⟩⟩,
⟨some 9, none, .mv (.k (.d (.int .i64 5)))⟩] [])
.ret)
 .skip))
(.seq (.reg false [
⟨some 30, none, .mv (.t 11)⟩,
⟨some 31, none, .fieldAddr 1 (.t 5)⟩,
⟨some 32, none, .load (some 13) (.t 31)⟩,
⟨some 33, none, .fieldAddr 0 (.t 5)⟩,
⟨some 34, none, .load none (.t 33)⟩,
⟨some 35, none, .bin .eql (.t 34) (.k (.d (.str [72])))⟩,
⟨some 36, none, .mv (.t 3)⟩,
⟨some 37, none, .build [.z (.str []), .z (.str []), .z (.str []), .z (.str []), .z (.str []), .z (.str []), .z (.int .i64 0), .z (.int .i64 0), .z (.int .i64 0), .z (.int .i64 0), .z (.int .i64 0), .z (.int .i64 0), .z (.int .i64 0), .z (.bool false), .z (.int .i64 0)] [(0, 13, .t 32), (13, 1, .t 35), (14, 1, .t 36)]⟩,
⟨some 38, none, .mkList 15 1 [.t 37]⟩,
⟨some 39, none, .append ⟨true, ty_turnroundref02_Entry, 15, 168⟩ (.t 30) (.t 38)⟩,
⟨some 8, none, .mv (.t 39)⟩,
⟨some 9, none, .mv (.k (.d (.int .i64 0)))⟩] [3, 5, 11, 30, 31, 32, 33, 34, 35, 36, 37, 38, 39])
.ret)))
 (.seq (.reg false [
⟨some 41, none, .bin .eql (.t 21) (.k (.d (.str [82])))⟩,
⟨some 40, none, .mv (.t 41)⟩] [21, 41])
(.cond (.t 40) (.seq (.reg true [
⟨some 42, none, .mv (.t 11)⟩,
⟨some 43, none, .mv (.t 10)⟩,
⟨some 44, none, .fieldAddr 1 (.t 5)⟩,
⟨some 45, none, .load (some 13) (.t 44)⟩,
⟨some 46, none, .mv (.t 0)⟩,
⟨some 47, none, .mv (.t 10)⟩,
⟨some 48, none, .idxAddr 15 (.t 46) (.t 47)⟩,
⟨some 49, none, .fieldAddr 13 (.t 48)⟩,
⟨some 50, none, .load none (.t 49)⟩,
⟨some 51, none, .mv (.t 3)⟩,
⟨some 52, none, .build [.z (.str []), .z (.str []), .z (.str []), .z (.str []), .z (.str []), .z (.str []), .z (.int .i64 0), .z (.int .i64 0), .z (.int .i64 0), .z (.int .i64 0), .z (.int .i64 0), .z (.int .i64 0), .z (.int .i64 0), .z (.bool false), .z (.int .i64 0)] [(0, 13, .t 45), (13, 1, .t 50), (14, 1, .t 51)]⟩,
⟨some 53, none, .idxAddr 15 (.t 42) (.t 43)⟩,
⟨none, none, .store 15 (.t 53) (.t 52)⟩] [0, 3, 5, 10, 42, 43, 44, 45, 46, 47, 48, 49, 50, 51, 52, 53])
(.seq (.reg false [
⟨some 54, none, .mv (.t 11)⟩,
⟨some 8, none, .mv (.t 54)⟩,
⟨some 9, none, .mv (.k (.d (.int .i64 0)))⟩] [11, 54])
.ret))
 .skip))))))
(.seq (.seq (.reg false [
⟨some 55, none, .mv (.t 10)⟩,
⟨some 56, none, .bin .lss (.t 55) (.k (.d (.int .i64 0)))⟩] [55])
(.cond (.t 56) (.seq (.reg false [
⟨some 8, none, .ownNil ⟨true, ty_turnroundref02_Entry, 15, 168⟩⟩,
⟨some 9, none, .mv (.k (.d (.int .i64 10)))⟩] [])
.ret)
 .skip))
(.seq (.seq (.reg true [
⟨some 57, none, .mv (.t 0)⟩,
⟨some 58, none, .mv (.t 10)⟩,
⟨some 59, none, .idxAddr 15 (.t 57) (.t 58)⟩,
⟨some 60, none, .fieldAddr 0 (.t 59)⟩,
⟨some 61, none, .load (some 13) (.t 60)⟩,
⟨some 62, none, .fieldAddr 1 (.t 5)⟩,
⟨some 63, none, .load (some 13) (.t 62)⟩,
⟨some 64, none, .eqv (some [.str, .str, .str, .str, .str, .str, .int, .int, .int, .int, .int, .int, .int]) true (.t 61) (.t 63)⟩] [0, 57, 58, 59, 60, 61, 62, 63])
(.cond (.t 64) (.seq (.reg false [
⟨some 8, none, .ownNil ⟨true, ty_turnroundref02_Entry, 15, 168⟩⟩,
⟨some 9, none, .mv (.k (.d (.int .i64 29)))⟩] [])
.ret)
 .skip))
(.seq (.seq (.reg false [
⟨some 65, none, .fieldAddr 0 (.t 5)⟩,
⟨some 66, none, .load none (.t 65)⟩,
⟨some 67, none, .bin .eql (.t 66) (.k (.d (.str [68])))⟩] [5, 65, 66])
(.cond (.t 67) (.seq (.reg true [
⟨some 68, none, .mv (.t 11)⟩,
⟨some 69, none, .mv (.t 10)⟩,
⟨some 70, none, .slice 15 (.t 68) none (some (.t 69)) none⟩,
⟨some 71, none, .mv (.t 11)⟩,
⟨some 72, none, .mv (.t 10)⟩,
⟨some 73, none, .bin .add (.t 72) (.k (.d (.int .i64 1)))⟩,
⟨some 74, none, .slice 15 (.t 71) (some (.t 73)) none none⟩,
⟨some 75, none, .append ⟨true, ty_turnroundref02_Entry, 15, 168⟩ (.t 70) (.t 74)⟩,
⟨some 8, none, .mv (.t 75)⟩,
⟨some 9, none, .mv (.k (.d (.int .i64 0)))⟩] [10, 11, 68, 69, 70, 71, 72, 73, 74, 75])
.ret)
 .skip))
(.seq (.reg false [
⟨some 76, none, .mv (.t 11)⟩,
⟨some 8, none, .mv (.t 76)⟩,
⟨some 9, none, .mv (.k (.d (.int .i64 0)))⟩] [11, 76])
.ret))))))))⟩

/-- "turnround/turnroundref02.Brief" -/
def c_ref02_Brief : CF := ⟨[.tmp 2],
  (.seq (.reg false [
⟨some 1, none, .box ty_api_Request (.t 0)⟩,
⟨some 2, none, .mv (.k (.d (.bool false)))⟩] [0, 2])
(.seq (.reg false [
⟨some 3, none, .fieldAddr 0 (.t 1)⟩,
⟨some 4, none, .load none (.t 3)⟩,
⟨some 5, none, .len .str (.t 4)⟩,
⟨some 6, none, .bin .leq (.t 5) (.k (.d (.int .i64 40)))⟩,
⟨some 7, none, .mv (.t 6)⟩,
⟨some 8, (some (7, true)), .fieldAddr 1 (.t 1)⟩,
⟨some 9, (some (7, true)), .load none (.t 8)⟩,
⟨some 10, (some (7, true)), .len .str (.t 9)⟩,
⟨some 11, (some (7, true)), .bin .leq (.t 10) (.k (.d (.int .i64 40)))⟩,
⟨some 12, none, .pick (.t 7) (.t 11) (.k (.d (.bool false)))⟩,
⟨some 13, none, .mv (.t 12)⟩,
⟨some 14, (some (13, true)), .fieldAddr 2 (.t 1)⟩,
⟨some 15, (some (13, true)), .load none (.t 14)⟩,
⟨some 16, (some (13, true)), .len .str (.t 15)⟩,
⟨some 17, (some (13, true)), .bin .leq (.t 16) (.k (.d (.int .i64 40)))⟩,
⟨some 18, none, .pick (.t 13) (.t 17) (.k (.d (.bool false)))⟩,
⟨some 19, none, .mv (.t 18)⟩,
⟨some 20, (some (19, true)), .fieldAddr 3 (.t 1)⟩,
⟨some 21, (some (19, true)), .load none (.t 20)⟩,
⟨some 22, (some (19, true)), .len .str (.t 21)⟩,
⟨some 23, (some (19, true)), .bin .leq (.t 22) (.k (.d (.int .i64 40)))⟩,
⟨some 24, none, .pick (.t 19) (.t 23) (.k (.d (.bool false)))⟩,
⟨some 25, none, .mv (.t 24)⟩,
⟨some 26, (some (25, true)), .fieldAddr 4 (.t 1)⟩,
⟨some 27, (some (25, true)), .load none (.t 26)⟩,
⟨some 28, (some (25, true)), .len .str (.t 27)⟩,
⟨some 29, (some (25, true)), .bin .leq (.t 28) (.k (.d (.int .i64 40)))⟩,
⟨some 30, none, .pick (.t 25) (.t 29) (.k (.d (.bool false)))⟩,
⟨some 31, none, .mv (.t 30)⟩,
⟨some 32, (some (31, true)), .fieldAddr 5 (.t 1)⟩,
⟨some 33, (some (31, true)), .load none (.t 32)⟩,
⟨some 34, (some (31, true)), .len .str (.t 33)⟩,
⟨some 35, (some (31, true)), .bin .leq (.t 34) (.k (.d (.int .i64 40)))⟩,
⟨some 36, none, .pick (.t 31) (.t 35) (.k (.d (.bool false)))⟩,
⟨some 2, none, .mv (.t 36)⟩] [1, 3, 4, 5, 6, 7, 8, 9, 10, 11, 12, 13, 14, 15, 16, 17, 18, 19, 20, 21, 22, 23, 24, 25, 26, 27, 28, 29, 30, 31, 32, 33, 34, 35, 36])
.ret))⟩

def b_message_checkRequests_1 : C :=
  (.seq (.reg false [
⟨some 14, none, .bin .lss (.t 13) (.t 12)⟩] [])
(.seq (.cond (.t 14) .skip
 (.exit 0))
(.seq (.block 1 (.seq (.reg false [
⟨some 15, none, .idxAddr 13 (.t 11) (.t 13)⟩,
⟨some 16, none, .load (some 13) (.t 15)⟩,
⟨some 5, none, .alloc ty_api_Request [.z (.str []), .z (.str []), .z (.str []), .z (.str []), .z (.str []), .z (.str []), .z (.int .i64 0), .z (.int .i64 0), .z (.int .i64 0), .z (.int .i64 0), .z (.int .i64 0), .z (.int .i64 0), .z (.int .i64 0)]⟩,
⟨none, none, .store 13 (.t 5) (.t 16)⟩] [15, 16])
(.seq (.seq (.reg true [
⟨some 17, none, .load (some 13) (.t 5)⟩,
⟨some 18, none, .call false true (.k (.fn n_message_CheckRequest [] [])) [.t 17]⟩,
⟨some 19, none, .mv (.t 3)⟩,
⟨some 20, none, .fieldAddr 0 (.t 5)⟩,
⟨some 21, none, .load none (.t 20)⟩,
⟨some 22, none, .lookup .str (.bool false) false (.t 19) (.t 21)⟩,
⟨some 23, none, .call false true (.k (.fn n_message_when [] [])) [.t 22, .k (.d (.int .i64 9))]⟩,
⟨some 24, none, .mkList 1 2 [.t 18, .t 23]⟩,
⟨some 25, none, .call false true (.k (.fn n_message_first [] [])) [.t 24]⟩,
⟨some 6, none, .mv (.t 25)⟩] [17, 18, 19, 20, 21, 22, 23, 24, 25])
(.seq (.reg false [
⟨some 26, none, .mv (.t 6)⟩,
⟨some 27, none, .bin .neq (.t 26) (.k (.d (.int .i64 0)))⟩] [26])
(.cond (.t 27) (.seq (.reg false [
⟨some 28, none, .mv (.t 6)⟩,
⟨some 2, none, .mv (.t 28)⟩] [6, 28])
.ret)
 .skip)))
(.reg false [
⟨some 29, none, .mv (.t 3)⟩,
⟨some 30, none, .fieldAddr 0 (.t 5)⟩,
⟨some 31, none, .load none (.t 30)⟩,
⟨none, none, .mapSet .str (.t 29) (.t 31) (.k (.d (.bool true)))⟩] [5, 29, 30, 31]))))
(.reg false [
⟨some 32, none, .bin .add (.t 13) (.k (.d (.int .i64 1)))⟩,
⟨some 13, none, .mv (.t 32)⟩] [32]))))

/-- "turnround/message.checkRequests" -/
def c_message_checkRequests : CF := ⟨[.tmp 2],
  (.seq (.reg false [
⟨some 2, none, .mv (.k (.d (.int .i64 0)))⟩] [2])
(.seq (.seq (.reg false [
⟨some 7, none, .mv (.t 0)⟩,
⟨some 8, none, .len .slc (.t 7)⟩,
⟨some 9, none, .bin .gtr (.t 8) (.k (.d (.int .i64 64)))⟩] [7, 8])
(.cond (.t 9) (.seq (.reg false [
⟨some 2, none, .mv (.k (.d (.int .i64 5)))⟩] [])
.ret)
 .skip))
(.seq (.reg false [
⟨some 10, none, .mkMap⟩,
⟨some 3, none, .mv (.t 10)⟩] [10])
(.seq (.seq (.reg false [
⟨some 11, none, .mv (.t 0)⟩,
⟨some 12, none, .len .slc (.t 11)⟩,
⟨some 13, none, .mv (.k (.d (.int .i64 0)))⟩] [0])
(.block 0 (.loop [3, 11, 12, 13] b_message_checkRequests_1)))
(.seq (.reg false [
⟨some 2, none, .mv (.k (.d (.int .i64 0)))⟩] [])
.ret)))))⟩

/-- "turnround/message.Changed.1" -/
def c_message_Changed_1 : CF := ⟨[.cell 4 (some 13), .tmp 5],
  (.seq (.reg false [
⟨some 3, none, .box ty_api_Request (.t 1)⟩,
⟨some 4, none, .alloc ty_api_Request [.z (.str []), .z (.str []), .z (.str []), .z (.str []), .z (.str []), .z (.str []), .z (.int .i64 0), .z (.int .i64 0), .z (.int .i64 0), .z (.int .i64 0), .z (.int .i64 0), .z (.int .i64 0), .z (.int .i64 0)]⟩,
⟨some 5, none, .mv (.k (.d (.bool false)))⟩] [1, 5])
(.seq (.reg false [
⟨some 7, none, .mv (.t 0)⟩,
⟨some 8, none, .mkFunc n_message_Changed_1_1 [] [.t 3]⟩,
⟨some 9, none, .call true true (.k (.fn n_slices_IndexFunc_Lapi_Request_api_Request [] [])) [.t 7, .t 8]⟩,
⟨some 6, none, .mv (.t 9)⟩] [3, 7, 8, 9])
(.seq (.seq (.reg false [
⟨some 10, none, .mv (.t 6)⟩,
⟨some 11, none, .bin .lss (.t 10) (.k (.d (.int .i64 0)))⟩] [10])
(.cond (.t 11) (.seq (.reg false [
⟨some 12, none, .build [.z (.str []), .z (.str []), .z (.str []), .z (.str []), .z (.str []), .z (.str []), .z (.int .i64 0), .z (.int .i64 0), .z (.int .i64 0), .z (.int .i64 0), .z (.int .i64 0), .z (.int .i64 0), .z (.int .i64 0)] []⟩,
⟨none, none, .store 13 (.t 4) (.t 12)⟩,
⟨some 5, none, .mv (.k (.d (.bool false)))⟩] [12])
.ret)
 .skip))
(.seq (.reg false [
⟨some 13, none, .mv (.t 0)⟩,
⟨some 14, none, .mv (.t 6)⟩,
⟨some 15, none, .idxAddr 13 (.t 13) (.t 14)⟩,
⟨some 16, none, .load (some 13) (.t 15)⟩,
⟨none, none, .store 13 (.t 4) (.t 16)⟩,
⟨some 5, none, .mv (.k (.d (.bool true)))⟩] [0, 6, 13, 14, 15, 16])
.ret))))⟩

def b_slices_IndexFunc_Lapi_Request_api_Request_1 : C :=
  (.seq (.reg false [
⟨some 9, none, .bin .lss (.t 8) (.t 7)⟩] [])
(.seq (.cond (.t 9) .skip
 (.exit 0))
(.seq (.block 1 (.seq (.reg false [
⟨some 10, none, .mv (.t 8)⟩,
⟨some 5, none, .mv (.t 10)⟩] [10])
(.seq (.reg false [
⟨some 11, none, .mv (.t 1)⟩,
⟨some 12, none, .mv (.t 0)⟩,
⟨some 13, none, .mv (.t 5)⟩,
⟨some 14, none, .idxAddr 13 (.t 12) (.t 13)⟩,
⟨some 15, none, .load (some 13) (.t 14)⟩,
⟨some 16, none, .call true true (.t 11) [.t 15]⟩] [11, 12, 13, 14, 15])
(.cond (.t 16) (.seq (.reg false [
⟨some 17, none, .mv (.t 5)⟩,
⟨some 4, none, .mv (.t 17)⟩] [5, 17])
.ret)
 .skip))))
(.reg false [
⟨some 18, none, .bin .add (.t 8) (.k (.d (.int .i64 1)))⟩,
⟨some 8, none, .mv (.t 18)⟩] [18]))))

/-- "slices.IndexFunc[[]turnround/api.Request,turnround/api.Request]" -/
def c_slices_IndexFunc_Lapi_Request_api_Request : CF := ⟨[.tmp 4],
  (.seq (.reg false [
⟨some 4, none, .mv (.k (.d (.int .i64 0)))⟩] [4])
(.seq (.seq (.reg false [
⟨some 6, none, .mv (.t 0)⟩,
⟨some 7, none, .len .slc (.t 6)⟩,
⟨some 8, none, .mv (.k (.d (.int .i64 0)))⟩] [6])
(.block 0 (.loop [0, 1, 7, 8] b_slices_IndexFunc_Lapi_Request_api_Request_1)))
(.seq (.reg false [
⟨some 4, none, .mv (.k (.d (.int .i64 (-1))))⟩] [])
.ret)))⟩

/-- "turnround/message.Changed.1.1" -/
def c_message_Changed_1_1 : CF := ⟨[.tmp 3],
  (.seq (.reg false [
⟨some 2, none, .box ty_api_Request (.t 0)⟩,
⟨some 3, none, .mv (.k (.d (.bool false)))⟩] [0, 3])
(.seq (.reg false [
⟨some 4, none, .load (some 13) (.t 2)⟩,
⟨some 5, none, .load (some 13) (.t 1)⟩,
⟨some 6, none, .call false true (.k (.fn n_message_twins [] [])) [.t 4, .t 5]⟩,
⟨some 3, none, .mv (.t 6)⟩] [1, 2, 4, 5, 6])
.ret))⟩

/-- "turnround/message.twins" -/
def c_message_twins : CF := ⟨[.tmp 4],
  (.seq (.reg false [
⟨some 2, none, .box ty_api_Request (.t 0)⟩,
⟨some 3, none, .box ty_api_Request (.t 1)⟩,
⟨some 4, none, .mv (.k (.d (.bool false)))⟩] [0, 1, 4])
(.seq (.reg false [
⟨some 5, none, .fieldAddr 1 (.t 2)⟩,
⟨some 6, none, .load none (.t 5)⟩,
⟨some 7, none, .fieldAddr 1 (.t 3)⟩,
⟨some 8, none, .load none (.t 7)⟩,
⟨some 9, none, .bin .eql (.t 6) (.t 8)⟩,
⟨some 10, none, .mv (.t 9)⟩,
⟨some 11, (some (10, true)), .fieldAddr 0 (.t 2)⟩,
⟨some 12, (some (10, true)), .load none (.t 11)⟩,
⟨some 13, (some (10, true)), .fieldAddr 0 (.t 3)⟩,
⟨some 14, (some (10, true)), .load none (.t 13)⟩,
⟨some 15, (some (10, true)), .bin .eql (.t 12) (.t 14)⟩,
⟨some 16, none, .pick (.t 10) (.t 15) (.k (.d (.bool false)))⟩,
⟨some 4, none, .mv (.t 16)⟩] [2, 3, 5, 6, 7, 8, 9, 10, 11, 12, 13, 14, 15, 16])
.ret))⟩

def b_message_filtered_api_Request_message_Line_1 : C :=
  (.seq (.reg false [
⟨some 13, none, .bin .lss (.t 12) (.t 11)⟩] [])
(.seq (.cond (.t 13) .skip
 (.exit 0))
(.seq (.block 1 (.seq (.reg false [
⟨some 14, none, .idxAddr 13 (.t 10) (.t 12)⟩,
⟨some 15, none, .load (some 13) (.t 14)⟩,
⟨some 7, none, .alloc ty_api_Request [.z (.str []), .z (.str []), .z (.str []), .z (.str []), .z (.str []), .z (.str []), .z (.int .i64 0), .z (.int .i64 0), .z (.int .i64 0), .z (.int .i64 0), .z (.int .i64 0), .z (.int .i64 0), .z (.int .i64 0)]⟩,
⟨none, none, .store 13 (.t 7) (.t 15)⟩] [14, 15])
(.seq (.reg false [
⟨some 17, none, .mv (.t 1)⟩,
⟨some 18, none, .load (some 13) (.t 7)⟩,
⟨some 19, none, .call true true (.t 17) [.t 18]⟩,
⟨some 16, none, .mv (.t 19)⟩,
⟨some 20, none, .extract (.t 16) 0⟩,
⟨some 21, none, .extract (.t 16) 1⟩,
⟨some 8, none, .alloc ty_message_Line [.z (.str []), .z (.str []), .z (.str []), .z (.str []), .z (.str []), .z (.str []), .z (.str []), .z (.int .i64 0), .z (.int .i64 0), .z (.int .i64 0), .z (.int .i64 0), .z (.int .i64 0), .z (.int .i64 0), .z (.int .i64 0)]⟩,
⟨none, none, .store 14 (.t 8) (.t 20)⟩,
⟨some 9, none, .mv (.t 21)⟩] [7, 16, 17, 18, 19, 20, 21])
(.seq (.reg false [
⟨some 22, none, .mv (.t 9)⟩] [9])
(.cond (.t 22) (.reg false [
⟨some 23, none, .mv (.t 5)⟩,
⟨some 24, none, .load (some 14) (.t 8)⟩,
⟨some 25, none, .mkList 14 1 [.t 24]⟩,
⟨some 26, none, .append ⟨false, ty_message_Line, 14, 168⟩ (.t 23) (.t 25)⟩,
⟨some 5, none, .mv (.t 26)⟩] [8, 23, 24, 25, 26])
 .skip)))))
(.reg false [
⟨some 27, none, .bin .add (.t 12) (.k (.d (.int .i64 1)))⟩,
⟨some 12, none, .mv (.t 27)⟩] [27]))))

/-- "turnround/message.filtered[turnround/api.Request,turnround/message.Line]" -/
def c_message_filtered_api_Request_message_Line : CF := ⟨[.tmp 4],
  (.seq (.reg false [
⟨some 4, none, .ownNil ⟨false, ty_message_Line, 14, 168⟩⟩] [4])
(.seq (.reg false [
⟨some 5, none, .ownNil ⟨false, ty_message_Line, 14, 168⟩⟩] [])
(.seq (.seq (.reg false [
⟨some 10, none, .mv (.t 0)⟩,
⟨some 11, none, .len .slc (.t 10)⟩,
⟨some 12, none, .mv (.k (.d (.int .i64 0)))⟩] [0])
(.block 0 (.loop [1, 5, 10, 11, 12] b_message_filtered_api_Request_message_Line_1)))
(.seq (.reg false [
⟨some 28, none, .mv (.t 5)⟩,
⟨some 4, none, .mv (.t 28)⟩] [5, 28])
.ret))))⟩

/-- "turnround/message.Changed.2" -/
def c_message_Changed_2 : CF := ⟨[.cell 4 (some 14), .tmp 5],
  (.seq (.reg false [
⟨some 3, none, .box ty_api_Request (.t 0)⟩,
⟨some 4, none, .alloc ty_message_Line [.z (.str []), .z (.str []), .z (.str []), .z (.str []), .z (.str []), .z (.str []), .z (.str []), .z (.int .i64 0), .z (.int .i64 0), .z (.int .i64 0), .z (.int .i64 0), .z (.int .i64 0), .z (.int .i64 0), .z (.int .i64 0)]⟩,
⟨some 5, none, .mv (.k (.d (.bool false)))⟩] [0, 5])
(.seq (.reg false [
⟨some 9, none, .load none (.t 1)⟩,
⟨some 10, none, .load none (.t 2)⟩,
⟨some 11, none, .load (some 13) (.t 3)⟩,
⟨some 12, none, .call true true (.t 9) [.t 10, .t 11]⟩,
⟨some 8, none, .mv (.t 12)⟩,
⟨some 13, none, .extract (.t 8) 0⟩,
⟨some 14, none, .extract (.t 8) 1⟩,
⟨some 6, none, .alloc ty_api_Request [.z (.str []), .z (.str []), .z (.str []), .z (.str []), .z (.str []), .z (.str []), .z (.int .i64 0), .z (.int .i64 0), .z (.int .i64 0), .z (.int .i64 0), .z (.int .i64 0), .z (.int .i64 0), .z (.int .i64 0)]⟩,
⟨none, none, .store 13 (.t 6) (.t 13)⟩,
⟨some 7, none, .mv (.t 14)⟩] [1, 2, 6, 8, 9, 10, 11, 12, 13, 14])
(.seq (.reg false [
⟨some 15, none, .load (some 13) (.t 3)⟩,
⟨some 16, none, .build [.z (.str []), .z (.str []), .z (.str []), .z (.str []), .z (.str []), .z (.str []), .z (.str []), .z (.int .i64 0), .z (.int .i64 0), .z (.int .i64 0), .z (.int .i64 0), .z (.int .i64 0), .z (.int .i64 0), .z (.int .i64 0)] [(0, 1, .k (.d (.str [68]))), (1, 13, .t 15)]⟩,
⟨some 17, none, .mv (.t 7)⟩,
⟨some 18, none, .un .not (.t 17)⟩,
⟨none, none, .store 14 (.t 4) (.t 16)⟩,
⟨some 5, none, .mv (.t 18)⟩] [3, 7, 15, 16, 17, 18])
.ret)))⟩

/-- "turnround/message.Changed.3" -/
def c_message_Changed_3 : CF := ⟨[.cell 4 (some 14), .tmp 5],
  (.seq (.reg false [
⟨some 3, none, .box ty_api_Request (.t 0)⟩,
⟨some 4, none, .alloc ty_message_Line [.z (.str []), .z (.str []), .z (.str []), .z (.str []), .z (.str []), .z (.str []), .z (.str []), .z (.int .i64 0), .z (.int .i64 0), .z (.int .i64 0), .z (.int .i64 0), .z (.int .i64 0), .z (.int .i64 0), .z (.int .i64 0)]⟩,
⟨some 5, none, .mv (.k (.d (.bool false)))⟩] [0, 5])
(.seq (.reg false [
⟨some 9, none, .load none (.t 1)⟩,
⟨some 10, none, .load none (.t 2)⟩,
⟨some 11, none, .load (some 13) (.t 3)⟩,
⟨some 12, none, .call true true (.t 9) [.t 10, .t 11]⟩,
⟨some 8, none, .mv (.t 12)⟩,
⟨some 13, none, .extract (.t 8) 0⟩,
⟨some 14, none, .extract (.t 8) 1⟩,
⟨some 6, none, .alloc ty_api_Request [.z (.str []), .z (.str []), .z (.str []), .z (.str []), .z (.str []), .z (.str []), .z (.int .i64 0), .z (.int .i64 0), .z (.int .i64 0), .z (.int .i64 0), .z (.int .i64 0), .z (.int .i64 0), .z (.int .i64 0)]⟩,
⟨none, none, .store 13 (.t 6) (.t 13)⟩,
⟨some 7, none, .mv (.t 14)⟩] [1, 2, 6, 8, 9, 10, 11, 12, 13, 14])
(.seq (.reg false [
⟨some 15, none, .load (some 13) (.t 3)⟩,
⟨some 16, none, .build [.z (.str []), .z (.str []), .z (.str []), .z (.str []), .z (.str []), .z (.str []), .z (.str []), .z (.int .i64 0), .z (.int .i64 0), .z (.int .i64 0), .z (.int .i64 0), .z (.int .i64 0), .z (.int .i64 0), .z (.int .i64 0)] [(0, 1, .k (.d (.str [78]))), (1, 13, .t 15)]⟩,
⟨some 17, none, .mv (.t 7)⟩,
⟨some 18, none, .un .not (.t 17)⟩,
⟨none, none, .store 14 (.t 4) (.t 16)⟩,
⟨some 5, none, .mv (.t 18)⟩] [3, 7, 15, 16, 17, 18])
.ret)))⟩

/-- "turnround/turnroundref02.CheckRequest" -/
def c_ref02_CheckRequest : CF := ⟨[.tmp 2],
  (.seq (.reg false [
⟨some 1, none, .box ty_api_Request (.t 0)⟩,
⟨some 2, none, .mv (.k (.d (.int .i64 0)))⟩] [0, 2])
(.seq (.seq (.reg false [
⟨some 4, none, .fieldAddr 0 (.t 1)⟩,
⟨some 5, none, .load none (.t 4)⟩,
⟨some 6, none, .call false true (.k (.fn n_ref01_IsName [] [])) [.t 5]⟩,
⟨some 7, none, .un .not (.t 6)⟩,
⟨some 8, none, .mv (.t 7)⟩,
⟨some 9, (some (8, false)), .fieldAddr 1 (.t 1)⟩,
⟨some 10, (some (8, false)), .load none (.t 9)⟩,
⟨some 11, (some (8, false)), .call false true (.k (.fn n_ref01_IsName [] [])) [.t 10]⟩,
⟨some 12, (some (8, false)), .un .not (.t 11)⟩,
⟨some 13, none, .pick (.t 8) (.k (.d (.bool true))) (.t 12)⟩,
⟨some 14, none, .mv (.t 13)⟩,
⟨some 15, (some (14, false)), .fieldAddr 4 (.t 1)⟩,
⟨some 16, (some (14, false)), .load none (.t 15)⟩,
⟨some 17, (some (14, false)), .call false true (.k (.fn n_ref01_IsName [] [])) [.t 16]⟩,
⟨some 18, (some (14, false)), .un .not (.t 17)⟩,
⟨some 19, none, .pick (.t 14) (.k (.d (.bool true))) (.t 18)⟩,
⟨some 20, none, .mv (.t 19)⟩,
⟨some 21, (some (20, false)), .fieldAddr 3 (.t 1)⟩,
⟨some 22, (some (20, false)), .load none (.t 21)⟩,
⟨some 23, (some (20, false)), .call false true (.k (.fn n_ref02_optional [] [])) [.t 22]⟩,
⟨some 24, (some (20, false)), .un .not (.t 23)⟩,
⟨some 25, none, .pick (.t 20) (.k (.d (.bool true))) (.t 24)⟩,
⟨some 26, none, .mv (.t 25)⟩,
⟨some 27, (some (26, false)), .fieldAddr 5 (.t 1)⟩,
⟨some 28, (some (26, false)), .load none (.t 27)⟩,
⟨some 29, (some (26, false)), .call false true (.k (.fn n_ref02_optional [] [])) [.t 28]⟩,
⟨some 30, (some (26, false)), .un .not (.t 29)⟩,
⟨some 31, none, .pick (.t 26) (.k (.d (.bool true))) (.t 30)⟩] [4, 5, 6, 7, 8, 9, 10, 11, 12, 13, 14, 15, 16, 17, 18, 19, 20, 21, 22, 23, 24, 25, 26, 27, 28, 29, 30])
(.cond (.t 31) (.seq (.reg false [
⟨some 2, none, .mv (.k (.d (.int .i64 8)))⟩] [])
.ret)
 .skip))
(.seq (.seq (.reg false [
⟨some 32, none, .fieldAddr 2 (.t 1)⟩,
⟨some 33, none, .load none (.t 32)⟩,
⟨some 34, none, .bin .neq (.t 33) (.k (.d (.str [65])))⟩,
⟨some 35, none, .mv (.t 34)⟩,
⟨some 36, (some (35, true)), .fieldAddr 2 (.t 1)⟩,
⟨some 37, (some (35, true)), .load none (.t 36)⟩,
⟨some 38, (some (35, true)), .bin .neq (.t 37) (.k (.d (.str [68])))⟩,
⟨some 39, none, .pick (.t 35) (.t 38) (.k (.d (.bool false)))⟩] [32, 33, 34, 35, 36, 37, 38])
(.cond (.t 39) (.seq (.reg false [
⟨some 2, none, .mv (.k (.d (.int .i64 13)))⟩] [])
.ret)
 .skip))
(.seq (.seq (.reg false [
⟨some 40, none, .fieldAddr 5 (.t 1)⟩,
⟨some 41, none, .load none (.t 40)⟩,
⟨some 42, none, .fieldAddr 0 (.t 1)⟩,
⟨some 43, none, .load none (.t 42)⟩,
⟨some 44, none, .bin .eql (.t 41) (.t 43)⟩] [40, 41, 42, 43])
(.cond (.t 44) (.seq (.reg false [
⟨some 2, none, .mv (.k (.d (.int .i64 32)))⟩] [])
.ret)
 .skip))
(.seq (.reg false [
⟨some 45, none, .fieldAddr 6 (.t 1)⟩,
⟨some 46, none, .load (some 3) (.t 45)⟩,
⟨some 47, none, .call false true (.k (.fn n_ref01_CheckPeriod [] [])) [.t 46]⟩,
⟨some 3, none, .mv (.t 47)⟩] [45, 46, 47])
(.seq (.seq (.reg false [
⟨some 48, none, .mv (.t 3)⟩,
⟨some 49, none, .bin .neq (.t 48) (.k (.d (.int .i64 0)))⟩] [48])
(.cond (.t 49) (.seq (.reg false [
⟨some 50, none, .mv (.t 3)⟩,
⟨some 2, none, .mv (.t 50)⟩] [3, 50])
.ret)
 .skip))
(.seq (.reg true [
⟨some 51, none, .fieldAddr 9 (.t 1)⟩,
⟨some 52, none, .load none (.t 51)⟩,
⟨some 53, none, .call false true (.k (.fn n_ref01_CheckRange [] [])) [.t 52, .k (.d (.int .i64 0)), .k (.d (.int .i64 1439))]⟩,
⟨some 54, none, .fieldAddr 10 (.t 1)⟩,
⟨some 55, none, .load none (.t 54)⟩,
⟨some 56, none, .call false true (.k (.fn n_ref01_CheckRange [] [])) [.t 55, .k (.d (.int .i64 0)), .k (.d (.int .i64 999))]⟩,
⟨some 57, none, .fieldAddr 11 (.t 1)⟩,
⟨some 58, none, .load none (.t 57)⟩,
⟨some 59, none, .call false true (.k (.fn n_ref01_CheckRange [] [])) [.t 58, .k (.d (.int .i64 1)), .k (.d (.int .i64 9))]⟩,
⟨some 60, none, .fieldAddr 12 (.t 1)⟩,
⟨some 61, none, .load none (.t 60)⟩,
⟨some 62, none, .call false true (.k (.fn n_ref01_CheckRange [] [])) [.t 61, .k (.d (.int .i64 0)), .k (.d (.int .i64 99))]⟩,
⟨some 63, none, .mkList 1 4 [.t 53, .t 56, .t 59, .t 62]⟩,
⟨some 64, none, .call false true (.k (.fn n_ref01_First [] [])) [.t 63]⟩,
⟨some 2, none, .mv (.t 64)⟩] [1, 51, 52, 53, 54, 55, 56, 57, 58, 59, 60, 61, 62, 63, 64])
.ret)))))))⟩

def b_ref02_At_1 : C :=
  (.seq (.seq (.reg false [
⟨some 6, none, .mv (.t 5)⟩,
⟨some 7, none, .mv (.t 0)⟩,
⟨some 8, none, .len .slc (.t 7)⟩,
⟨some 9, none, .bin .lss (.t 6) (.t 8)⟩] [6, 7, 8])
(.cond (.t 9) .skip
 (.exit 0)))
(.seq (.block 1 (.seq (.reg false [
⟨some 12, none, .mv (.t 0)⟩,
⟨some 13, none, .mv (.t 5)⟩,
⟨some 14, none, .idxAddr 13 (.t 12) (.t 13)⟩,
⟨some 15, none, .fieldAddr 0 (.t 14)⟩,
⟨some 16, none, .load none (.t 15)⟩,
⟨some 17, none, .mv (.t 1)⟩,
⟨some 18, none, .bin .eql (.t 16) (.t 17)⟩] [12, 13, 14, 15, 16, 17])
(.cond (.t 18) (.seq (.reg false [
⟨some 19, none, .mv (.t 5)⟩,
⟨some 4, none, .mv (.t 19)⟩] [5, 19])
.ret)
 .skip)))
(.reg false [
⟨some 10, none, .mv (.t 5)⟩,
⟨some 11, none, .bin .add (.t 10) (.k (.d (.int .i64 1)))⟩,
⟨some 5, none, .mv (.t 11)⟩] [10, 11])))

/-- "turnround/turnroundref02.At" -/
def c_ref02_At : CF := ⟨[.tmp 4],
  (.seq (.reg false [
⟨some 4, none, .mv (.k (.d (.int .i64 0)))⟩] [4])
(.seq (.seq (.reg false [
⟨some 5, none, .mv (.k (.d (.int .i64 0)))⟩] [])
(.block 0 (.loop [0, 1, 5] b_ref02_At_1)))
(.seq (.reg false [
⟨some 4, none, .mv (.k (.d (.int .i64 (-1))))⟩] [])
.ret)))⟩

/-- "turnround/turnroundref02.twin" -/
def c_ref02_twin : CF := ⟨[.tmp 4],
  (.seq (.reg false [
⟨some 3, none, .box ty_api_Request (.t 1)⟩,
⟨some 4, none, .mv (.k (.d (.int .i64 0)))⟩] [1, 4])
(.seq (.reg false [
⟨some 6, none, .mv (.t 0)⟩,
⟨some 7, none, .fieldAddr 0 (.t 3)⟩,
⟨some 8, none, .load none (.t 7)⟩,
⟨some 9, none, .call false true (.k (.fn n_ref02_At [] [])) [.t 6, .t 8]⟩,
⟨some 5, none, .mv (.t 9)⟩] [6, 7, 8, 9])
(.seq (.seq (.reg true [
⟨some 10, none, .mv (.t 5)⟩,
⟨some 11, none, .bin .geq (.t 10) (.k (.d (.int .i64 0)))⟩,
⟨some 12, none, .mv (.t 11)⟩,
⟨some 13, (some (12, true)), .mv (.t 0)⟩,
⟨some 14, (some (12, true)), .mv (.t 5)⟩,
⟨some 15, (some (12, true)), .idxAddr 13 (.t 13) (.t 14)⟩,
⟨some 16, (some (12, true)), .fieldAddr 1 (.t 15)⟩,
⟨some 17, (some (12, true)), .load none (.t 16)⟩,
⟨some 18, (some (12, true)), .fieldAddr 1 (.t 3)⟩,
⟨some 19, (some (12, true)), .load none (.t 18)⟩,
⟨some 20, (some (12, true)), .bin .neq (.t 17) (.t 19)⟩,
⟨some 21, none, .pick (.t 12) (.t 20) (.k (.d (.bool false)))⟩] [0, 3, 10, 11, 12, 13, 14, 15, 16, 17, 18, 19, 20])
(.cond (.t 21) (.seq (.reg false [
⟨some 4, none, .mv (.k (.d (.int .i64 (-1))))⟩] [])
.ret)
 .skip))
(.seq (.reg false [
⟨some 22, none, .mv (.t 5)⟩,
⟨some 4, none, .mv (.t 22)⟩] [5, 22])
.ret))))⟩

def b_message_filtered_message_Line_message_Result_1 : C :=
  (.seq (.reg false [
⟨some 13, none, .bin .lss (.t 12) (.t 11)⟩] [])
(.seq (.cond (.t 13) .skip
 (.exit 0))
(.seq (.block 1 (.seq (.reg false [
⟨some 14, none, .idxAddr 14 (.t 10) (.t 12)⟩,
⟨some 15, none, .load (some 14) (.t 14)⟩,
⟨some 7, none, .alloc ty_message_Line [.z (.str []), .z (.str []), .z (.str []), .z (.str []), .z (.str []), .z (.str []), .z (.str []), .z (.int .i64 0), .z (.int .i64 0), .z (.int .i64 0), .z (.int .i64 0), .z (.int .i64 0), .z (.int .i64 0), .z (.int .i64 0)]⟩,
⟨none, none, .store 14 (.t 7) (.t 15)⟩] [14, 15])
(.seq (.reg false [
⟨some 17, none, .mv (.t 1)⟩,
⟨some 18, none, .load (some 14) (.t 7)⟩,
⟨some 19, none, .call true true (.t 17) [.t 18]⟩,
⟨some 16, none, .mv (.t 19)⟩,
⟨some 20, none, .extract (.t 16) 0⟩,
⟨some 21, none, .extract (.t 16) 1⟩,
⟨some 8, none, .alloc ty_message_Result [.z (.str []), .z (.bool false), .z (.int .i64 0)]⟩,
⟨none, none, .store 3 (.t 8) (.t 20)⟩,
⟨some 9, none, .mv (.t 21)⟩] [7, 16, 17, 18, 19, 20, 21])
(.seq (.reg false [
⟨some 22, none, .mv (.t 9)⟩] [9])
(.cond (.t 22) (.reg false [
⟨some 23, none, .mv (.t 5)⟩,
⟨some 24, none, .load (some 3) (.t 8)⟩,
⟨some 25, none, .mkList 3 1 [.t 24]⟩,
⟨some 26, none, .append ⟨false, ty_message_Result, 3, 32⟩ (.t 23) (.t 25)⟩,
⟨some 5, none, .mv (.t 26)⟩] [8, 23, 24, 25, 26])
 .skip)))))
(.reg false [
⟨some 27, none, .bin .add (.t 12) (.k (.d (.int .i64 1)))⟩,
⟨some 12, none, .mv (.t 27)⟩] [27]))))

/-- "turnround/message.filtered[turnround/message.Line,turnround/message.Result]" -/
def c_message_filtered_message_Line_message_Result : CF := ⟨[.tmp 4],
  (.seq (.reg false [
⟨some 4, none, .ownNil ⟨false, ty_message_Result, 3, 32⟩⟩] [4])
(.seq (.reg false [
⟨some 5, none, .ownNil ⟨false, ty_message_Result, 3, 32⟩⟩] [])
(.seq (.seq (.reg false [
⟨some 10, none, .mv (.t 0)⟩,
⟨some 11, none, .len .slc (.t 10)⟩,
⟨some 12, none, .mv (.k (.d (.int .i64 0)))⟩] [0])
(.block 0 (.loop [1, 5, 10, 11, 12] b_message_filtered_message_Line_message_Result_1)))
(.seq (.reg false [
⟨some 28, none, .mv (.t 5)⟩,
⟨some 4, none, .mv (.t 28)⟩] [5, 28])
.ret))))⟩

/-- "turnround/message.Results.1" -/
def c_message_Results_1 : CF := ⟨[.cell 2 (some 3), .tmp 3],
  (.seq (.reg false [
⟨some 1, none, .box ty_message_Line (.t 0)⟩,
⟨some 2, none, .alloc ty_message_Result [.z (.str []), .z (.bool false), .z (.int .i64 0)]⟩,
⟨some 3, none, .mv (.k (.d (.bool false)))⟩] [0, 3])
(.seq (.seq (.reg false [
⟨some 4, none, .fieldAddr 0 (.t 1)⟩,
⟨some 5, none, .load none (.t 4)⟩,
⟨some 6, none, .call false true (.k (.fn n_strings_Contains [] [])) [.k (.d (.str [75, 79])), .t 5]⟩] [4, 5])
(.cond (.t 6) (.seq (.reg false [
⟨some 7, none, .fieldAddr 1 (.t 1)⟩,
⟨some 8, none, .fieldAddr 0 (.t 7)⟩,
⟨some 9, none, .load none (.t 8)⟩,
⟨some 10, none, .fieldAddr 1 (.t 1)⟩,
⟨some 11, none, .fieldAddr 9 (.t 10)⟩,
⟨some 12, none, .load none (.t 11)⟩,
⟨some 13, none, .build [.z (.str []), .z (.bool false), .z (.int .i64 0)] [(0, 1, .t 9), (1, 1, .k (.d (.bool true))), (2, 1, .t 12)]⟩,
⟨none, none, .store 3 (.t 2) (.t 13)⟩,
⟨some 3, none, .mv (.k (.d (.bool true)))⟩] [1, 7, 8, 9, 10, 11, 12, 13])
.ret)
 .skip))
(.seq (.reg false [
⟨some 14, none, .fieldAddr 1 (.t 1)⟩,
⟨some 15, none, .fieldAddr 0 (.t 14)⟩,
⟨some 16, none, .load none (.t 15)⟩,
⟨some 17, none, .build [.z (.str []), .z (.bool false), .z (.int .i64 0)] [(0, 1, .t 16)]⟩,
⟨none, none, .store 3 (.t 2) (.t 17)⟩,
⟨some 3, none, .mv (.k (.d (.bool true)))⟩] [1, 14, 15, 16, 17])
.ret)))⟩

/-- "turnround/message.CheckLine" -/
def c_message_CheckLine : CF := ⟨[.tmp 2],
  (.seq (.reg false [
⟨some 1, none, .box ty_message_Line (.t 0)⟩,
⟨some 2, none, .mv (.k (.d (.int .i64 0)))⟩] [0, 2])
(.seq (.reg true [
⟨some 3, none, .fieldAddr 0 (.t 1)⟩,
⟨some 4, none, .load none (.t 3)⟩,
⟨some 5, none, .call false true (.k (.fn n_message_isAction [] [])) [.t 4]⟩,
⟨some 6, none, .un .not (.t 5)⟩,
⟨some 7, none, .call false true (.k (.fn n_message_when [] [])) [.t 6, .k (.d (.int .i64 13))]⟩,
⟨some 8, none, .fieldAddr 1 (.t 1)⟩,
⟨some 9, none, .load (some 13) (.t 8)⟩,
⟨some 10, none, .call false true (.k (.fn n_message_CheckRequest [] [])) [.t 9]⟩,
⟨some 11, none, .mkList 1 2 [.t 7, .t 10]⟩,
⟨some 12, none, .call false true (.k (.fn n_message_first [] [])) [.t 11]⟩,
⟨some 2, none, .mv (.t 12)⟩] [1, 3, 4, 5, 6, 7, 8, 9, 10, 11, 12])
.ret))⟩

/-- "turnround/message.fields" -/
def c_message_fields : CF := ⟨[.cell 0 (some 28)],
  (.seq (.reg false [
⟨some 0, none, .alloc ty_14_message_field [.z (.nilf), .z (.nilf), .z (.nilf), .z (.nilf), .z (.nilf), .z (.nilf), .z (.nilf), .z (.nilf), .z (.nilf), .z (.nilf), .z (.nilf), .z (.nilf), .z (.nilf), .z (.nilf), .z (.nilf), .z (.nilf), .z (.nilf), .z (.nilf), .z (.nilf), .z (.nilf), .z (.nilf), .z (.nilf), .z (.nilf), .z (.nilf), .z (.nilf), .z (.nilf), .z (.nilf), .z (.nilf)]⟩] [])
(.seq (.reg false [
⟨some 1, none, .call true false (.k (.fn n_message_text [] [])) [.k (.fn n_message_fields_1 [] []), .k (.fn n_message_isAction [] [])]⟩,
⟨some 2, none, .call true false (.k (.fn n_message_text [] [])) [.k (.fn n_message_fields_2 [] []), .k (.fn n_calendar_IsName [] [])]⟩,
⟨some 3, none, .call true false (.k (.fn n_message_text [] [])) [.k (.fn n_message_fields_3 [] []), .k (.fn n_calendar_IsName [] [])]⟩,
⟨some 4, none, .call true false (.k (.fn n_message_text [] [])) [.k (.fn n_message_fields_4 [] []), .k (.fn n_message_isKind [] [])]⟩,
⟨some 5, none, .call true false (.k (.fn n_message_text [] [])) [.k (.fn n_message_fields_5 [] []), .k (.fn n_calendar_IsName [] [])]⟩,
⟨some 6, none, .call true false (.k (.fn n_message_digits [] [])) [.k (.fn n_message_fields_6 [] []), .k (.d (.int .i64 5))]⟩,
⟨some 7, none, .call true false (.k (.fn n_message_digits [] [])) [.k (.fn n_message_fields_7 [] []), .k (.d (.int .i64 5))]⟩,
⟨some 8, none, .build [.z (.nilf), .z (.nilf)] [(0, 1, .k (.fn n_message_fields_8 [] [])), (1, 1, .k (.fn n_message_fields_9 [] []))]⟩,
⟨some 9, none, .build [.z (.nilf), .z (.nilf)] [(0, 1, .k (.fn n_message_fields_10 [] [])), (1, 1, .k (.fn n_message_fields_11 [] []))]⟩,
⟨some 10, none, .call true false (.k (.fn n_message_digits [] [])) [.k (.fn n_message_fields_12 [] []), .k (.d (.int .i64 3))]⟩,
⟨some 11, none, .call true false (.k (.fn n_message_digits [] [])) [.k (.fn n_message_fields_13 [] []), .k (.d (.int .i64 1))]⟩,
⟨some 12, none, .call true false (.k (.fn n_message_digits [] [])) [.k (.fn n_message_fields_14 [] []), .k (.d (.int .i64 2))]⟩,
⟨some 13, none, .call true false (.k (.fn n_message_dashed [] [])) [.k (.fn n_message_fields_15 [] [])]⟩,
⟨some 14, none, .call true false (.k (.fn n_message_dashed [] [])) [.k (.fn n_message_fields_16 [] [])]⟩,
⟨some 15, none, .build [.z (.nilf), .z (.nilf), .z (.nilf), .z (.nilf), .z (.nilf), .z (.nilf), .z (.nilf), .z (.nilf), .z (.nilf), .z (.nilf), .z (.nilf), .z (.nilf), .z (.nilf), .z (.nilf), .z (.nilf), .z (.nilf), .z (.nilf), .z (.nilf), .z (.nilf), .z (.nilf), .z (.nilf), .z (.nilf), .z (.nilf), .z (.nilf), .z (.nilf), .z (.nilf), .z (.nilf), .z (.nilf)] [(0, 2, .t 1), (2, 2, .t 2), (4, 2, .t 3), (6, 2, .t 4), (8, 2, .t 5), (10, 2, .t 6), (12, 2, .t 7), (14, 2, .t 8), (16, 2, .t 9), (18, 2, .t 10), (20, 2, .t 11), (22, 2, .t 12), (24, 2, .t 13), (26, 2, .t 14)]⟩,
⟨none, none, .store 28 (.t 0) (.t 15)⟩] [1, 2, 3, 4, 5, 6, 7, 8, 9, 10, 11, 12, 13, 14, 15])
.ret))⟩

/-- "turnround/message.within" -/
def c_message_within : CF := ⟨[.tmp 6],
  (.seq (.reg false [
⟨some 6, none, .mv (.k (.d (.int .i64 0)))⟩] [6])
(.seq (.reg false [
⟨some 7, none, .mv (.t 0)⟩,
⟨some 8, none, .mv (.t 1)⟩,
⟨some 9, none, .bin .lss (.t 7) (.t 8)⟩,
⟨some 10, none, .mv (.t 9)⟩,
⟨some 11, (some (10, false)), .mv (.t 0)⟩,
⟨some 12, (some (10, false)), .mv (.t 2)⟩,
⟨some 13, (some (10, false)), .bin .gtr (.t 11) (.t 12)⟩,
⟨some 14, none, .pick (.t 10) (.k (.d (.bool true))) (.t 13)⟩,
⟨some 15, none, .call false true (.k (.fn n_message_when [] [])) [.t 14, .k (.d (.int .i64 3))]⟩,
⟨some 6, none, .mv (.t 15)⟩] [0, 1, 2, 7, 8, 9, 10, 11, 12, 13, 14, 15])
.ret))⟩

def b_message_checkBoth_1 : C :=
  (.seq (.reg false [
⟨some 26, none, .bin .lss (.t 25) (.t 24)⟩] [])
(.seq (.cond (.t 26) .skip
 (.exit 0))
(.seq (.block 1 (.seq (.reg false [
⟨some 27, none, .mv (.t 25)⟩,
⟨some 28, none, .idxAddr 3 (.t 23) (.t 25)⟩,
⟨some 29, none, .load (some 3) (.t 28)⟩,
⟨some 7, none, .alloc ty_message_Result [.z (.str []), .z (.bool false), .z (.int .i64 0)]⟩,
⟨some 6, none, .mv (.t 27)⟩,
⟨none, none, .store 3 (.t 7) (.t 29)⟩] [27, 28, 29])
(.seq (.reg true [
⟨some 30, none, .fieldAddr 0 (.t 7)⟩,
⟨some 31, none, .load none (.t 30)⟩,
⟨some 32, none, .mv (.t 0)⟩,
⟨some 33, none, .mv (.t 6)⟩,
⟨some 34, none, .idxAddr 13 (.t 32) (.t 33)⟩,
⟨some 35, none, .fieldAddr 0 (.t 34)⟩,
⟨some 36, none, .load none (.t 35)⟩,
⟨some 37, none, .bin .neq (.t 31) (.t 36)⟩] [6, 7, 30, 31, 32, 33, 34, 35, 36])
(.cond (.t 37) (.seq (.reg false [
⟨some 4, none, .mv (.k (.d (.int .i64 10)))⟩] [])
.ret)
 .skip))))
(.reg false [
⟨some 38, none, .bin .add (.t 25) (.k (.d (.int .i64 1)))⟩,
⟨some 25, none, .mv (.t 38)⟩] [38]))))

/-- "turnround/message.checkBoth" -/
def c_message_checkBoth : CF := ⟨[.tmp 4],
  (.seq (.reg false [
⟨some 4, none, .mv (.k (.d (.int .i64 0)))⟩] [4])
(.seq (.seq (.reg false [
⟨some 8, none, .mv (.t 0)⟩,
⟨some 9, none, .call false true (.k (.fn n_message_checkRequests [] [])) [.t 8]⟩,
⟨some 10, none, .mv (.t 1)⟩,
⟨some 11, none, .call false true (.k (.fn n_message_checkResults [] [])) [.t 10]⟩,
⟨some 12, none, .mv (.t 0)⟩,
⟨some 13, none, .len .slc (.t 12)⟩,
⟨some 14, none, .mv (.t 1)⟩,
⟨some 15, none, .len .slc (.t 14)⟩,
⟨some 16, none, .bin .neq (.t 13) (.t 15)⟩,
⟨some 17, none, .call false true (.k (.fn n_message_when [] [])) [.t 16, .k (.d (.int .i64 2))]⟩,
⟨some 18, none, .mkList 1 3 [.t 9, .t 11, .t 17]⟩,
⟨some 19, none, .call false true (.k (.fn n_message_first [] [])) [.t 18]⟩,
⟨some 5, none, .mv (.t 19)⟩] [8, 9, 10, 11, 12, 13, 14, 15, 16, 17, 18, 19])
(.seq (.reg false [
⟨some 20, none, .mv (.t 5)⟩,
⟨some 21, none, .bin .neq (.t 20) (.k (.d (.int .i64 0)))⟩] [20])
(.cond (.t 21) (.seq (.reg false [
⟨some 22, none, .mv (.t 5)⟩,
⟨some 4, none, .mv (.t 22)⟩] [5, 22])
.ret)
 .skip)))
(.seq (.seq (.reg false [
⟨some 23, none, .mv (.t 1)⟩,
⟨some 24, none, .len .slc (.t 23)⟩,
⟨some 25, none, .mv (.k (.d (.int .i64 0)))⟩] [1])
(.block 0 (.loop [0, 23, 24, 25] b_message_checkBoth_1)))
(.seq (.reg false [
⟨some 4, none, .mv (.k (.d (.int .i64 0)))⟩] [])
.ret))))⟩

/-- "turnround/message.moved" -/
def c_message_moved : CF := ⟨[.cell 4 (some 13)],
  (.seq (.reg false [
⟨some 2, none, .box ty_api_Request (.t 0)⟩,
⟨some 4, none, .alloc ty_api_Request [.z (.str []), .z (.str []), .z (.str []), .z (.str []), .z (.str []), .z (.str []), .z (.int .i64 0), .z (.int .i64 0), .z (.int .i64 0), .z (.int .i64 0), .z (.int .i64 0), .z (.int .i64 0), .z (.int .i64 0)]⟩] [0])
(.seq (.reg false [
⟨some 5, none, .mv (.t 1)⟩,
⟨some 6, none, .fieldAddr 9 (.t 2)⟩,
⟨none, none, .store 1 (.t 6) (.t 5)⟩] [1, 5, 6])
(.seq (.reg false [
⟨some 7, none, .load (some 13) (.t 2)⟩,
⟨none, none, .store 13 (.t 4) (.t 7)⟩] [2, 7])
.ret)))⟩

def b_ref01_IsName_1 : C :=
  (.seq (.seq (.reg false [
⟨some 14, none, .mv (.t 3)⟩,
⟨some 15, none, .mv (.t 0)⟩,
⟨some 16, none, .len .str (.t 15)⟩,
⟨some 17, none, .bin .lss (.t 14) (.t 16)⟩] [14, 15, 16])
(.cond (.t 17) .skip
 (.exit 0)))
(.seq (.block 1 (.seq (.reg false [
⟨some 20, none, .mv (.t 0)⟩,
⟨some 21, none, .mv (.t 3)⟩,
⟨some 22, none, .idxS (.t 20) (.t 21)⟩,
⟨some 4, none, .mv (.t 22)⟩] [20, 21, 22])
(.seq (.reg false [
⟨some 23, none, .mv (.t 4)⟩,
⟨some 24, none, .bin .geq (.t 23) (.k (.d (.int .u8 97)))⟩,
⟨some 25, none, .mv (.t 24)⟩,
⟨some 26, (some (25, true)), .mv (.t 4)⟩,
⟨some 27, (some (25, true)), .bin .leq (.t 26) (.k (.d (.int .u8 122)))⟩,
⟨some 28, none, .pick (.t 25) (.t 27) (.k (.d (.bool false)))⟩,
⟨some 29, none, .mv (.t 28)⟩,
⟨some 30, (some (29, false)), .mv (.t 4)⟩,
⟨some 31, (some (29, false)), .bin .geq (.t 30) (.k (.d (.int .u8 65)))⟩,
⟨some 32, (some (29, false)), .mv (.t 31)⟩,
⟨some 33, (some (32, true)), .mv (.t 4)⟩,
⟨some 34, (some (32, true)), .bin .leq (.t 33) (.k (.d (.int .u8 90)))⟩,
⟨some 35, (some (29, false)), .pick (.t 32) (.t 34) (.k (.d (.bool false)))⟩,
⟨some 36, none, .pick (.t 29) (.k (.d (.bool true))) (.t 35)⟩,
⟨some 5, none, .mv (.t 36)⟩] [23, 24, 25, 26, 27, 28, 29, 30, 31, 32, 33, 34, 35, 36])
(.seq (.reg false [
⟨some 37, none, .mv (.t 5)⟩,
⟨some 38, none, .un .not (.t 37)⟩,
⟨some 39, none, .mv (.t 38)⟩,
⟨some 40, (some (39, true)), .mv (.t 3)⟩,
⟨some 41, (some (39, true)), .bin .eql (.t 40) (.k (.d (.int .i64 0)))⟩,
⟨some 42, (some (39, true)), .mv (.t 41)⟩,
⟨some 43, (some (42, false)), .mv (.t 4)⟩,
⟨some 44, (some (42, false)), .bin .neq (.t 43) (.k (.d (.int .u8 95)))⟩,
⟨some 45, (some (42, false)), .mv (.t 44)⟩,
⟨some 46, (some (45, true)), .mv (.t 4)⟩,
⟨some 47, (some (45, true)), .bin .lss (.t 46) (.k (.d (.int .u8 48)))⟩,
⟨some 48, (some (45, true)), .mv (.t 47)⟩,
⟨some 49, (some (48, false)), .mv (.t 4)⟩,
⟨some 50, (some (48, false)), .bin .gtr (.t 49) (.k (.d (.int .u8 57)))⟩,
⟨some 51, (some (45, true)), .pick (.t 48) (.k (.d (.bool true))) (.t 50)⟩,
⟨some 52, (some (42, false)), .pick (.t 45) (.t 51) (.k (.d (.bool false)))⟩,
⟨some 53, (some (39, true)), .pick (.t 42) (.k (.d (.bool true))) (.t 52)⟩,
⟨some 54, none, .pick (.t 39) (.t 53) (.k (.d (.bool false)))⟩] [4, 5, 37, 38, 39, 40, 41, 42, 43, 44, 45, 46, 47, 48, 49, 50, 51, 52, 53])
(.cond (.t 54) (.seq (.reg false [
⟨some 2, none, .mv (.k (.d (.bool false)))⟩] [])
.ret)
 .skip)))))
(.reg false [
⟨some 18, none, .mv (.t 3)⟩,
⟨some 19, none, .bin .add (.t 18) (.k (.d (.int .i64 1)))⟩,
⟨some 3, none, .mv (.t 19)⟩] [18, 19])))

/-- "turnround/turnroundref01.IsName" -/
def c_ref01_IsName : CF := ⟨[.tmp 2],
  (.seq (.reg false [
⟨some 2, none, .mv (.k (.d (.bool false)))⟩] [2])
(.seq (.seq (.reg false [
⟨some 6, none, .mv (.t 0)⟩,
⟨some 7, none, .len .str (.t 6)⟩,
⟨some 8, none, .bin .eql (.t 7) (.k (.d (.int .i64 0)))⟩,
⟨some 9, none, .mv (.t 8)⟩,
⟨some 10, (some (9, false)), .mv (.t 0)⟩,
⟨some 11, (some (9, false)), .len .str (.t 10)⟩,
⟨some 12, (some (9, false)), .bin .gtr (.t 11) (.k (.d (.int .i64 24)))⟩,
⟨some 13, none, .pick (.t 9) (.k (.d (.bool true))) (.t 12)⟩] [6, 7, 8, 9, 10, 11, 12])
(.cond (.t 13) (.seq (.reg false [
⟨some 2, none, .mv (.k (.d (.bool false)))⟩] [])
.ret)
 .skip))
(.seq (.seq (.reg false [
⟨some 3, none, .mv (.k (.d (.int .i64 0)))⟩] [])
(.block 0 (.loop [0, 3] b_ref01_IsName_1)))
(.seq (.reg false [
⟨some 2, none, .mv (.k (.d (.bool true)))⟩] [])
.ret))))⟩


end Go.Proofs.YtgncpnnakchodaaGreatDoor.Co
