/-
  The functions of the seat in the evaluator's syntax (printed by a program of mine; checked in a text that follows).
-/
import Derived.Test.YtlnlcdnpgjhaaabGreatDoorEvE
namespace Go.Proofs.YtlnlcdnpgjhaaabGreatDoor.Co
open Go.Evl

def n_top_TopChockParts : Nat := 5
def n_message_Requests : Nat := 9
def n_message_Changed : Nat := 14
def n_ref02_CheckRequest : Nat := 17
def n_top_chockMail : Nat := 18
def n_calendar_Split : Nat := 19
def n_calendar_Join : Nat := 20
def n_ref01_DaysOf : Nat := 21
def n_top_chockRead : Nat := 22
def n_top_chockSent : Nat := 23
def n_calendar_DaysOf : Nat := 24
def n_ref01_SameInts : Nat := 25
def n_message_PrintMinute : Nat := 27
def n_message_ParseMinute : Nat := 28
def n_message_PrintLine : Nat := 29
def n_message_ParseLine : Nat := 30
def n_message_PrintMessage : Nat := 31
def n_message_ParseMessage : Nat := 32
def n_message_first : Nat := 37
def n_message_CheckMessage : Nat := 38
def n_message_when : Nat := 39
def n_message_step : Nat := 40
def n_message_checkRequests : Nat := 43
def n_message_Changed_1 : Nat := 44
def n_slices_IndexFunc_Lapi_Request_api_Request : Nat := 45
def n_message_Changed_1_1 : Nat := 46
def n_message_twins : Nat := 47
def n_message_filtered_api_Request_message_Line : Nat := 48
def n_message_Changed_2 : Nat := 49
def n_message_Changed_3 : Nat := 50
def n_ref01_IsName : Nat := 51
def n_ref02_optional : Nat := 52
def n_ref01_CheckPeriod : Nat := 53
def n_ref01_First : Nat := 54
def n_ref01_CheckRange : Nat := 55
def n_calendar_CheckPeriod : Nat := 56
def n_calendar_first : Nat := 57
def n_calendar_checkDay : Nat := 58
def n_calendar_when : Nat := 59
def n_calendar_weekOf : Nat := 60
def n_calendar_weekday : Nat := 61
def n_slices_Clip_Lapi_Period_api_Period : Nat := 62
def n_ref01_Has : Nat := 63
def n_calendar_collected_int : Nat := 64
def n_calendar_daysOf : Nat := 65
def n_calendar_DaysOf_1 : Nat := 66
def n_message_within : Nat := 67
def n_message_wide : Nat := 68
def n_message_number : Nat := 69
def n_message_CheckLine : Nat := 70
def n_message_printLine : Nat := 71
def n_message_fields : Nat := 73
def n_strings_Builder_WriteString : Nat := 74
def n_message_texts : Nat := 76
def n_strings_CutSuffix : Nat := 77
def n_message_head : Nat := 78
def n_message_checkLines : Nat := 79
def n_message_checkHead : Nat := 80
def n_message_isMessage : Nat := 87
def n_message_find : Nat := 88
def n_message_CheckRequest : Nat := 92
def n_ref01_CheckDay : Nat := 93
def n_calendar_within : Nat := 94
def n_ref01_InMask : Nat := 95
def n_ref01_Weekday : Nat := 96
def n_calendar_daysOf_1 : Nat := 97
def n_calendar_inMask : Nat := 98
def n_message_isAction : Nat := 101
def n_message_text : Nat := 104
def n_message_fields_1 : Nat := 105
def n_message_fields_2 : Nat := 106
def n_calendar_IsName : Nat := 107
def n_message_fields_3 : Nat := 108
def n_message_fields_4 : Nat := 109
def n_message_isKind : Nat := 110
def n_message_fields_5 : Nat := 111
def n_message_digits : Nat := 112
def n_message_fields_6 : Nat := 113
def n_message_fields_7 : Nat := 114
def n_message_fields_8 : Nat := 115
def n_calendar_PrintMask : Nat := 116
def n_message_fields_9 : Nat := 117
def n_calendar_ParseMask : Nat := 118
def n_message_fields_10 : Nat := 119
def n_message_fields_11 : Nat := 120
def n_message_fields_12 : Nat := 121
def n_message_fields_13 : Nat := 122
def n_message_fields_14 : Nat := 123
def n_message_dashed : Nat := 124
def n_message_fields_15 : Nat := 125
def n_message_fields_16 : Nat := 126
def n_message_texts_1 : Nat := 128
def n_strings_IndexByte : Nat := 129
def n_internal_stringslite_CutSuffix : Nat := 130
def n_message_actions : Nat := 131
def n_message_named : Nat := 132
def n_message_isSeason : Nat := 133
def n_slices_IndexFunc_Lmessage_Entry_message_Entry : Nat := 136
def n_message_find_1 : Nat := 137
def n_message_optional : Nat := 141
def n_message_text_1 : Nat := 149
def n_message_text_2 : Nat := 150
def n_message_digits_1 : Nat := 151
def n_message_digits_2 : Nat := 152
def n_calendar_printMask : Nat := 153
def n_message_dashed_1 : Nat := 154
def n_message_dashed_2 : Nat := 155
def n_strings_Builder_WriteByte : Nat := 171
def n_strings_Split : Nat := 72
def n_strings_Builder_String : Nat := 75
def n_strings_Contains : Nat := 85
def n_strconv_Itoa : Nat := 99
def n_strings_Repeat : Nat := 100
def n_strings_Join : Nat := 102
def n_strings_genSplit : Nat := 103
def n_strings_Builder_copyCheck : Nat := 127
def n_internal_stringslite_IndexByte : Nat := 157
def n_internal_stringslite_HasSuffix : Nat := 158
def ty_int : Nat := 3
def ty_bool : Nat := 4
def ty_uint8 : Nat := 5
def ty_string : Nat := 9
def ty_message_Message : Nat := 31
def ty_api_Errno : Nat := 34
def ty_Lapi_Request : Nat := 43
def ty_api_Period : Nat := 46
def ty_api_Request : Nat := 48
def ty_message_Line : Nat := 50
def ty_message_Entry : Nat := 55
def ty_2_api_Period : Nat := 59
def ty_Lint : Nat := 65
def ty_func_Lapi_Request_api_Request_api_Request_bool : Nat := 109
def ty_func_string_bool : Nat := 113
def ty_func_int_bool : Nat := 127
def ty_message_field : Nat := 138
def ty_14_message_field : Nat := 139
def ty_strings_Builder : Nat := 145
def ty_func_ptr_message_Line_ptr_string : Nat := 181
def ty_func_ptr_message_Line_ptr_int : Nat := 184

def b_top_TopChockParts_1 : C :=
  (.seq (.reg false [
tq 154 (.bin .lss (.t 153) (.t 152))] [])
(.seq (.cond (.t 154) .skip
 (.exit 0))
(.seq (.block 1 (.seq (.reg false [
tq 155 (.idxAddr 13 (.t 151) (.t 153)),
tq 156 (.load (some 13) (.t 155)),
tq 19 (.alloc ty_api_Request [.z (.str []), .z (.str []), .z (.str []), .z (.str []), .z (.str []), .z (.str []), .z (.int .i64 0), .z (.int .i64 0), .z (.int .i64 0), .z (.int .i64 0), .z (.int .i64 0), .z (.int .i64 0), .z (.int .i64 0)]),
⟨none, none, .store 13 (.t 19) (.t 156)⟩] [155, 156])
(.seq (.reg false [
fa 158 6 19,
tq 159 (.load (some 3) (.t 158)),
tq 160 (.call false true (.k (.fn n_calendar_DaysOf [] [])) [.t 159]),
tq 157 (.mv (.t 160)),
tq 161 (.extract (.t 157) 0),
tq 162 (.extract (.t 157) 1),
tq 20 (.mv (.t 161)),
tq 21 (.mv (.t 162))] [19, 157, 158, 159, 160, 161, 162])
(.seq (.seq (.reg false [
tq 163 (.mv (.t 21)),
tq 164 (.bin .neq (.t 163) (kq 0))] [21, 163])
(.cond (.t 164) (.seq (.reg false [
tq 4 (.mv (.k (.d (.bool false))))] [])
.ret)
 .skip))
(.reg false [
tq 165 (.mv (.t 17)),
tq 166 (.mv (.t 20)),
tq 167 (.append ⟨false, ty_int, 1, 8⟩ (.t 165) (.t 166)),
tq 17 (.mv (.t 167))] [20, 165, 166, 167])))))
(.reg false [
tq 168 (.bin .add (.t 153) (kq 1)),
tq 153 (.mv (.t 168))] [168]))))

def b_top_TopChockParts_2 : C :=
  (.seq (.reg false [
tq 192 (.bin .lss (.t 191) (.t 190))] [])
(.seq (.cond (.t 192) .skip
 (.exit 4))
(.seq (.block 5 (.seq (.reg false [
tq 193 (.idxAddr 1 (.t 189) (.t 191)),
ld 194 193,
tq 29 (.mv (.t 194))] [193, 194])
(.seq (.reg false [
tq 195 (.mv (.t 22)),
tq 196 (.mv (.t 29)),
⟨none, none, .mapSet .int (.t 195) (.t 196) (.k (.d (.bool true)))⟩] [29, 195, 196])
(.reg false [
tq 197 (.mv (.t 23)),
tq 198 (.bin .add (.t 197) (kq 1)),
tq 23 (.mv (.t 198))] [197, 198]))))
(.reg false [
tq 199 (.bin .add (.t 191) (kq 1)),
tq 191 (.mv (.t 199))] [199]))))

def b_top_TopChockParts_3 : C :=
  (.seq (.reg false [
tq 179 (.bin .lss (.t 178) (.t 177))] [])
(.seq (.cond (.t 179) .skip
 (.exit 2))
(.seq (.block 3 (.seq (.reg false [
tq 180 (.idxAddr 3 (.t 176) (.t 178)),
tq 181 (.load (some 3) (.t 180)),
tq 25 (.alloc ty_api_Period [.z (.int .i64 0), .z (.int .i64 0), .z (.int .i64 0)]),
⟨none, none, .store 3 (.t 25) (.t 181)⟩] [180, 181])
(.seq (.reg false [
tq 183 (.load (some 3) (.t 25)),
tq 184 (.call false true (.k (.fn n_calendar_DaysOf [] [])) [.t 183]),
tq 182 (.mv (.t 184)),
tq 185 (.extract (.t 182) 0),
tq 186 (.extract (.t 182) 1),
tq 26 (.mv (.t 185)),
tq 27 (.mv (.t 186))] [25, 182, 183, 184, 185, 186])
(.seq (.seq (.reg false [
tq 187 (.mv (.t 27)),
tq 188 (.bin .neq (.t 187) (kq 0))] [27, 187])
(.cond (.t 188) (.seq (.reg false [
tq 4 (.mv (.k (.d (.bool false))))] [])
.ret)
 .skip))
(.seq (.reg false [
tq 189 (.mv (.t 26)),
tq 190 (.len .slc (.t 189)),
tq 191 (.mv (kq 0))] [26])
(.block 4 (.loop [17, 22, 23, 176, 177, 178, 189, 190, 191] b_top_TopChockParts_2)))))))
(.reg false [
tq 200 (.bin .add (.t 178) (kq 1)),
tq 178 (.mv (.t 200))] [200]))))

def b_top_TopChockParts_4 : C :=
  (.seq (.reg false [
tq 204 (.bin .lss (.t 203) (.t 202))] [])
(.seq (.cond (.t 204) .skip
 (.exit 6))
(.seq (.block 7 (.seq (.reg false [
tq 205 (.idxAddr 1 (.t 201) (.t 203)),
ld 206 205,
tq 31 (.mv (.t 206))] [205, 206])
(.seq (.reg false [
tq 207 (.mv (.t 22)),
tq 208 (.mv (.t 31)),
tq 209 (.lookup .int (.bool false) false (.t 207) (.t 208)),
tq 210 (.un .not (.t 209))] [31, 207, 208, 209])
(.cond (.t 210) (.seq (.reg false [
tq 4 (.mv (.k (.d (.bool false))))] [])
.ret)
 .skip))))
(.reg false [
tq 211 (.bin .add (.t 203) (kq 1)),
tq 203 (.mv (.t 211))] [211]))))

def c_top_TopChockParts : CF := ⟨[.tmp 4],
  (.seq (.reg false [
tq 2 (.box ty_api_Request (.t 0)),
tq 4 (.mv (.k (.d (.bool false))))] [0, 4])
(.seq (.seq (.reg false [
tq 32 (.load (some 13) (.t 2)),
tq 33 (.call false true (.k (.fn n_ref02_CheckRequest [] [])) [.t 32]),
tq 34 (.bin .neq (.t 33) (kq 0)),
tq 35 (.mv (.t 34)),
⟨some 36, (some (35, false)), .fieldAddr 6 (.t 2)⟩,
⟨some 37, (some (35, false)), .fieldAddr 1 (.t 36)⟩,
⟨some 38, (some (35, false)), .load none (.t 37)⟩,
⟨some 39, (some (35, false)), .fieldAddr 6 (.t 2)⟩,
⟨some 40, (some (35, false)), .fieldAddr 0 (.t 39)⟩,
⟨some 41, (some (35, false)), .load none (.t 40)⟩,
⟨some 42, (some (35, false)), .bin .sub (.t 38) (.t 41)⟩,
⟨some 43, (some (35, false)), .bin .gtr (.t 42) (kq 40)⟩,
tq 44 (.pick (.t 35) (.k (.d (.bool true))) (.t 43)),
tq 45 (.mv (.t 44)),
⟨some 46, (some (45, false)), .fieldAddr 6 (.t 2)⟩,
⟨some 47, (some (45, false)), .fieldAddr 1 (.t 46)⟩,
⟨some 48, (some (45, false)), .load none (.t 47)⟩,
⟨some 49, (some (45, false)), .fieldAddr 6 (.t 2)⟩,
⟨some 50, (some (45, false)), .fieldAddr 0 (.t 49)⟩,
⟨some 51, (some (45, false)), .load none (.t 50)⟩,
⟨some 52, (some (45, false)), .bin .eql (.t 48) (.t 51)⟩,
tq 53 (.pick (.t 45) (.k (.d (.bool true))) (.t 52)),
tq 54 (.mv (.t 53)),
⟨some 55, (some (54, false)), .fieldAddr 0 (.t 2)⟩,
⟨some 56, (some (54, false)), .load none (.t 55)⟩,
⟨some 57, (some (54, false)), .bin .eql (.t 56) (.k (.d (.str [111, 116, 104, 101, 114])))⟩,
tq 58 (.pick (.t 54) (.k (.d (.bool true))) (.t 57)),
tq 59 (.mv (.t 58)),
⟨some 60, (some (59, false)), .fieldAddr 5 (.t 2)⟩,
⟨some 61, (some (59, false)), .load none (.t 60)⟩,
⟨some 62, (some (59, false)), .bin .eql (.t 61) (.k (.d (.str [111, 116, 104, 101, 114])))⟩,
tq 63 (.pick (.t 59) (.k (.d (.bool true))) (.t 62))] [32, 33, 34, 35, 36, 37, 38, 39, 40, 41, 42, 43, 44, 45, 46, 47, 48, 49, 50, 51, 52, 53, 54, 55, 56, 57, 58, 59, 60, 61, 62])
(.cond (.t 63) (.seq (.reg false [
tq 64 (.call false true (.k (.fn n_top_chockMail [] [])) []),
tq 4 (.mv (.t 64))] [64])
.ret)
 .skip))
(.seq (.reg true [
fa 65 6 2,
fa 66 0 65,
ld 67 66,
tq 68 (.bin .add (.t 67) (kq 1)),
tq 69 (.mv (.t 1)),
tq 70 (.conv .i64 (.t 69)),
fa 71 6 2,
fa 72 1 71,
ld 73 72,
fa 74 6 2,
fa 75 0 74,
ld 76 75,
tq 77 (.bin .sub (.t 73) (.t 76)),
tq 78 (.bin .rem (.t 70) (.t 77)),
tq 79 (.bin .add (.t 68) (.t 78)),
tq 5 (.mv (.t 79))] [1, 65, 66, 67, 68, 69, 70, 71, 72, 73, 74, 75, 76, 77, 78, 79])
(.seq (.reg false [
fa 81 6 2,
tq 82 (.load (some 3) (.t 81)),
tq 83 (.mv (.t 5)),
tq 84 (.call false true (.k (.fn n_calendar_Split [] [])) [.t 82, .t 83]),
tq 80 (.mv (.t 84)),
tq 85 (.extract (.t 80) 0),
tq 86 (.extract (.t 80) 1),
tq 6 (.alloc ty_2_api_Period [.z (.int .i64 0), .z (.int .i64 0), .z (.int .i64 0), .z (.int .i64 0), .z (.int .i64 0), .z (.int .i64 0)]),
⟨none, none, .store 6 (.t 6) (.t 85)⟩,
tq 7 (.mv (.t 86))] [5, 80, 81, 82, 83, 84, 85, 86])
(.seq (.reg false [
fa 88 6 2,
tq 89 (.load (some 3) (.t 88)),
tq 90 (.call false true (.k (.fn n_ref01_DaysOf [] [])) [.t 89]),
tq 91 (.call false true (.k (.fn n_calendar_Join [] [])) [.t 90]),
tq 87 (.mv (.t 91)),
tq 92 (.extract (.t 87) 0),
tq 93 (.extract (.t 87) 1),
tq 8 (.mv (.t 92)),
tq 9 (.mv (.t 93))] [87, 88, 89, 90, 91, 92, 93])
(.seq (.seq (.reg false [
tq 94 (.mv (.t 7)),
tq 95 (.bin .neq (.t 94) (kq 0)),
tq 96 (.mv (.t 95)),
⟨some 97, (some (96, false)), .mv (.t 9)⟩,
⟨some 98, (some (96, false)), .bin .neq (.t 97) (kq 0)⟩,
tq 99 (.pick (.t 96) (.k (.d (.bool true))) (.t 98)),
tq 100 (.mv (.t 99)),
⟨some 101, (some (100, false)), .mv (.t 8)⟩,
⟨some 102, (some (100, false)), .len .slc (.t 101)⟩,
⟨some 103, (some (100, false)), .bin .gtr (.t 102) (kq 41)⟩,
tq 104 (.pick (.t 100) (.k (.d (.bool true))) (.t 103))] [7, 9, 94, 95, 96, 97, 98, 99, 100, 101, 102, 103])
(.cond (.t 104) (.seq (.reg false [
tq 4 (.mv (.k (.d (.bool false))))] [])
.ret)
 .skip))
(.seq (.reg true [
tq 105 (.load (some 13) (.t 2)),
tq 106 (.load (some 13) (.t 2)),
tq 10 (.alloc ty_api_Request [.z (.str []), .z (.str []), .z (.str []), .z (.str []), .z (.str []), .z (.str []), .z (.int .i64 0), .z (.int .i64 0), .z (.int .i64 0), .z (.int .i64 0), .z (.int .i64 0), .z (.int .i64 0), .z (.int .i64 0)]),
tq 11 (.alloc ty_api_Request [.z (.str []), .z (.str []), .z (.str []), .z (.str []), .z (.str []), .z (.str []), .z (.int .i64 0), .z (.int .i64 0), .z (.int .i64 0), .z (.int .i64 0), .z (.int .i64 0), .z (.int .i64 0), .z (.int .i64 0)]),
⟨none, none, .storeR 13 (.t 10) (.t 105) [2]⟩,
⟨none, none, .store 13 (.t 11) (.t 106)⟩] [105, 106])
(.seq (.reg true [
tq 107 (.idxAddrA 2 3 (.t 6) (kq 0)),
tq 108 (.load (some 3) (.t 107)),
tq 109 (.idxAddrA 2 3 (.t 6) (kq 1)),
tq 110 (.load (some 3) (.t 109)),
fa 111 6 10,
⟨none, none, .storeR 3 (.t 111) (.t 108) [6]⟩,
fa 112 6 11,
⟨none, none, .store 3 (.t 112) (.t 110)⟩,
fa 113 0 11,
⟨none, none, .store 1 (.t 113) (.k (.d (.str [111, 116, 104, 101, 114])))⟩] [6, 107, 108, 109, 110, 111, 112, 113])
(.seq (.seq (.reg false [
fa 114 5 11,
ld 115 114,
fa 116 0 11,
ld 117 116,
tq 118 (.bin .eql (.t 115) (.t 117))] [114, 115, 116, 117])
(.cond (.t 118) (.seq (.reg false [
tq 119 (.call false true (.k (.fn n_top_chockMail [] [])) []),
tq 4 (.mv (.t 119))] [119])
.ret)
 .skip))
(.seq (.reg false [
tq 121 (.load (some 13) (.t 2)),
tq 122 (.mkList 13 1 [.t 121]),
tq 123 (.load (some 13) (.t 10)),
tq 124 (.load (some 13) (.t 11)),
tq 125 (.mkList 13 2 [.t 123, .t 124]),
tq 126 (.call false true (.k (.fn n_message_Changed [] [])) [.t 122, .t 125]),
tq 120 (.mv (.t 126)),
tq 127 (.extract (.t 120) 0),
tq 128 (.extract (.t 120) 1),
tq 12 (.mv (.t 127)),
tq 13 (.mv (.t 128))] [10, 11, 120, 121, 122, 123, 124, 125, 126, 127, 128])
(.seq (.reg false [
tq 129 (.mv (.t 12)),
tq 130 (.build [.z (.str []), .z (.str []), .z (.str []), .z (.int .i64 0), .z (.list 0 [])] [(0, 1, .k (.d (.str [82, 69, 81]))), (1, 1, .k (.d (.str [104, 101, 114, 101]))), (2, 1, .k (.d (.str [83, 50, 48, 50, 52]))), (3, 1, kq 200), (4, 1, .t 129)]),
tq 14 (.alloc ty_message_Message [.z (.str []), .z (.str []), .z (.str []), .z (.int .i64 0), .z (.list 0 [])]),
⟨none, none, .store 5 (.t 14) (.t 130)⟩] [12, 129, 130])
(.seq (.reg true [
tq 132 (.load (some 13) (.t 2)),
tq 133 (.mkList 13 1 [.t 132]),
tq 134 (.call false true (.k (.fn n_top_chockSent [] [])) [.t 133, kq 100]),
tq 135 (.load (some 5) (.t 14)),
tq 136 (.mkList 5 2 [.t 134, .t 135]),
tq 137 (.call false true (.k (.fn n_top_chockRead [] [])) [.t 136]),
tq 131 (.mv (.t 137)),
tq 138 (.extract (.t 131) 0),
tq 139 (.extract (.t 131) 1),
tq 15 (.mv (.t 138)),
tq 16 (.mv (.t 139))] [14, 131, 132, 133, 134, 135, 136, 137, 138, 139])
(.seq (.seq (.reg false [
tq 140 (.mv (.t 13)),
tq 141 (.bin .neq (.t 140) (kq 0)),
tq 142 (.mv (.t 141)),
⟨some 143, (some (142, false)), .mv (.t 16)⟩,
⟨some 144, (some (142, false)), .un .not (.t 143)⟩,
tq 145 (.pick (.t 142) (.k (.d (.bool true))) (.t 144)),
tq 146 (.mv (.t 145)),
⟨some 147, (some (146, false)), .mv (.t 15)⟩,
⟨some 148, (some (146, false)), .len .slc (.t 147)⟩,
⟨some 149, (some (146, false)), .bin .neq (.t 148) (kq 2)⟩,
tq 150 (.pick (.t 146) (.k (.d (.bool true))) (.t 149))] [13, 16, 140, 141, 142, 143, 144, 145, 146, 147, 148, 149])
(.cond (.t 150) (.seq (.reg false [
tq 4 (.mv (.k (.d (.bool false))))] [])
.ret)
 .skip))
(.seq (.reg false [
tq 17 (.ownNil ⟨false, ty_int, 1, 8⟩)] [])
(.seq (.seq (.reg false [
tq 151 (.mv (.t 15)),
tq 152 (.len .slc (.t 151)),
tq 153 (.mv (kq 0))] [15])
(.block 0 (.loop [2, 8, 17, 151, 152, 153] b_top_TopChockParts_1)))
(.seq (.seq (.reg false [
tq 169 (.mv (.t 17)),
fa 170 6 2,
tq 171 (.load (some 3) (.t 170)),
tq 172 (.call false true (.k (.fn n_ref01_DaysOf [] [])) [.t 171]),
tq 173 (.call false true (.k (.fn n_ref01_SameInts [] [])) [.t 169, .t 172]),
tq 174 (.un .not (.t 173))] [2, 169, 170, 171, 172, 173])
(.cond (.t 174) (.seq (.reg false [
tq 4 (.mv (.k (.d (.bool false))))] [])
.ret)
 .skip))
(.seq (.reg false [
tq 175 (.mkMap),
tq 22 (.mv (.t 175))] [175])
(.seq (.reg false [
tq 23 (.mv (kq 0))] [])
(.seq (.seq (.reg false [
tq 176 (.mv (.t 8)),
tq 177 (.len .slc (.t 176)),
tq 178 (.mv (kq 0))] [8])
(.block 2 (.loop [17, 22, 23, 176, 177, 178] b_top_TopChockParts_3)))
(.seq (.seq (.reg false [
tq 201 (.mv (.t 17)),
tq 202 (.len .slc (.t 201)),
tq 203 (.mv (kq 0))] [])
(.block 6 (.loop [17, 22, 23, 201, 202, 203] b_top_TopChockParts_4)))
(.seq (.reg false [
tq 212 (.mv (.t 23)),
tq 213 (.mv (.t 17)),
tq 214 (.len .slc (.t 213)),
tq 215 (.bin .eql (.t 212) (.t 214)),
tq 216 (.mv (.t 215)),
⟨some 217, (some (216, true)), .call false true (.k (.fn n_top_chockMail [] [])) []⟩,
tq 218 (.pick (.t 216) (.t 217) (.k (.d (.bool false)))),
tq 4 (.mv (.t 218))] [17, 23, 212, 213, 214, 215, 216, 217, 218])
.ret)))))))))))))))))))))⟩

def b_message_Requests_1 : C :=
  (.seq (.reg false [
tq 67 (.bin .lss (.t 66) (.t 65))] [])
(.seq (.cond (.t 67) .skip
 (.exit 2))
(.seq (.block 3 (.seq (.reg false [
tq 68 (.idxAddr 14 (.t 64) (.t 66)),
tq 69 (.load (some 14) (.t 68)),
tq 12 (.alloc ty_message_Line [.z (.str []), .z (.str []), .z (.str []), .z (.str []), .z (.str []), .z (.str []), .z (.str []), .z (.int .i64 0), .z (.int .i64 0), .z (.int .i64 0), .z (.int .i64 0), .z (.int .i64 0), .z (.int .i64 0), .z (.int .i64 0)]),
⟨none, none, .store 14 (.t 12) (.t 69)⟩] [68, 69])
(.seq (.reg false [
tq 71 (.mv (.t 5)),
tq 72 (.load (some 14) (.t 12)),
fa 73 3 9,
ld 74 73,
tq 75 (.call true false (.k (.fn n_message_step [] [])) [.t 71, .t 72, .t 74]),
tq 70 (.mv (.t 75)),
tq 76 (.extract (.t 70) 0),
tq 77 (.extract (.t 70) 1),
tq 5 (.mv (.t 76)),
tq 7 (.mv (.t 77))] [12, 70, 71, 72, 73, 74, 75, 76, 77])
(.seq (.reg false [
tq 78 (.mv (.t 7)),
tq 79 (.bin .neq (.t 78) (kq 0))] [78])
(.cond (.t 79) (.exit 0)
 .skip)))))
(.reg false [
tq 80 (.bin .add (.t 66) (kq 1)),
tq 66 (.mv (.t 80))] [80]))))

def b_message_Requests_2 : C :=
  (.seq (.reg false [
tq 19 (.bin .lss (.t 18) (.t 17))] [])
(.seq (.cond (.t 19) .skip
 (.exit 0))
(.seq (.block 1 (.seq (.reg false [
tq 20 (.mv (.t 18)),
tq 21 (.idxAddr 5 (.t 16) (.t 18)),
tq 22 (.load (some 5) (.t 21)),
tq 9 (.alloc ty_message_Message [.z (.str []), .z (.str []), .z (.str []), .z (.int .i64 0), .z (.list 0 [])]),
tq 8 (.mv (.t 20)),
⟨none, none, .store 5 (.t 9) (.t 22)⟩] [20, 21, 22])
(.seq (.reg false [
tq 23 (.mv (.t 8)),
tq 6 (.mv (.t 23))] [23])
(.seq (.reg false [
tq 24 (.mv (.t 0)),
tq 25 (.mv (.t 8)),
tq 26 (.bin .sub (.t 25) (kq 1)),
tq 27 (.minmax true [kq 0, .t 26]),
tq 28 (.idxAddr 5 (.t 24) (.t 27)),
tq 29 (.load (some 5) (.t 28)),
tq 10 (.alloc ty_message_Message [.z (.str []), .z (.str []), .z (.str []), .z (.int .i64 0), .z (.list 0 [])]),
⟨none, none, .store 5 (.t 10) (.t 29)⟩] [8, 24, 25, 26, 27, 28, 29])
(.seq (.seq (.reg true [
tq 30 (.load (some 5) (.t 9)),
tq 31 (.call false true (.k (.fn n_message_CheckMessage [] [])) [.t 30]),
fa 32 0 9,
ld 33 32,
tq 34 (.bin .neq (.t 33) (.k (.d (.str [82, 69, 81])))),
tq 35 (.call false true (.k (.fn n_message_when [] [])) [.t 34, kq 13]),
fa 36 1 9,
ld 37 36,
tq 38 (.mv (.t 0)),
tq 39 (.idxAddr 5 (.t 38) (kq 0)),
fa 40 1 39,
ld 41 40,
tq 42 (.bin .neq (.t 37) (.t 41)),
tq 43 (.mv (.t 42)),
⟨some 44, (some (43, false)), .fieldAddr 2 (.t 9)⟩,
⟨some 45, (some (43, false)), .load none (.t 44)⟩,
⟨some 46, (some (43, false)), .mv (.t 0)⟩,
⟨some 47, (some (43, false)), .idxAddr 5 (.t 46) (kq 0)⟩,
⟨some 48, (some (43, false)), .fieldAddr 2 (.t 47)⟩,
⟨some 49, (some (43, false)), .load none (.t 48)⟩,
⟨some 50, (some (43, false)), .bin .neq (.t 45) (.t 49)⟩,
tq 51 (.pick (.t 43) (.k (.d (.bool true))) (.t 50)),
tq 52 (.call false true (.k (.fn n_message_when [] [])) [.t 51, kq 29]),
fa 53 3 9,
ld 54 53,
fa 55 3 10,
ld 56 55,
tq 57 (.bin .lss (.t 54) (.t 56)),
tq 58 (.call false true (.k (.fn n_message_when [] [])) [.t 57, kq 11]),
tq 59 (.mkList 1 4 [.t 31, .t 35, .t 52, .t 58]),
tq 60 (.call false true (.k (.fn n_message_first [] [])) [.t 59]),
tq 7 (.mv (.t 60))] [10, 30, 31, 32, 33, 34, 35, 36, 37, 38, 39, 40, 41, 42, 43, 44, 45, 46, 47, 48, 49, 50, 51, 52, 53, 54, 55, 56, 57, 58, 59, 60])
(.seq (.reg false [
tq 61 (.mv (.t 7)),
tq 62 (.bin .neq (.t 61) (kq 0))] [61])
(.cond (.t 62) (.exit 0)
 .skip)))
(.seq (.reg false [
fa 63 4 9,
ld 64 63,
tq 65 (.len .slc (.t 64)),
tq 66 (.mv (kq 0))] [63])
(.block 2 (.loop [0, 5, 6, 7, 9, 16, 17, 18, 64, 65, 66] b_message_Requests_1))))))))
(.reg false [
tq 81 (.bin .add (.t 18) (kq 1)),
tq 18 (.mv (.t 81))] [81]))))

def c_message_Requests : CF := ⟨[.tmp 2, .tmp 3, .tmp 4],
  (.seq (.reg false [
tq 2 (.ownNil ⟨true, ty_message_Entry, 15, 168⟩),
tq 3 (.mv (kq 0)),
tq 4 (.mv (kq 0))] [2, 3, 4])
(.scope (.seq (.seq (.reg false [
tq 13 (.mv (.t 0)),
tq 14 (.len .slc (.t 13)),
tq 15 (.bin .gtr (.t 14) (kq 64))] [13, 14])
(.cond (.t 15) (.seq (.reg false [
tq 2 (.ownNil ⟨true, ty_message_Entry, 15, 168⟩),
tq 3 (.mv (kq 0)),
tq 4 (.mv (kq 5))] [])
.ret)
 .skip))
(.seq (.reg false [
tq 5 (.ownNil ⟨true, ty_message_Entry, 15, 168⟩)] [])
(.seq (.reg false [
tq 6 (.mv (kq 0)),
tq 7 (.mv (kq 0))] [])
(.seq .label
(.seq (.seq (.reg false [
tq 16 (.mv (.t 0)),
tq 17 (.len .slc (.t 16)),
tq 18 (.mv (kq 0))] [])
(.block 0 (.loop [0, 5, 6, 7, 16, 17, 18] b_message_Requests_2)))
(.seq (.seq (.reg false [
tq 82 (.mv (.t 7)),
tq 83 (.bin .neq (.t 82) (kq 0))] [82])
(.cond (.t 83) (.seq (.reg false [
tq 84 (.mv (.t 6)),
tq 85 (.mv (.t 7)),
tq 2 (.ownNil ⟨true, ty_message_Entry, 15, 168⟩),
tq 3 (.mv (.t 84)),
tq 4 (.mv (.t 85))] [6, 7, 84, 85])
.ret)
 .skip))
(.seq (.reg false [
tq 86 (.mv (.t 5)),
tq 2 (.mv (.t 86)),
tq 3 (.mv (kq 0)),
tq 4 (.mv (kq 0))] [5, 86])
.ret)))))))))⟩

def b_message_Changed_1 : C :=
  (.seq (.reg false [
tq 28 (.bin .lss (.t 27) (.t 26))] [])
(.seq (.cond (.t 28) .skip
 (.exit 0))
(.seq (.block 1 (.seq (.reg false [
tq 29 (.idxAddr 13 (.t 25) (.t 27)),
tq 30 (.load (some 13) (.t 29)),
tq 10 (.alloc ty_api_Request [.z (.str []), .z (.str []), .z (.str []), .z (.str []), .z (.str []), .z (.str []), .z (.int .i64 0), .z (.int .i64 0), .z (.int .i64 0), .z (.int .i64 0), .z (.int .i64 0), .z (.int .i64 0), .z (.int .i64 0)]),
⟨none, none, .store 13 (.t 10) (.t 30)⟩] [29, 30])
(.seq (.reg false [
ld 32 7,
ld 33 3,
tq 34 (.load (some 13) (.t 10)),
tq 35 (.call false true (.t 32) [.t 33, .t 34]),
tq 31 (.mv (.t 35)),
tq 36 (.extract (.t 31) 0),
tq 37 (.extract (.t 31) 1),
tq 11 (.alloc ty_api_Request [.z (.str []), .z (.str []), .z (.str []), .z (.str []), .z (.str []), .z (.str []), .z (.int .i64 0), .z (.int .i64 0), .z (.int .i64 0), .z (.int .i64 0), .z (.int .i64 0), .z (.int .i64 0), .z (.int .i64 0)]),
⟨none, none, .store 13 (.t 11) (.t 36)⟩,
tq 12 (.mv (.t 37))] [31, 32, 33, 34, 35, 36, 37])
(.seq (.reg false [
tq 38 (.mv (.t 12)),
tq 39 (.mv (.t 38)),
⟨some 40, (some (39, true)), .load (some 13) (.t 11)⟩,
⟨some 41, (some (39, true)), .load (some 13) (.t 10)⟩,
⟨some 42, (some (39, true)), .eqv (some [.str, .str, .str, .str, .str, .str, .int, .int, .int, .int, .int, .int, .int]) true (.t 40) (.t 41)⟩,
tq 43 (.pick (.t 39) (.t 42) (.k (.d (.bool false))))] [12, 38, 39, 40, 41, 42])
(.cond (.t 43) (.reg false [
tq 44 (.mv (.t 8)),
tq 45 (.load (some 13) (.t 10)),
tq 46 (.build [.z (.str []), .z (.str []), .z (.str []), .z (.str []), .z (.str []), .z (.str []), .z (.str []), .z (.int .i64 0), .z (.int .i64 0), .z (.int .i64 0), .z (.int .i64 0), .z (.int .i64 0), .z (.int .i64 0), .z (.int .i64 0)] [(0, 1, .k (.d (.str [67]))), (1, 13, .t 45)]),
tq 47 (.load (some 13) (.t 11)),
tq 48 (.build [.z (.str []), .z (.str []), .z (.str []), .z (.str []), .z (.str []), .z (.str []), .z (.str []), .z (.int .i64 0), .z (.int .i64 0), .z (.int .i64 0), .z (.int .i64 0), .z (.int .i64 0), .z (.int .i64 0), .z (.int .i64 0)] [(0, 1, .k (.d (.str [82]))), (1, 13, .t 47)]),
tq 49 (.mkList 14 2 [.t 46, .t 48]),
tq 50 (.append ⟨false, ty_message_Line, 14, 168⟩ (.t 44) (.t 49)),
tq 8 (.mv (.t 50))] [10, 11, 44, 45, 46, 47, 48, 49, 50])
 .skip)))))
(.reg false [
tq 51 (.bin .add (.t 27) (kq 1)),
tq 27 (.mv (.t 51))] [51]))))

def c_message_Changed : CF := ⟨[.tmp 4, .tmp 5],
  (.seq (.reg false [
tq 2 (.box ty_Lapi_Request (.t 0)),
tq 3 (.box ty_Lapi_Request (.t 1)),
tq 4 (.ownNil ⟨false, ty_message_Line, 14, 168⟩),
tq 5 (.mv (kq 0))] [0, 1, 4, 5])
(.seq (.seq (.reg true [
ld 13 2,
tq 14 (.call false true (.k (.fn n_message_checkRequests [] [])) [.t 13]),
ld 15 3,
tq 16 (.call false true (.k (.fn n_message_checkRequests [] [])) [.t 15]),
tq 17 (.mkList 1 2 [.t 14, .t 16]),
tq 18 (.call false true (.k (.fn n_message_first [] [])) [.t 17]),
tq 6 (.mv (.t 18))] [13, 14, 15, 16, 17, 18])
(.seq (.reg false [
tq 19 (.mv (.t 6)),
tq 20 (.bin .neq (.t 19) (kq 0))] [19])
(.cond (.t 20) (.seq (.reg false [
tq 21 (.mv (.t 6)),
tq 4 (.ownNil ⟨false, ty_message_Line, 14, 168⟩),
tq 5 (.mv (.t 21))] [6, 21])
.ret)
 .skip)))
(.seq (.reg false [
tq 7 (.alloc ty_func_Lapi_Request_api_Request_api_Request_bool [.z (.nilf)]),
⟨none, none, .store 1 (.t 7) (.k (.fn n_message_Changed_1 [] []))⟩] [])
(.seq (.reg false [
ld 22 2,
tq 23 (.mkFunc n_message_Changed_2 [] [.t 7, .t 3]),
tq 24 (.call true false (.k (.fn n_message_filtered_api_Request_message_Line [] [])) [.t 22, .t 23]),
tq 8 (.mv (.t 24))] [22, 23, 24])
(.seq (.seq (.reg false [
ld 25 2,
tq 26 (.len .slc (.t 25)),
tq 27 (.mv (kq 0))] [])
(.block 0 (.loop [2, 3, 7, 8, 25, 26, 27] b_message_Changed_1)))
(.seq (.reg false [
tq 52 (.mv (.t 8)),
ld 53 3,
tq 54 (.mkFunc n_message_Changed_3 [] [.t 7, .t 2]),
tq 55 (.call true true (.k (.fn n_message_filtered_api_Request_message_Line [] [])) [.t 53, .t 54]),
tq 56 (.append ⟨false, ty_message_Line, 14, 168⟩ (.t 52) (.t 55)),
tq 8 (.mv (.t 56))] [2, 3, 7, 52, 53, 54, 55, 56])
(.seq (.seq (.reg false [
tq 57 (.mv (.t 8)),
tq 58 (.len .slc (.t 57)),
tq 59 (.bin .gtr (.t 58) (kq 64))] [57, 58])
(.cond (.t 59) (.seq (.reg false [
tq 4 (.ownNil ⟨false, ty_message_Line, 14, 168⟩),
tq 5 (.mv (kq 5))] [])
.ret)
 .skip))
(.seq (.reg false [
tq 60 (.mv (.t 8)),
tq 4 (.mv (.t 60)),
tq 5 (.mv (kq 0))] [8, 60])
.ret))))))))⟩

def c_ref02_CheckRequest : CF := ⟨[.tmp 2],
  (.seq (.reg false [
tq 1 (.box ty_api_Request (.t 0)),
tq 2 (.mv (kq 0))] [0, 2])
(.seq (.seq (.reg false [
fa 4 0 1,
ld 5 4,
tq 6 (.call false true (.k (.fn n_ref01_IsName [] [])) [.t 5]),
tq 7 (.un .not (.t 6)),
tq 8 (.mv (.t 7)),
⟨some 9, (some (8, false)), .fieldAddr 1 (.t 1)⟩,
⟨some 10, (some (8, false)), .load none (.t 9)⟩,
⟨some 11, (some (8, false)), .call false true (.k (.fn n_ref01_IsName [] [])) [.t 10]⟩,
⟨some 12, (some (8, false)), .un .not (.t 11)⟩,
tq 13 (.pick (.t 8) (.k (.d (.bool true))) (.t 12)),
tq 14 (.mv (.t 13)),
⟨some 15, (some (14, false)), .fieldAddr 4 (.t 1)⟩,
⟨some 16, (some (14, false)), .load none (.t 15)⟩,
⟨some 17, (some (14, false)), .call false true (.k (.fn n_ref01_IsName [] [])) [.t 16]⟩,
⟨some 18, (some (14, false)), .un .not (.t 17)⟩,
tq 19 (.pick (.t 14) (.k (.d (.bool true))) (.t 18)),
tq 20 (.mv (.t 19)),
⟨some 21, (some (20, false)), .fieldAddr 3 (.t 1)⟩,
⟨some 22, (some (20, false)), .load none (.t 21)⟩,
⟨some 23, (some (20, false)), .call false true (.k (.fn n_ref02_optional [] [])) [.t 22]⟩,
⟨some 24, (some (20, false)), .un .not (.t 23)⟩,
tq 25 (.pick (.t 20) (.k (.d (.bool true))) (.t 24)),
tq 26 (.mv (.t 25)),
⟨some 27, (some (26, false)), .fieldAddr 5 (.t 1)⟩,
⟨some 28, (some (26, false)), .load none (.t 27)⟩,
⟨some 29, (some (26, false)), .call false true (.k (.fn n_ref02_optional [] [])) [.t 28]⟩,
⟨some 30, (some (26, false)), .un .not (.t 29)⟩,
tq 31 (.pick (.t 26) (.k (.d (.bool true))) (.t 30))] [4, 5, 6, 7, 8, 9, 10, 11, 12, 13, 14, 15, 16, 17, 18, 19, 20, 21, 22, 23, 24, 25, 26, 27, 28, 29, 30])
(.cond (.t 31) (.seq (.reg false [
tq 2 (.mv (kq 8))] [])
.ret)
 .skip))
(.seq (.seq (.reg false [
fa 32 2 1,
ld 33 32,
tq 34 (.bin .neq (.t 33) (.k (.d (.str [65])))),
tq 35 (.mv (.t 34)),
⟨some 36, (some (35, true)), .fieldAddr 2 (.t 1)⟩,
⟨some 37, (some (35, true)), .load none (.t 36)⟩,
⟨some 38, (some (35, true)), .bin .neq (.t 37) (.k (.d (.str [68])))⟩,
tq 39 (.pick (.t 35) (.t 38) (.k (.d (.bool false))))] [32, 33, 34, 35, 36, 37, 38])
(.cond (.t 39) (.seq (.reg false [
tq 2 (.mv (kq 13))] [])
.ret)
 .skip))
(.seq (.seq (.reg false [
fa 40 5 1,
ld 41 40,
fa 42 0 1,
ld 43 42,
tq 44 (.bin .eql (.t 41) (.t 43))] [40, 41, 42, 43])
(.cond (.t 44) (.seq (.reg false [
tq 2 (.mv (kq 32))] [])
.ret)
 .skip))
(.seq (.reg false [
fa 45 6 1,
tq 46 (.load (some 3) (.t 45)),
tq 47 (.call false true (.k (.fn n_ref01_CheckPeriod [] [])) [.t 46]),
tq 3 (.mv (.t 47))] [45, 46, 47])
(.seq (.seq (.reg false [
tq 48 (.mv (.t 3)),
tq 49 (.bin .neq (.t 48) (kq 0))] [48])
(.cond (.t 49) (.seq (.reg false [
tq 50 (.mv (.t 3)),
tq 2 (.mv (.t 50))] [3, 50])
.ret)
 .skip))
(.seq (.reg true [
fa 51 9 1,
ld 52 51,
tq 53 (.call false true (.k (.fn n_ref01_CheckRange [] [])) [.t 52, kq 0, kq 1439]),
fa 54 10 1,
ld 55 54,
tq 56 (.call false true (.k (.fn n_ref01_CheckRange [] [])) [.t 55, kq 0, kq 999]),
fa 57 11 1,
ld 58 57,
tq 59 (.call false true (.k (.fn n_ref01_CheckRange [] [])) [.t 58, kq 1, kq 9]),
fa 60 12 1,
ld 61 60,
tq 62 (.call false true (.k (.fn n_ref01_CheckRange [] [])) [.t 61, kq 0, kq 99]),
tq 63 (.mkList 1 4 [.t 53, .t 56, .t 59, .t 62]),
tq 64 (.call false true (.k (.fn n_ref01_First [] [])) [.t 63]),
tq 2 (.mv (.t 64))] [1, 51, 52, 53, 54, 55, 56, 57, 58, 59, 60, 61, 62, 63, 64])
.ret)))))))⟩

def c_top_chockMail : CF := ⟨[.tmp 0],
  (.seq (.reg false [
tq 0 (.mv (.k (.d (.bool false))))] [0])
(.seq (.reg false [
tq 9 (.build [.z (.int .i64 0), .z (.int .i64 0), .z (.int .i64 0)] [(0, 1, kq 0), (1, 1, kq 9), (2, 1, kq 96)]),
tq 10 (.build [.z (.str []), .z (.str []), .z (.str []), .z (.str []), .z (.str []), .z (.str []), .z (.int .i64 0), .z (.int .i64 0), .z (.int .i64 0), .z (.int .i64 0), .z (.int .i64 0), .z (.int .i64 0), .z (.int .i64 0)] [(0, 1, .k (.d (.str [119]))), (1, 1, .k (.d (.str [97, 98]))), (2, 1, .k (.d (.str [68]))), (4, 1, .k (.d (.str [102, 97, 114]))), (6, 3, .t 9), (9, 1, kq 480), (11, 1, kq 3)]),
tq 1 (.alloc ty_api_Request [.z (.str []), .z (.str []), .z (.str []), .z (.str []), .z (.str []), .z (.str []), .z (.int .i64 0), .z (.int .i64 0), .z (.int .i64 0), .z (.int .i64 0), .z (.int .i64 0), .z (.int .i64 0), .z (.int .i64 0)]),
⟨none, none, .store 13 (.t 1) (.t 10)⟩] [9, 10])
(.seq (.reg false [
tq 12 (.load (some 13) (.t 1)),
tq 13 (.build [.z (.str []), .z (.str []), .z (.str []), .z (.str []), .z (.str []), .z (.str []), .z (.str []), .z (.int .i64 0), .z (.int .i64 0), .z (.int .i64 0), .z (.int .i64 0), .z (.int .i64 0), .z (.int .i64 0), .z (.int .i64 0)] [(0, 1, .k (.d (.str [78]))), (1, 13, .t 12)]),
tq 14 (.call false true (.k (.fn n_message_PrintLine [] [])) [.t 13]),
tq 11 (.mv (.t 14)),
tq 15 (.extract (.t 11) 0),
tq 16 (.extract (.t 11) 1),
tq 2 (.mv (.t 15)),
tq 3 (.mv (.t 16))] [1, 11, 12, 13, 14, 15, 16])
(.seq (.reg false [
tq 18 (.mv (.t 2)),
tq 19 (.call false true (.k (.fn n_message_ParseLine [] [])) [.t 18]),
tq 17 (.mv (.t 19)),
tq 20 (.extract (.t 17) 0),
tq 21 (.extract (.t 17) 1),
tq 22 (.extract (.t 17) 2),
tq 4 (.alloc ty_message_Line [.z (.str []), .z (.str []), .z (.str []), .z (.str []), .z (.str []), .z (.str []), .z (.str []), .z (.int .i64 0), .z (.int .i64 0), .z (.int .i64 0), .z (.int .i64 0), .z (.int .i64 0), .z (.int .i64 0), .z (.int .i64 0)]),
⟨none, none, .store 14 (.t 4) (.t 20)⟩,
tq 5 (.mv (.t 21)),
tq 6 (.mv (.t 22))] [5, 17, 18, 19, 20, 21, 22])
(.seq (.reg false [
fa 24 1 4,
fa 25 6 24,
tq 26 (.load (some 3) (.t 25)),
tq 27 (.call false true (.k (.fn n_calendar_DaysOf [] [])) [.t 26]),
tq 23 (.mv (.t 27)),
tq 28 (.extract (.t 23) 0),
tq 29 (.extract (.t 23) 1),
tq 7 (.mv (.t 28)),
tq 8 (.mv (.t 29))] [4, 23, 24, 25, 26, 27, 28, 29])
(.seq (.reg false [
tq 30 (.mv (.t 3)),
tq 31 (.mv (.t 6)),
tq 32 (.bin .add (.t 30) (.t 31)),
tq 33 (.mv (.t 8)),
tq 34 (.bin .add (.t 32) (.t 33)),
tq 35 (.bin .eql (.t 34) (kq 0)),
tq 36 (.mv (.t 35)),
⟨some 37, (some (36, true)), .mv (.t 2)⟩,
⟨some 38, (some (36, true)), .bin .eql (.t 37) (.k (.d (.str [78, 32, 97, 98, 32, 119, 32, 68, 32, 102, 97, 114, 32, 48, 48, 48, 48, 48, 32, 48, 48, 48, 48, 57, 32, 48, 48, 48, 48, 48, 54, 55, 32, 48, 56, 48, 48, 32, 48, 48, 48, 32, 51, 32, 48, 48, 32, 45, 32, 45])))⟩,
tq 39 (.pick (.t 36) (.t 38) (.k (.d (.bool false)))),
tq 40 (.mv (.t 39)),
⟨some 41, (some (40, true)), .mv (.t 7)⟩,
⟨some 42, (some (40, true)), .mkList 1 4 [kq 0, kq 1, kq 7, kq 8]⟩,
⟨some 43, (some (40, true)), .call false true (.k (.fn n_ref01_SameInts [] [])) [.t 41, .t 42]⟩,
tq 44 (.pick (.t 40) (.t 43) (.k (.d (.bool false)))),
tq 0 (.mv (.t 44))] [2, 3, 6, 7, 8, 30, 31, 32, 33, 34, 35, 36, 37, 38, 39, 40, 41, 42, 43, 44])
.ret))))))⟩

def c_calendar_Split : CF := ⟨[.cell 4 (some 6), .tmp 5],
  (.seq (.reg false [
tq 2 (.box ty_api_Period (.t 0)),
tq 4 (.alloc ty_2_api_Period [.z (.int .i64 0), .z (.int .i64 0), .z (.int .i64 0), .z (.int .i64 0), .z (.int .i64 0), .z (.int .i64 0)]),
tq 5 (.mv (kq 0))] [0, 5])
(.seq (.seq (.reg false [
tq 7 (.load (some 3) (.t 2)),
tq 8 (.call false true (.k (.fn n_calendar_CheckPeriod [] [])) [.t 7]),
tq 6 (.mv (.t 8))] [7, 8])
(.seq (.reg false [
tq 9 (.mv (.t 6)),
tq 10 (.bin .neq (.t 9) (kq 0))] [9])
(.cond (.t 10) (.seq (.reg false [
tq 11 (.build [.z (.int .i64 0), .z (.int .i64 0), .z (.int .i64 0), .z (.int .i64 0), .z (.int .i64 0), .z (.int .i64 0)] []),
tq 12 (.mv (.t 6)),
⟨none, none, .store 6 (.t 4) (.t 11)⟩,
tq 5 (.mv (.t 12))] [6, 11, 12])
.ret)
 .skip)))
(.seq (.seq (.reg false [
tq 13 (.mv (.t 1)),
fa 14 0 2,
ld 15 14,
tq 16 (.bin .leq (.t 13) (.t 15)),
tq 17 (.mv (.t 16)),
⟨some 18, (some (17, false)), .mv (.t 1)⟩,
⟨some 19, (some (17, false)), .fieldAddr 1 (.t 2)⟩,
⟨some 20, (some (17, false)), .load none (.t 19)⟩,
⟨some 21, (some (17, false)), .bin .gtr (.t 18) (.t 20)⟩,
tq 22 (.pick (.t 17) (.k (.d (.bool true))) (.t 21))] [13, 14, 15, 16, 17, 18, 19, 20, 21])
(.cond (.t 22) (.seq (.reg false [
tq 23 (.build [.z (.int .i64 0), .z (.int .i64 0), .z (.int .i64 0), .z (.int .i64 0), .z (.int .i64 0), .z (.int .i64 0)] []),
⟨none, none, .store 6 (.t 4) (.t 23)⟩,
tq 5 (.mv (kq 30))] [23])
.ret)
 .skip))
(.seq (.reg false [
fa 24 0 2,
ld 25 24,
tq 26 (.mv (.t 1)),
tq 27 (.bin .sub (.t 26) (kq 1)),
fa 28 2 2,
ld 29 28,
tq 30 (.build [.z (.int .i64 0), .z (.int .i64 0), .z (.int .i64 0)] [(0, 1, .t 25), (1, 1, .t 27), (2, 1, .t 29)]),
tq 31 (.mv (.t 1)),
fa 32 1 2,
ld 33 32,
fa 34 2 2,
ld 35 34,
tq 36 (.build [.z (.int .i64 0), .z (.int .i64 0), .z (.int .i64 0)] [(0, 1, .t 31), (1, 1, .t 33), (2, 1, .t 35)]),
tq 37 (.build [.z (.int .i64 0), .z (.int .i64 0), .z (.int .i64 0), .z (.int .i64 0), .z (.int .i64 0), .z (.int .i64 0)] [(0, 3, .t 30), (3, 3, .t 36)]),
⟨none, none, .store 6 (.t 4) (.t 37)⟩,
tq 5 (.mv (kq 0))] [1, 2, 24, 25, 26, 27, 28, 29, 30, 31, 32, 33, 34, 35, 36, 37])
.ret))))⟩

def b_calendar_Join_1 : C :=
  (.seq (.reg false [
tq 22 (.bin .lss (.t 21) (.t 20))] [])
(.seq (.cond (.t 22) .skip
 (.exit 0))
(.seq (.block 1 (.seq (.reg false [
tq 23 (.mv (.t 21)),
tq 24 (.idxAddr 1 (.t 19) (.t 21)),
ld 25 24,
tq 4 (.mv (.t 23)),
tq 5 (.mv (.t 25))] [23, 24, 25])
(.seq (.reg false [
tq 26 (.mv (.t 5)),
tq 27 (.call false true (.k (.fn n_calendar_checkDay [] [])) [.t 26]),
tq 28 (.mv (.t 4)),
tq 29 (.bin .gtr (.t 28) (kq 0)),
tq 30 (.mv (.t 29)),
⟨some 31, (some (30, true)), .mv (.t 5)⟩,
⟨some 32, (some (30, true)), .mv (.t 0)⟩,
⟨some 33, (some (30, true)), .mv (.t 4)⟩,
⟨some 34, (some (30, true)), .bin .sub (.t 33) (kq 1)⟩,
⟨some 35, (some (30, true)), .minmax true [kq 0, .t 34]⟩,
⟨some 36, (some (30, true)), .idxAddr 1 (.t 32) (.t 35)⟩,
⟨some 37, (some (30, true)), .load none (.t 36)⟩,
⟨some 38, (some (30, true)), .bin .leq (.t 31) (.t 37)⟩,
tq 39 (.pick (.t 30) (.t 38) (.k (.d (.bool false)))),
tq 40 (.call false true (.k (.fn n_calendar_when [] [])) [.t 39, kq 11]),
tq 41 (.mkList 1 2 [.t 27, .t 40]),
tq 42 (.call false true (.k (.fn n_calendar_first [] [])) [.t 41]),
tq 6 (.mv (.t 42))] [4, 5, 26, 27, 28, 29, 30, 31, 32, 33, 34, 35, 36, 37, 38, 39, 40, 41, 42])
(.seq (.reg false [
tq 43 (.mv (.t 6)),
tq 44 (.bin .neq (.t 43) (kq 0))] [43])
(.cond (.t 44) (.seq (.reg false [
tq 45 (.mv (.t 6)),
tq 2 (.mv (.k (.d (.list 0 [])))),
tq 3 (.mv (.t 45))] [6, 45])
.ret)
 .skip)))))
(.reg false [
tq 46 (.bin .add (.t 21) (kq 1)),
tq 21 (.mv (.t 46))] [46]))))

def b_calendar_Join_2 : C :=
  (.seq (.reg false [
tq 51 (.bin .lss (.t 50) (.t 49))] [])
(.seq (.cond (.t 51) .skip
 (.exit 2))
(.seq (.block 3 (.seq (.reg false [
tq 52 (.idxAddr 1 (.t 48) (.t 50)),
ld 53 52,
tq 9 (.mv (.t 53))] [52, 53])
(.reg true [
tq 54 (.mv (.t 7)),
tq 55 (.mv (.t 9)),
tq 56 (.call false true (.k (.fn n_calendar_weekOf [] [])) [.t 55]),
tq 57 (.lookup .int (.int .i64 0) false (.t 54) (.t 56)),
tq 58 (.mv (.t 9)),
tq 59 (.call false true (.k (.fn n_calendar_weekday [] [])) [.t 58]),
tq 60 (.bin .shl (kq 1) (.t 59)),
tq 61 (.bin .or (.t 57) (.t 60)),
⟨none, none, .mapSet .int (.t 54) (.t 56) (.t 61)⟩] [9, 54, 55, 56, 57, 58, 59, 60, 61])))
(.reg false [
tq 62 (.bin .add (.t 50) (kq 1)),
tq 50 (.mv (.t 62))] [62]))))

def b_calendar_Join_3 : C :=
  (.seq (.seq (.reg false [
tq 85 (.mv (.t 11)),
tq 86 (.mv (.t 0)),
tq 87 (.len .slc (.t 86)),
tq 88 (.bin .lss (.t 85) (.t 87))] [85, 86, 87])
(.cond (.t 88) .skip
 (.exit 6)))
(.seq (.block 7 (.seq (.seq (.reg false [
tq 91 (.mv (.t 0)),
tq 92 (.mv (.t 11)),
tq 93 (.idxAddr 1 (.t 91) (.t 92)),
ld 94 93,
tq 95 (.call false true (.k (.fn n_calendar_weekOf [] [])) [.t 94]),
tq 15 (.mv (.t 95))] [91, 92, 93, 94, 95])
(.block 8 (.seq (.reg false [
tq 97 (.mv (.t 15)),
tq 98 (.mv (.t 14)),
tq 99 (.bin .eql (.t 97) (.t 98)),
tq 96 (.mv (.t 99))] [97, 98, 99])
(.cond (.t 96) .skip
 (.seq (.reg false [
tq 101 (.mv (.t 15)),
tq 102 (.mv (.t 14)),
tq 103 (.bin .add (.t 102) (kq 1)),
tq 104 (.bin .eql (.t 101) (.t 103)),
tq 105 (.mv (.t 104)),
⟨some 106, (some (105, true)), .mv (.t 7)⟩,
⟨some 107, (some (105, true)), .mv (.t 15)⟩,
⟨some 108, (some (105, true)), .lookup .int (.int .i64 0) false (.t 106) (.t 107)⟩,
⟨some 109, (some (105, true)), .fieldAddr 2 (.t 13)⟩,
⟨some 110, (some (105, true)), .load none (.t 109)⟩,
⟨some 111, (some (105, true)), .bin .eql (.t 108) (.t 110)⟩,
tq 112 (.pick (.t 105) (.t 111) (.k (.d (.bool false)))),
tq 113 (.mv (.t 112)),
⟨some 114, (some (113, true)), .mv (.t 15)⟩,
⟨some 115, (some (113, true)), .mv (.t 12)⟩,
⟨some 116, (some (113, true)), .bin .sub (.t 114) (.t 115)⟩,
⟨some 117, (some (113, true)), .bin .lss (.t 116) (kq 57)⟩,
tq 118 (.pick (.t 113) (.t 117) (.k (.d (.bool false)))),
tq 100 (.mv (.t 118))] [14, 101, 102, 103, 104, 105, 106, 107, 108, 109, 110, 111, 112, 113, 114, 115, 116, 117, 118])
(.cond (.t 100) (.reg false [
tq 119 (.mv (.t 15)),
tq 14 (.mv (.t 119))] [15, 119])
 (.exit 6)))))))
(.reg false [
tq 120 (.mv (.t 0)),
tq 121 (.mv (.t 11)),
tq 122 (.idxAddr 1 (.t 120) (.t 121)),
ld 123 122,
fa 124 1 13,
⟨none, none, .store 1 (.t 124) (.t 123)⟩] [120, 121, 122, 123, 124])))
(.reg false [
tq 89 (.mv (.t 11)),
tq 90 (.bin .add (.t 89) (kq 1)),
tq 11 (.mv (.t 90))] [89, 90])))

def b_calendar_Join_4 : C :=
  (.seq (.seq (.reg false [
tq 63 (.mv (.t 11)),
tq 64 (.mv (.t 0)),
tq 65 (.len .slc (.t 64)),
tq 66 (.bin .lss (.t 63) (.t 65))] [63, 64, 65])
(.cond (.t 66) .skip
 (.exit 4)))
(.block 5 (.scope (.seq (.reg false [
tq 67 (.mv (.t 0)),
tq 68 (.mv (.t 11)),
tq 69 (.idxAddr 1 (.t 67) (.t 68)),
ld 70 69,
tq 71 (.call false true (.k (.fn n_calendar_weekOf [] [])) [.t 70]),
tq 12 (.mv (.t 71))] [67, 68, 69, 70, 71])
(.seq (.reg true [
tq 72 (.mv (.t 0)),
tq 73 (.mv (.t 11)),
tq 74 (.idxAddr 1 (.t 72) (.t 73)),
ld 75 74,
tq 76 (.mv (.t 0)),
tq 77 (.mv (.t 11)),
tq 78 (.idxAddr 1 (.t 76) (.t 77)),
ld 79 78,
tq 80 (.mv (.t 7)),
tq 81 (.mv (.t 12)),
tq 82 (.lookup .int (.int .i64 0) false (.t 80) (.t 81)),
tq 83 (.build [.z (.int .i64 0), .z (.int .i64 0), .z (.int .i64 0)] [(0, 1, .t 75), (1, 1, .t 79), (2, 1, .t 82)]),
tq 13 (.alloc ty_api_Period [.z (.int .i64 0), .z (.int .i64 0), .z (.int .i64 0)]),
⟨none, none, .store 3 (.t 13) (.t 83)⟩] [72, 73, 74, 75, 76, 77, 78, 79, 80, 81, 82, 83])
(.seq (.reg false [
tq 84 (.mv (.t 12)),
tq 14 (.mv (.t 84))] [84])
(.seq .label
(.seq (.block 6 (.loop [0, 7, 10, 11, 12, 13, 14] b_calendar_Join_3))
(.reg false [
tq 125 (.mv (.t 10)),
tq 126 (.load (some 3) (.t 13)),
tq 127 (.mkList 3 1 [.t 126]),
tq 128 (.append ⟨false, ty_api_Period, 3, 24⟩ (.t 125) (.t 127)),
tq 10 (.mv (.t 128))] [13, 125, 126, 127, 128])))))))))

def c_calendar_Join : CF := ⟨[.tmp 2, .tmp 3],
  (.seq (.reg false [
tq 2 (.mv (.k (.d (.list 0 [])))),
tq 3 (.mv (kq 0))] [2, 3])
(.seq (.seq (.reg false [
tq 16 (.mv (.t 0)),
tq 17 (.len .slc (.t 16)),
tq 18 (.bin .gtr (.t 17) (kq 512))] [16, 17])
(.cond (.t 18) (.seq (.reg false [
tq 2 (.mv (.k (.d (.list 0 [])))),
tq 3 (.mv (kq 5))] [])
.ret)
 .skip))
(.seq (.seq (.reg false [
tq 19 (.mv (.t 0)),
tq 20 (.len .slc (.t 19)),
tq 21 (.mv (kq 0))] [])
(.block 0 (.loop [0, 19, 20, 21] b_calendar_Join_1)))
(.seq (.reg false [
tq 47 (.mkMap),
tq 7 (.mv (.t 47))] [47])
(.seq (.seq (.reg false [
tq 48 (.mv (.t 0)),
tq 49 (.len .slc (.t 48)),
tq 50 (.mv (kq 0))] [])
(.block 2 (.loop [0, 7, 48, 49, 50] b_calendar_Join_2)))
(.seq (.reg false [
tq 10 (.ownNil ⟨false, ty_api_Period, 3, 24⟩)] [])
(.seq (.seq (.reg false [
tq 11 (.mv (kq 0))] [])
(.block 4 (.loop [0, 7, 10, 11] b_calendar_Join_4)))
(.seq (.reg false [
tq 129 (.mv (.t 10)),
tq 130 (.call false true (.k (.fn n_slices_Clip_Lapi_Period_api_Period [] [])) [.t 129]),
tq 2 (.mv (.t 130)),
tq 3 (.mv (kq 0))] [10, 129, 130])
.ret))))))))⟩

def b_ref01_DaysOf_1 : C :=
  (.seq (.seq (.reg false [
tq 7 (.mv (.t 4)),
fa 8 1 1,
ld 9 8,
tq 10 (.bin .leq (.t 7) (.t 9))] [7, 8, 9])
(.cond (.t 10) .skip
 (.exit 0)))
(.seq (.block 1 (.seq (.reg false [
tq 13 (.load (some 3) (.t 1)),
tq 14 (.mv (.t 4)),
tq 15 (.call false true (.k (.fn n_ref01_Has [] [])) [.t 13, .t 14])] [13, 14])
(.cond (.t 15) (.reg false [
tq 16 (.mv (.t 3)),
tq 17 (.mv (.t 4)),
tq 18 (.mkList 1 1 [.t 17]),
tq 19 (.append ⟨false, ty_int, 1, 8⟩ (.t 16) (.t 18)),
tq 3 (.mv (.t 19))] [16, 17, 18, 19])
 .skip)))
(.reg false [
tq 11 (.mv (.t 4)),
tq 12 (.bin .add (.t 11) (kq 1)),
tq 4 (.mv (.t 12))] [11, 12])))

def c_ref01_DaysOf : CF := ⟨[.tmp 2],
  (.seq (.reg false [
tq 1 (.box ty_api_Period (.t 0)),
tq 2 (.ownNil ⟨false, ty_int, 1, 8⟩)] [0, 2])
(.seq (.reg false [
tq 3 (.ownNil ⟨false, ty_int, 1, 8⟩)] [])
(.seq (.seq (.reg false [
fa 5 0 1,
ld 6 5,
tq 4 (.mv (.t 6))] [5, 6])
(.block 0 (.loop [1, 3, 4] b_ref01_DaysOf_1)))
(.seq (.reg false [
tq 20 (.mv (.t 3)),
tq 2 (.mv (.t 20))] [3, 20])
.ret))))⟩

def b_top_chockRead_1 : C :=
  (.seq (.reg false [
tq 21 (.bin .lss (.t 20) (.t 19))] [])
(.seq (.cond (.t 21) .skip
 (.exit 0))
(.seq (.block 1 (.seq (.reg false [
tq 22 (.idxAddr 5 (.t 18) (.t 20)),
tq 23 (.load (some 5) (.t 22)),
tq 6 (.alloc ty_message_Message [.z (.str []), .z (.str []), .z (.str []), .z (.int .i64 0), .z (.list 0 [])]),
⟨none, none, .store 5 (.t 6) (.t 23)⟩] [22, 23])
(.seq (.reg false [
tq 25 (.load (some 5) (.t 6)),
tq 26 (.call false true (.k (.fn n_message_PrintMessage [] [])) [.t 25]),
tq 24 (.mv (.t 26)),
tq 27 (.extract (.t 24) 0),
tq 28 (.extract (.t 24) 1),
tq 7 (.mv (.t 27)),
tq 8 (.mv (.t 28))] [6, 24, 25, 26, 27, 28])
(.seq (.reg false [
tq 30 (.mv (.t 7)),
tq 31 (.call false true (.k (.fn n_message_ParseMessage [] [])) [.t 30]),
tq 29 (.mv (.t 31)),
tq 32 (.extract (.t 29) 0),
tq 33 (.extract (.t 29) 1),
tq 34 (.extract (.t 29) 2),
tq 9 (.alloc ty_message_Message [.z (.str []), .z (.str []), .z (.str []), .z (.int .i64 0), .z (.list 0 [])]),
⟨none, none, .store 5 (.t 9) (.t 32)⟩,
tq 10 (.mv (.t 33)),
tq 11 (.mv (.t 34))] [7, 10, 29, 30, 31, 32, 33, 34])
(.seq (.seq (.reg false [
tq 35 (.mv (.t 8)),
tq 36 (.bin .neq (.t 35) (kq 0)),
tq 37 (.mv (.t 36)),
⟨some 38, (some (37, false)), .mv (.t 11)⟩,
⟨some 39, (some (37, false)), .bin .neq (.t 38) (kq 0)⟩,
tq 40 (.pick (.t 37) (.k (.d (.bool true))) (.t 39))] [8, 11, 35, 36, 37, 38, 39])
(.cond (.t 40) (.seq (.reg false [
tq 2 (.ownNil ⟨false, ty_api_Request, 13, 152⟩),
tq 3 (.mv (.k (.d (.bool false))))] [])
.ret)
 .skip))
(.reg false [
tq 41 (.mv (.t 4)),
tq 42 (.load (some 5) (.t 9)),
tq 43 (.mkList 5 1 [.t 42]),
tq 44 (.append ⟨false, ty_message_Message, 5, 80⟩ (.t 41) (.t 43)),
tq 4 (.mv (.t 44))] [9, 41, 42, 43, 44]))))))
(.reg false [
tq 45 (.bin .add (.t 20) (kq 1)),
tq 20 (.mv (.t 45))] [45]))))

def b_top_chockRead_2 : C :=
  (.seq (.reg false [
tq 55 (.bin .lss (.t 54) (.t 53))] [])
(.seq (.cond (.t 55) .skip
 (.exit 2))
(.seq (.block 3 (.seq (.reg false [
tq 56 (.idxAddr 15 (.t 52) (.t 54)),
tq 57 (.load (some 15) (.t 56)),
tq 17 (.alloc ty_message_Entry [.z (.str []), .z (.str []), .z (.str []), .z (.str []), .z (.str []), .z (.str []), .z (.int .i64 0), .z (.int .i64 0), .z (.int .i64 0), .z (.int .i64 0), .z (.int .i64 0), .z (.int .i64 0), .z (.int .i64 0), .z (.bool false), .z (.int .i64 0)]),
⟨none, none, .store 15 (.t 17) (.t 57)⟩] [56, 57])
(.reg false [
tq 58 (.mv (.t 15)),
fa 59 0 17,
tq 60 (.load (some 13) (.t 59)),
tq 61 (.mkList 13 1 [.t 60]),
tq 62 (.append ⟨false, ty_api_Request, 13, 152⟩ (.t 58) (.t 61)),
tq 15 (.mv (.t 62))] [17, 58, 59, 60, 61, 62])))
(.reg false [
tq 63 (.bin .add (.t 54) (kq 1)),
tq 54 (.mv (.t 63))] [63]))))

def c_top_chockRead : CF := ⟨[.tmp 2, .tmp 3],
  (.seq (.reg false [
tq 2 (.ownNil ⟨false, ty_api_Request, 13, 152⟩),
tq 3 (.mv (.k (.d (.bool false))))] [2, 3])
(.seq (.reg false [
tq 4 (.ownNil ⟨false, ty_message_Message, 5, 80⟩)] [])
(.seq (.seq (.reg false [
tq 18 (.mv (.t 0)),
tq 19 (.len .slc (.t 18)),
tq 20 (.mv (kq 0))] [0])
(.block 0 (.loop [4, 18, 19, 20] b_top_chockRead_1)))
(.seq (.reg false [
tq 47 (.mv (.t 4)),
tq 48 (.call false true (.k (.fn n_message_Requests [] [])) [.t 47]),
tq 46 (.mv (.t 48)),
tq 49 (.extract (.t 46) 0),
tq 50 (.extract (.t 46) 1),
tq 51 (.extract (.t 46) 2),
tq 12 (.mv (.t 49)),
tq 13 (.mv (.t 50)),
tq 14 (.mv (.t 51))] [4, 13, 46, 47, 48, 49, 50, 51])
(.seq (.reg false [
tq 15 (.ownNil ⟨false, ty_api_Request, 13, 152⟩)] [])
(.seq (.seq (.reg false [
tq 52 (.mv (.t 12)),
tq 53 (.len .slc (.t 52)),
tq 54 (.mv (kq 0))] [12])
(.block 2 (.loop [14, 15, 52, 53, 54] b_top_chockRead_2)))
(.seq (.reg false [
tq 64 (.mv (.t 15)),
tq 65 (.mv (.t 14)),
tq 66 (.bin .eql (.t 65) (kq 0)),
tq 2 (.mv (.t 64)),
tq 3 (.mv (.t 66))] [14, 15, 64, 65, 66])
.ret)))))))⟩

def b_top_chockSent_1 : C :=
  (.seq (.reg false [
tq 13 (.bin .lss (.t 12) (.t 11))] [])
(.seq (.cond (.t 13) .skip
 (.exit 0))
(.seq (.block 1 (.seq (.reg false [
tq 14 (.idxAddr 13 (.t 10) (.t 12)),
tq 15 (.load (some 13) (.t 14)),
tq 7 (.alloc ty_api_Request [.z (.str []), .z (.str []), .z (.str []), .z (.str []), .z (.str []), .z (.str []), .z (.int .i64 0), .z (.int .i64 0), .z (.int .i64 0), .z (.int .i64 0), .z (.int .i64 0), .z (.int .i64 0), .z (.int .i64 0)]),
⟨none, none, .store 13 (.t 7) (.t 15)⟩] [14, 15])
(.reg false [
fa 16 4 5,
ld 17 16,
tq 18 (.load (some 13) (.t 7)),
tq 19 (.build [.z (.str []), .z (.str []), .z (.str []), .z (.str []), .z (.str []), .z (.str []), .z (.str []), .z (.int .i64 0), .z (.int .i64 0), .z (.int .i64 0), .z (.int .i64 0), .z (.int .i64 0), .z (.int .i64 0), .z (.int .i64 0)] [(0, 1, .k (.d (.str [78]))), (1, 13, .t 18)]),
tq 20 (.mkList 14 1 [.t 19]),
tq 21 (.append ⟨false, ty_message_Line, 14, 168⟩ (.t 17) (.t 20)),
fa 22 4 5,
⟨none, none, .store 1 (.t 22) (.t 21)⟩] [7, 16, 17, 18, 19, 20, 21, 22])))
(.reg false [
tq 23 (.bin .add (.t 12) (kq 1)),
tq 12 (.mv (.t 23))] [23]))))

def c_top_chockSent : CF := ⟨[.cell 4 (some 5)],
  (.seq (.reg false [
tq 4 (.alloc ty_message_Message [.z (.str []), .z (.str []), .z (.str []), .z (.int .i64 0), .own ⟨false, ty_message_Line, 14, 168⟩])] [])
(.seq (.reg false [
tq 8 (.mv (.t 1)),
tq 9 (.build [.z (.str []), .z (.str []), .z (.str []), .z (.int .i64 0), .own ⟨false, ty_message_Line, 14, 168⟩] [(0, 1, .k (.d (.str [82, 69, 81]))), (1, 1, .k (.d (.str [104, 101, 114, 101]))), (2, 1, .k (.d (.str [83, 50, 48, 50, 52]))), (3, 1, .t 8)]),
tq 5 (.alloc ty_message_Message [.z (.str []), .z (.str []), .z (.str []), .z (.int .i64 0), .own ⟨false, ty_message_Line, 14, 168⟩]),
⟨none, none, .store 5 (.t 5) (.t 9)⟩] [1, 8, 9])
(.seq (.seq (.reg false [
tq 10 (.mv (.t 0)),
tq 11 (.len .slc (.t 10)),
tq 12 (.mv (kq 0))] [0])
(.block 0 (.loop [4, 5, 10, 11, 12] b_top_chockSent_1)))
(.seq (.reg false [
tq 24 (.load (some 5) (.t 5)),
⟨none, none, .store 5 (.t 4) (.t 24)⟩] [5, 24])
.ret))))⟩

def c_calendar_DaysOf : CF := ⟨[.tmp 2, .tmp 3],
  (.seq (.reg false [
tq 1 (.box ty_api_Period (.t 0)),
tq 2 (.mv (.k (.d (.list 0 [])))),
tq 3 (.mv (kq 0))] [0, 2, 3])
(.seq (.seq (.reg false [
tq 5 (.load (some 3) (.t 1)),
tq 6 (.call false true (.k (.fn n_calendar_CheckPeriod [] [])) [.t 5]),
tq 4 (.mv (.t 6))] [5, 6])
(.seq (.reg false [
tq 7 (.mv (.t 4)),
tq 8 (.bin .neq (.t 7) (kq 0))] [7])
(.cond (.t 8) (.seq (.reg false [
tq 9 (.mv (.t 4)),
tq 2 (.mv (.k (.d (.list 0 [])))),
tq 3 (.mv (.t 9))] [4, 9])
.ret)
 .skip)))
(.seq (.reg false [
tq 10 (.load (some 3) (.t 1)),
tq 11 (.call false false (.k (.fn n_calendar_daysOf [] [])) [.t 10]),
tq 12 (.call true true (.k (.fn n_calendar_collected_int [] [])) [.t 11, .k (.fn n_calendar_DaysOf_1 [] [])]),
tq 2 (.mv (.t 12)),
tq 3 (.mv (kq 0))] [1, 10, 11, 12])
.ret)))⟩

def b_ref01_SameInts_1 : C :=
  (.seq (.seq (.reg false [
tq 11 (.mv (.t 5)),
tq 12 (.mv (.t 0)),
tq 13 (.len .slc (.t 12)),
tq 14 (.bin .lss (.t 11) (.t 13))] [11, 12, 13])
(.cond (.t 14) .skip
 (.exit 0)))
(.seq (.block 1 (.seq (.reg true [
tq 17 (.mv (.t 0)),
tq 18 (.mv (.t 5)),
tq 19 (.idxAddr 1 (.t 17) (.t 18)),
ld 20 19,
tq 21 (.mv (.t 1)),
tq 22 (.mv (.t 5)),
tq 23 (.idxAddr 1 (.t 21) (.t 22)),
ld 24 23,
tq 25 (.bin .neq (.t 20) (.t 24))] [17, 18, 19, 20, 21, 22, 23, 24])
(.cond (.t 25) (.seq (.reg false [
tq 4 (.mv (.k (.d (.bool false))))] [])
.ret)
 .skip)))
(.reg false [
tq 15 (.mv (.t 5)),
tq 16 (.bin .add (.t 15) (kq 1)),
tq 5 (.mv (.t 16))] [15, 16])))

def c_ref01_SameInts : CF := ⟨[.tmp 4],
  (.seq (.reg false [
tq 4 (.mv (.k (.d (.bool false))))] [4])
(.seq (.seq (.reg false [
tq 6 (.mv (.t 0)),
tq 7 (.len .slc (.t 6)),
tq 8 (.mv (.t 1)),
tq 9 (.len .slc (.t 8)),
tq 10 (.bin .neq (.t 7) (.t 9))] [6, 7, 8, 9])
(.cond (.t 10) (.seq (.reg false [
tq 4 (.mv (.k (.d (.bool false))))] [])
.ret)
 .skip))
(.seq (.seq (.reg false [
tq 5 (.mv (kq 0))] [])
(.block 0 (.loop [0, 1, 5] b_ref01_SameInts_1)))
(.seq (.reg false [
tq 4 (.mv (.k (.d (.bool true))))] [])
.ret))))⟩

def c_message_PrintMinute : CF := ⟨[.tmp 2, .tmp 3],
  (.seq (.reg false [
tq 2 (.mv (.k (.d (.str [])))),
tq 3 (.mv (kq 0))] [2, 3])
(.seq (.seq (.reg false [
tq 5 (.mv (.t 0)),
tq 6 (.call false true (.k (.fn n_message_within [] [])) [.t 5, kq 0, kq 1439]),
tq 4 (.mv (.t 6))] [5, 6])
(.seq (.reg false [
tq 7 (.mv (.t 4)),
tq 8 (.bin .neq (.t 7) (kq 0))] [7])
(.cond (.t 8) (.seq (.reg false [
tq 9 (.mv (.t 4)),
tq 2 (.mv (.k (.d (.str [])))),
tq 3 (.mv (.t 9))] [4, 9])
.ret)
 .skip)))
(.seq (.reg false [
tq 10 (.mv (.t 0)),
tq 11 (.bin .quo (.t 10) (kq 60)),
tq 12 (.call false true (.k (.fn n_message_wide [] [])) [.t 11, kq 2]),
tq 13 (.mv (.t 0)),
tq 14 (.bin .rem (.t 13) (kq 60)),
tq 15 (.call false true (.k (.fn n_message_wide [] [])) [.t 14, kq 2]),
tq 16 (.bin .add (.t 12) (.t 15)),
tq 2 (.mv (.t 16)),
tq 3 (.mv (kq 0))] [0, 10, 11, 12, 13, 14, 15, 16])
.ret)))⟩

def c_message_ParseMinute : CF := ⟨[.tmp 2, .tmp 3],
  (.seq (.reg false [
tq 2 (.mv (kq 0)),
tq 3 (.mv (kq 0))] [2, 3])
(.seq (.reg false [
tq 7 (.mv (.t 0)),
tq 8 (.call false true (.k (.fn n_message_number [] [])) [.t 7, kq 4]),
tq 6 (.mv (.t 8)),
tq 9 (.extract (.t 6) 0),
tq 10 (.extract (.t 6) 1),
tq 4 (.mv (.t 9)),
tq 5 (.mv (.t 10))] [0, 6, 7, 8, 9, 10])
(.seq (.seq (.reg false [
tq 11 (.mv (.t 5)),
tq 12 (.un .not (.t 11)),
tq 13 (.mv (.t 12)),
⟨some 14, (some (13, false)), .mv (.t 4)⟩,
⟨some 15, (some (13, false)), .bin .quo (.t 14) (kq 100)⟩,
⟨some 16, (some (13, false)), .bin .gtr (.t 15) (kq 23)⟩,
tq 17 (.pick (.t 13) (.k (.d (.bool true))) (.t 16)),
tq 18 (.mv (.t 17)),
⟨some 19, (some (18, false)), .mv (.t 4)⟩,
⟨some 20, (some (18, false)), .bin .rem (.t 19) (kq 100)⟩,
⟨some 21, (some (18, false)), .bin .gtr (.t 20) (kq 59)⟩,
tq 22 (.pick (.t 18) (.k (.d (.bool true))) (.t 21))] [5, 11, 12, 13, 14, 15, 16, 17, 18, 19, 20, 21])
(.cond (.t 22) (.seq (.reg false [
tq 2 (.mv (kq 0)),
tq 3 (.mv (kq 25))] [])
.ret)
 .skip))
(.seq (.reg false [
tq 23 (.mv (.t 4)),
tq 24 (.bin .quo (.t 23) (kq 100)),
tq 25 (.bin .mul (.t 24) (kq 60)),
tq 26 (.mv (.t 4)),
tq 27 (.bin .rem (.t 26) (kq 100)),
tq 28 (.bin .add (.t 25) (.t 27)),
tq 2 (.mv (.t 28)),
tq 3 (.mv (kq 0))] [4, 23, 24, 25, 26, 27, 28])
.ret))))⟩

def c_message_PrintLine : CF := ⟨[.tmp 2, .tmp 3],
  (.seq (.reg false [
tq 1 (.box ty_message_Line (.t 0)),
tq 2 (.mv (.k (.d (.str [])))),
tq 3 (.mv (kq 0))] [0, 2, 3])
(.seq (.seq (.reg false [
tq 5 (.load (some 14) (.t 1)),
tq 6 (.call false true (.k (.fn n_message_CheckLine [] [])) [.t 5]),
tq 4 (.mv (.t 6))] [5, 6])
(.seq (.reg false [
tq 7 (.mv (.t 4)),
tq 8 (.bin .neq (.t 7) (kq 0))] [7])
(.cond (.t 8) (.seq (.reg false [
tq 9 (.mv (.t 4)),
tq 2 (.mv (.k (.d (.str [])))),
tq 3 (.mv (.t 9))] [4, 9])
.ret)
 .skip)))
(.seq (.reg false [
tq 10 (.load (some 14) (.t 1)),
tq 11 (.call false true (.k (.fn n_message_printLine [] [])) [.t 10]),
tq 2 (.mv (.t 11)),
tq 3 (.mv (kq 0))] [1, 10, 11])
.ret)))⟩

def b_message_ParseLine_1 : C :=
  (.seq (.reg false [
tq 22 (.bin .lss (.t 21) (kq 14))] [])
(.seq (.cond (.t 22) .skip
 (.exit 0))
(.seq (.block 1 (.seq (.reg false [
tq 23 (.mv (.t 21)),
tq 8 (.mv (.t 23))] [23])
(.seq (.reg false [
tq 24 (.mv (.t 8)),
tq 25 (.idxAddrA 14 2 (.t 7) (.t 24)),
fa 26 1 25,
ld 27 26,
tq 9 (.mv (.t 27))] [24, 25, 26, 27])
(.seq (.reg false [
tq 28 (.mv (.t 9)),
tq 29 (.mv (.t 5)),
tq 30 (.mv (.t 8)),
tq 31 (.idxAddr 1 (.t 29) (.t 30)),
ld 32 31,
tq 33 (.call true true (.t 28) [.t 6, .t 32]),
tq 34 (.un .not (.t 33))] [9, 28, 29, 30, 31, 32, 33])
(.cond (.t 34) (.seq (.reg false [
tq 35 (.build [.z (.str []), .z (.str []), .z (.str []), .z (.str []), .z (.str []), .z (.str []), .z (.str []), .z (.int .i64 0), .z (.int .i64 0), .z (.int .i64 0), .z (.int .i64 0), .z (.int .i64 0), .z (.int .i64 0), .z (.int .i64 0)] []),
tq 36 (.mv (.t 8)),
⟨none, none, .store 14 (.t 2) (.t 35)⟩,
tq 3 (.mv (.t 36)),
tq 4 (.mv (kq 25))] [8, 35, 36])
.ret)
 .skip)))))
(.reg false [
tq 37 (.bin .add (.t 21) (kq 1)),
tq 21 (.mv (.t 37))] [37]))))

def c_message_ParseLine : CF := ⟨[.cell 2 (some 14), .tmp 3, .tmp 4],
  (.seq (.reg false [
tq 2 (.alloc ty_message_Line [.z (.str []), .z (.str []), .z (.str []), .z (.str []), .z (.str []), .z (.str []), .z (.str []), .z (.int .i64 0), .z (.int .i64 0), .z (.int .i64 0), .z (.int .i64 0), .z (.int .i64 0), .z (.int .i64 0), .z (.int .i64 0)]),
tq 3 (.mv (kq 0)),
tq 4 (.mv (kq 0))] [3, 4])
(.seq (.reg false [
tq 11 (.mv (.t 0)),
tq 12 (.call false true (.k (.fn n_strings_Split [] [])) [.t 11, .k (.d (.str [32]))]),
tq 5 (.mv (.t 12))] [0, 11, 12])
(.seq (.seq (.reg false [
tq 13 (.mv (.t 5)),
tq 14 (.len .slc (.t 13)),
tq 15 (.bin .neq (.t 14) (kq 14))] [13, 14])
(.cond (.t 15) (.seq (.reg false [
tq 16 (.build [.z (.str []), .z (.str []), .z (.str []), .z (.str []), .z (.str []), .z (.str []), .z (.str []), .z (.int .i64 0), .z (.int .i64 0), .z (.int .i64 0), .z (.int .i64 0), .z (.int .i64 0), .z (.int .i64 0), .z (.int .i64 0)] []),
tq 17 (.mv (.t 5)),
tq 18 (.len .slc (.t 17)),
tq 19 (.minmax false [.t 18, kq 13]),
⟨none, none, .store 14 (.t 2) (.t 16)⟩,
tq 3 (.mv (.t 19)),
tq 4 (.mv (kq 25))] [5, 16, 17, 18, 19])
.ret)
 .skip))
(.seq (.reg false [
tq 6 (.alloc ty_message_Line [.z (.str []), .z (.str []), .z (.str []), .z (.str []), .z (.str []), .z (.str []), .z (.str []), .z (.int .i64 0), .z (.int .i64 0), .z (.int .i64 0), .z (.int .i64 0), .z (.int .i64 0), .z (.int .i64 0), .z (.int .i64 0)])] [])
(.seq (.reg false [
tq 20 (.call false false (.k (.fn n_message_fields [] [])) []),
tq 7 (.alloc ty_14_message_field [.z (.nilf), .z (.nilf), .z (.nilf), .z (.nilf), .z (.nilf), .z (.nilf), .z (.nilf), .z (.nilf), .z (.nilf), .z (.nilf), .z (.nilf), .z (.nilf), .z (.nilf), .z (.nilf), .z (.nilf), .z (.nilf), .z (.nilf), .z (.nilf), .z (.nilf), .z (.nilf), .z (.nilf), .z (.nilf), .z (.nilf), .z (.nilf), .z (.nilf), .z (.nilf), .z (.nilf), .z (.nilf)]),
⟨none, none, .store 28 (.t 7) (.t 20)⟩] [20])
(.seq (.seq (.reg false [
tq 21 (.mv (kq 0))] [])
(.block 0 (.loop [2, 5, 6, 7, 21] b_message_ParseLine_1)))
(.seq (.seq (.reg false [
tq 38 (.load (some 14) (.t 6)),
tq 39 (.call false true (.k (.fn n_message_CheckLine [] [])) [.t 38]),
tq 10 (.mv (.t 39))] [38, 39])
(.seq (.reg false [
tq 40 (.mv (.t 10)),
tq 41 (.bin .neq (.t 40) (kq 0))] [40])
(.cond (.t 41) (.seq (.reg false [
tq 42 (.build [.z (.str []), .z (.str []), .z (.str []), .z (.str []), .z (.str []), .z (.str []), .z (.str []), .z (.int .i64 0), .z (.int .i64 0), .z (.int .i64 0), .z (.int .i64 0), .z (.int .i64 0), .z (.int .i64 0), .z (.int .i64 0)] []),
tq 43 (.mv (.t 10)),
⟨none, none, .store 14 (.t 2) (.t 42)⟩,
tq 3 (.mv (kq 14)),
tq 4 (.mv (.t 43))] [10, 42, 43])
.ret)
 .skip)))
(.seq (.reg false [
tq 44 (.load (some 14) (.t 6)),
⟨none, none, .store 14 (.t 2) (.t 44)⟩,
tq 3 (.mv (kq 0)),
tq 4 (.mv (kq 0))] [6, 44])
.ret))))))))⟩

def b_message_PrintMessage_1 : C :=
  (.seq (.reg false [
tq 38 (.bin .lss (.t 37) (.t 36))] [])
(.seq (.cond (.t 38) .skip
 (.exit 0))
(.seq (.block 1 (.seq (.reg false [
tq 39 (.idxAddr 14 (.t 35) (.t 37)),
tq 40 (.load (some 14) (.t 39)),
tq 8 (.alloc ty_message_Line [.z (.str []), .z (.str []), .z (.str []), .z (.str []), .z (.str []), .z (.str []), .z (.str []), .z (.int .i64 0), .z (.int .i64 0), .z (.int .i64 0), .z (.int .i64 0), .z (.int .i64 0), .z (.int .i64 0), .z (.int .i64 0)]),
⟨none, none, .store 14 (.t 8) (.t 40)⟩] [39, 40])
(.reg false [
tq 41 (.mv (.t 6)),
tq 42 (.load (some 14) (.t 8)),
tq 43 (.call false true (.k (.fn n_message_printLine [] [])) [.t 42]),
tq 44 (.bin .add (.t 43) (.k (.d (.str [10])))),
tq 45 (.call true false (.t 41) [.t 44])] [8, 41, 42, 43, 44, 45])))
(.reg false [
tq 46 (.bin .add (.t 37) (kq 1)),
tq 37 (.mv (.t 46))] [46]))))

def c_message_PrintMessage : CF := ⟨[.tmp 2, .tmp 3],
  (.seq (.reg false [
tq 1 (.box ty_message_Message (.t 0)),
tq 2 (.mv (.k (.d (.str [])))),
tq 3 (.mv (kq 0))] [0, 2, 3])
(.seq (.seq (.reg false [
tq 9 (.load (some 5) (.t 1)),
tq 10 (.call false true (.k (.fn n_message_CheckMessage [] [])) [.t 9]),
tq 4 (.mv (.t 10))] [9, 10])
(.seq (.reg false [
tq 11 (.mv (.t 4)),
tq 12 (.bin .neq (.t 11) (kq 0))] [11])
(.cond (.t 12) (.seq (.reg false [
tq 13 (.mv (.t 4)),
tq 2 (.mv (.k (.d (.str [])))),
tq 3 (.mv (.t 13))] [4, 13])
.ret)
 .skip)))
(.seq (.reg false [
tq 5 (.alloc ty_strings_Builder [.z .nilp, .own ⟨false, ty_uint8, 1, 1⟩])] [])
(.seq (.reg false [
tq 14 (.mkFunc n_strings_Builder_WriteString [.t 5] []),
tq 6 (.mv (.t 14))] [14])
(.seq (.reg true [
tq 15 (.mv (.t 6)),
fa 16 0 1,
ld 17 16,
tq 18 (.bin .add (.k (.d (.str [83, 76, 79, 84, 83, 32]))) (.t 17)),
tq 19 (.bin .add (.t 18) (.k (.d (.str [32])))),
fa 20 1 1,
ld 21 20,
tq 22 (.bin .add (.t 19) (.t 21)),
tq 23 (.bin .add (.t 22) (.k (.d (.str [32])))),
fa 24 2 1,
ld 25 24,
tq 26 (.bin .add (.t 23) (.t 25)),
tq 27 (.bin .add (.t 26) (.k (.d (.str [32])))),
fa 28 3 1,
ld 29 28,
tq 30 (.call false true (.k (.fn n_message_wide [] [])) [.t 29, kq 5]),
tq 31 (.bin .add (.t 27) (.t 30)),
tq 32 (.bin .add (.t 31) (.k (.d (.str [10])))),
tq 33 (.call true false (.t 15) [.t 32])] [15, 16, 17, 18, 19, 20, 21, 22, 23, 24, 25, 26, 27, 28, 29, 30, 31, 32, 33])
(.seq (.seq (.reg false [
fa 34 4 1,
ld 35 34,
tq 36 (.len .slc (.t 35)),
tq 37 (.mv (kq 0))] [34])
(.block 0 (.loop [1, 5, 6, 35, 36, 37] b_message_PrintMessage_1)))
(.seq (.reg false [
tq 47 (.mv (.t 6)),
fa 48 4 1,
ld 49 48,
tq 50 (.len .slc (.t 49)),
tq 51 (.call false true (.k (.fn n_message_wide [] [])) [.t 50, kq 2]),
tq 52 (.bin .add (.k (.d (.str [69, 78, 68, 32]))) (.t 51)),
tq 53 (.bin .add (.t 52) (.k (.d (.str [10])))),
tq 54 (.call true false (.t 47) [.t 53])] [1, 6, 47, 48, 49, 50, 51, 52, 53, 54])
(.seq (.reg false [
tq 55 (.call true true (.k (.fn n_strings_Builder_String [] [])) [.t 5]),
tq 2 (.mv (.t 55)),
tq 3 (.mv (kq 0))] [5, 55])
.ret))))))))⟩

def b_message_ParseMessage_1 : C :=
  (.seq (.reg false [
tq 8 (.mv (.t 29))] [29])
(.reg false [
tq 9 (.mv (.t 30))] [30]))

def b_message_ParseMessage_2 : C :=
  (.block 1 (.seq (.reg false [
tq 31 (.mv (.t 8)),
tq 32 (.bin .add (.t 31) (kq 1)),
⟨none, none, .store 1 (.t 6) (.t 32)⟩] [6, 31, 32])
(.seq (.reg false [
tq 34 (.mv (.t 9)),
tq 35 (.call false true (.k (.fn n_strings_CutSuffix [] [])) [.t 34, .k (.d (.str [10]))]),
tq 33 (.mv (.t 35)),
tq 36 (.extract (.t 33) 0),
tq 37 (.extract (.t 33) 1),
tq 10 (.mv (.t 36)),
tq 11 (.mv (.t 37))] [33, 34, 35, 36, 37])
(.seq (.reg false [
tq 38 (.mv (.t 10)),
tq 39 (.call false true (.k (.fn n_strings_Split [] [])) [.t 38, .k (.d (.str [32]))]),
tq 12 (.mv (.t 39))] [38, 39])
(.block 2 (.seq (.reg false [
tq 72 (.mv (.t 8)),
tq 73 (.bin .eql (.t 72) (kq 0)),
tq 71 (.mv (.t 73))] [72, 73])
(.cond (.t 71) (.seq (.reg false [
tq 75 (.mv (.t 9)),
tq 76 (.call false false (.k (.fn n_message_head [] [])) [.t 75]),
tq 74 (.mv (.t 76)),
tq 77 (.extract (.t 74) 0),
tq 78 (.extract (.t 74) 1),
tq 13 (.alloc ty_message_Message [.z (.str []), .z (.str []), .z (.str []), .z (.int .i64 0), .own ⟨false, ty_message_Line, 14, 168⟩]),
⟨none, none, .store 5 (.t 13) (.t 77)⟩,
tq 14 (.mv (.t 78))] [9, 74, 75, 76, 77, 78])
(.seq (.seq (.reg false [
tq 79 (.mv (.t 14)),
tq 80 (.un .not (.t 79))] [14, 79])
(.cond (.t 80) (.seq (.reg false [
tq 81 (.build [.z (.str []), .z (.str []), .z (.str []), .z (.int .i64 0), .own ⟨false, ty_message_Line, 14, 168⟩] []),
⟨none, none, .store 5 (.t 2) (.t 81)⟩,
⟨none, none, .store 1 (.t 3) (kq 0)⟩,
⟨none, none, .store 1 (.t 4) (kq 25)⟩] [81])
.ret)
 .skip))
(.reg false [
tq 82 (.load (some 5) (.t 13)),
⟨none, none, .store 5 (.t 5) (.t 82)⟩] [5, 13, 82])))
 (.seq (.reg false [
tq 84 (.mv (.t 11)),
tq 85 (.un .not (.t 84)),
tq 86 (.mv (.t 85)),
⟨some 87, (some (86, false)), .load none (.t 7)⟩,
tq 88 (.pick (.t 86) (.k (.d (.bool true))) (.t 87)),
tq 83 (.mv (.t 88))] [11, 84, 85, 86, 87, 88])
(.cond (.t 83) (.seq (.reg false [
tq 89 (.build [.z (.str []), .z (.str []), .z (.str []), .z (.int .i64 0), .own ⟨false, ty_message_Line, 14, 168⟩] []),
tq 90 (.mv (.t 8)),
⟨none, none, .store 5 (.t 2) (.t 89)⟩,
⟨none, none, .store 1 (.t 3) (.t 90)⟩,
⟨none, none, .store 1 (.t 4) (kq 25)⟩] [8, 89, 90])
.ret)
 (.seq (.reg false [
tq 92 (.mv (.t 12)),
tq 93 (.idxAddr 1 (.t 92) (kq 0)),
ld 94 93,
tq 95 (.bin .neq (.t 94) (.k (.d (.str [69, 78, 68])))),
tq 91 (.mv (.t 95))] [92, 93, 94, 95])
(.cond (.t 91) (.seq (.reg false [
tq 97 (.mv (.t 10)),
tq 98 (.call false true (.k (.fn n_message_ParseLine [] [])) [.t 97]),
tq 96 (.mv (.t 98)),
tq 99 (.extract (.t 96) 0),
tq 100 (.extract (.t 96) 1),
tq 101 (.extract (.t 96) 2),
tq 15 (.alloc ty_message_Line [.z (.str []), .z (.str []), .z (.str []), .z (.str []), .z (.str []), .z (.str []), .z (.str []), .z (.int .i64 0), .z (.int .i64 0), .z (.int .i64 0), .z (.int .i64 0), .z (.int .i64 0), .z (.int .i64 0), .z (.int .i64 0)]),
⟨none, none, .store 14 (.t 15) (.t 99)⟩,
tq 16 (.mv (.t 100)),
tq 17 (.mv (.t 101))] [10, 16, 96, 97, 98, 99, 100, 101])
(.seq (.seq (.reg false [
tq 102 (.mv (.t 17)),
fa 103 4 5,
ld 104 103,
tq 105 (.len .slc (.t 104)),
tq 106 (.bin .geq (.t 105) (kq 64)),
tq 107 (.call false true (.k (.fn n_message_when [] [])) [.t 106, kq 5]),
tq 108 (.mkList 1 2 [.t 102, .t 107]),
tq 109 (.call false true (.k (.fn n_message_first [] [])) [.t 108]),
tq 17 (.mv (.t 109))] [102, 103, 104, 105, 106, 107, 108, 109])
(.seq (.reg false [
tq 110 (.mv (.t 17)),
tq 111 (.bin .neq (.t 110) (kq 0))] [110])
(.cond (.t 111) (.seq (.reg false [
tq 112 (.build [.z (.str []), .z (.str []), .z (.str []), .z (.int .i64 0), .own ⟨false, ty_message_Line, 14, 168⟩] []),
tq 113 (.mv (.t 8)),
tq 114 (.mv (.t 17)),
⟨none, none, .store 5 (.t 2) (.t 112)⟩,
⟨none, none, .store 1 (.t 3) (.t 113)⟩,
⟨none, none, .store 1 (.t 4) (.t 114)⟩] [8, 17, 112, 113, 114])
.ret)
 .skip)))
(.reg false [
fa 115 4 5,
ld 116 115,
tq 117 (.load (some 14) (.t 15)),
tq 118 (.mkList 14 1 [.t 117]),
tq 119 (.append ⟨false, ty_message_Line, 14, 168⟩ (.t 116) (.t 118)),
fa 120 4 5,
⟨none, none, .store 1 (.t 120) (.t 119)⟩] [5, 15, 115, 116, 117, 118, 119, 120])))
 (.seq (.reg false [
tq 41 (.mv (.t 12)),
tq 42 (.mv (.t 12)),
tq 43 (.len .slc (.t 42)),
tq 44 (.bin .sub (.t 43) (kq 1)),
tq 45 (.idxAddr 1 (.t 41) (.t 44)),
ld 46 45,
tq 47 (.call false true (.k (.fn n_message_number [] [])) [.t 46, kq 2]),
tq 40 (.mv (.t 47)),
tq 48 (.extract (.t 40) 0),
tq 49 (.extract (.t 40) 1),
tq 18 (.mv (.t 48)),
tq 19 (.mv (.t 49))] [40, 41, 42, 43, 44, 45, 46, 47, 48, 49])
(.seq (.seq (.reg true [
tq 50 (.mv (.t 12)),
tq 51 (.len .slc (.t 50)),
tq 52 (.bin .neq (.t 51) (kq 2)),
tq 53 (.mv (.t 52)),
⟨some 54, (some (53, false)), .mv (.t 19)⟩,
⟨some 55, (some (53, false)), .un .not (.t 54)⟩,
tq 56 (.pick (.t 53) (.k (.d (.bool true))) (.t 55)),
tq 57 (.call false true (.k (.fn n_message_when [] [])) [.t 56, kq 25]),
tq 58 (.mv (.t 18)),
fa 59 4 5,
ld 60 59,
tq 61 (.len .slc (.t 60)),
tq 62 (.bin .neq (.t 58) (.t 61)),
tq 63 (.call false true (.k (.fn n_message_when [] [])) [.t 62, kq 27]),
tq 64 (.mkList 1 2 [.t 57, .t 63]),
tq 65 (.call false true (.k (.fn n_message_first [] [])) [.t 64]),
tq 20 (.mv (.t 65))] [5, 12, 18, 19, 50, 51, 52, 53, 54, 55, 56, 57, 58, 59, 60, 61, 62, 63, 64, 65])
(.seq (.reg false [
tq 66 (.mv (.t 20)),
tq 67 (.bin .neq (.t 66) (kq 0))] [66])
(.cond (.t 67) (.seq (.reg false [
tq 68 (.build [.z (.str []), .z (.str []), .z (.str []), .z (.int .i64 0), .own ⟨false, ty_message_Line, 14, 168⟩] []),
tq 69 (.mv (.t 8)),
tq 70 (.mv (.t 20)),
⟨none, none, .store 5 (.t 2) (.t 68)⟩,
⟨none, none, .store 1 (.t 3) (.t 69)⟩,
⟨none, none, .store 1 (.t 4) (.t 70)⟩] [8, 20, 68, 69, 70])
.ret)
 .skip)))
(.reg false [
⟨none, none, .store 1 (.t 7) (.k (.d (.bool true)))⟩] [7]))))))))))))))

def c_message_ParseMessage : CF := ⟨[.cell 2 (some 5), .cell 3 none, .cell 4 none],
  (.seq (.reg false [
tq 2 (.alloc ty_message_Message [.z (.str []), .z (.str []), .z (.str []), .z (.int .i64 0), .own ⟨false, ty_message_Line, 14, 168⟩]),
tq 3 (.alloc ty_int [.z (.int .i64 0)]),
tq 4 (.alloc ty_api_Errno [.z (.int .i64 0)])] [])
(.seq (.seq (.reg false [
tq 23 (.mv (.t 0)),
tq 24 (.len .str (.t 23)),
tq 25 (.bin .gtr (.t 24) (kq 16384))] [23, 24])
(.cond (.t 25) (.seq (.reg false [
tq 26 (.build [.z (.str []), .z (.str []), .z (.str []), .z (.int .i64 0), .own ⟨false, ty_message_Line, 14, 168⟩] []),
⟨none, none, .store 5 (.t 2) (.t 26)⟩,
⟨none, none, .store 1 (.t 3) (kq 0)⟩,
⟨none, none, .store 1 (.t 4) (kq 26)⟩] [26])
.ret)
 .skip))
(.seq (.reg false [
tq 5 (.alloc ty_message_Message [.z (.str []), .z (.str []), .z (.str []), .z (.int .i64 0), .own ⟨false, ty_message_Line, 14, 168⟩])] [])
(.seq (.reg false [
tq 6 (.alloc ty_int [.z (.int .i64 0)]),
tq 7 (.alloc ty_bool [.z (.bool false)]),
⟨none, none, .store 1 (.t 6) (kq 0)⟩,
⟨none, none, .store 1 (.t 7) (.k (.d (.bool false)))⟩] [])
(.seq (.seq (.reg false [
tq 27 (.mv (.t 0)),
tq 28 (.call false false (.k (.fn n_message_texts [] [])) [.t 27])] [0, 27])
(.block 0 (.rangeFn 141 (.t 28) [29, 30] b_message_ParseMessage_1 b_message_ParseMessage_2)))
(.seq (.seq (.reg false [
ld 121 7,
tq 122 (.un .not (.t 121))] [7, 121])
(.cond (.t 122) (.seq (.reg true [
tq 123 (.build [.z (.str []), .z (.str []), .z (.str []), .z (.int .i64 0), .own ⟨false, ty_message_Line, 14, 168⟩] []),
ld 124 6,
⟨none, none, .storeR 5 (.t 2) (.t 123) [6]⟩,
⟨none, none, .store 1 (.t 3) (.t 124)⟩,
⟨none, none, .store 1 (.t 4) (kq 28)⟩] [6, 123, 124])
.ret)
 .skip))
(.seq (.seq (.reg false [
fa 126 0 5,
ld 127 126,
fa 128 4 5,
ld 129 128,
tq 130 (.call false true (.k (.fn n_message_checkLines [] [])) [.t 127, .t 129]),
tq 125 (.mv (.t 130)),
tq 131 (.extract (.t 125) 0),
tq 132 (.extract (.t 125) 1),
tq 21 (.mv (.t 131)),
tq 22 (.mv (.t 132))] [125, 126, 127, 128, 129, 130, 131, 132])
(.seq (.reg false [
tq 133 (.mv (.t 22)),
tq 134 (.bin .neq (.t 133) (kq 0))] [133])
(.cond (.t 134) (.seq (.reg false [
tq 135 (.build [.z (.str []), .z (.str []), .z (.str []), .z (.int .i64 0), .own ⟨false, ty_message_Line, 14, 168⟩] []),
tq 136 (.mv (.t 21)),
tq 137 (.bin .add (.t 136) (kq 1)),
tq 138 (.mv (.t 22)),
⟨none, none, .store 5 (.t 2) (.t 135)⟩,
⟨none, none, .store 1 (.t 3) (.t 137)⟩,
⟨none, none, .store 1 (.t 4) (.t 138)⟩] [21, 22, 135, 136, 137, 138])
.ret)
 .skip)))
(.seq (.reg false [
tq 139 (.load (some 5) (.t 5)),
⟨none, none, .store 5 (.t 2) (.t 139)⟩,
⟨none, none, .store 1 (.t 3) (kq 0)⟩,
⟨none, none, .store 1 (.t 4) (kq 0)⟩] [5, 139])
.ret))))))))⟩

def b_message_first_1 : C :=
  (.seq (.reg false [
tq 8 (.bin .lss (.t 7) (.t 6))] [])
(.seq (.cond (.t 8) .skip
 (.exit 0))
(.seq (.block 1 (.seq (.reg false [
tq 9 (.idxAddr 1 (.t 5) (.t 7)),
ld 10 9,
tq 4 (.mv (.t 10))] [9, 10])
(.seq (.reg false [
tq 11 (.mv (.t 4)),
tq 12 (.bin .neq (.t 11) (kq 0))] [11])
(.cond (.t 12) (.seq (.reg false [
tq 13 (.mv (.t 4)),
tq 2 (.mv (.t 13))] [4, 13])
.ret)
 .skip))))
(.reg false [
tq 14 (.bin .add (.t 7) (kq 1)),
tq 7 (.mv (.t 14))] [14]))))

def c_message_first : CF := ⟨[.tmp 2],
  (.seq (.reg false [
tq 2 (.mv (kq 0))] [2])
(.seq (.seq (.reg false [
tq 5 (.mv (.t 0)),
tq 6 (.len .slc (.t 5)),
tq 7 (.mv (kq 0))] [0])
(.block 0 (.loop [5, 6, 7] b_message_first_1)))
(.seq (.reg false [
tq 2 (.mv (kq 0))] [])
.ret)))⟩

def c_message_CheckMessage : CF := ⟨[.tmp 2],
  (.seq (.reg false [
tq 1 (.box ty_message_Message (.t 0)),
tq 2 (.mv (kq 0))] [0, 2])
(.seq (.seq (.reg true [
fa 6 0 1,
ld 7 6,
tq 8 (.call false true (.k (.fn n_message_isMessage [] [])) [.t 7]),
tq 9 (.un .not (.t 8)),
tq 10 (.call false true (.k (.fn n_message_when [] [])) [.t 9, kq 13]),
fa 11 1 1,
ld 12 11,
fa 13 2 1,
ld 14 13,
fa 15 3 1,
ld 16 15,
tq 17 (.call false true (.k (.fn n_message_checkHead [] [])) [.t 12, .t 14, .t 16]),
fa 18 4 1,
ld 19 18,
tq 20 (.len .slc (.t 19)),
tq 21 (.bin .gtr (.t 20) (kq 64)),
tq 22 (.call false true (.k (.fn n_message_when [] [])) [.t 21, kq 5]),
tq 23 (.mkList 1 3 [.t 10, .t 17, .t 22]),
tq 24 (.call false true (.k (.fn n_message_first [] [])) [.t 23]),
tq 3 (.mv (.t 24))] [6, 7, 8, 9, 10, 11, 12, 13, 14, 15, 16, 17, 18, 19, 20, 21, 22, 23, 24])
(.seq (.reg false [
tq 25 (.mv (.t 3)),
tq 26 (.bin .neq (.t 25) (kq 0))] [25])
(.cond (.t 26) (.seq (.reg false [
tq 27 (.mv (.t 3)),
tq 2 (.mv (.t 27))] [3, 27])
.ret)
 .skip)))
(.seq (.reg false [
fa 29 0 1,
ld 30 29,
fa 31 4 1,
ld 32 31,
tq 33 (.call false true (.k (.fn n_message_checkLines [] [])) [.t 30, .t 32]),
tq 28 (.mv (.t 33)),
tq 34 (.extract (.t 28) 0),
tq 35 (.extract (.t 28) 1),
tq 4 (.mv (.t 34)),
tq 5 (.mv (.t 35))] [1, 4, 28, 29, 30, 31, 32, 33, 34, 35])
(.seq (.reg false [
tq 36 (.mv (.t 5)),
tq 2 (.mv (.t 36))] [5, 36])
.ret))))⟩

def c_message_when : CF := ⟨[.tmp 4],
  (.seq (.reg false [
tq 4 (.mv (kq 0))] [4])
(.seq (.seq (.reg false [
tq 5 (.mv (.t 0))] [0])
(.cond (.t 5) (.seq (.reg false [
tq 6 (.mv (.t 1)),
tq 4 (.mv (.t 6))] [1, 6])
.ret)
 .skip))
(.seq (.reg false [
tq 4 (.mv (kq 0))] [])
.ret)))⟩

def c_message_step : CF := ⟨[.tmp 6, .tmp 7],
  (.seq (.reg false [
tq 4 (.box ty_message_Line (.t 1)),
tq 6 (.ownNil ⟨true, ty_message_Entry, 15, 168⟩),
tq 7 (.mv (kq 0))] [1, 6, 7])
(.seq (.reg false [
tq 11 (.mv (.t 0)),
fa 12 1 4,
fa 13 0 12,
ld 14 13,
tq 15 (.call true true (.k (.fn n_message_find [] [])) [.t 11, .t 14]),
tq 8 (.mv (.t 15))] [11, 12, 13, 14, 15])
(.seq (.seq (.reg false [
fa 16 0 4,
ld 17 16] [16])
(.block 0 (.seq (.seq (.reg false [
tq 19 (.bin .eql (.t 17) (.k (.d (.str [78])))),
tq 18 (.mv (.t 19))] [19])
(.cond (.t 18) .skip
 (.reg false [
tq 20 (.bin .eql (.t 17) (.k (.d (.str [72])))),
tq 18 (.mv (.t 20))] [20])))
(.cond (.t 18) (.seq (.seq (.reg false [
tq 21 (.mv (.t 8)),
tq 22 (.bin .geq (.t 21) (kq 0)),
tq 23 (.call false true (.k (.fn n_message_when [] [])) [.t 22, kq 9]),
tq 24 (.mv (.t 0)),
tq 25 (.len .slc (.t 24)),
tq 26 (.bin .geq (.t 25) (kq 64)),
tq 27 (.call false true (.k (.fn n_message_when [] [])) [.t 26, kq 5]),
tq 28 (.mkList 1 2 [.t 23, .t 27]),
tq 29 (.call false true (.k (.fn n_message_first [] [])) [.t 28]),
tq 9 (.mv (.t 29))] [8, 21, 22, 23, 24, 25, 26, 27, 28, 29])
(.seq (.reg false [
tq 30 (.mv (.t 9)),
tq 31 (.bin .neq (.t 30) (kq 0))] [30])
(.cond (.t 31) (.seq (.reg false [
tq 32 (.mv (.t 9)),
tq 6 (.ownNil ⟨true, ty_message_Entry, 15, 168⟩),
tq 7 (.mv (.t 32))] [9, 32])
.ret)
 .skip)))
(.seq (.reg false [
tq 33 (.mv (.t 0)),
fa 34 1 4,
tq 35 (.load (some 13) (.t 34)),
fa 36 0 4,
ld 37 36,
tq 38 (.bin .eql (.t 37) (.k (.d (.str [72])))),
tq 39 (.mv (.t 2)),
tq 40 (.build [.z (.str []), .z (.str []), .z (.str []), .z (.str []), .z (.str []), .z (.str []), .z (.int .i64 0), .z (.int .i64 0), .z (.int .i64 0), .z (.int .i64 0), .z (.int .i64 0), .z (.int .i64 0), .z (.int .i64 0), .z (.bool false), .z (.int .i64 0)] [(0, 13, .t 35), (13, 1, .t 38), (14, 1, .t 39)]),
tq 41 (.mkList 15 1 [.t 40]),
tq 42 (.append ⟨true, ty_message_Entry, 15, 168⟩ (.t 33) (.t 41)),
tq 6 (.mv (.t 42)),
tq 7 (.mv (kq 0))] [0, 2, 4, 33, 34, 35, 36, 37, 38, 39, 40, 41, 42])
.ret))
 (.seq (.reg false [
tq 44 (.bin .eql (.t 17) (.k (.d (.str [82])))),
tq 43 (.mv (.t 44))] [17, 44])
(.cond (.t 43) (.seq (.reg true [
tq 45 (.mv (.t 0)),
tq 46 (.mv (.t 8)),
fa 47 1 4,
tq 48 (.load (some 13) (.t 47)),
tq 49 (.mv (.t 0)),
tq 50 (.mv (.t 8)),
tq 51 (.idxAddr 15 (.t 49) (.t 50)),
fa 52 13 51,
ld 53 52,
tq 54 (.mv (.t 2)),
tq 55 (.build [.z (.str []), .z (.str []), .z (.str []), .z (.str []), .z (.str []), .z (.str []), .z (.int .i64 0), .z (.int .i64 0), .z (.int .i64 0), .z (.int .i64 0), .z (.int .i64 0), .z (.int .i64 0), .z (.int .i64 0), .z (.bool false), .z (.int .i64 0)] [(0, 13, .t 48), (13, 1, .t 53), (14, 1, .t 54)]),
tq 56 (.idxAddr 15 (.t 45) (.t 46)),
⟨none, none, .store 15 (.t 56) (.t 55)⟩] [2, 4, 8, 45, 46, 47, 48, 49, 50, 51, 52, 53, 54, 55, 56])
(.seq (.reg false [
tq 57 (.mv (.t 0)),
tq 6 (.mv (.t 57)),
tq 7 (.mv (kq 0))] [0, 57])
.ret))
 .skip))))))
(.seq (.seq (.reg false [
tq 58 (.mv (.t 8)),
tq 59 (.bin .lss (.t 58) (kq 0))] [58])
(.cond (.t 59) (.seq (.reg false [
tq 6 (.ownNil ⟨true, ty_message_Entry, 15, 168⟩),
tq 7 (.mv (kq 10))] [])
.ret)
 .skip))
(.seq (.seq (.reg true [
tq 60 (.mv (.t 0)),
tq 61 (.mv (.t 8)),
tq 62 (.idxAddr 15 (.t 60) (.t 61)),
fa 63 0 62,
tq 64 (.load (some 13) (.t 63)),
fa 65 1 4,
tq 66 (.load (some 13) (.t 65)),
tq 67 (.eqv (some [.str, .str, .str, .str, .str, .str, .int, .int, .int, .int, .int, .int, .int]) true (.t 64) (.t 66))] [60, 61, 62, 63, 64, 65, 66])
(.cond (.t 67) (.seq (.reg false [
tq 6 (.ownNil ⟨true, ty_message_Entry, 15, 168⟩),
tq 7 (.mv (kq 29))] [])
.ret)
 .skip))
(.seq (.seq (.reg false [
fa 68 0 4,
ld 69 68,
tq 70 (.bin .eql (.t 69) (.k (.d (.str [68]))))] [4, 68, 69])
(.cond (.t 70) (.seq (.reg false [
tq 71 (.mv (.t 0)),
tq 72 (.len .slc (.t 71)),
tq 73 (.bin .sub (.t 72) (kq 1)),
tq 74 (.makeRow ⟨true, ty_message_Entry, 15, 168⟩ [.str [], .str [], .str [], .str [], .str [], .str [], .int .i64 0, .int .i64 0, .int .i64 0, .int .i64 0, .int .i64 0, .int .i64 0, .int .i64 0, .bool false, .int .i64 0] (.t 73)),
tq 10 (.mv (.t 74))] [71, 72, 73, 74])
(.seq (.reg false [
tq 75 (.mv (.t 10)),
tq 76 (.mv (.t 0)),
tq 77 (.mv (.t 8)),
tq 78 (.slice 15 (.t 76) none (some (.t 77)) none),
tq 79 (.copy 15 (.t 75) (.t 78))] [75, 76, 77, 78, 79])
(.seq (.reg true [
tq 80 (.mv (.t 10)),
tq 81 (.mv (.t 8)),
tq 82 (.slice 15 (.t 80) (some (.t 81)) none none),
tq 83 (.mv (.t 0)),
tq 84 (.mv (.t 8)),
tq 85 (.bin .add (.t 84) (kq 1)),
tq 86 (.slice 15 (.t 83) (some (.t 85)) none none),
tq 87 (.copy 15 (.t 82) (.t 86))] [0, 8, 80, 81, 82, 83, 84, 85, 86, 87])
(.seq (.reg false [
tq 88 (.mv (.t 10)),
tq 6 (.mv (.t 88)),
tq 7 (.mv (kq 0))] [10, 88])
.ret))))
 .skip))
(.seq (.reg false [
tq 89 (.mv (.t 0)),
tq 6 (.mv (.t 89)),
tq 7 (.mv (kq 0))] [0, 89])
.ret)))))))⟩

def b_message_checkRequests_1 : C :=
  (.seq (.reg false [
tq 14 (.bin .lss (.t 13) (.t 12))] [])
(.seq (.cond (.t 14) .skip
 (.exit 0))
(.seq (.block 1 (.seq (.reg false [
tq 15 (.idxAddr 13 (.t 11) (.t 13)),
tq 16 (.load (some 13) (.t 15)),
tq 5 (.alloc ty_api_Request [.z (.str []), .z (.str []), .z (.str []), .z (.str []), .z (.str []), .z (.str []), .z (.int .i64 0), .z (.int .i64 0), .z (.int .i64 0), .z (.int .i64 0), .z (.int .i64 0), .z (.int .i64 0), .z (.int .i64 0)]),
⟨none, none, .store 13 (.t 5) (.t 16)⟩] [15, 16])
(.seq (.seq (.reg true [
tq 17 (.load (some 13) (.t 5)),
tq 18 (.call false true (.k (.fn n_message_CheckRequest [] [])) [.t 17]),
tq 19 (.mv (.t 3)),
fa 20 0 5,
ld 21 20,
tq 22 (.lookup .str (.bool false) false (.t 19) (.t 21)),
tq 23 (.call false true (.k (.fn n_message_when [] [])) [.t 22, kq 9]),
tq 24 (.mkList 1 2 [.t 18, .t 23]),
tq 25 (.call false true (.k (.fn n_message_first [] [])) [.t 24]),
tq 6 (.mv (.t 25))] [17, 18, 19, 20, 21, 22, 23, 24, 25])
(.seq (.reg false [
tq 26 (.mv (.t 6)),
tq 27 (.bin .neq (.t 26) (kq 0))] [26])
(.cond (.t 27) (.seq (.reg false [
tq 28 (.mv (.t 6)),
tq 2 (.mv (.t 28))] [6, 28])
.ret)
 .skip)))
(.reg false [
tq 29 (.mv (.t 3)),
fa 30 0 5,
ld 31 30,
⟨none, none, .mapSet .str (.t 29) (.t 31) (.k (.d (.bool true)))⟩] [5, 29, 30, 31]))))
(.reg false [
tq 32 (.bin .add (.t 13) (kq 1)),
tq 13 (.mv (.t 32))] [32]))))

def c_message_checkRequests : CF := ⟨[.tmp 2],
  (.seq (.reg false [
tq 2 (.mv (kq 0))] [2])
(.seq (.seq (.reg false [
tq 7 (.mv (.t 0)),
tq 8 (.len .slc (.t 7)),
tq 9 (.bin .gtr (.t 8) (kq 64))] [7, 8])
(.cond (.t 9) (.seq (.reg false [
tq 2 (.mv (kq 5))] [])
.ret)
 .skip))
(.seq (.reg false [
tq 10 (.mkMap),
tq 3 (.mv (.t 10))] [10])
(.seq (.seq (.reg false [
tq 11 (.mv (.t 0)),
tq 12 (.len .slc (.t 11)),
tq 13 (.mv (kq 0))] [0])
(.block 0 (.loop [3, 11, 12, 13] b_message_checkRequests_1)))
(.seq (.reg false [
tq 2 (.mv (kq 0))] [])
.ret)))))⟩

def c_message_Changed_1 : CF := ⟨[.cell 4 (some 13), .tmp 5],
  (.seq (.reg false [
tq 3 (.box ty_api_Request (.t 1)),
tq 4 (.alloc ty_api_Request [.z (.str []), .z (.str []), .z (.str []), .z (.str []), .z (.str []), .z (.str []), .z (.int .i64 0), .z (.int .i64 0), .z (.int .i64 0), .z (.int .i64 0), .z (.int .i64 0), .z (.int .i64 0), .z (.int .i64 0)]),
tq 5 (.mv (.k (.d (.bool false))))] [1, 5])
(.seq (.reg false [
tq 7 (.mv (.t 0)),
tq 8 (.mkFunc n_message_Changed_1_1 [] [.t 3]),
tq 9 (.call true true (.k (.fn n_slices_IndexFunc_Lapi_Request_api_Request [] [])) [.t 7, .t 8]),
tq 6 (.mv (.t 9))] [3, 7, 8, 9])
(.seq (.seq (.reg false [
tq 10 (.mv (.t 6)),
tq 11 (.bin .lss (.t 10) (kq 0))] [10])
(.cond (.t 11) (.seq (.reg false [
tq 12 (.build [.z (.str []), .z (.str []), .z (.str []), .z (.str []), .z (.str []), .z (.str []), .z (.int .i64 0), .z (.int .i64 0), .z (.int .i64 0), .z (.int .i64 0), .z (.int .i64 0), .z (.int .i64 0), .z (.int .i64 0)] []),
⟨none, none, .store 13 (.t 4) (.t 12)⟩,
tq 5 (.mv (.k (.d (.bool false))))] [12])
.ret)
 .skip))
(.seq (.reg false [
tq 13 (.mv (.t 0)),
tq 14 (.mv (.t 6)),
tq 15 (.idxAddr 13 (.t 13) (.t 14)),
tq 16 (.load (some 13) (.t 15)),
⟨none, none, .store 13 (.t 4) (.t 16)⟩,
tq 5 (.mv (.k (.d (.bool true))))] [0, 6, 13, 14, 15, 16])
.ret))))⟩

def b_slices_IndexFunc_Lapi_Request_api_Request_1 : C :=
  (.seq (.reg false [
tq 9 (.bin .lss (.t 8) (.t 7))] [])
(.seq (.cond (.t 9) .skip
 (.exit 0))
(.seq (.block 1 (.seq (.reg false [
tq 10 (.mv (.t 8)),
tq 5 (.mv (.t 10))] [10])
(.seq (.reg false [
tq 11 (.mv (.t 1)),
tq 12 (.mv (.t 0)),
tq 13 (.mv (.t 5)),
tq 14 (.idxAddr 13 (.t 12) (.t 13)),
tq 15 (.load (some 13) (.t 14)),
tq 16 (.call true true (.t 11) [.t 15])] [11, 12, 13, 14, 15])
(.cond (.t 16) (.seq (.reg false [
tq 17 (.mv (.t 5)),
tq 4 (.mv (.t 17))] [5, 17])
.ret)
 .skip))))
(.reg false [
tq 18 (.bin .add (.t 8) (kq 1)),
tq 8 (.mv (.t 18))] [18]))))

def c_slices_IndexFunc_Lapi_Request_api_Request : CF := ⟨[.tmp 4],
  (.seq (.reg false [
tq 4 (.mv (kq 0))] [4])
(.seq (.seq (.reg false [
tq 6 (.mv (.t 0)),
tq 7 (.len .slc (.t 6)),
tq 8 (.mv (kq 0))] [6])
(.block 0 (.loop [0, 1, 7, 8] b_slices_IndexFunc_Lapi_Request_api_Request_1)))
(.seq (.reg false [
tq 4 (.mv (kq (-1)))] [])
.ret)))⟩

def c_message_Changed_1_1 : CF := ⟨[.tmp 3],
  (.seq (.reg false [
tq 2 (.box ty_api_Request (.t 0)),
tq 3 (.mv (.k (.d (.bool false))))] [0, 3])
(.seq (.reg false [
tq 4 (.load (some 13) (.t 2)),
tq 5 (.load (some 13) (.t 1)),
tq 6 (.call false true (.k (.fn n_message_twins [] [])) [.t 4, .t 5]),
tq 3 (.mv (.t 6))] [1, 2, 4, 5, 6])
.ret))⟩

def c_message_twins : CF := ⟨[.tmp 4],
  (.seq (.reg false [
tq 2 (.box ty_api_Request (.t 0)),
tq 3 (.box ty_api_Request (.t 1)),
tq 4 (.mv (.k (.d (.bool false))))] [0, 1, 4])
(.seq (.reg false [
fa 5 1 2,
ld 6 5,
fa 7 1 3,
ld 8 7,
tq 9 (.bin .eql (.t 6) (.t 8)),
tq 10 (.mv (.t 9)),
⟨some 11, (some (10, true)), .fieldAddr 0 (.t 2)⟩,
⟨some 12, (some (10, true)), .load none (.t 11)⟩,
⟨some 13, (some (10, true)), .fieldAddr 0 (.t 3)⟩,
⟨some 14, (some (10, true)), .load none (.t 13)⟩,
⟨some 15, (some (10, true)), .bin .eql (.t 12) (.t 14)⟩,
tq 16 (.pick (.t 10) (.t 15) (.k (.d (.bool false)))),
tq 4 (.mv (.t 16))] [2, 3, 5, 6, 7, 8, 9, 10, 11, 12, 13, 14, 15, 16])
.ret))⟩

def b_message_filtered_api_Request_message_Line_1 : C :=
  (.seq (.reg false [
tq 13 (.bin .lss (.t 12) (.t 11))] [])
(.seq (.cond (.t 13) .skip
 (.exit 0))
(.seq (.block 1 (.seq (.reg false [
tq 14 (.idxAddr 13 (.t 10) (.t 12)),
tq 15 (.load (some 13) (.t 14)),
tq 7 (.alloc ty_api_Request [.z (.str []), .z (.str []), .z (.str []), .z (.str []), .z (.str []), .z (.str []), .z (.int .i64 0), .z (.int .i64 0), .z (.int .i64 0), .z (.int .i64 0), .z (.int .i64 0), .z (.int .i64 0), .z (.int .i64 0)]),
⟨none, none, .store 13 (.t 7) (.t 15)⟩] [14, 15])
(.seq (.reg false [
tq 17 (.mv (.t 1)),
tq 18 (.load (some 13) (.t 7)),
tq 19 (.call true true (.t 17) [.t 18]),
tq 16 (.mv (.t 19)),
tq 20 (.extract (.t 16) 0),
tq 21 (.extract (.t 16) 1),
tq 8 (.alloc ty_message_Line [.z (.str []), .z (.str []), .z (.str []), .z (.str []), .z (.str []), .z (.str []), .z (.str []), .z (.int .i64 0), .z (.int .i64 0), .z (.int .i64 0), .z (.int .i64 0), .z (.int .i64 0), .z (.int .i64 0), .z (.int .i64 0)]),
⟨none, none, .store 14 (.t 8) (.t 20)⟩,
tq 9 (.mv (.t 21))] [7, 16, 17, 18, 19, 20, 21])
(.seq (.reg false [
tq 22 (.mv (.t 9))] [9])
(.cond (.t 22) (.reg false [
tq 23 (.mv (.t 5)),
tq 24 (.load (some 14) (.t 8)),
tq 25 (.mkList 14 1 [.t 24]),
tq 26 (.append ⟨false, ty_message_Line, 14, 168⟩ (.t 23) (.t 25)),
tq 5 (.mv (.t 26))] [8, 23, 24, 25, 26])
 .skip)))))
(.reg false [
tq 27 (.bin .add (.t 12) (kq 1)),
tq 12 (.mv (.t 27))] [27]))))

def c_message_filtered_api_Request_message_Line : CF := ⟨[.tmp 4],
  (.seq (.reg false [
tq 4 (.ownNil ⟨false, ty_message_Line, 14, 168⟩)] [4])
(.seq (.reg false [
tq 5 (.ownNil ⟨false, ty_message_Line, 14, 168⟩)] [])
(.seq (.seq (.reg false [
tq 10 (.mv (.t 0)),
tq 11 (.len .slc (.t 10)),
tq 12 (.mv (kq 0))] [0])
(.block 0 (.loop [1, 5, 10, 11, 12] b_message_filtered_api_Request_message_Line_1)))
(.seq (.reg false [
tq 28 (.mv (.t 5)),
tq 4 (.mv (.t 28))] [5, 28])
.ret))))⟩

def c_message_Changed_2 : CF := ⟨[.cell 4 (some 14), .tmp 5],
  (.seq (.reg false [
tq 3 (.box ty_api_Request (.t 0)),
tq 4 (.alloc ty_message_Line [.z (.str []), .z (.str []), .z (.str []), .z (.str []), .z (.str []), .z (.str []), .z (.str []), .z (.int .i64 0), .z (.int .i64 0), .z (.int .i64 0), .z (.int .i64 0), .z (.int .i64 0), .z (.int .i64 0), .z (.int .i64 0)]),
tq 5 (.mv (.k (.d (.bool false))))] [0, 5])
(.seq (.reg false [
ld 9 1,
ld 10 2,
tq 11 (.load (some 13) (.t 3)),
tq 12 (.call false true (.t 9) [.t 10, .t 11]),
tq 8 (.mv (.t 12)),
tq 13 (.extract (.t 8) 0),
tq 14 (.extract (.t 8) 1),
tq 6 (.alloc ty_api_Request [.z (.str []), .z (.str []), .z (.str []), .z (.str []), .z (.str []), .z (.str []), .z (.int .i64 0), .z (.int .i64 0), .z (.int .i64 0), .z (.int .i64 0), .z (.int .i64 0), .z (.int .i64 0), .z (.int .i64 0)]),
⟨none, none, .store 13 (.t 6) (.t 13)⟩,
tq 7 (.mv (.t 14))] [1, 2, 6, 8, 9, 10, 11, 12, 13, 14])
(.seq (.reg false [
tq 15 (.load (some 13) (.t 3)),
tq 16 (.build [.z (.str []), .z (.str []), .z (.str []), .z (.str []), .z (.str []), .z (.str []), .z (.str []), .z (.int .i64 0), .z (.int .i64 0), .z (.int .i64 0), .z (.int .i64 0), .z (.int .i64 0), .z (.int .i64 0), .z (.int .i64 0)] [(0, 1, .k (.d (.str [68]))), (1, 13, .t 15)]),
tq 17 (.mv (.t 7)),
tq 18 (.un .not (.t 17)),
⟨none, none, .store 14 (.t 4) (.t 16)⟩,
tq 5 (.mv (.t 18))] [3, 7, 15, 16, 17, 18])
.ret)))⟩

def c_message_Changed_3 : CF := ⟨[.cell 4 (some 14), .tmp 5],
  (.seq (.reg false [
tq 3 (.box ty_api_Request (.t 0)),
tq 4 (.alloc ty_message_Line [.z (.str []), .z (.str []), .z (.str []), .z (.str []), .z (.str []), .z (.str []), .z (.str []), .z (.int .i64 0), .z (.int .i64 0), .z (.int .i64 0), .z (.int .i64 0), .z (.int .i64 0), .z (.int .i64 0), .z (.int .i64 0)]),
tq 5 (.mv (.k (.d (.bool false))))] [0, 5])
(.seq (.reg false [
ld 9 1,
ld 10 2,
tq 11 (.load (some 13) (.t 3)),
tq 12 (.call false true (.t 9) [.t 10, .t 11]),
tq 8 (.mv (.t 12)),
tq 13 (.extract (.t 8) 0),
tq 14 (.extract (.t 8) 1),
tq 6 (.alloc ty_api_Request [.z (.str []), .z (.str []), .z (.str []), .z (.str []), .z (.str []), .z (.str []), .z (.int .i64 0), .z (.int .i64 0), .z (.int .i64 0), .z (.int .i64 0), .z (.int .i64 0), .z (.int .i64 0), .z (.int .i64 0)]),
⟨none, none, .store 13 (.t 6) (.t 13)⟩,
tq 7 (.mv (.t 14))] [1, 2, 6, 8, 9, 10, 11, 12, 13, 14])
(.seq (.reg false [
tq 15 (.load (some 13) (.t 3)),
tq 16 (.build [.z (.str []), .z (.str []), .z (.str []), .z (.str []), .z (.str []), .z (.str []), .z (.str []), .z (.int .i64 0), .z (.int .i64 0), .z (.int .i64 0), .z (.int .i64 0), .z (.int .i64 0), .z (.int .i64 0), .z (.int .i64 0)] [(0, 1, .k (.d (.str [78]))), (1, 13, .t 15)]),
tq 17 (.mv (.t 7)),
tq 18 (.un .not (.t 17)),
⟨none, none, .store 14 (.t 4) (.t 16)⟩,
tq 5 (.mv (.t 18))] [3, 7, 15, 16, 17, 18])
.ret)))⟩

def b_ref01_IsName_1 : C :=
  (.seq (.seq (.reg false [
tq 14 (.mv (.t 3)),
tq 15 (.mv (.t 0)),
tq 16 (.len .str (.t 15)),
tq 17 (.bin .lss (.t 14) (.t 16))] [14, 15, 16])
(.cond (.t 17) .skip
 (.exit 0)))
(.seq (.block 1 (.seq (.reg false [
tq 20 (.mv (.t 0)),
tq 21 (.mv (.t 3)),
tq 22 (.idxS (.t 20) (.t 21)),
tq 4 (.mv (.t 22))] [20, 21, 22])
(.seq (.reg false [
tq 23 (.mv (.t 4)),
tq 24 (.bin .geq (.t 23) (.k (.d (.int .u8 97)))),
tq 25 (.mv (.t 24)),
⟨some 26, (some (25, true)), .mv (.t 4)⟩,
⟨some 27, (some (25, true)), .bin .leq (.t 26) (.k (.d (.int .u8 122)))⟩,
tq 28 (.pick (.t 25) (.t 27) (.k (.d (.bool false)))),
tq 29 (.mv (.t 28)),
⟨some 30, (some (29, false)), .mv (.t 4)⟩,
⟨some 31, (some (29, false)), .bin .geq (.t 30) (.k (.d (.int .u8 65)))⟩,
⟨some 32, (some (29, false)), .mv (.t 31)⟩,
⟨some 33, (some (32, true)), .mv (.t 4)⟩,
⟨some 34, (some (32, true)), .bin .leq (.t 33) (.k (.d (.int .u8 90)))⟩,
⟨some 35, (some (29, false)), .pick (.t 32) (.t 34) (.k (.d (.bool false)))⟩,
tq 36 (.pick (.t 29) (.k (.d (.bool true))) (.t 35)),
tq 5 (.mv (.t 36))] [23, 24, 25, 26, 27, 28, 29, 30, 31, 32, 33, 34, 35, 36])
(.seq (.reg false [
tq 37 (.mv (.t 5)),
tq 38 (.un .not (.t 37)),
tq 39 (.mv (.t 38)),
⟨some 40, (some (39, true)), .mv (.t 3)⟩,
⟨some 41, (some (39, true)), .bin .eql (.t 40) (kq 0)⟩,
⟨some 42, (some (39, true)), .mv (.t 41)⟩,
⟨some 43, (some (42, false)), .mv (.t 4)⟩,
⟨some 44, (some (42, false)), .bin .neq (.t 43) (.k (.d (.int .u8 95)))⟩,
⟨some 45, (some (42, false)), .mv (.t 44)⟩,
⟨some 46, (some (45, true)), .mv (.t 4)⟩,
⟨some 47, (some (45, true)), .bin .lss (.t 46) (.k (.d (.int .u8 48)))⟩,
⟨some 48, (some (45, true)), .mv (.t 47)⟩,
⟨some 49, (some (48, false)), .mv (.t 4)⟩,
⟨some 50, (some (48, false)), .bin .gtr (.t 49) (.k (.d (.int .u8 57)))⟩,
⟨some 51, (some (45, true)), .pick (.t 48) (.k (.d (.bool true))) (.t 50)⟩,
⟨some 52, (some (42, false)), .pick (.t 45) (.t 51) (.k (.d (.bool false)))⟩,
⟨some 53, (some (39, true)), .pick (.t 42) (.k (.d (.bool true))) (.t 52)⟩,
tq 54 (.pick (.t 39) (.t 53) (.k (.d (.bool false))))] [4, 5, 37, 38, 39, 40, 41, 42, 43, 44, 45, 46, 47, 48, 49, 50, 51, 52, 53])
(.cond (.t 54) (.seq (.reg false [
tq 2 (.mv (.k (.d (.bool false))))] [])
.ret)
 .skip)))))
(.reg false [
tq 18 (.mv (.t 3)),
tq 19 (.bin .add (.t 18) (kq 1)),
tq 3 (.mv (.t 19))] [18, 19])))

def c_ref01_IsName : CF := ⟨[.tmp 2],
  (.seq (.reg false [
tq 2 (.mv (.k (.d (.bool false))))] [2])
(.seq (.seq (.reg false [
tq 6 (.mv (.t 0)),
tq 7 (.len .str (.t 6)),
tq 8 (.bin .eql (.t 7) (kq 0)),
tq 9 (.mv (.t 8)),
⟨some 10, (some (9, false)), .mv (.t 0)⟩,
⟨some 11, (some (9, false)), .len .str (.t 10)⟩,
⟨some 12, (some (9, false)), .bin .gtr (.t 11) (kq 24)⟩,
tq 13 (.pick (.t 9) (.k (.d (.bool true))) (.t 12))] [6, 7, 8, 9, 10, 11, 12])
(.cond (.t 13) (.seq (.reg false [
tq 2 (.mv (.k (.d (.bool false))))] [])
.ret)
 .skip))
(.seq (.seq (.reg false [
tq 3 (.mv (kq 0))] [])
(.block 0 (.loop [0, 3] b_ref01_IsName_1)))
(.seq (.reg false [
tq 2 (.mv (.k (.d (.bool true))))] [])
.ret))))⟩

def c_ref02_optional : CF := ⟨[.tmp 2],
  (.seq (.reg false [
tq 2 (.mv (.k (.d (.bool false))))] [2])
(.seq (.reg false [
tq 3 (.mv (.t 0)),
tq 4 (.bin .eql (.t 3) (.k (.d (.str [])))),
tq 5 (.mv (.t 4)),
⟨some 6, (some (5, false)), .mv (.t 0)⟩,
⟨some 7, (some (5, false)), .call false true (.k (.fn n_ref01_IsName [] [])) [.t 6]⟩,
tq 8 (.pick (.t 5) (.k (.d (.bool true))) (.t 7)),
tq 2 (.mv (.t 8))] [0, 3, 4, 5, 6, 7, 8])
.ret))⟩

def c_ref01_CheckPeriod : CF := ⟨[.tmp 2],
  (.seq (.reg false [
tq 1 (.box ty_api_Period (.t 0)),
tq 2 (.mv (kq 0))] [0, 2])
(.seq (.seq (.reg false [
fa 3 0 1,
ld 4 3,
tq 5 (.call false true (.k (.fn n_ref01_CheckDay [] [])) [.t 4]),
tq 6 (.bin .neq (.t 5) (kq 0)),
tq 7 (.mv (.t 6)),
⟨some 8, (some (7, false)), .fieldAddr 1 (.t 1)⟩,
⟨some 9, (some (7, false)), .load none (.t 8)⟩,
⟨some 10, (some (7, false)), .call false true (.k (.fn n_ref01_CheckDay [] [])) [.t 9]⟩,
⟨some 11, (some (7, false)), .bin .neq (.t 10) (kq 0)⟩,
tq 12 (.pick (.t 7) (.k (.d (.bool true))) (.t 11))] [3, 4, 5, 6, 7, 8, 9, 10, 11])
(.cond (.t 12) (.seq (.reg false [
tq 2 (.mv (kq 3))] [])
.ret)
 .skip))
(.seq (.seq (.reg false [
fa 13 1 1,
ld 14 13,
fa 15 0 1,
ld 16 15,
tq 17 (.bin .lss (.t 14) (.t 16))] [13, 14, 15, 16])
(.cond (.t 17) (.seq (.reg false [
tq 2 (.mv (kq 11))] [])
.ret)
 .skip))
(.seq (.seq (.reg false [
fa 18 1 1,
ld 19 18,
fa 20 0 1,
ld 21 20,
tq 22 (.bin .sub (.t 19) (.t 21)),
tq 23 (.bin .gtr (.t 22) (kq 400))] [18, 19, 20, 21, 22])
(.cond (.t 23) (.seq (.reg false [
tq 2 (.mv (kq 4))] [])
.ret)
 .skip))
(.seq (.reg false [
fa 24 2 1,
ld 25 24,
tq 26 (.call false true (.k (.fn n_ref01_CheckRange [] [])) [.t 25, kq 1, kq 127]),
tq 2 (.mv (.t 26))] [1, 24, 25, 26])
.ret)))))⟩

def b_ref01_First_1 : C :=
  (.seq (.seq (.reg false [
tq 4 (.mv (.t 3)),
tq 5 (.mv (.t 0)),
tq 6 (.len .slc (.t 5)),
tq 7 (.bin .lss (.t 4) (.t 6))] [4, 5, 6])
(.cond (.t 7) .skip
 (.exit 0)))
(.seq (.block 1 (.seq (.reg false [
tq 10 (.mv (.t 0)),
tq 11 (.mv (.t 3)),
tq 12 (.idxAddr 1 (.t 10) (.t 11)),
ld 13 12,
tq 14 (.bin .neq (.t 13) (kq 0))] [10, 11, 12, 13])
(.cond (.t 14) (.seq (.reg false [
tq 15 (.mv (.t 0)),
tq 16 (.mv (.t 3)),
tq 17 (.idxAddr 1 (.t 15) (.t 16)),
ld 18 17,
tq 2 (.mv (.t 18))] [0, 3, 15, 16, 17, 18])
.ret)
 .skip)))
(.reg false [
tq 8 (.mv (.t 3)),
tq 9 (.bin .add (.t 8) (kq 1)),
tq 3 (.mv (.t 9))] [8, 9])))

def c_ref01_First : CF := ⟨[.tmp 2],
  (.seq (.reg false [
tq 2 (.mv (kq 0))] [2])
(.seq (.seq (.reg false [
tq 3 (.mv (kq 0))] [])
(.block 0 (.loop [0, 3] b_ref01_First_1)))
(.seq (.reg false [
tq 2 (.mv (kq 0))] [])
.ret)))⟩

def c_ref01_CheckRange : CF := ⟨[.tmp 6],
  (.seq (.reg false [
tq 6 (.mv (kq 0))] [6])
(.seq (.seq (.reg false [
tq 7 (.mv (.t 0)),
tq 8 (.mv (.t 1)),
tq 9 (.bin .lss (.t 7) (.t 8)),
tq 10 (.mv (.t 9)),
⟨some 11, (some (10, false)), .mv (.t 0)⟩,
⟨some 12, (some (10, false)), .mv (.t 2)⟩,
⟨some 13, (some (10, false)), .bin .gtr (.t 11) (.t 12)⟩,
tq 14 (.pick (.t 10) (.k (.d (.bool true))) (.t 13))] [0, 1, 2, 7, 8, 9, 10, 11, 12, 13])
(.cond (.t 14) (.seq (.reg false [
tq 6 (.mv (kq 3))] [])
.ret)
 .skip))
(.seq (.reg false [
tq 6 (.mv (kq 0))] [])
.ret)))⟩

def c_calendar_CheckPeriod : CF := ⟨[.tmp 2],
  (.seq (.reg false [
tq 1 (.box ty_api_Period (.t 0)),
tq 2 (.mv (kq 0))] [0, 2])
(.seq (.seq (.reg true [
fa 4 0 1,
ld 5 4,
tq 6 (.call false true (.k (.fn n_calendar_checkDay [] [])) [.t 5]),
fa 7 1 1,
ld 8 7,
tq 9 (.call false true (.k (.fn n_calendar_checkDay [] [])) [.t 8]),
tq 10 (.mkList 1 2 [.t 6, .t 9]),
tq 11 (.call false true (.k (.fn n_calendar_first [] [])) [.t 10]),
tq 3 (.mv (.t 11))] [4, 5, 6, 7, 8, 9, 10, 11])
(.seq (.reg false [
tq 12 (.mv (.t 3)),
tq 13 (.bin .neq (.t 12) (kq 0))] [12])
(.cond (.t 13) (.seq (.reg false [
tq 14 (.mv (.t 3)),
tq 2 (.mv (.t 14))] [3, 14])
.ret)
 .skip)))
(.seq (.reg true [
fa 15 1 1,
ld 16 15,
fa 17 0 1,
ld 18 17,
tq 19 (.bin .lss (.t 16) (.t 18)),
tq 20 (.call false true (.k (.fn n_calendar_when [] [])) [.t 19, kq 11]),
fa 21 1 1,
ld 22 21,
fa 23 0 1,
ld 24 23,
tq 25 (.bin .sub (.t 22) (.t 24)),
tq 26 (.bin .gtr (.t 25) (kq 400)),
tq 27 (.call false true (.k (.fn n_calendar_when [] [])) [.t 26, kq 4]),
fa 28 2 1,
ld 29 28,
tq 30 (.call false true (.k (.fn n_calendar_within [] [])) [.t 29, kq 1, kq 127]),
tq 31 (.mkList 1 3 [.t 20, .t 27, .t 30]),
tq 32 (.call false true (.k (.fn n_calendar_first [] [])) [.t 31]),
tq 2 (.mv (.t 32))] [1, 15, 16, 17, 18, 19, 20, 21, 22, 23, 24, 25, 26, 27, 28, 29, 30, 31, 32])
.ret)))⟩

def b_calendar_first_1 : C :=
  (.seq (.reg false [
tq 8 (.bin .lss (.t 7) (.t 6))] [])
(.seq (.cond (.t 8) .skip
 (.exit 0))
(.seq (.block 1 (.seq (.reg false [
tq 9 (.idxAddr 1 (.t 5) (.t 7)),
ld 10 9,
tq 4 (.mv (.t 10))] [9, 10])
(.seq (.reg false [
tq 11 (.mv (.t 4)),
tq 12 (.bin .neq (.t 11) (kq 0))] [11])
(.cond (.t 12) (.seq (.reg false [
tq 13 (.mv (.t 4)),
tq 2 (.mv (.t 13))] [4, 13])
.ret)
 .skip))))
(.reg false [
tq 14 (.bin .add (.t 7) (kq 1)),
tq 7 (.mv (.t 14))] [14]))))

def c_calendar_first : CF := ⟨[.tmp 2],
  (.seq (.reg false [
tq 2 (.mv (kq 0))] [2])
(.seq (.seq (.reg false [
tq 5 (.mv (.t 0)),
tq 6 (.len .slc (.t 5)),
tq 7 (.mv (kq 0))] [0])
(.block 0 (.loop [5, 6, 7] b_calendar_first_1)))
(.seq (.reg false [
tq 2 (.mv (kq 0))] [])
.ret)))⟩

def c_calendar_checkDay : CF := ⟨[.tmp 2],
  (.seq (.reg false [
tq 2 (.mv (kq 0))] [2])
(.seq (.reg false [
tq 3 (.mv (.t 0)),
tq 4 (.call false true (.k (.fn n_calendar_within [] [])) [.t 3, kq 0, kq 99999]),
tq 2 (.mv (.t 4))] [0, 3, 4])
.ret))⟩

def c_calendar_when : CF := ⟨[.tmp 4],
  (.seq (.reg false [
tq 4 (.mv (kq 0))] [4])
(.seq (.seq (.reg false [
tq 5 (.mv (.t 0))] [0])
(.cond (.t 5) (.seq (.reg false [
tq 6 (.mv (.t 1)),
tq 4 (.mv (.t 6))] [1, 6])
.ret)
 .skip))
(.seq (.reg false [
tq 4 (.mv (kq 0))] [])
.ret)))⟩

def c_calendar_weekOf : CF := ⟨[.tmp 2],
  (.seq (.reg false [
tq 2 (.mv (kq 0))] [2])
(.seq (.reg false [
tq 3 (.mv (.t 0)),
tq 4 (.bin .add (.t 3) (kq 5)),
tq 5 (.bin .quo (.t 4) (kq 7)),
tq 2 (.mv (.t 5))] [0, 3, 4, 5])
.ret))⟩

def c_calendar_weekday : CF := ⟨[.tmp 2],
  (.seq (.reg false [
tq 2 (.mv (kq 0))] [2])
(.seq (.reg false [
tq 3 (.mv (.t 0)),
tq 4 (.bin .add (.t 3) (kq 5)),
tq 5 (.bin .rem (.t 4) (kq 7)),
tq 2 (.mv (.t 5))] [0, 3, 4, 5])
.ret))⟩

def c_slices_Clip_Lapi_Period_api_Period : CF := ⟨[.tmp 2],
  (.seq (.reg false [
tq 2 (.mv (.k (.d (.list 0 []))))] [2])
(.seq (.reg false [
tq 3 (.mv (.t 0)),
tq 4 (.mv (.t 0)),
tq 5 (.len .slc (.t 4)),
tq 6 (.mv (.t 0)),
tq 7 (.len .slc (.t 6)),
tq 8 (.slice 3 (.t 3) none (some (.t 5)) (some (.t 7))),
tq 2 (.mv (.t 8))] [0, 3, 4, 5, 6, 7, 8])
.ret))⟩

def c_ref01_Has : CF := ⟨[.tmp 4],
  (.seq (.reg false [
tq 2 (.box ty_api_Period (.t 0)),
tq 4 (.mv (.k (.d (.bool false))))] [0, 4])
(.seq (.reg true [
tq 5 (.mv (.t 1)),
fa 6 0 2,
ld 7 6,
tq 8 (.bin .geq (.t 5) (.t 7)),
tq 9 (.mv (.t 8)),
⟨some 10, (some (9, true)), .mv (.t 1)⟩,
⟨some 11, (some (9, true)), .fieldAddr 1 (.t 2)⟩,
⟨some 12, (some (9, true)), .load none (.t 11)⟩,
⟨some 13, (some (9, true)), .bin .leq (.t 10) (.t 12)⟩,
tq 14 (.pick (.t 9) (.t 13) (.k (.d (.bool false)))),
tq 15 (.mv (.t 14)),
⟨some 16, (some (15, true)), .fieldAddr 2 (.t 2)⟩,
⟨some 17, (some (15, true)), .load none (.t 16)⟩,
⟨some 18, (some (15, true)), .mv (.t 1)⟩,
⟨some 19, (some (15, true)), .call false true (.k (.fn n_ref01_Weekday [] [])) [.t 18]⟩,
⟨some 20, (some (15, true)), .call false true (.k (.fn n_ref01_InMask [] [])) [.t 17, .t 19]⟩,
tq 21 (.pick (.t 15) (.t 20) (.k (.d (.bool false)))),
tq 4 (.mv (.t 21))] [1, 2, 5, 6, 7, 8, 9, 10, 11, 12, 13, 14, 15, 16, 17, 18, 19, 20, 21])
.ret))⟩

def b_calendar_collected_int_1 : C :=
  (.reg false [
tq 6 (.mv (.t 8))] [8])

def b_calendar_collected_int_2 : C :=
  (.block 1 (.seq (.reg false [
ld 9 3,
tq 10 (.mv (.t 6)),
tq 11 (.call true true (.t 9) [.t 10])] [3, 9, 10])
(.cond (.t 11) (.reg false [
ld 12 5,
tq 13 (.mv (.t 6)),
tq 14 (.mkList 1 1 [.t 13]),
tq 15 (.append ⟨false, ty_int, 1, 8⟩ (.t 12) (.t 14)),
⟨none, none, .store 1 (.t 5) (.t 15)⟩] [5, 6, 12, 13, 14, 15])
 .skip)))

def c_calendar_collected_int : CF := ⟨[.tmp 4],
  (.seq (.reg false [
tq 3 (.box ty_func_int_bool (.t 1)),
tq 4 (.ownNil ⟨false, ty_int, 1, 8⟩)] [1])
(.seq (.reg false [
tq 5 (.alloc ty_Lint [.own ⟨false, ty_int, 1, 8⟩])] [])
(.seq (.seq (.reg false [
tq 7 (.mv (.t 0))] [0])
(.block 0 (.rangeFn 18 (.t 7) [8] b_calendar_collected_int_1 b_calendar_collected_int_2)))
(.seq (.reg false [
ld 16 5,
tq 4 (.mv (.t 16))] [5, 16])
.ret))))⟩

def c_calendar_daysOf : CF := ⟨[.tmp 2],
  (.seq (.reg false [
tq 1 (.box ty_api_Period (.t 0)),
tq 2 (.mv (.k (.d (.nilf))))] [0, 2])
(.seq (.reg false [
tq 3 (.mkFunc n_calendar_daysOf_1 [] [.t 1]),
tq 2 (.mv (.t 3))] [1, 3])
.ret))⟩

def c_calendar_DaysOf_1 : CF := ⟨[.tmp 2],
  (.seq (.reg false [
tq 2 (.mv (.k (.d (.bool false))))] [2])
(.seq (.reg false [
tq 2 (.mv (.k (.d (.bool true))))] [])
.ret))⟩

def c_message_within : CF := ⟨[.tmp 6],
  (.seq (.reg false [
tq 6 (.mv (kq 0))] [6])
(.seq (.reg false [
tq 7 (.mv (.t 0)),
tq 8 (.mv (.t 1)),
tq 9 (.bin .lss (.t 7) (.t 8)),
tq 10 (.mv (.t 9)),
⟨some 11, (some (10, false)), .mv (.t 0)⟩,
⟨some 12, (some (10, false)), .mv (.t 2)⟩,
⟨some 13, (some (10, false)), .bin .gtr (.t 11) (.t 12)⟩,
tq 14 (.pick (.t 10) (.k (.d (.bool true))) (.t 13)),
tq 15 (.call false true (.k (.fn n_message_when [] [])) [.t 14, kq 3]),
tq 6 (.mv (.t 15))] [0, 1, 2, 7, 8, 9, 10, 11, 12, 13, 14, 15])
.ret))⟩

def c_message_wide : CF := ⟨[.tmp 4],
  (.seq (.reg false [
tq 4 (.mv (.k (.d (.str []))))] [4])
(.seq (.reg false [
tq 6 (.mv (.t 0)),
tq 7 (.call false true (.k (.fn n_strconv_Itoa [] [])) [.t 6]),
tq 5 (.mv (.t 7))] [0, 6, 7])
(.seq (.reg false [
tq 8 (.mv (.t 1)),
tq 9 (.mv (.t 5)),
tq 10 (.len .str (.t 9)),
tq 11 (.bin .sub (.t 8) (.t 10)),
tq 12 (.minmax true [kq 0, .t 11]),
tq 13 (.call false true (.k (.fn n_strings_Repeat [] [])) [.k (.d (.str [48])), .t 12]),
tq 14 (.mv (.t 5)),
tq 15 (.bin .add (.t 13) (.t 14)),
tq 4 (.mv (.t 15))] [1, 5, 8, 9, 10, 11, 12, 13, 14, 15])
.ret)))⟩

def b_message_number_1 : C :=
  (.seq (.reg false [
tq 15 (.nextS (.t 14)),
tq 16 (.extract (.t 15) 0)] [])
(.seq (.cond (.t 16) .skip
 (.exit 0))
(.block 1 (.seq (.reg false [
tq 17 (.extract (.t 15) 2),
tq 8 (.mv (.t 17))] [15, 17])
(.seq (.seq (.reg false [
tq 18 (.mv (.t 8)),
tq 19 (.bin .lss (.t 18) (.k (.d (.int .i32 48)))),
tq 20 (.mv (.t 19)),
⟨some 21, (some (20, false)), .mv (.t 8)⟩,
⟨some 22, (some (20, false)), .bin .gtr (.t 21) (.k (.d (.int .i32 57)))⟩,
tq 23 (.pick (.t 20) (.k (.d (.bool true))) (.t 22))] [18, 19, 20, 21, 22])
(.cond (.t 23) (.seq (.reg false [
tq 4 (.mv (kq 0)),
tq 5 (.mv (.k (.d (.bool false))))] [])
.ret)
 .skip))
(.reg false [
tq 24 (.mv (.t 6)),
tq 25 (.bin .mul (kq 10) (.t 24)),
tq 26 (.mv (.t 8)),
tq 27 (.bin .sub (.t 26) (.k (.d (.int .i32 48)))),
tq 28 (.conv .i64 (.t 27)),
tq 29 (.bin .add (.t 25) (.t 28)),
tq 6 (.mv (.t 29))] [8, 24, 25, 26, 27, 28, 29]))))))

def c_message_number : CF := ⟨[.tmp 4, .tmp 5],
  (.seq (.reg false [
tq 4 (.mv (kq 0)),
tq 5 (.mv (.k (.d (.bool false))))] [4, 5])
(.seq (.seq (.reg false [
tq 9 (.mv (.t 0)),
tq 10 (.len .str (.t 9)),
tq 11 (.mv (.t 1)),
tq 12 (.bin .neq (.t 10) (.t 11))] [1, 9, 10, 11])
(.cond (.t 12) (.seq (.reg false [
tq 4 (.mv (kq 0)),
tq 5 (.mv (.k (.d (.bool false))))] [])
.ret)
 .skip))
(.seq (.reg false [
tq 6 (.mv (kq 0))] [])
(.seq (.seq (.reg false [
tq 13 (.mv (.t 0)),
tq 14 (.rangeS (.t 13))] [0, 13])
(.block 0 (.loop [6, 14] b_message_number_1)))
(.seq (.reg false [
tq 30 (.mv (.t 6)),
tq 4 (.mv (.t 30)),
tq 5 (.mv (.k (.d (.bool true))))] [6, 30])
.ret)))))⟩

def c_message_CheckLine : CF := ⟨[.tmp 2],
  (.seq (.reg false [
tq 1 (.box ty_message_Line (.t 0)),
tq 2 (.mv (kq 0))] [0, 2])
(.seq (.reg true [
fa 3 0 1,
ld 4 3,
tq 5 (.call false true (.k (.fn n_message_isAction [] [])) [.t 4]),
tq 6 (.un .not (.t 5)),
tq 7 (.call false true (.k (.fn n_message_when [] [])) [.t 6, kq 13]),
fa 8 1 1,
tq 9 (.load (some 13) (.t 8)),
tq 10 (.call false true (.k (.fn n_message_CheckRequest [] [])) [.t 9]),
tq 11 (.mkList 1 2 [.t 7, .t 10]),
tq 12 (.call false true (.k (.fn n_message_first [] [])) [.t 11]),
tq 2 (.mv (.t 12))] [1, 3, 4, 5, 6, 7, 8, 9, 10, 11, 12])
.ret))⟩

def b_message_printLine_1 : C :=
  (.seq (.reg false [
tq 8 (.bin .lss (.t 7) (kq 14))] [])
(.seq (.cond (.t 8) .skip
 (.exit 0))
(.seq (.block 1 (.seq (.reg false [
tq 9 (.idxA 14 2 (some 2) (.t 6) (.t 7)),
tq 5 (.alloc ty_message_field [.z (.nilf), .z (.nilf)]),
⟨none, none, .store 2 (.t 5) (.t 9)⟩] [9])
(.reg false [
tq 10 (.mv (.t 3)),
fa 11 0 5,
ld 12 11,
tq 13 (.load (some 14) (.t 1)),
tq 14 (.call true true (.t 12) [.t 13]),
tq 15 (.mkList 1 1 [.t 14]),
tq 16 (.append ⟨false, ty_string, 1, 16⟩ (.t 10) (.t 15)),
tq 3 (.mv (.t 16))] [5, 10, 11, 12, 13, 14, 15, 16])))
(.reg false [
tq 17 (.bin .add (.t 7) (kq 1)),
tq 7 (.mv (.t 17))] [17]))))

def c_message_printLine : CF := ⟨[.tmp 2],
  (.seq (.reg false [
tq 1 (.box ty_message_Line (.t 0)),
tq 2 (.mv (.k (.d (.str []))))] [0, 2])
(.seq (.reg false [
tq 3 (.ownNil ⟨false, ty_string, 1, 16⟩)] [])
(.seq (.seq (.reg false [
tq 6 (.call false false (.k (.fn n_message_fields [] [])) []),
tq 7 (.mv (kq 0))] [])
(.block 0 (.loop [1, 3, 6, 7] b_message_printLine_1)))
(.seq (.reg false [
tq 18 (.mv (.t 3)),
tq 19 (.call false true (.k (.fn n_strings_Join [] [])) [.t 18, .k (.d (.str [32]))]),
tq 2 (.mv (.t 19))] [3, 18, 19])
.ret))))⟩

def c_message_fields : CF := ⟨[.cell 0 (some 28)],
  (.seq (.reg false [
tq 0 (.alloc ty_14_message_field [.z (.nilf), .z (.nilf), .z (.nilf), .z (.nilf), .z (.nilf), .z (.nilf), .z (.nilf), .z (.nilf), .z (.nilf), .z (.nilf), .z (.nilf), .z (.nilf), .z (.nilf), .z (.nilf), .z (.nilf), .z (.nilf), .z (.nilf), .z (.nilf), .z (.nilf), .z (.nilf), .z (.nilf), .z (.nilf), .z (.nilf), .z (.nilf), .z (.nilf), .z (.nilf), .z (.nilf), .z (.nilf)])] [])
(.seq (.reg false [
tq 1 (.call true false (.k (.fn n_message_text [] [])) [.k (.fn n_message_fields_1 [] []), .k (.fn n_message_isAction [] [])]),
tq 2 (.call true false (.k (.fn n_message_text [] [])) [.k (.fn n_message_fields_2 [] []), .k (.fn n_calendar_IsName [] [])]),
tq 3 (.call true false (.k (.fn n_message_text [] [])) [.k (.fn n_message_fields_3 [] []), .k (.fn n_calendar_IsName [] [])]),
tq 4 (.call true false (.k (.fn n_message_text [] [])) [.k (.fn n_message_fields_4 [] []), .k (.fn n_message_isKind [] [])]),
tq 5 (.call true false (.k (.fn n_message_text [] [])) [.k (.fn n_message_fields_5 [] []), .k (.fn n_calendar_IsName [] [])]),
tq 6 (.call true false (.k (.fn n_message_digits [] [])) [.k (.fn n_message_fields_6 [] []), kq 5]),
tq 7 (.call true false (.k (.fn n_message_digits [] [])) [.k (.fn n_message_fields_7 [] []), kq 5]),
tq 8 (.build [.z (.nilf), .z (.nilf)] [(0, 1, .k (.fn n_message_fields_8 [] [])), (1, 1, .k (.fn n_message_fields_9 [] []))]),
tq 9 (.build [.z (.nilf), .z (.nilf)] [(0, 1, .k (.fn n_message_fields_10 [] [])), (1, 1, .k (.fn n_message_fields_11 [] []))]),
tq 10 (.call true false (.k (.fn n_message_digits [] [])) [.k (.fn n_message_fields_12 [] []), kq 3]),
tq 11 (.call true false (.k (.fn n_message_digits [] [])) [.k (.fn n_message_fields_13 [] []), kq 1]),
tq 12 (.call true false (.k (.fn n_message_digits [] [])) [.k (.fn n_message_fields_14 [] []), kq 2]),
tq 13 (.call true false (.k (.fn n_message_dashed [] [])) [.k (.fn n_message_fields_15 [] [])]),
tq 14 (.call true false (.k (.fn n_message_dashed [] [])) [.k (.fn n_message_fields_16 [] [])]),
tq 15 (.build [.z (.nilf), .z (.nilf), .z (.nilf), .z (.nilf), .z (.nilf), .z (.nilf), .z (.nilf), .z (.nilf), .z (.nilf), .z (.nilf), .z (.nilf), .z (.nilf), .z (.nilf), .z (.nilf), .z (.nilf), .z (.nilf), .z (.nilf), .z (.nilf), .z (.nilf), .z (.nilf), .z (.nilf), .z (.nilf), .z (.nilf), .z (.nilf), .z (.nilf), .z (.nilf), .z (.nilf), .z (.nilf)] [(0, 2, .t 1), (2, 2, .t 2), (4, 2, .t 3), (6, 2, .t 4), (8, 2, .t 5), (10, 2, .t 6), (12, 2, .t 7), (14, 2, .t 8), (16, 2, .t 9), (18, 2, .t 10), (20, 2, .t 11), (22, 2, .t 12), (24, 2, .t 13), (26, 2, .t 14)]),
⟨none, none, .store 28 (.t 0) (.t 15)⟩] [1, 2, 3, 4, 5, 6, 7, 8, 9, 10, 11, 12, 13, 14, 15])
.ret))⟩

def c_strings_Builder_WriteString : CF := ⟨[.tmp 4, .tmp 5],
  (.seq (.reg false [
tq 4 (.mv (kq 0)),
tq 5 (.mv (.k (.d (.nili))))] [4, 5])
(.seq (.reg false [
tq 6 (.mv (.t 0)),
tq 7 (.call true true (.k (.fn n_strings_Builder_copyCheck [] [])) [.t 6])] [6, 7])
(.seq (.reg false [
tq 8 (.mv (.t 0)),
tq 9 (.mv (.t 0)),
tq 10 (.nilCheck (.t 9)),
fa 11 1 10,
ld 12 11,
tq 13 (.mv (.t 1)),
tq 14 (.appendS ⟨false, ty_uint8, 1, 1⟩ (.t 12) (.t 13)),
tq 15 (.nilCheck (.t 8)),
fa 16 1 15,
⟨none, none, .store 1 (.t 16) (.t 14)⟩] [0, 8, 9, 10, 11, 12, 13, 14, 15, 16])
(.seq (.reg false [
tq 17 (.mv (.t 1)),
tq 18 (.len .str (.t 17)),
tq 4 (.mv (.t 18)),
tq 5 (.mv (.k (.d (.nili))))] [1, 17, 18])
.ret))))⟩

def c_message_texts : CF := ⟨[.tmp 2],
  (.seq (.reg false [
tq 1 (.box ty_string (.t 0)),
tq 2 (.mv (.k (.d (.nilf))))] [0, 2])
(.seq (.reg false [
tq 3 (.mkFunc n_message_texts_1 [] [.t 1]),
tq 2 (.mv (.t 3))] [1, 3])
.ret))⟩

def c_strings_CutSuffix : CF := ⟨[.tmp 4, .tmp 5],
  (.seq (.reg false [
tq 4 (.mv (.k (.d (.str [])))),
tq 5 (.mv (.k (.d (.bool false))))] [4, 5])
(.seq (.reg false [
tq 6 (.mv (.t 0)),
tq 7 (.mv (.t 1)),
tq 8 (.call false true (.k (.fn n_internal_stringslite_CutSuffix [] [])) [.t 6, .t 7]),
tq 9 (.extract (.t 8) 0),
tq 10 (.extract (.t 8) 1),
tq 4 (.mv (.t 9)),
tq 5 (.mv (.t 10))] [0, 1, 6, 7, 8, 9, 10])
.ret))⟩

def c_message_head : CF := ⟨[.cell 2 (some 5), .tmp 3],
  (.seq (.reg false [
tq 2 (.alloc ty_message_Message [.z (.str []), .z (.str []), .z (.str []), .z (.int .i64 0), .own ⟨false, ty_message_Line, 14, 168⟩]),
tq 3 (.mv (.k (.d (.bool false))))] [3])
(.seq (.reg false [
tq 10 (.mv (.t 0)),
tq 11 (.call false true (.k (.fn n_strings_CutSuffix [] [])) [.t 10, .k (.d (.str [10]))]),
tq 9 (.mv (.t 11)),
tq 12 (.extract (.t 9) 0),
tq 13 (.extract (.t 9) 1),
tq 4 (.mv (.t 12)),
tq 5 (.mv (.t 13))] [0, 9, 10, 11, 12, 13])
(.seq (.reg false [
tq 14 (.mv (.t 4)),
tq 15 (.call false true (.k (.fn n_strings_Split [] [])) [.t 14, .k (.d (.str [32]))]),
tq 6 (.mv (.t 15))] [4, 14, 15])
(.seq (.seq (.reg false [
tq 16 (.mv (.t 5)),
tq 17 (.un .not (.t 16)),
tq 18 (.mv (.t 17)),
⟨some 19, (some (18, false)), .mv (.t 6)⟩,
⟨some 20, (some (18, false)), .len .slc (.t 19)⟩,
⟨some 21, (some (18, false)), .bin .neq (.t 20) (kq 5)⟩,
tq 22 (.pick (.t 18) (.k (.d (.bool true))) (.t 21)),
tq 23 (.mv (.t 22)),
⟨some 24, (some (23, false)), .mv (.t 6)⟩,
⟨some 25, (some (23, false)), .idxAddr 1 (.t 24) (kq 0)⟩,
⟨some 26, (some (23, false)), .load none (.t 25)⟩,
⟨some 27, (some (23, false)), .bin .neq (.t 26) (.k (.d (.str [83, 76, 79, 84, 83])))⟩,
tq 28 (.pick (.t 23) (.k (.d (.bool true))) (.t 27)),
tq 29 (.mv (.t 28)),
⟨some 30, (some (29, false)), .mv (.t 6)⟩,
⟨some 31, (some (29, false)), .idxAddr 1 (.t 30) (kq 1)⟩,
⟨some 32, (some (29, false)), .load none (.t 31)⟩,
⟨some 33, (some (29, false)), .call false true (.k (.fn n_message_isMessage [] [])) [.t 32]⟩,
⟨some 34, (some (29, false)), .un .not (.t 33)⟩,
tq 35 (.pick (.t 29) (.k (.d (.bool true))) (.t 34))] [5, 16, 17, 18, 19, 20, 21, 22, 23, 24, 25, 26, 27, 28, 29, 30, 31, 32, 33, 34])
(.cond (.t 35) (.seq (.reg false [
tq 36 (.build [.z (.str []), .z (.str []), .z (.str []), .z (.int .i64 0), .own ⟨false, ty_message_Line, 14, 168⟩] []),
⟨none, none, .store 5 (.t 2) (.t 36)⟩,
tq 3 (.mv (.k (.d (.bool false))))] [36])
.ret)
 .skip))
(.seq (.reg false [
tq 38 (.mv (.t 6)),
tq 39 (.idxAddr 1 (.t 38) (kq 4)),
ld 40 39,
tq 41 (.call false true (.k (.fn n_message_number [] [])) [.t 40, kq 5]),
tq 37 (.mv (.t 41)),
tq 42 (.extract (.t 37) 0),
tq 43 (.extract (.t 37) 1),
tq 7 (.mv (.t 42)),
tq 8 (.mv (.t 43))] [37, 38, 39, 40, 41, 42, 43])
(.seq (.reg true [
tq 44 (.mv (.t 6)),
tq 45 (.idxAddr 1 (.t 44) (kq 1)),
ld 46 45,
tq 47 (.mv (.t 6)),
tq 48 (.idxAddr 1 (.t 47) (kq 2)),
ld 49 48,
tq 50 (.mv (.t 6)),
tq 51 (.idxAddr 1 (.t 50) (kq 3)),
ld 52 51,
tq 53 (.mv (.t 7)),
tq 54 (.build [.z (.str []), .z (.str []), .z (.str []), .z (.int .i64 0), .own ⟨false, ty_message_Line, 14, 168⟩] [(0, 1, .t 46), (1, 1, .t 49), (2, 1, .t 52), (3, 1, .t 53)]),
tq 55 (.mv (.t 8)),
tq 56 (.mv (.t 55)),
⟨some 57, (some (56, true)), .mv (.t 6)⟩,
⟨some 58, (some (56, true)), .idxAddr 1 (.t 57) (kq 2)⟩,
⟨some 59, (some (56, true)), .load none (.t 58)⟩,
⟨some 60, (some (56, true)), .mv (.t 6)⟩,
⟨some 61, (some (56, true)), .idxAddr 1 (.t 60) (kq 3)⟩,
⟨some 62, (some (56, true)), .load none (.t 61)⟩,
⟨some 63, (some (56, true)), .mv (.t 7)⟩,
⟨some 64, (some (56, true)), .call false true (.k (.fn n_message_checkHead [] [])) [.t 59, .t 62, .t 63]⟩,
⟨some 65, (some (56, true)), .bin .eql (.t 64) (kq 0)⟩,
tq 66 (.pick (.t 56) (.t 65) (.k (.d (.bool false)))),
⟨none, none, .store 5 (.t 2) (.t 54)⟩,
tq 3 (.mv (.t 66))] [6, 7, 8, 44, 45, 46, 47, 48, 49, 50, 51, 52, 53, 54, 55, 56, 57, 58, 59, 60, 61, 62, 63, 64, 65, 66])
.ret))))))⟩

def b_message_checkLines_1 : C :=
  (.seq (.reg false [
tq 15 (.bin .lss (.t 14) (.t 13))] [])
(.seq (.cond (.t 15) .skip
 (.exit 0))
(.seq (.block 1 (.seq (.reg false [
tq 16 (.mv (.t 14)),
tq 17 (.idxAddr 14 (.t 12) (.t 14)),
tq 18 (.load (some 14) (.t 17)),
tq 7 (.alloc ty_message_Line [.z (.str []), .z (.str []), .z (.str []), .z (.str []), .z (.str []), .z (.str []), .z (.str []), .z (.int .i64 0), .z (.int .i64 0), .z (.int .i64 0), .z (.int .i64 0), .z (.int .i64 0), .z (.int .i64 0), .z (.int .i64 0)]),
tq 6 (.mv (.t 16)),
⟨none, none, .store 14 (.t 7) (.t 18)⟩] [16, 17, 18])
(.seq (.reg false [
tq 19 (.mv (.t 6)),
tq 20 (.bin .gtr (.t 19) (kq 0)),
tq 21 (.mv (.t 20)),
⟨some 22, (some (21, true)), .mv (.t 1)⟩,
⟨some 23, (some (21, true)), .mv (.t 6)⟩,
⟨some 24, (some (21, true)), .bin .sub (.t 23) (kq 1)⟩,
⟨some 25, (some (21, true)), .idxAddr 14 (.t 22) (.t 24)⟩,
⟨some 26, (some (21, true)), .fieldAddr 0 (.t 25)⟩,
⟨some 27, (some (21, true)), .load none (.t 26)⟩,
⟨some 28, (some (21, true)), .bin .eql (.t 27) (.k (.d (.str [67])))⟩,
tq 29 (.pick (.t 21) (.t 28) (.k (.d (.bool false)))),
tq 8 (.mv (.t 29))] [19, 20, 21, 22, 23, 24, 25, 26, 27, 28, 29])
(.seq (.reg true [
tq 30 (.mv (.t 8)),
tq 31 (.mv (.t 30)),
⟨some 32, (some (31, true)), .fieldAddr 0 (.t 7)⟩,
⟨some 33, (some (31, true)), .load none (.t 32)⟩,
⟨some 34, (some (31, true)), .bin .eql (.t 33) (.k (.d (.str [82])))⟩,
tq 35 (.pick (.t 31) (.t 34) (.k (.d (.bool false)))),
tq 36 (.mv (.t 35)),
⟨some 37, (some (36, true)), .mv (.t 1)⟩,
⟨some 38, (some (36, true)), .mv (.t 6)⟩,
⟨some 39, (some (36, true)), .bin .sub (.t 38) (kq 1)⟩,
⟨some 40, (some (36, true)), .idxAddr 14 (.t 37) (.t 39)⟩,
⟨some 41, (some (36, true)), .fieldAddr 1 (.t 40)⟩,
⟨some 42, (some (36, true)), .load (some 13) (.t 41)⟩,
⟨some 43, (some (36, true)), .fieldAddr 1 (.t 7)⟩,
⟨some 44, (some (36, true)), .load (some 13) (.t 43)⟩,
⟨some 45, (some (36, true)), .call false true (.k (.fn n_message_twins [] [])) [.t 42, .t 44]⟩,
tq 46 (.pick (.t 36) (.t 45) (.k (.d (.bool false)))),
tq 9 (.mv (.t 46))] [30, 31, 32, 33, 34, 35, 36, 37, 38, 39, 40, 41, 42, 43, 44, 45, 46])
(.seq (.reg true [
tq 47 (.load (some 14) (.t 7)),
tq 48 (.call false true (.k (.fn n_message_CheckLine [] [])) [.t 47]),
tq 49 (.call false false (.k (.fn n_message_actions [] [])) []),
fa 50 0 7,
ld 51 50,
tq 52 (.lookup .str (.str []) false (.t 49) (.t 51)),
tq 53 (.mv (.t 0)),
tq 54 (.bin .neq (.t 52) (.t 53)),
tq 55 (.call false true (.k (.fn n_message_when [] [])) [.t 54, kq 18]),
tq 56 (.mv (.t 8)),
tq 57 (.mv (.t 56)),
⟨some 58, (some (57, false)), .fieldAddr 0 (.t 7)⟩,
⟨some 59, (some (57, false)), .load none (.t 58)⟩,
⟨some 60, (some (57, false)), .bin .eql (.t 59) (.k (.d (.str [82])))⟩,
tq 61 (.pick (.t 57) (.k (.d (.bool true))) (.t 60)),
tq 62 (.mv (.t 61)),
⟨some 63, (some (62, true)), .mv (.t 9)⟩,
⟨some 64, (some (62, true)), .un .not (.t 63)⟩,
tq 65 (.pick (.t 62) (.t 64) (.k (.d (.bool false)))),
tq 66 (.call false true (.k (.fn n_message_when [] [])) [.t 65, kq 11]),
tq 67 (.mkList 1 3 [.t 48, .t 55, .t 66]),
tq 68 (.call false true (.k (.fn n_message_first [] [])) [.t 67]),
tq 10 (.mv (.t 68))] [7, 8, 9, 47, 48, 49, 50, 51, 52, 53, 54, 55, 56, 57, 58, 59, 60, 61, 62, 63, 64, 65, 66, 67, 68])
(.seq (.reg false [
tq 69 (.mv (.t 10)),
tq 70 (.bin .neq (.t 69) (kq 0))] [69])
(.cond (.t 70) (.seq (.reg false [
tq 71 (.mv (.t 6)),
tq 72 (.mv (.t 10)),
tq 4 (.mv (.t 71)),
tq 5 (.mv (.t 72))] [6, 10, 71, 72])
.ret)
 .skip)))))))
(.reg false [
tq 73 (.bin .add (.t 14) (kq 1)),
tq 14 (.mv (.t 73))] [73]))))

def c_message_checkLines : CF := ⟨[.tmp 4, .tmp 5],
  (.seq (.reg false [
tq 4 (.mv (kq 0)),
tq 5 (.mv (kq 0))] [4, 5])
(.seq (.seq (.reg false [
tq 12 (.mv (.t 1)),
tq 13 (.len .slc (.t 12)),
tq 14 (.mv (kq 0))] [])
(.block 0 (.loop [0, 1, 12, 13, 14] b_message_checkLines_1)))
(.seq (.seq (.reg false [
tq 74 (.mv (.t 1)),
tq 75 (.len .slc (.t 74)),
tq 11 (.mv (.t 75))] [74, 75])
(.seq (.reg false [
tq 76 (.mv (.t 11)),
tq 77 (.bin .gtr (.t 76) (kq 0)),
tq 78 (.mv (.t 77)),
⟨some 79, (some (78, true)), .mv (.t 1)⟩,
⟨some 80, (some (78, true)), .mv (.t 11)⟩,
⟨some 81, (some (78, true)), .bin .sub (.t 80) (kq 1)⟩,
⟨some 82, (some (78, true)), .idxAddr 14 (.t 79) (.t 81)⟩,
⟨some 83, (some (78, true)), .fieldAddr 0 (.t 82)⟩,
⟨some 84, (some (78, true)), .load none (.t 83)⟩,
⟨some 85, (some (78, true)), .bin .eql (.t 84) (.k (.d (.str [67])))⟩,
tq 86 (.pick (.t 78) (.t 85) (.k (.d (.bool false))))] [1, 76, 77, 78, 79, 80, 81, 82, 83, 84, 85])
(.cond (.t 86) (.seq (.reg false [
tq 87 (.mv (.t 11)),
tq 88 (.bin .sub (.t 87) (kq 1)),
tq 4 (.mv (.t 88)),
tq 5 (.mv (kq 11))] [11, 87, 88])
.ret)
 .skip)))
(.seq (.reg false [
tq 4 (.mv (kq 0)),
tq 5 (.mv (kq 0))] [])
.ret))))⟩

def c_message_checkHead : CF := ⟨[.tmp 6],
  (.seq (.reg false [
tq 6 (.mv (kq 0))] [6])
(.seq (.reg false [
tq 7 (.mv (.t 0)),
tq 8 (.call false true (.k (.fn n_message_named [] [])) [.t 7]),
tq 9 (.mv (.t 1)),
tq 10 (.call false true (.k (.fn n_message_isSeason [] [])) [.t 9]),
tq 11 (.un .not (.t 10)),
tq 12 (.call false true (.k (.fn n_message_when [] [])) [.t 11, kq 1]),
tq 13 (.mv (.t 2)),
tq 14 (.call false true (.k (.fn n_message_within [] [])) [.t 13, kq 0, kq 99999]),
tq 15 (.mkList 1 3 [.t 8, .t 12, .t 14]),
tq 16 (.call false true (.k (.fn n_message_first [] [])) [.t 15]),
tq 6 (.mv (.t 16))] [0, 1, 2, 7, 8, 9, 10, 11, 12, 13, 14, 15, 16])
.ret))⟩

def c_message_isMessage : CF := ⟨[.tmp 2],
  (.seq (.reg false [
tq 2 (.mv (.k (.d (.bool false))))] [2])
(.seq (.reg false [
tq 3 (.mv (.t 0)),
tq 4 (.bin .eql (.t 3) (.k (.d (.str [82, 69, 81])))),
tq 5 (.mv (.t 4)),
⟨some 6, (some (5, false)), .mv (.t 0)⟩,
⟨some 7, (some (5, false)), .bin .eql (.t 6) (.k (.d (.str [65, 78, 83])))⟩,
tq 8 (.pick (.t 5) (.k (.d (.bool true))) (.t 7)),
tq 2 (.mv (.t 8))] [0, 3, 4, 5, 6, 7, 8])
.ret))⟩

def c_message_find : CF := ⟨[.tmp 4],
  (.seq (.reg false [
tq 3 (.box ty_string (.t 1)),
tq 4 (.mv (kq 0))] [1, 4])
(.seq (.reg false [
tq 5 (.mv (.t 0)),
tq 6 (.mkFunc n_message_find_1 [] [.t 3]),
tq 7 (.call true true (.k (.fn n_slices_IndexFunc_Lmessage_Entry_message_Entry [] [])) [.t 5, .t 6]),
tq 4 (.mv (.t 7))] [0, 3, 5, 6, 7])
.ret))⟩

def c_message_CheckRequest : CF := ⟨[.tmp 2],
  (.seq (.reg false [
tq 1 (.box ty_api_Request (.t 0)),
tq 2 (.mv (kq 0))] [0, 2])
(.seq (.reg true [
fa 3 0 1,
ld 4 3,
tq 5 (.call false true (.k (.fn n_message_named [] [])) [.t 4]),
fa 6 1 1,
ld 7 6,
tq 8 (.call false true (.k (.fn n_message_named [] [])) [.t 7]),
fa 9 4 1,
ld 10 9,
tq 11 (.call false true (.k (.fn n_message_named [] [])) [.t 10]),
fa 12 3 1,
ld 13 12,
tq 14 (.call false true (.k (.fn n_message_optional [] [])) [.t 13]),
fa 15 5 1,
ld 16 15,
tq 17 (.call false true (.k (.fn n_message_optional [] [])) [.t 16]),
fa 18 2 1,
ld 19 18,
tq 20 (.call false true (.k (.fn n_message_isKind [] [])) [.t 19]),
tq 21 (.un .not (.t 20)),
tq 22 (.call false true (.k (.fn n_message_when [] [])) [.t 21, kq 13]),
fa 23 5 1,
ld 24 23,
fa 25 0 1,
ld 26 25,
tq 27 (.bin .eql (.t 24) (.t 26)),
tq 28 (.call false true (.k (.fn n_message_when [] [])) [.t 27, kq 32]),
fa 29 6 1,
tq 30 (.load (some 3) (.t 29)),
tq 31 (.call false true (.k (.fn n_calendar_CheckPeriod [] [])) [.t 30]),
fa 32 9 1,
ld 33 32,
tq 34 (.call false true (.k (.fn n_message_within [] [])) [.t 33, kq 0, kq 1439]),
fa 35 10 1,
ld 36 35,
tq 37 (.call false true (.k (.fn n_message_within [] [])) [.t 36, kq 0, kq 999]),
fa 38 11 1,
ld 39 38,
tq 40 (.call false true (.k (.fn n_message_within [] [])) [.t 39, kq 1, kq 9]),
fa 41 12 1,
ld 42 41,
tq 43 (.call false true (.k (.fn n_message_within [] [])) [.t 42, kq 0, kq 99]),
tq 44 (.mkList 1 12 [.t 5, .t 8, .t 11, .t 14, .t 17, .t 22, .t 28, .t 31, .t 34, .t 37, .t 40, .t 43]),
tq 45 (.call false true (.k (.fn n_message_first [] [])) [.t 44]),
tq 2 (.mv (.t 45))] [1, 3, 4, 5, 6, 7, 8, 9, 10, 11, 12, 13, 14, 15, 16, 17, 18, 19, 20, 21, 22, 23, 24, 25, 26, 27, 28, 29, 30, 31, 32, 33, 34, 35, 36, 37, 38, 39, 40, 41, 42, 43, 44, 45])
.ret))⟩

def c_ref01_CheckDay : CF := ⟨[.tmp 2],
  (.seq (.reg false [
tq 2 (.mv (kq 0))] [2])
(.seq (.reg false [
tq 3 (.mv (.t 0)),
tq 4 (.call false true (.k (.fn n_ref01_CheckRange [] [])) [.t 3, kq 0, kq 99999]),
tq 2 (.mv (.t 4))] [0, 3, 4])
.ret))⟩

def c_calendar_within : CF := ⟨[.tmp 6],
  (.seq (.reg false [
tq 6 (.mv (kq 0))] [6])
(.seq (.reg false [
tq 7 (.mv (.t 0)),
tq 8 (.mv (.t 1)),
tq 9 (.bin .lss (.t 7) (.t 8)),
tq 10 (.mv (.t 9)),
⟨some 11, (some (10, false)), .mv (.t 0)⟩,
⟨some 12, (some (10, false)), .mv (.t 2)⟩,
⟨some 13, (some (10, false)), .bin .gtr (.t 11) (.t 12)⟩,
tq 14 (.pick (.t 10) (.k (.d (.bool true))) (.t 13)),
tq 15 (.call false true (.k (.fn n_calendar_when [] [])) [.t 14, kq 3]),
tq 6 (.mv (.t 15))] [0, 1, 2, 7, 8, 9, 10, 11, 12, 13, 14, 15])
.ret))⟩

def b_ref01_InMask_1 : C :=
  (.seq (.seq (.reg false [
tq 6 (.mv (.t 5)),
tq 7 (.mv (.t 1)),
tq 8 (.bin .lss (.t 6) (.t 7))] [6, 7])
(.cond (.t 8) .skip
 (.exit 0)))
(.seq (.block 1 (.reg false [
tq 11 (.mv (.t 0)),
tq 12 (.bin .quo (.t 11) (kq 2)),
tq 0 (.mv (.t 12))] [11, 12]))
(.reg false [
tq 9 (.mv (.t 5)),
tq 10 (.bin .add (.t 9) (kq 1)),
tq 5 (.mv (.t 10))] [9, 10])))

def c_ref01_InMask : CF := ⟨[.tmp 4],
  (.seq (.reg false [
tq 4 (.mv (.k (.d (.bool false))))] [4])
(.seq (.seq (.reg false [
tq 5 (.mv (kq 0))] [])
(.block 0 (.loop [0, 1, 5] b_ref01_InMask_1)))
(.seq (.reg false [
tq 13 (.mv (.t 0)),
tq 14 (.bin .rem (.t 13) (kq 2)),
tq 15 (.bin .eql (.t 14) (kq 1)),
tq 4 (.mv (.t 15))] [0, 13, 14, 15])
.ret)))⟩

def c_ref01_Weekday : CF := ⟨[.tmp 2],
  (.seq (.reg false [
tq 2 (.mv (kq 0))] [2])
(.seq (.reg false [
tq 3 (.mv (.t 0)),
tq 4 (.bin .add (.t 3) (kq 5)),
tq 5 (.bin .rem (.t 4) (kq 7)),
tq 2 (.mv (.t 5))] [0, 3, 4, 5])
.ret))⟩

def b_calendar_daysOf_1_1 : C :=
  (.seq (.seq (.reg false [
tq 6 (.mv (.t 3)),
fa 7 1 1,
ld 8 7,
tq 9 (.bin .leq (.t 6) (.t 8))] [6, 7, 8])
(.cond (.t 9) .skip
 (.exit 0)))
(.seq (.block 1 (.seq (.reg true [
fa 12 2 1,
ld 13 12,
tq 14 (.mv (.t 3)),
tq 15 (.call false true (.k (.fn n_calendar_weekday [] [])) [.t 14]),
tq 16 (.call false true (.k (.fn n_calendar_inMask [] [])) [.t 13, .t 15]),
tq 17 (.mv (.t 16)),
⟨some 18, (some (17, true)), .mv (.t 0)⟩,
⟨some 19, (some (17, true)), .mv (.t 3)⟩,
⟨some 20, (some (17, true)), .call true true (.t 18) [.t 19]⟩,
⟨some 21, (some (17, true)), .un .not (.t 20)⟩,
tq 22 (.pick (.t 17) (.t 21) (.k (.d (.bool false))))] [12, 13, 14, 15, 16, 17, 18, 19, 20, 21])
(.cond (.t 22) .ret
 .skip)))
(.reg false [
tq 10 (.mv (.t 3)),
tq 11 (.bin .add (.t 10) (kq 1)),
tq 3 (.mv (.t 11))] [10, 11])))

def c_calendar_daysOf_1 : CF := ⟨[],
  (.seq (.reg false [
fa 4 0 1,
ld 5 4,
tq 3 (.mv (.t 5))] [4, 5])
(.block 0 (.loop [0, 1, 3] b_calendar_daysOf_1_1)))⟩

def c_calendar_inMask : CF := ⟨[.tmp 4],
  (.seq (.reg false [
tq 4 (.mv (.k (.d (.bool false))))] [4])
(.seq (.reg false [
tq 5 (.mv (.t 0)),
tq 6 (.mv (.t 1)),
tq 7 (.bin .shr (.t 5) (.t 6)),
tq 8 (.bin .and (.t 7) (kq 1)),
tq 9 (.bin .eql (.t 8) (kq 1)),
tq 4 (.mv (.t 9))] [0, 1, 5, 6, 7, 8, 9])
.ret))⟩

def c_message_isAction : CF := ⟨[.tmp 2],
  (.seq (.reg false [
tq 2 (.mv (.k (.d (.bool false))))] [2])
(.seq (.reg false [
tq 3 (.call false false (.k (.fn n_message_actions [] [])) []),
tq 4 (.mv (.t 0)),
tq 5 (.lookup .str (.str []) false (.t 3) (.t 4)),
tq 6 (.bin .neq (.t 5) (.k (.d (.str [])))),
tq 2 (.mv (.t 6))] [0, 3, 4, 5, 6])
.ret))⟩

def c_message_text : CF := ⟨[.cell 4 (some 2)],
  (.seq (.reg false [
tq 2 (.box ty_func_ptr_message_Line_ptr_string (.t 0)),
tq 3 (.box ty_func_string_bool (.t 1)),
tq 4 (.alloc ty_message_field [.z (.nilf), .z (.nilf)])] [0, 1])
(.seq (.reg false [
tq 5 (.mkFunc n_message_text_1 [] [.t 2]),
tq 6 (.mkFunc n_message_text_2 [] [.t 2, .t 3]),
tq 7 (.build [.z (.nilf), .z (.nilf)] [(0, 1, .t 5), (1, 1, .t 6)]),
⟨none, none, .store 2 (.t 4) (.t 7)⟩] [2, 3, 5, 6, 7])
.ret))⟩

def c_message_fields_1 : CF := ⟨[.tmp 2],
  (.seq (.reg false [
tq 2 (.mv (.k (.d (.nilp))))] [2])
(.seq (.reg false [
tq 3 (.mv (.t 0)),
tq 4 (.nilCheck (.t 3)),
fa 5 0 4,
tq 2 (.mv (.t 5))] [0, 3, 4, 5])
.ret))⟩

def c_message_fields_2 : CF := ⟨[.tmp 2],
  (.seq (.reg false [
tq 2 (.mv (.k (.d (.nilp))))] [2])
(.seq (.reg false [
tq 3 (.mv (.t 0)),
tq 4 (.nilCheck (.t 3)),
fa 5 1 4,
fa 6 1 5,
tq 2 (.mv (.t 6))] [0, 3, 4, 5, 6])
.ret))⟩

def b_calendar_IsName_1 : C :=
  (.seq (.reg false [
tq 16 (.nextS (.t 15)),
tq 17 (.extract (.t 16) 0)] [])
(.seq (.cond (.t 17) .skip
 (.exit 0))
(.block 1 (.seq (.reg false [
tq 18 (.extract (.t 16) 1),
tq 19 (.extract (.t 16) 2),
tq 3 (.mv (.t 18)),
tq 4 (.mv (.t 19))] [16, 18, 19])
(.seq (.reg false [
tq 20 (.mv (.t 4)),
tq 21 (.bin .geq (.t 20) (.k (.d (.int .i32 65)))),
tq 22 (.mv (.t 21)),
⟨some 23, (some (22, true)), .mv (.t 4)⟩,
⟨some 24, (some (22, true)), .bin .leq (.t 23) (.k (.d (.int .i32 90)))⟩,
tq 25 (.pick (.t 22) (.t 24) (.k (.d (.bool false)))),
tq 26 (.mv (.t 25)),
⟨some 27, (some (26, false)), .mv (.t 4)⟩,
⟨some 28, (some (26, false)), .bin .geq (.t 27) (.k (.d (.int .i32 97)))⟩,
⟨some 29, (some (26, false)), .mv (.t 28)⟩,
⟨some 30, (some (29, true)), .mv (.t 4)⟩,
⟨some 31, (some (29, true)), .bin .leq (.t 30) (.k (.d (.int .i32 122)))⟩,
⟨some 32, (some (26, false)), .pick (.t 29) (.t 31) (.k (.d (.bool false)))⟩,
tq 33 (.pick (.t 26) (.k (.d (.bool true))) (.t 32)),
tq 5 (.mv (.t 33))] [20, 21, 22, 23, 24, 25, 26, 27, 28, 29, 30, 31, 32, 33])
(.seq (.reg false [
tq 34 (.mv (.t 5)),
tq 35 (.un .not (.t 34)),
tq 36 (.mv (.t 35)),
⟨some 37, (some (36, true)), .mv (.t 3)⟩,
⟨some 38, (some (36, true)), .bin .eql (.t 37) (kq 0)⟩,
⟨some 39, (some (36, true)), .mv (.t 38)⟩,
⟨some 40, (some (39, false)), .mv (.t 4)⟩,
⟨some 41, (some (39, false)), .bin .neq (.t 40) (.k (.d (.int .i32 95)))⟩,
⟨some 42, (some (39, false)), .mv (.t 41)⟩,
⟨some 43, (some (42, true)), .mv (.t 4)⟩,
⟨some 44, (some (42, true)), .bin .lss (.t 43) (.k (.d (.int .i32 48)))⟩,
⟨some 45, (some (42, true)), .mv (.t 44)⟩,
⟨some 46, (some (45, false)), .mv (.t 4)⟩,
⟨some 47, (some (45, false)), .bin .gtr (.t 46) (.k (.d (.int .i32 57)))⟩,
⟨some 48, (some (42, true)), .pick (.t 45) (.k (.d (.bool true))) (.t 47)⟩,
⟨some 49, (some (39, false)), .pick (.t 42) (.t 48) (.k (.d (.bool false)))⟩,
⟨some 50, (some (36, true)), .pick (.t 39) (.k (.d (.bool true))) (.t 49)⟩,
tq 51 (.pick (.t 36) (.t 50) (.k (.d (.bool false))))] [3, 4, 5, 34, 35, 36, 37, 38, 39, 40, 41, 42, 43, 44, 45, 46, 47, 48, 49, 50])
(.cond (.t 51) (.seq (.reg false [
tq 2 (.mv (.k (.d (.bool false))))] [])
.ret)
 .skip)))))))

def c_calendar_IsName : CF := ⟨[.tmp 2],
  (.seq (.reg false [
tq 2 (.mv (.k (.d (.bool false))))] [2])
(.seq (.seq (.reg false [
tq 6 (.mv (.t 0)),
tq 7 (.len .str (.t 6)),
tq 8 (.bin .eql (.t 7) (kq 0)),
tq 9 (.mv (.t 8)),
⟨some 10, (some (9, false)), .mv (.t 0)⟩,
⟨some 11, (some (9, false)), .len .str (.t 10)⟩,
⟨some 12, (some (9, false)), .bin .gtr (.t 11) (kq 24)⟩,
tq 13 (.pick (.t 9) (.k (.d (.bool true))) (.t 12))] [6, 7, 8, 9, 10, 11, 12])
(.cond (.t 13) (.seq (.reg false [
tq 2 (.mv (.k (.d (.bool false))))] [])
.ret)
 .skip))
(.seq (.seq (.reg false [
tq 14 (.mv (.t 0)),
tq 15 (.rangeS (.t 14))] [0, 14])
(.block 0 (.loop [15] b_calendar_IsName_1)))
(.seq (.reg false [
tq 2 (.mv (.k (.d (.bool true))))] [])
.ret))))⟩

def c_message_fields_3 : CF := ⟨[.tmp 2],
  (.seq (.reg false [
tq 2 (.mv (.k (.d (.nilp))))] [2])
(.seq (.reg false [
tq 3 (.mv (.t 0)),
tq 4 (.nilCheck (.t 3)),
fa 5 1 4,
fa 6 0 5,
tq 2 (.mv (.t 6))] [0, 3, 4, 5, 6])
.ret))⟩

def c_message_fields_4 : CF := ⟨[.tmp 2],
  (.seq (.reg false [
tq 2 (.mv (.k (.d (.nilp))))] [2])
(.seq (.reg false [
tq 3 (.mv (.t 0)),
tq 4 (.nilCheck (.t 3)),
fa 5 1 4,
fa 6 2 5,
tq 2 (.mv (.t 6))] [0, 3, 4, 5, 6])
.ret))⟩

def c_message_isKind : CF := ⟨[.tmp 2],
  (.seq (.reg false [
tq 2 (.mv (.k (.d (.bool false))))] [2])
(.seq (.reg false [
tq 3 (.mv (.t 0)),
tq 4 (.bin .eql (.t 3) (.k (.d (.str [65])))),
tq 5 (.mv (.t 4)),
⟨some 6, (some (5, false)), .mv (.t 0)⟩,
⟨some 7, (some (5, false)), .bin .eql (.t 6) (.k (.d (.str [68])))⟩,
tq 8 (.pick (.t 5) (.k (.d (.bool true))) (.t 7)),
tq 2 (.mv (.t 8))] [0, 3, 4, 5, 6, 7, 8])
.ret))⟩

def c_message_fields_5 : CF := ⟨[.tmp 2],
  (.seq (.reg false [
tq 2 (.mv (.k (.d (.nilp))))] [2])
(.seq (.reg false [
tq 3 (.mv (.t 0)),
tq 4 (.nilCheck (.t 3)),
fa 5 1 4,
fa 6 4 5,
tq 2 (.mv (.t 6))] [0, 3, 4, 5, 6])
.ret))⟩

def c_message_digits : CF := ⟨[.cell 4 (some 2)],
  (.seq (.reg false [
tq 2 (.box ty_func_ptr_message_Line_ptr_int (.t 0)),
tq 3 (.box ty_int (.t 1)),
tq 4 (.alloc ty_message_field [.z (.nilf), .z (.nilf)])] [0, 1])
(.seq (.reg false [
tq 5 (.mkFunc n_message_digits_1 [] [.t 2, .t 3]),
tq 6 (.mkFunc n_message_digits_2 [] [.t 3, .t 2]),
tq 7 (.build [.z (.nilf), .z (.nilf)] [(0, 1, .t 5), (1, 1, .t 6)]),
⟨none, none, .store 2 (.t 4) (.t 7)⟩] [2, 3, 5, 6, 7])
.ret))⟩

def c_message_fields_6 : CF := ⟨[.tmp 2],
  (.seq (.reg false [
tq 2 (.mv (.k (.d (.nilp))))] [2])
(.seq (.reg false [
tq 3 (.mv (.t 0)),
tq 4 (.nilCheck (.t 3)),
fa 5 1 4,
fa 6 6 5,
fa 7 0 6,
tq 2 (.mv (.t 7))] [0, 3, 4, 5, 6, 7])
.ret))⟩

def c_message_fields_7 : CF := ⟨[.tmp 2],
  (.seq (.reg false [
tq 2 (.mv (.k (.d (.nilp))))] [2])
(.seq (.reg false [
tq 3 (.mv (.t 0)),
tq 4 (.nilCheck (.t 3)),
fa 5 1 4,
fa 6 6 5,
fa 7 1 6,
tq 2 (.mv (.t 7))] [0, 3, 4, 5, 6, 7])
.ret))⟩

def c_message_fields_8 : CF := ⟨[.tmp 2],
  (.seq (.reg false [
tq 1 (.box ty_message_Line (.t 0)),
tq 2 (.mv (.k (.d (.str []))))] [0, 2])
(.seq (.reg false [
fa 6 1 1,
fa 7 6 6,
fa 8 2 7,
ld 9 8,
tq 10 (.call false true (.k (.fn n_calendar_PrintMask [] [])) [.t 9]),
tq 5 (.mv (.t 10)),
tq 11 (.extract (.t 5) 0),
tq 12 (.extract (.t 5) 1),
tq 3 (.mv (.t 11)),
tq 4 (.mv (.t 12))] [1, 4, 5, 6, 7, 8, 9, 10, 11, 12])
(.seq (.reg false [
tq 13 (.mv (.t 3)),
tq 2 (.mv (.t 13))] [3, 13])
.ret)))⟩

def c_calendar_PrintMask : CF := ⟨[.tmp 2, .tmp 3],
  (.seq (.reg false [
tq 2 (.mv (.k (.d (.str [])))),
tq 3 (.mv (kq 0))] [2, 3])
(.seq (.seq (.reg false [
tq 5 (.mv (.t 0)),
tq 6 (.call false true (.k (.fn n_calendar_within [] [])) [.t 5, kq 1, kq 127]),
tq 4 (.mv (.t 6))] [5, 6])
(.seq (.reg false [
tq 7 (.mv (.t 4)),
tq 8 (.bin .neq (.t 7) (kq 0))] [7])
(.cond (.t 8) (.seq (.reg false [
tq 9 (.mv (.t 4)),
tq 2 (.mv (.k (.d (.str [])))),
tq 3 (.mv (.t 9))] [4, 9])
.ret)
 .skip)))
(.seq (.reg false [
tq 10 (.mv (.t 0)),
tq 11 (.call false true (.k (.fn n_calendar_printMask [] [])) [.t 10]),
tq 2 (.mv (.t 11)),
tq 3 (.mv (kq 0))] [0, 10, 11])
.ret)))⟩

def c_message_fields_9 : CF := ⟨[.tmp 4],
  (.seq (.reg false [
tq 4 (.mv (.k (.d (.bool false))))] [4])
(.seq (.reg false [
tq 8 (.mv (.t 1)),
tq 9 (.call false true (.k (.fn n_calendar_ParseMask [] [])) [.t 8]),
tq 7 (.mv (.t 9)),
tq 10 (.extract (.t 7) 0),
tq 11 (.extract (.t 7) 1),
tq 5 (.mv (.t 10)),
tq 6 (.mv (.t 11))] [1, 7, 8, 9, 10, 11])
(.seq (.reg false [
tq 12 (.mv (.t 0)),
tq 13 (.mv (.t 5)),
tq 14 (.nilCheck (.t 12)),
fa 15 1 14,
fa 16 6 15,
fa 17 2 16,
⟨none, none, .store 1 (.t 17) (.t 13)⟩] [0, 5, 12, 13, 14, 15, 16, 17])
(.seq (.reg false [
tq 18 (.mv (.t 6)),
tq 19 (.bin .eql (.t 18) (kq 0)),
tq 4 (.mv (.t 19))] [6, 18, 19])
.ret))))⟩

def b_calendar_ParseMask_1 : C :=
  (.seq (.reg false [
tq 10 (.bin .lss (.t 9) (.t 8))] [])
(.seq (.cond (.t 10) .skip
 (.exit 0))
(.seq (.block 1 (.seq (.reg false [
tq 11 (.mv (.t 9)),
tq 5 (.mv (.t 11))] [11])
(.seq (.reg false [
tq 12 (.mv (.t 0)),
tq 13 (.mv (.t 5)),
tq 14 (.idxS (.t 12) (.t 13)),
tq 15 (.bin .neq (.t 14) (.k (.d (.int .u8 48))))] [12, 13, 14])
(.cond (.t 15) (.reg false [
tq 16 (.mv (.t 4)),
tq 17 (.mv (.t 5)),
tq 18 (.bin .shl (kq 1) (.t 17)),
tq 19 (.bin .or (.t 16) (.t 18)),
tq 4 (.mv (.t 19))] [5, 16, 17, 18, 19])
 .skip))))
(.reg false [
tq 20 (.bin .add (.t 9) (kq 1)),
tq 9 (.mv (.t 20))] [20]))))

def c_calendar_ParseMask : CF := ⟨[.tmp 2, .tmp 3],
  (.seq (.reg false [
tq 2 (.mv (kq 0)),
tq 3 (.mv (kq 0))] [2, 3])
(.seq (.reg false [
tq 4 (.mv (kq 0))] [])
(.seq (.seq (.reg false [
tq 6 (.mv (.t 0)),
tq 7 (.len .str (.t 6)),
tq 8 (.minmax false [kq 7, .t 7]),
tq 9 (.mv (kq 0))] [6, 7])
(.block 0 (.loop [0, 4, 8, 9] b_calendar_ParseMask_1)))
(.seq (.seq (.reg false [
tq 21 (.mv (.t 4)),
tq 22 (.bin .eql (.t 21) (kq 0)),
tq 23 (.mv (.t 22)),
⟨some 24, (some (23, false)), .mv (.t 4)⟩,
⟨some 25, (some (23, false)), .call false true (.k (.fn n_calendar_printMask [] [])) [.t 24]⟩,
⟨some 26, (some (23, false)), .mv (.t 0)⟩,
⟨some 27, (some (23, false)), .bin .neq (.t 25) (.t 26)⟩,
tq 28 (.pick (.t 23) (.k (.d (.bool true))) (.t 27))] [0, 21, 22, 23, 24, 25, 26, 27])
(.cond (.t 28) (.seq (.reg false [
tq 2 (.mv (kq 0)),
tq 3 (.mv (kq 25))] [])
.ret)
 .skip))
(.seq (.reg false [
tq 29 (.mv (.t 4)),
tq 2 (.mv (.t 29)),
tq 3 (.mv (kq 0))] [4, 29])
.ret)))))⟩

def c_message_fields_10 : CF := ⟨[.tmp 2],
  (.seq (.reg false [
tq 1 (.box ty_message_Line (.t 0)),
tq 2 (.mv (.k (.d (.str []))))] [0, 2])
(.seq (.reg false [
fa 6 1 1,
fa 7 9 6,
ld 8 7,
tq 9 (.call false true (.k (.fn n_message_PrintMinute [] [])) [.t 8]),
tq 5 (.mv (.t 9)),
tq 10 (.extract (.t 5) 0),
tq 11 (.extract (.t 5) 1),
tq 3 (.mv (.t 10)),
tq 4 (.mv (.t 11))] [1, 4, 5, 6, 7, 8, 9, 10, 11])
(.seq (.reg false [
tq 12 (.mv (.t 3)),
tq 2 (.mv (.t 12))] [3, 12])
.ret)))⟩

def c_message_fields_11 : CF := ⟨[.tmp 4],
  (.seq (.reg false [
tq 4 (.mv (.k (.d (.bool false))))] [4])
(.seq (.reg false [
tq 8 (.mv (.t 1)),
tq 9 (.call false true (.k (.fn n_message_ParseMinute [] [])) [.t 8]),
tq 7 (.mv (.t 9)),
tq 10 (.extract (.t 7) 0),
tq 11 (.extract (.t 7) 1),
tq 5 (.mv (.t 10)),
tq 6 (.mv (.t 11))] [1, 7, 8, 9, 10, 11])
(.seq (.reg false [
tq 12 (.mv (.t 0)),
tq 13 (.mv (.t 5)),
tq 14 (.nilCheck (.t 12)),
fa 15 1 14,
fa 16 9 15,
⟨none, none, .store 1 (.t 16) (.t 13)⟩] [0, 5, 12, 13, 14, 15, 16])
(.seq (.reg false [
tq 17 (.mv (.t 6)),
tq 18 (.bin .eql (.t 17) (kq 0)),
tq 4 (.mv (.t 18))] [6, 17, 18])
.ret))))⟩

def c_message_fields_12 : CF := ⟨[.tmp 2],
  (.seq (.reg false [
tq 2 (.mv (.k (.d (.nilp))))] [2])
(.seq (.reg false [
tq 3 (.mv (.t 0)),
tq 4 (.nilCheck (.t 3)),
fa 5 1 4,
fa 6 10 5,
tq 2 (.mv (.t 6))] [0, 3, 4, 5, 6])
.ret))⟩

def c_message_fields_13 : CF := ⟨[.tmp 2],
  (.seq (.reg false [
tq 2 (.mv (.k (.d (.nilp))))] [2])
(.seq (.reg false [
tq 3 (.mv (.t 0)),
tq 4 (.nilCheck (.t 3)),
fa 5 1 4,
fa 6 11 5,
tq 2 (.mv (.t 6))] [0, 3, 4, 5, 6])
.ret))⟩

def c_message_fields_14 : CF := ⟨[.tmp 2],
  (.seq (.reg false [
tq 2 (.mv (.k (.d (.nilp))))] [2])
(.seq (.reg false [
tq 3 (.mv (.t 0)),
tq 4 (.nilCheck (.t 3)),
fa 5 1 4,
fa 6 12 5,
tq 2 (.mv (.t 6))] [0, 3, 4, 5, 6])
.ret))⟩

def c_message_dashed : CF := ⟨[.cell 2 (some 2)],
  (.seq (.reg false [
tq 1 (.box ty_func_ptr_message_Line_ptr_string (.t 0)),
tq 2 (.alloc ty_message_field [.z (.nilf), .z (.nilf)])] [0])
(.seq (.reg false [
tq 3 (.mkFunc n_message_dashed_1 [] [.t 1]),
tq 4 (.mkFunc n_message_dashed_2 [] [.t 1]),
tq 5 (.build [.z (.nilf), .z (.nilf)] [(0, 1, .t 3), (1, 1, .t 4)]),
⟨none, none, .store 2 (.t 2) (.t 5)⟩] [1, 3, 4, 5])
.ret))⟩

def c_message_fields_15 : CF := ⟨[.tmp 2],
  (.seq (.reg false [
tq 2 (.mv (.k (.d (.nilp))))] [2])
(.seq (.reg false [
tq 3 (.mv (.t 0)),
tq 4 (.nilCheck (.t 3)),
fa 5 1 4,
fa 6 3 5,
tq 2 (.mv (.t 6))] [0, 3, 4, 5, 6])
.ret))⟩

def c_message_fields_16 : CF := ⟨[.tmp 2],
  (.seq (.reg false [
tq 2 (.mv (.k (.d (.nilp))))] [2])
(.seq (.reg false [
tq 3 (.mv (.t 0)),
tq 4 (.nilCheck (.t 3)),
fa 5 1 4,
fa 6 5 5,
tq 2 (.mv (.t 6))] [0, 3, 4, 5, 6])
.ret))⟩

def b_message_texts_1_1 : C :=
  (.seq (.seq (.reg false [
ld 5 1,
tq 6 (.bin .neq (.t 5) (.k (.d (.str []))))] [5])
(.cond (.t 6) .skip
 (.exit 0)))
(.seq (.block 1 (.seq (.reg false [
ld 9 1,
tq 10 (.call false true (.k (.fn n_strings_IndexByte [] [])) [.t 9, .k (.d (.int .u8 10))]),
tq 11 (.bin .add (.t 10) (kq 1)),
tq 4 (.mv (.t 11))] [9, 10, 11])
(.seq (.seq (.reg false [
tq 12 (.mv (.t 4)),
tq 13 (.bin .eql (.t 12) (kq 0))] [12])
(.cond (.t 13) (.reg false [
ld 14 1,
tq 15 (.len .str (.t 14)),
tq 4 (.mv (.t 15))] [14, 15])
 .skip))
(.seq (.seq (.reg false [
tq 16 (.mv (.t 0)),
tq 17 (.mv (.t 3)),
ld 18 1,
tq 19 (.mv (.t 4)),
tq 20 (.sliceS (.t 18) none (some (.t 19))),
tq 21 (.call true true (.t 16) [.t 17, .t 20]),
tq 22 (.un .not (.t 21))] [16, 17, 18, 19, 20, 21])
(.cond (.t 22) .ret
 .skip))
(.reg false [
ld 23 1,
tq 24 (.mv (.t 4)),
tq 25 (.sliceS (.t 23) (some (.t 24)) none),
⟨none, none, .store 1 (.t 1) (.t 25)⟩] [4, 23, 24, 25])))))
(.reg false [
tq 7 (.mv (.t 3)),
tq 8 (.bin .add (.t 7) (kq 1)),
tq 3 (.mv (.t 8))] [7, 8])))

def c_message_texts_1 : CF := ⟨[],
  (.seq (.reg false [
tq 3 (.mv (kq 0))] [])
(.block 0 (.loop [0, 1, 3] b_message_texts_1_1)))⟩

def c_strings_IndexByte : CF := ⟨[.tmp 4],
  (.seq (.reg false [
tq 4 (.mv (kq 0))] [4])
(.seq (.reg false [
tq 5 (.mv (.t 0)),
tq 6 (.mv (.t 1)),
tq 7 (.call false true (.k (.fn n_internal_stringslite_IndexByte [] [])) [.t 5, .t 6]),
tq 4 (.mv (.t 7))] [0, 1, 5, 6, 7])
.ret))⟩

def c_internal_stringslite_CutSuffix : CF := ⟨[.tmp 4, .tmp 5],
  (.seq (.reg false [
tq 4 (.mv (.k (.d (.str [])))),
tq 5 (.mv (.k (.d (.bool false))))] [4, 5])
(.seq (.seq (.reg false [
tq 6 (.mv (.t 0)),
tq 7 (.mv (.t 1)),
tq 8 (.call false true (.k (.fn n_internal_stringslite_HasSuffix [] [])) [.t 6, .t 7]),
tq 9 (.un .not (.t 8))] [6, 7, 8])
(.cond (.t 9) (.seq (.reg false [
tq 10 (.mv (.t 0)),
tq 4 (.mv (.t 10)),
tq 5 (.mv (.k (.d (.bool false))))] [0, 10])
.ret)
 .skip))
(.seq (.reg false [
tq 11 (.mv (.t 0)),
tq 12 (.mv (.t 0)),
tq 13 (.len .str (.t 12)),
tq 14 (.mv (.t 1)),
tq 15 (.len .str (.t 14)),
tq 16 (.bin .sub (.t 13) (.t 15)),
tq 17 (.sliceS (.t 11) none (some (.t 16))),
tq 4 (.mv (.t 17)),
tq 5 (.mv (.k (.d (.bool true))))] [0, 1, 11, 12, 13, 14, 15, 16, 17])
.ret)))⟩

def c_message_actions : CF := ⟨[.tmp 0],
  (.seq (.reg false [
tq 0 (.mv (.k (.d (.nilm))))] [0])
(.seq (.reg false [
tq 1 (.mkMap),
⟨none, none, .mapSet .str (.t 1) (.k (.d (.str [78]))) (.k (.d (.str [82, 69, 81])))⟩,
⟨none, none, .mapSet .str (.t 1) (.k (.d (.str [72]))) (.k (.d (.str [82, 69, 81])))⟩,
⟨none, none, .mapSet .str (.t 1) (.k (.d (.str [67]))) (.k (.d (.str [82, 69, 81])))⟩,
⟨none, none, .mapSet .str (.t 1) (.k (.d (.str [82]))) (.k (.d (.str [82, 69, 81])))⟩,
⟨none, none, .mapSet .str (.t 1) (.k (.d (.str [68]))) (.k (.d (.str [82, 69, 81])))⟩,
⟨none, none, .mapSet .str (.t 1) (.k (.d (.str [75]))) (.k (.d (.str [65, 78, 83])))⟩,
⟨none, none, .mapSet .str (.t 1) (.k (.d (.str [79]))) (.k (.d (.str [65, 78, 83])))⟩,
⟨none, none, .mapSet .str (.t 1) (.k (.d (.str [85]))) (.k (.d (.str [65, 78, 83])))⟩,
⟨none, none, .mapSet .str (.t 1) (.k (.d (.str [88]))) (.k (.d (.str [65, 78, 83])))⟩,
tq 2 (.mv (.t 1)),
tq 0 (.mv (.t 2))] [1, 2])
.ret))⟩

def c_message_named : CF := ⟨[.tmp 2],
  (.seq (.reg false [
tq 2 (.mv (kq 0))] [2])
(.seq (.reg false [
tq 3 (.mv (.t 0)),
tq 4 (.call false true (.k (.fn n_calendar_IsName [] [])) [.t 3]),
tq 5 (.un .not (.t 4)),
tq 6 (.call false true (.k (.fn n_message_when [] [])) [.t 5, kq 8]),
tq 2 (.mv (.t 6))] [0, 3, 4, 5, 6])
.ret))⟩

def b_message_isSeason_1 : C :=
  (.seq (.reg false [
tq 21 (.nextS (.t 20)),
tq 22 (.extract (.t 21) 0)] [])
(.seq (.cond (.t 22) .skip
 (.exit 0))
(.block 1 (.seq (.reg false [
tq 23 (.extract (.t 21) 2),
tq 4 (.mv (.t 23))] [21, 23])
(.seq (.reg false [
tq 24 (.mv (.t 4)),
tq 25 (.bin .lss (.t 24) (.k (.d (.int .i32 48)))),
tq 26 (.mv (.t 25)),
⟨some 27, (some (26, false)), .mv (.t 4)⟩,
⟨some 28, (some (26, false)), .bin .gtr (.t 27) (.k (.d (.int .i32 57)))⟩,
tq 29 (.pick (.t 26) (.k (.d (.bool true))) (.t 28))] [4, 24, 25, 26, 27, 28])
(.cond (.t 29) (.seq (.reg false [
tq 2 (.mv (.k (.d (.bool false))))] [])
.ret)
 .skip))))))

def c_message_isSeason : CF := ⟨[.tmp 2],
  (.seq (.reg false [
tq 2 (.mv (.k (.d (.bool false))))] [2])
(.seq (.seq (.reg false [
tq 5 (.mv (.t 0)),
tq 6 (.len .str (.t 5)),
tq 7 (.bin .neq (.t 6) (kq 5)),
tq 8 (.mv (.t 7)),
⟨some 9, (some (8, false)), .mv (.t 0)⟩,
⟨some 10, (some (8, false)), .idxS (.t 9) (kq 0)⟩,
⟨some 11, (some (8, false)), .bin .neq (.t 10) (.k (.d (.int .u8 83)))⟩,
⟨some 12, (some (8, false)), .mv (.t 11)⟩,
⟨some 13, (some (12, true)), .mv (.t 0)⟩,
⟨some 14, (some (12, true)), .idxS (.t 13) (kq 0)⟩,
⟨some 15, (some (12, true)), .bin .neq (.t 14) (.k (.d (.int .u8 87)))⟩,
⟨some 16, (some (8, false)), .pick (.t 12) (.t 15) (.k (.d (.bool false)))⟩,
tq 17 (.pick (.t 8) (.k (.d (.bool true))) (.t 16))] [5, 6, 7, 8, 9, 10, 11, 12, 13, 14, 15, 16])
(.cond (.t 17) (.seq (.reg false [
tq 2 (.mv (.k (.d (.bool false))))] [])
.ret)
 .skip))
(.seq (.seq (.reg false [
tq 18 (.mv (.t 0)),
tq 19 (.sliceS (.t 18) (some (kq 1)) none),
tq 20 (.rangeS (.t 19))] [0, 18, 19])
(.block 0 (.loop [20] b_message_isSeason_1)))
(.seq (.reg false [
tq 2 (.mv (.k (.d (.bool true))))] [])
.ret))))⟩

def b_slices_IndexFunc_Lmessage_Entry_message_Entry_1 : C :=
  (.seq (.reg false [
tq 9 (.bin .lss (.t 8) (.t 7))] [])
(.seq (.cond (.t 9) .skip
 (.exit 0))
(.seq (.block 1 (.seq (.reg false [
tq 10 (.mv (.t 8)),
tq 5 (.mv (.t 10))] [10])
(.seq (.reg false [
tq 11 (.mv (.t 1)),
tq 12 (.mv (.t 0)),
tq 13 (.mv (.t 5)),
tq 14 (.idxAddr 15 (.t 12) (.t 13)),
tq 15 (.load (some 15) (.t 14)),
tq 16 (.call true true (.t 11) [.t 15])] [11, 12, 13, 14, 15])
(.cond (.t 16) (.seq (.reg false [
tq 17 (.mv (.t 5)),
tq 4 (.mv (.t 17))] [5, 17])
.ret)
 .skip))))
(.reg false [
tq 18 (.bin .add (.t 8) (kq 1)),
tq 8 (.mv (.t 18))] [18]))))

def c_slices_IndexFunc_Lmessage_Entry_message_Entry : CF := ⟨[.tmp 4],
  (.seq (.reg false [
tq 4 (.mv (kq 0))] [4])
(.seq (.seq (.reg false [
tq 6 (.mv (.t 0)),
tq 7 (.len .slc (.t 6)),
tq 8 (.mv (kq 0))] [6])
(.block 0 (.loop [0, 1, 7, 8] b_slices_IndexFunc_Lmessage_Entry_message_Entry_1)))
(.seq (.reg false [
tq 4 (.mv (kq (-1)))] [])
.ret)))⟩

def c_message_find_1 : CF := ⟨[.tmp 3],
  (.seq (.reg false [
tq 2 (.box ty_message_Entry (.t 0)),
tq 3 (.mv (.k (.d (.bool false))))] [0, 3])
(.seq (.reg false [
fa 4 0 2,
fa 5 0 4,
ld 6 5,
ld 7 1,
tq 8 (.bin .eql (.t 6) (.t 7)),
tq 3 (.mv (.t 8))] [1, 2, 4, 5, 6, 7, 8])
.ret))⟩

def c_message_optional : CF := ⟨[.tmp 2],
  (.seq (.reg false [
tq 2 (.mv (kq 0))] [2])
(.seq (.reg false [
tq 3 (.mv (.t 0)),
tq 4 (.bin .neq (.t 3) (.k (.d (.str [])))),
tq 5 (.mv (.t 4)),
⟨some 6, (some (5, true)), .mv (.t 0)⟩,
⟨some 7, (some (5, true)), .call false true (.k (.fn n_calendar_IsName [] [])) [.t 6]⟩,
⟨some 8, (some (5, true)), .un .not (.t 7)⟩,
tq 9 (.pick (.t 5) (.t 8) (.k (.d (.bool false)))),
tq 10 (.call false true (.k (.fn n_message_when [] [])) [.t 9, kq 8]),
tq 2 (.mv (.t 10))] [0, 3, 4, 5, 6, 7, 8, 9, 10])
.ret))⟩

def c_message_text_1 : CF := ⟨[.tmp 3],
  (.seq (.reg false [
tq 2 (.box ty_message_Line (.t 0)),
tq 3 (.mv (.k (.d (.str []))))] [0, 3])
(.seq (.reg false [
ld 4 1,
tq 5 (.call true false (.t 4) [.t 2]),
tq 6 (.nilCheck (.t 5)),
ld 7 6,
tq 3 (.mv (.t 7))] [1, 2, 4, 5, 6, 7])
.ret))⟩

def c_message_text_2 : CF := ⟨[.tmp 6],
  (.seq (.reg false [
tq 6 (.mv (.k (.d (.bool false))))] [6])
(.seq (.reg false [
ld 7 2,
tq 8 (.mv (.t 0)),
tq 9 (.call true false (.t 7) [.t 8]),
tq 10 (.mv (.t 1)),
tq 11 (.nilCheck (.t 9)),
⟨none, none, .store 1 (.t 11) (.t 10)⟩] [0, 2, 7, 8, 9, 10, 11])
(.seq (.reg false [
ld 12 3,
tq 13 (.mv (.t 1)),
tq 14 (.call false true (.t 12) [.t 13]),
tq 6 (.mv (.t 14))] [1, 3, 12, 13, 14])
.ret)))⟩

def c_message_digits_1 : CF := ⟨[.tmp 4],
  (.seq (.reg false [
tq 3 (.box ty_message_Line (.t 0)),
tq 4 (.mv (.k (.d (.str []))))] [0, 4])
(.seq (.reg true [
ld 5 1,
tq 6 (.callR false (.t 5) [.t 3] [2]),
tq 7 (.nilCheck (.t 6)),
ld 8 7,
ld 9 2,
tq 10 (.call false true (.k (.fn n_message_wide [] [])) [.t 8, .t 9]),
tq 4 (.mv (.t 10))] [1, 2, 3, 5, 6, 7, 8, 9, 10])
.ret))⟩

def c_message_digits_2 : CF := ⟨[.tmp 6],
  (.seq (.reg false [
tq 6 (.mv (.k (.d (.bool false))))] [6])
(.seq (.reg false [
tq 10 (.mv (.t 1)),
ld 11 2,
tq 12 (.call false true (.k (.fn n_message_number [] [])) [.t 10, .t 11]),
tq 9 (.mv (.t 12)),
tq 13 (.extract (.t 9) 0),
tq 14 (.extract (.t 9) 1),
tq 7 (.mv (.t 13)),
tq 8 (.mv (.t 14))] [1, 2, 9, 10, 11, 12, 13, 14])
(.seq (.reg false [
ld 15 3,
tq 16 (.mv (.t 0)),
tq 17 (.call true false (.t 15) [.t 16]),
tq 18 (.mv (.t 7)),
tq 19 (.nilCheck (.t 17)),
⟨none, none, .store 1 (.t 19) (.t 18)⟩] [0, 3, 7, 15, 16, 17, 18, 19])
(.seq (.reg false [
tq 20 (.mv (.t 8)),
tq 6 (.mv (.t 20))] [8, 20])
.ret))))⟩

def b_calendar_printMask_1 : C :=
  (.seq (.reg false [
tq 6 (.bin .lss (.t 5) (kq 7))] [])
(.seq (.cond (.t 6) .skip
 (.exit 0))
(.seq (.block 1 (.seq (.reg false [
tq 7 (.mv (.t 5)),
tq 4 (.mv (.t 7))] [7])
(.seq (.seq (.reg false [
tq 8 (.mv (.t 0)),
tq 9 (.mv (.t 4)),
tq 10 (.call false true (.k (.fn n_calendar_inMask [] [])) [.t 8, .t 9])] [8, 9])
(.cond (.t 10) (.seq (.reg false [
tq 11 (.mv (.t 4)),
tq 12 (.bin .add (.t 11) (kq 1)),
tq 13 (.call false true (.k (.fn n_strconv_Itoa [] [])) [.t 12]),
tq 14 (.call true false (.k (.fn n_strings_Builder_WriteString [] [])) [.t 3, .t 13])] [4, 11, 12, 13, 14])
(.exit 1))
 .skip))
(.reg false [
tq 15 (.call true false (.k (.fn n_strings_Builder_WriteByte [] [])) [.t 3, .k (.d (.int .u8 48))])] [15]))))
(.reg false [
tq 16 (.bin .add (.t 5) (kq 1)),
tq 5 (.mv (.t 16))] [16]))))

def c_calendar_printMask : CF := ⟨[.tmp 2],
  (.seq (.reg false [
tq 2 (.mv (.k (.d (.str []))))] [2])
(.seq (.reg false [
tq 3 (.alloc ty_strings_Builder [.z .nilp, .own ⟨false, ty_uint8, 1, 1⟩])] [])
(.seq (.seq (.reg false [
tq 5 (.mv (kq 0))] [])
(.block 0 (.loop [0, 3, 5] b_calendar_printMask_1)))
(.seq (.reg false [
tq 17 (.call true true (.k (.fn n_strings_Builder_String [] [])) [.t 3]),
tq 2 (.mv (.t 17))] [3, 17])
.ret))))⟩

def c_message_dashed_1 : CF := ⟨[.tmp 3],
  (.seq (.reg false [
tq 2 (.box ty_message_Line (.t 0)),
tq 3 (.mv (.k (.d (.str []))))] [0, 3])
(.seq (.seq (.reg false [
ld 5 1,
tq 6 (.call true false (.t 5) [.t 2]),
tq 7 (.nilCheck (.t 6)),
ld 8 7,
tq 4 (.mv (.t 8))] [1, 2, 5, 6, 7, 8])
(.seq (.reg false [
tq 9 (.mv (.t 4)),
tq 10 (.bin .neq (.t 9) (.k (.d (.str []))))] [9])
(.cond (.t 10) (.seq (.reg false [
tq 11 (.mv (.t 4)),
tq 3 (.mv (.t 11))] [4, 11])
.ret)
 .skip)))
(.seq (.reg false [
tq 3 (.mv (.k (.d (.str [45]))))] [])
.ret)))⟩

def c_message_dashed_2 : CF := ⟨[.tmp 5],
  (.seq (.reg false [
tq 5 (.mv (.k (.d (.bool false))))] [5])
(.seq (.seq (.reg false [
tq 6 (.mv (.t 1)),
tq 7 (.bin .eql (.t 6) (.k (.d (.str [45]))))] [6])
(.cond (.t 7) (.seq (.reg false [
tq 5 (.mv (.k (.d (.bool true))))] [])
.ret)
 .skip))
(.seq (.reg false [
ld 8 2,
tq 9 (.mv (.t 0)),
tq 10 (.call true false (.t 8) [.t 9]),
tq 11 (.mv (.t 1)),
tq 12 (.nilCheck (.t 10)),
⟨none, none, .store 1 (.t 12) (.t 11)⟩] [0, 2, 8, 9, 10, 11, 12])
(.seq (.reg false [
tq 13 (.mv (.t 1)),
tq 14 (.call false true (.k (.fn n_calendar_IsName [] [])) [.t 13]),
tq 5 (.mv (.t 14))] [1, 13, 14])
.ret))))⟩

def c_strings_Builder_WriteByte : CF := ⟨[.tmp 4],
  (.seq (.reg false [
tq 4 (.mv (.k (.d (.nili))))] [4])
(.seq (.reg false [
tq 5 (.mv (.t 0)),
tq 6 (.call true true (.k (.fn n_strings_Builder_copyCheck [] [])) [.t 5])] [5, 6])
(.seq (.reg false [
tq 7 (.mv (.t 0)),
tq 8 (.mv (.t 0)),
tq 9 (.nilCheck (.t 8)),
fa 10 1 9,
ld 11 10,
tq 12 (.mv (.t 1)),
tq 13 (.mkList 1 1 [.t 12]),
tq 14 (.append ⟨false, ty_uint8, 1, 1⟩ (.t 11) (.t 13)),
tq 15 (.nilCheck (.t 7)),
fa 16 1 15,
⟨none, none, .store 1 (.t 16) (.t 14)⟩] [0, 1, 7, 8, 9, 10, 11, 12, 13, 14, 15, 16])
(.seq (.reg false [
tq 4 (.mv (.k (.d (.nili))))] [])
.ret))))⟩

def codes : List (Nat × CF) := [
  (n_top_TopChockParts, c_top_TopChockParts),
  (n_message_Requests, c_message_Requests),
  (n_message_Changed, c_message_Changed),
  (n_ref02_CheckRequest, c_ref02_CheckRequest),
  (n_top_chockMail, c_top_chockMail),
  (n_calendar_Split, c_calendar_Split),
  (n_calendar_Join, c_calendar_Join),
  (n_ref01_DaysOf, c_ref01_DaysOf),
  (n_top_chockRead, c_top_chockRead),
  (n_top_chockSent, c_top_chockSent),
  (n_calendar_DaysOf, c_calendar_DaysOf),
  (n_ref01_SameInts, c_ref01_SameInts),
  (n_message_PrintMinute, c_message_PrintMinute),
  (n_message_ParseMinute, c_message_ParseMinute),
  (n_message_PrintLine, c_message_PrintLine),
  (n_message_ParseLine, c_message_ParseLine),
  (n_message_PrintMessage, c_message_PrintMessage),
  (n_message_ParseMessage, c_message_ParseMessage),
  (n_message_first, c_message_first),
  (n_message_CheckMessage, c_message_CheckMessage),
  (n_message_when, c_message_when),
  (n_message_step, c_message_step),
  (n_message_checkRequests, c_message_checkRequests),
  (n_message_Changed_1, c_message_Changed_1),
  (n_slices_IndexFunc_Lapi_Request_api_Request, c_slices_IndexFunc_Lapi_Request_api_Request),
  (n_message_Changed_1_1, c_message_Changed_1_1),
  (n_message_twins, c_message_twins),
  (n_message_filtered_api_Request_message_Line, c_message_filtered_api_Request_message_Line),
  (n_message_Changed_2, c_message_Changed_2),
  (n_message_Changed_3, c_message_Changed_3),
  (n_ref01_IsName, c_ref01_IsName),
  (n_ref02_optional, c_ref02_optional),
  (n_ref01_CheckPeriod, c_ref01_CheckPeriod),
  (n_ref01_First, c_ref01_First),
  (n_ref01_CheckRange, c_ref01_CheckRange),
  (n_calendar_CheckPeriod, c_calendar_CheckPeriod),
  (n_calendar_first, c_calendar_first),
  (n_calendar_checkDay, c_calendar_checkDay),
  (n_calendar_when, c_calendar_when),
  (n_calendar_weekOf, c_calendar_weekOf),
  (n_calendar_weekday, c_calendar_weekday),
  (n_slices_Clip_Lapi_Period_api_Period, c_slices_Clip_Lapi_Period_api_Period),
  (n_ref01_Has, c_ref01_Has),
  (n_calendar_collected_int, c_calendar_collected_int),
  (n_calendar_daysOf, c_calendar_daysOf),
  (n_calendar_DaysOf_1, c_calendar_DaysOf_1),
  (n_message_within, c_message_within),
  (n_message_wide, c_message_wide),
  (n_message_number, c_message_number),
  (n_message_CheckLine, c_message_CheckLine),
  (n_message_printLine, c_message_printLine),
  (n_message_fields, c_message_fields),
  (n_strings_Builder_WriteString, c_strings_Builder_WriteString),
  (n_message_texts, c_message_texts),
  (n_strings_CutSuffix, c_strings_CutSuffix),
  (n_message_head, c_message_head),
  (n_message_checkLines, c_message_checkLines),
  (n_message_checkHead, c_message_checkHead),
  (n_message_isMessage, c_message_isMessage),
  (n_message_find, c_message_find),
  (n_message_CheckRequest, c_message_CheckRequest),
  (n_ref01_CheckDay, c_ref01_CheckDay),
  (n_calendar_within, c_calendar_within),
  (n_ref01_InMask, c_ref01_InMask),
  (n_ref01_Weekday, c_ref01_Weekday),
  (n_calendar_daysOf_1, c_calendar_daysOf_1),
  (n_calendar_inMask, c_calendar_inMask),
  (n_message_isAction, c_message_isAction),
  (n_message_text, c_message_text),
  (n_message_fields_1, c_message_fields_1),
  (n_message_fields_2, c_message_fields_2),
  (n_calendar_IsName, c_calendar_IsName),
  (n_message_fields_3, c_message_fields_3),
  (n_message_fields_4, c_message_fields_4),
  (n_message_isKind, c_message_isKind),
  (n_message_fields_5, c_message_fields_5),
  (n_message_digits, c_message_digits),
  (n_message_fields_6, c_message_fields_6),
  (n_message_fields_7, c_message_fields_7),
  (n_message_fields_8, c_message_fields_8),
  (n_calendar_PrintMask, c_calendar_PrintMask),
  (n_message_fields_9, c_message_fields_9),
  (n_calendar_ParseMask, c_calendar_ParseMask),
  (n_message_fields_10, c_message_fields_10),
  (n_message_fields_11, c_message_fields_11),
  (n_message_fields_12, c_message_fields_12),
  (n_message_fields_13, c_message_fields_13),
  (n_message_fields_14, c_message_fields_14),
  (n_message_dashed, c_message_dashed),
  (n_message_fields_15, c_message_fields_15),
  (n_message_fields_16, c_message_fields_16),
  (n_message_texts_1, c_message_texts_1),
  (n_strings_IndexByte, c_strings_IndexByte),
  (n_internal_stringslite_CutSuffix, c_internal_stringslite_CutSuffix),
  (n_message_actions, c_message_actions),
  (n_message_named, c_message_named),
  (n_message_isSeason, c_message_isSeason),
  (n_slices_IndexFunc_Lmessage_Entry_message_Entry, c_slices_IndexFunc_Lmessage_Entry_message_Entry),
  (n_message_find_1, c_message_find_1),
  (n_message_optional, c_message_optional),
  (n_message_text_1, c_message_text_1),
  (n_message_text_2, c_message_text_2),
  (n_message_digits_1, c_message_digits_1),
  (n_message_digits_2, c_message_digits_2),
  (n_calendar_printMask, c_calendar_printMask),
  (n_message_dashed_1, c_message_dashed_1),
  (n_message_dashed_2, c_message_dashed_2),
  (n_strings_Builder_WriteByte, c_strings_Builder_WriteByte)]

def code (f : Nat) : Option CF := findC f codes

theorem code_top_TopChockParts : code n_top_TopChockParts = some c_top_TopChockParts := rfl
theorem code_message_Requests : code n_message_Requests = some c_message_Requests := rfl
theorem code_message_Changed : code n_message_Changed = some c_message_Changed := rfl
theorem code_ref02_CheckRequest : code n_ref02_CheckRequest = some c_ref02_CheckRequest := rfl
theorem code_top_chockMail : code n_top_chockMail = some c_top_chockMail := rfl
theorem code_calendar_Split : code n_calendar_Split = some c_calendar_Split := rfl
theorem code_calendar_Join : code n_calendar_Join = some c_calendar_Join := rfl
theorem code_ref01_DaysOf : code n_ref01_DaysOf = some c_ref01_DaysOf := rfl
theorem code_top_chockRead : code n_top_chockRead = some c_top_chockRead := rfl
theorem code_top_chockSent : code n_top_chockSent = some c_top_chockSent := rfl
theorem code_calendar_DaysOf : code n_calendar_DaysOf = some c_calendar_DaysOf := rfl
theorem code_ref01_SameInts : code n_ref01_SameInts = some c_ref01_SameInts := rfl
theorem code_message_PrintMinute : code n_message_PrintMinute = some c_message_PrintMinute := rfl
theorem code_message_ParseMinute : code n_message_ParseMinute = some c_message_ParseMinute := rfl
theorem code_message_PrintLine : code n_message_PrintLine = some c_message_PrintLine := rfl
theorem code_message_ParseLine : code n_message_ParseLine = some c_message_ParseLine := rfl
theorem code_message_PrintMessage : code n_message_PrintMessage = some c_message_PrintMessage := rfl
theorem code_message_ParseMessage : code n_message_ParseMessage = some c_message_ParseMessage := rfl
theorem code_message_first : code n_message_first = some c_message_first := rfl
theorem code_message_CheckMessage : code n_message_CheckMessage = some c_message_CheckMessage := rfl
theorem code_message_when : code n_message_when = some c_message_when := rfl
theorem code_message_step : code n_message_step = some c_message_step := rfl
theorem code_message_checkRequests : code n_message_checkRequests = some c_message_checkRequests := rfl
theorem code_message_Changed_1 : code n_message_Changed_1 = some c_message_Changed_1 := rfl
theorem code_slices_IndexFunc_Lapi_Request_api_Request : code n_slices_IndexFunc_Lapi_Request_api_Request = some c_slices_IndexFunc_Lapi_Request_api_Request := rfl
theorem code_message_Changed_1_1 : code n_message_Changed_1_1 = some c_message_Changed_1_1 := rfl
theorem code_message_twins : code n_message_twins = some c_message_twins := rfl
theorem code_message_filtered_api_Request_message_Line : code n_message_filtered_api_Request_message_Line = some c_message_filtered_api_Request_message_Line := rfl
theorem code_message_Changed_2 : code n_message_Changed_2 = some c_message_Changed_2 := rfl
theorem code_message_Changed_3 : code n_message_Changed_3 = some c_message_Changed_3 := rfl
theorem code_ref01_IsName : code n_ref01_IsName = some c_ref01_IsName := rfl
theorem code_ref02_optional : code n_ref02_optional = some c_ref02_optional := rfl
theorem code_ref01_CheckPeriod : code n_ref01_CheckPeriod = some c_ref01_CheckPeriod := rfl
theorem code_ref01_First : code n_ref01_First = some c_ref01_First := rfl
theorem code_ref01_CheckRange : code n_ref01_CheckRange = some c_ref01_CheckRange := rfl
theorem code_calendar_CheckPeriod : code n_calendar_CheckPeriod = some c_calendar_CheckPeriod := rfl
theorem code_calendar_first : code n_calendar_first = some c_calendar_first := rfl
theorem code_calendar_checkDay : code n_calendar_checkDay = some c_calendar_checkDay := rfl
theorem code_calendar_when : code n_calendar_when = some c_calendar_when := rfl
theorem code_calendar_weekOf : code n_calendar_weekOf = some c_calendar_weekOf := rfl
theorem code_calendar_weekday : code n_calendar_weekday = some c_calendar_weekday := rfl
theorem code_slices_Clip_Lapi_Period_api_Period : code n_slices_Clip_Lapi_Period_api_Period = some c_slices_Clip_Lapi_Period_api_Period := rfl
theorem code_ref01_Has : code n_ref01_Has = some c_ref01_Has := rfl
theorem code_calendar_collected_int : code n_calendar_collected_int = some c_calendar_collected_int := rfl
theorem code_calendar_daysOf : code n_calendar_daysOf = some c_calendar_daysOf := rfl
theorem code_calendar_DaysOf_1 : code n_calendar_DaysOf_1 = some c_calendar_DaysOf_1 := rfl
theorem code_message_within : code n_message_within = some c_message_within := rfl
theorem code_message_wide : code n_message_wide = some c_message_wide := rfl
theorem code_message_number : code n_message_number = some c_message_number := rfl
theorem code_message_CheckLine : code n_message_CheckLine = some c_message_CheckLine := rfl
theorem code_message_printLine : code n_message_printLine = some c_message_printLine := rfl
theorem code_message_fields : code n_message_fields = some c_message_fields := rfl
theorem code_strings_Builder_WriteString : code n_strings_Builder_WriteString = some c_strings_Builder_WriteString := rfl
theorem code_message_texts : code n_message_texts = some c_message_texts := rfl
theorem code_strings_CutSuffix : code n_strings_CutSuffix = some c_strings_CutSuffix := rfl
theorem code_message_head : code n_message_head = some c_message_head := rfl
theorem code_message_checkLines : code n_message_checkLines = some c_message_checkLines := rfl
theorem code_message_checkHead : code n_message_checkHead = some c_message_checkHead := rfl
theorem code_message_isMessage : code n_message_isMessage = some c_message_isMessage := rfl
theorem code_message_find : code n_message_find = some c_message_find := rfl
theorem code_message_CheckRequest : code n_message_CheckRequest = some c_message_CheckRequest := rfl
theorem code_ref01_CheckDay : code n_ref01_CheckDay = some c_ref01_CheckDay := rfl
theorem code_calendar_within : code n_calendar_within = some c_calendar_within := rfl
theorem code_ref01_InMask : code n_ref01_InMask = some c_ref01_InMask := rfl
theorem code_ref01_Weekday : code n_ref01_Weekday = some c_ref01_Weekday := rfl
theorem code_calendar_daysOf_1 : code n_calendar_daysOf_1 = some c_calendar_daysOf_1 := rfl
theorem code_calendar_inMask : code n_calendar_inMask = some c_calendar_inMask := rfl
theorem code_message_isAction : code n_message_isAction = some c_message_isAction := rfl
theorem code_message_text : code n_message_text = some c_message_text := rfl
theorem code_message_fields_1 : code n_message_fields_1 = some c_message_fields_1 := rfl
theorem code_message_fields_2 : code n_message_fields_2 = some c_message_fields_2 := rfl
theorem code_calendar_IsName : code n_calendar_IsName = some c_calendar_IsName := rfl
theorem code_message_fields_3 : code n_message_fields_3 = some c_message_fields_3 := rfl
theorem code_message_fields_4 : code n_message_fields_4 = some c_message_fields_4 := rfl
theorem code_message_isKind : code n_message_isKind = some c_message_isKind := rfl
theorem code_message_fields_5 : code n_message_fields_5 = some c_message_fields_5 := rfl
theorem code_message_digits : code n_message_digits = some c_message_digits := rfl
theorem code_message_fields_6 : code n_message_fields_6 = some c_message_fields_6 := rfl
theorem code_message_fields_7 : code n_message_fields_7 = some c_message_fields_7 := rfl
theorem code_message_fields_8 : code n_message_fields_8 = some c_message_fields_8 := rfl
theorem code_calendar_PrintMask : code n_calendar_PrintMask = some c_calendar_PrintMask := rfl
theorem code_message_fields_9 : code n_message_fields_9 = some c_message_fields_9 := rfl
theorem code_calendar_ParseMask : code n_calendar_ParseMask = some c_calendar_ParseMask := rfl
theorem code_message_fields_10 : code n_message_fields_10 = some c_message_fields_10 := rfl
theorem code_message_fields_11 : code n_message_fields_11 = some c_message_fields_11 := rfl
theorem code_message_fields_12 : code n_message_fields_12 = some c_message_fields_12 := rfl
theorem code_message_fields_13 : code n_message_fields_13 = some c_message_fields_13 := rfl
theorem code_message_fields_14 : code n_message_fields_14 = some c_message_fields_14 := rfl
theorem code_message_dashed : code n_message_dashed = some c_message_dashed := rfl
theorem code_message_fields_15 : code n_message_fields_15 = some c_message_fields_15 := rfl
theorem code_message_fields_16 : code n_message_fields_16 = some c_message_fields_16 := rfl
theorem code_message_texts_1 : code n_message_texts_1 = some c_message_texts_1 := rfl
theorem code_strings_IndexByte : code n_strings_IndexByte = some c_strings_IndexByte := rfl
theorem code_internal_stringslite_CutSuffix : code n_internal_stringslite_CutSuffix = some c_internal_stringslite_CutSuffix := rfl
theorem code_message_actions : code n_message_actions = some c_message_actions := rfl
theorem code_message_named : code n_message_named = some c_message_named := rfl
theorem code_message_isSeason : code n_message_isSeason = some c_message_isSeason := rfl
theorem code_slices_IndexFunc_Lmessage_Entry_message_Entry : code n_slices_IndexFunc_Lmessage_Entry_message_Entry = some c_slices_IndexFunc_Lmessage_Entry_message_Entry := rfl
theorem code_message_find_1 : code n_message_find_1 = some c_message_find_1 := rfl
theorem code_message_optional : code n_message_optional = some c_message_optional := rfl
theorem code_message_text_1 : code n_message_text_1 = some c_message_text_1 := rfl
theorem code_message_text_2 : code n_message_text_2 = some c_message_text_2 := rfl
theorem code_message_digits_1 : code n_message_digits_1 = some c_message_digits_1 := rfl
theorem code_message_digits_2 : code n_message_digits_2 = some c_message_digits_2 := rfl
theorem code_calendar_printMask : code n_calendar_printMask = some c_calendar_printMask := rfl
theorem code_message_dashed_1 : code n_message_dashed_1 = some c_message_dashed_1 := rfl
theorem code_message_dashed_2 : code n_message_dashed_2 = some c_message_dashed_2 := rfl
theorem code_strings_Builder_WriteByte : code n_strings_Builder_WriteByte = some c_strings_Builder_WriteByte := rfl

def globs : Globs := [(1, [.int .u64 1, .int .u64 10, .int .u64 100, .int .u64 1000, .int .u64 10000, .int .u64 100000, .int .u64 1000000, .int .u64 10000000, .int .u64 100000000, .int .u64 1000000000, .int .u64 10000000000, .int .u64 100000000000, .int .u64 1000000000000, .int .u64 10000000000000, .int .u64 100000000000000, .int .u64 1000000000000000, .int .u64 10000000000000000, .int .u64 100000000000000000, .int .u64 1000000000000000000, .int .u64 10000000000000000000])]

end Go.Proofs.YtlnlcdnpgjhaaabGreatDoor.Co
