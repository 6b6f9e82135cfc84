/-
  The functions of the seat in the evaluator's syntax (printed by a program of mine; checked in a text that follows).
-/
import Derived.Test.YtlnlcdnpgjhaaaaGreatDoorEvE
namespace Go.Proofs.YtlnlcdnpgjhaaaaGreatDoor.Co
open Go.Evl

def n_law05_PriorityOrders : Nat := 3
def n_ref05_Short : Nat := 6
def n_ref05_ShortClaims : Nat := 7
def n_ref05_CheckProgram : Nat := 8
def n_ref05_CheckClaims : Nat := 9
def n_law05_awake : Nat := 10
def n_priority_Rank : Nat := 11
def n_law05_program : Nat := 12
def n_law05_claims : Nat := 13
def n_priority_Why : Nat := 14
def n_ref01_IsOrder : Nat := 15
def n_priority_CheckRank : Nat := 16
def n_priority_ClassOf : Nat := 17
def n_priority_Compare : Nat := 18
def n_priority_Parse : Nat := 19
def n_ref05_Same : Nat := 21
def n_law05_own : Nat := 22
def n_priority_Print : Nat := 23
def n_ref02_Brief : Nat := 24
def n_ref05_added : Nat := 25
def n_ref05_CheckPool : Nat := 26
def n_ref05_CheckClaim : Nat := 27
def n_priority_Default : Nat := 28
def n_law05_sample : Nat := 29
def n_ref01_SameInts : Nat := 30
def n_ref01_SameWords : Nat := 31
def n_priority_Interleave : Nat := 32
def n_priority_Lots : Nat := 33
def n_priority_Fact : Nat := 34
def n_priority_Newcomer : Nat := 35
def n_ref01_DaysOf : Nat := 36
def n_priority_checkRanking : Nat := 37
def n_priority_ranked : Nat := 38
def n_priority_ranking_order : Nat := 39
def n_priority_ranking_compare : Nat := 40
def n_priority_first : Nat := 41
def n_priority_when : Nat := 42
def n_slices_Equal_Lint_int : Nat := 43
def n_priority_CheckProgram : Nat := 44
def n_priority_CheckClaim : Nat := 45
def n_priority_Program_classOf : Nat := 46
def n_priority_Program_decide : Nat := 47
def n_strings_SplitAfter : Nat := 48
def n_priority_Program_line : Nat := 49
def n_priority_Print_1 : Nat := 54
def n_strings_Builder_WriteString : Nat := 55
def n_priority_Key_sign : Nat := 58
def n_ref05_CheckClass : Nat := 60
def n_ref01_First : Nat := 61
def n_ref01_CheckRange : Nat := 62
def n_ref02_CheckRequest : Nat := 63
def n_priority_within : Nat := 64
def n_priority_interleaved : Nat := 65
def n_priority_checkKey : Nat := 66
def n_priority_checkClaims : Nat := 67
def n_priority_lots : Nat := 68
def n_priority_known : Nat := 69
def n_calendar_IsName : Nat := 70
def n_priority_each_api_Request : Nat := 71
def n_priority_Newcomer_1 : Nat := 72
def n_slices_ContainsFunc_Lapi_Request_api_Request : Nat := 73
def n_priority_Newcomer_1_1 : Nat := 74
def n_message_CheckRequest : Nat := 75
def n_calendar_Has : Nat := 76
def n_priority_bit : Nat := 77
def n_ref01_Has : Nat := 78
def n_priority_indices : Nat := 79
def n_slices_SortFunc_Lint_int : Nat := 80
def n_priority_ranking_order_1 : Nat := 81
def n_slices_IndexFunc_Lint_int : Nat := 82
def n_priority_ranking_order_2 : Nat := 83
def n_slices_Clone_Lint_int : Nat := 84
def n_cmp_Compare_int : Nat := 85
def n_priority_each_priority_Class : Nat := 86
def n_priority_added : Nat := 87
def n_priority_Program_pool : Nat := 88
def n_priority_holds : Nat := 89
def n_priority_Program_keys : Nat := 90
def n_strings_CutSuffix : Nat := 92
def n_slices_Contains_Lstring_string : Nat := 94
def n_priority_reader_next : Nat := 95
def n_priority_reader_class : Nat := 96
def n_priority_reader_pool : Nat := 97
def n_ref01_IsName : Nat := 105
def n_ref05_CheckTest : Nat := 106
def n_ref01_HasWord : Nat := 107
def n_ref05_Facts : Nat := 108
def n_ref02_optional : Nat := 109
def n_ref01_CheckPeriod : Nat := 110
def n_priority_each_priority_Claim : Nat := 111
def n_priority_checkClaims_1 : Nat := 112
def n_slices_ContainsFunc_Lpriority_Claim_priority_Claim : Nat := 113
def n_priority_checkClaims_1_1 : Nat := 114
def n_priority_lots_1 : Nat := 115
def n_cmp_Compare_string : Nat := 116
def n_calendar_Draw : Nat := 117
def n_priority_facts : Nat := 118
def n_slices_IndexFunc_Lapi_Request_api_Request : Nat := 119
def n_message_first : Nat := 120
def n_message_named : Nat := 121
def n_message_optional : Nat := 122
def n_message_when : Nat := 123
def n_message_isKind : Nat := 124
def n_calendar_CheckPeriod : Nat := 125
def n_message_within : Nat := 126
def n_calendar_first : Nat := 127
def n_calendar_checkDay : Nat := 128
def n_calendar_has : Nat := 129
def n_ref01_InMask : Nat := 130
def n_ref01_Weekday : Nat := 131
def n_slices_pdqsortCmpFunc_int : Nat := 132
def n_math_bits_Len : Nat := 133
def n_cmp_isNaN_int : Nat := 134
def n_slices_ContainsFunc_Lpriority_Class_priority_Class : Nat := 135
def n_priority_added_1 : Nat := 136
def n_priority_Class_check : Nat := 137
def n_priority_Program_keys_1 : Nat := 138
def n_internal_stringslite_CutSuffix : Nat := 142
def n_slices_Index_Lstring_string : Nat := 143
def n_priority_all_priority_Test : Nat := 144
def n_priority_test : Nat := 145
def n_priority_all_priority_Key : Nat := 146
def n_priority_key : Nat := 147
def n_priority_integer : Nat := 148
def n_ref01_CheckDay : Nat := 152
def n_slices_IndexFunc_Lpriority_Claim_priority_Claim : Nat := 153
def n_cmp_isNaN_string : Nat := 154
def n_calendar_within : Nat := 155
def n_priority_facts_1 : Nat := 156
def n_priority_facts_2 : Nat := 157
def n_priority_facts_3 : Nat := 158
def n_priority_facts_4 : Nat := 159
def n_priority_facts_5 : Nat := 160
def n_calendar_Count : Nat := 161
def n_priority_facts_6 : Nat := 162
def n_priority_facts_7 : Nat := 163
def n_priority_facts_8 : Nat := 164
def n_priority_facts_9 : Nat := 165
def n_priority_facts_10 : Nat := 166
def n_calendar_when : Nat := 167
def n_calendar_inMask : Nat := 168
def n_calendar_weekday : Nat := 169
def n_slices_insertionSortCmpFunc_int : Nat := 170
def n_math_bits_Len32 : Nat := 178
def n_math_bits_Len64 : Nat := 179
def n_slices_IndexFunc_Lpriority_Class_priority_Class : Nat := 180
def n_priority_each_priority_Test : Nat := 181
def n_priority_Class_check_1 : Nat := 182
def n_priority_Test_check : Nat := 183
def n_priority_each_priority_Key : Nat := 184
def n_priority_Class_check_2 : Nat := 185
def n_slices_ContainsFunc_Lpriority_Key_priority_Key : Nat := 186
def n_priority_Class_check_2_1 : Nat := 187
def n_priority_Facts : Nat := 188
def n_calendar_DaysOf : Nat := 201
def n_slices_IndexFunc_Lpriority_Key_priority_Key : Nat := 207
def n_calendar_collected_int : Nat := 223
def n_calendar_daysOf : Nat := 224
def n_calendar_DaysOf_1 : Nat := 225
def n_calendar_daysOf_1 : Nat := 238
def n_strings_Join : Nat := 56
def n_strconv_Itoa : Nat := 57
def n_strings_Builder_String : Nat := 59
def n_strings_genSplit : Nat := 91
def n_strings_Split : Nat := 93
def n_strings_Builder_copyCheck : Nat := 102
def n_slices_heapSortCmpFunc_int : Nat := 171
def n_slices_breakPatternsCmpFunc_int : Nat := 172
def n_slices_choosePivotCmpFunc_int : Nat := 173
def n_slices_reverseRangeCmpFunc_int : Nat := 174
def n_slices_partialInsertionSortCmpFunc_int : Nat := 175
def n_slices_partitionEqualCmpFunc_int : Nat := 176
def n_slices_partitionCmpFunc_int : Nat := 177
def n_internal_stringslite_HasSuffix : Nat := 193
def n_strings_IndexAny : Nat := 194
def n_strconv_Atoi : Nat := 195
def n_internal_stringslite_IndexByte : Nat := 209
def ty_int : Nat := 3
def ty_bool : Nat := 4
def ty_uint8 : Nat := 5
def ty_string : Nat := 9
def ty_turnroundref05_Program : Nat := 24
def ty_Lint : Nat := 32
def ty_priority_Program : Nat := 38
def ty_Lpriority_Claim : Nat := 40
def ty_api_Period : Nat := 48
def ty_api_Request : Nat := 50
def ty_turnroundref05_Claim : Nat := 52
def ty_priority_Claim : Nat := 55
def ty_turnroundref05_Class : Nat := 71
def ty_turnroundref05_Test : Nat := 73
def ty_turnroundref05_Key : Nat := 75
def ty_priority_ranking : Nat := 92
def ty_priority_Class : Nat := 98
def ty_priority_Test : Nat := 99
def ty_priority_Key : Nat := 100
def ty_strings_Builder : Nat := 122
def ty_priority_fact : Nat := 141
def ty_func_int_bool : Nat := 157
def ty_priority_reader : Nat := 172
def ty_2_Lint : Nat := 188
def ty_3_int : Nat := 216

def b_law05_PriorityOrders_1 : C :=
  (.seq (.reg false [
tq 121 (.bin .lss (.t 120) (.t 119))] [])
(.seq (.cond (.t 121) .skip
 (.exit 0))
(.seq (.block 1 (.seq (.reg false [
tq 122 (.idxAddr 18 (.t 118) (.t 120)),
tq 123 (.load (some 18) (.t 122)),
tq 14 (.alloc ty_turnroundref05_Claim [.z (.str []), .z (.str []), .z (.str []), .z (.str []), .z (.str []), .z (.str []), .z (.int .i64 0), .z (.int .i64 0), .z (.int .i64 0), .z (.int .i64 0), .z (.int .i64 0), .z (.int .i64 0), .z (.int .i64 0), .z (.bool false), .z (.bool false), .z (.bool false), .z (.bool false), .z (.int .i64 0)]),
⟨none, none, .store 18 (.t 14) (.t 123)⟩] [122, 123])
(.reg false [
tq 124 (.load (some 18) (.t 14)),
tq 125 (.mkRow ⟨false, ty_turnroundref05_Claim, 18, 168⟩ 1 [.t 124]),
tq 126 (.mv (.t 12)),
tq 127 (.append ⟨false, ty_turnroundref05_Claim, 18, 168⟩ (.t 125) (.t 126)),
tq 12 (.mv (.t 127))] [14, 124, 125, 126, 127])))
(.reg false [
tq 128 (.bin .add (.t 120) (kq 1)),
tq 120 (.mv (.t 128))] [128]))))

def b_law05_PriorityOrders_2 : C :=
  (.seq (.reg false [
tq 155 (.bin .lss (.t 154) (.t 153))] [])
(.seq (.cond (.t 155) .skip
 (.exit 2))
(.seq (.block 3 (.seq (.reg false [
tq 156 (.mv (.t 154)),
tq 157 (.idxAddr 1 (.t 152) (.t 154)),
ld 158 157,
tq 18 (.mv (.t 156)),
tq 19 (.mv (.t 158))] [156, 157, 158])
(.seq (.seq (.reg true [
tq 159 (.mv (.t 12)),
tq 160 (.mv (.t 15)),
tq 161 (.mv (.t 18)),
tq 162 (.idxAddr 1 (.t 160) (.t 161)),
ld 163 162,
tq 164 (.idxAddr 18 (.t 159) (.t 163)),
fa 165 0 164,
fa 166 0 165,
ld 167 166,
tq 168 (.mv (.t 1)),
tq 169 (.mv (.t 19)),
tq 170 (.idxAddr 18 (.t 168) (.t 169)),
fa 171 0 170,
fa 172 0 171,
ld 173 172,
tq 174 (.bin .neq (.t 167) (.t 173))] [159, 160, 161, 162, 163, 164, 165, 166, 167, 168, 169, 170, 171, 172, 173])
(.cond (.t 174) (.seq (.reg false [
tq 6 (.mv (.k (.d (.bool false))))] [])
.ret)
 .skip))
(.seq (.reg true [
tq 176 (.load (some 4) (.t 3)),
tq 177 (.call false true (.k (.fn n_law05_program [] [])) [.t 176]),
tq 178 (.mv (.t 1)),
tq 179 (.mv (.t 19)),
tq 180 (.idxAddr 18 (.t 178) (.t 179)),
tq 181 (.load (some 18) (.t 180)),
tq 182 (.call false true (.k (.fn n_priority_ClassOf [] [])) [.t 177, .t 181]),
tq 175 (.mv (.t 182)),
tq 183 (.extract (.t 175) 0),
tq 184 (.extract (.t 175) 1),
tq 20 (.mv (.t 183)),
tq 21 (.mv (.t 184))] [175, 176, 177, 178, 179, 180, 181, 182, 183, 184])
(.seq (.seq (.reg false [
tq 185 (.mv (.t 21)),
tq 186 (.bin .neq (.t 185) (kq 0)),
tq 187 (.mv (.t 186)),
⟨some 188, (some (187, false)), .mv (.t 17)⟩,
⟨some 189, (some (187, false)), .mv (.t 188)⟩,
⟨some 190, (some (189, true)), .mv (.t 20)⟩,
⟨some 191, (some (189, true)), .fieldAddr 1 (.t 3)⟩,
⟨some 192, (some (189, true)), .load none (.t 191)⟩,
⟨some 193, (some (189, true)), .bin .lss (.t 190) (.t 192)⟩,
⟨some 194, (some (187, false)), .pick (.t 189) (.t 193) (.k (.d (.bool false)))⟩,
tq 195 (.pick (.t 187) (.k (.d (.bool true))) (.t 194))] [21, 185, 186, 187, 188, 189, 190, 191, 192, 193, 194])
(.cond (.t 195) (.seq (.reg false [
tq 6 (.mv (.k (.d (.bool false))))] [])
.ret)
 .skip))
(.seq (.reg false [
tq 196 (.mv (.t 17)),
tq 197 (.mv (.t 196)),
⟨some 198, (some (197, false)), .mv (.t 20)⟩,
⟨some 199, (some (197, false)), .fieldAddr 1 (.t 3)⟩,
⟨some 200, (some (197, false)), .load none (.t 199)⟩,
⟨some 201, (some (197, false)), .bin .geq (.t 198) (.t 200)⟩,
tq 202 (.pick (.t 197) (.k (.d (.bool true))) (.t 201)),
tq 17 (.mv (.t 202))] [20, 196, 197, 198, 199, 200, 201, 202])
(.seq (.seq (.reg false [
tq 203 (.mv (.t 18)),
tq 204 (.bin .eql (.t 203) (kq 0))] [203])
(.cond (.t 204) (.exit 3)
 .skip))
(.seq (.reg false [
tq 205 (.mkRow ⟨true, ty_int, 1, 8⟩ 0 []),
tq 206 (.mv (.t 8)),
tq 207 (.append ⟨true, ty_int, 1, 8⟩ (.t 205) (.t 206)),
tq 22 (.mv (.t 207))] [205, 206, 207])
(.seq (.reg true [
tq 208 (.mv (.t 22)),
tq 209 (.mv (.t 18)),
tq 210 (.bin .sub (.t 209) (kq 1)),
tq 211 (.mv (.t 22)),
tq 212 (.mv (.t 18)),
tq 213 (.mv (.t 22)),
tq 214 (.mv (.t 18)),
tq 215 (.idxAddr 1 (.t 213) (.t 214)),
ld 216 215,
tq 217 (.mv (.t 22)),
tq 218 (.mv (.t 18)),
tq 219 (.bin .sub (.t 218) (kq 1)),
tq 220 (.idxAddr 1 (.t 217) (.t 219)),
ld 221 220,
tq 222 (.idxAddr 1 (.t 208) (.t 210)),
⟨none, none, .store 1 (.t 222) (.t 216)⟩,
tq 223 (.idxAddr 1 (.t 211) (.t 212)),
⟨none, none, .store 1 (.t 223) (.t 221)⟩] [208, 209, 210, 211, 212, 213, 214, 215, 216, 217, 218, 219, 220, 221, 222, 223])
(.seq (.seq (.reg false [
tq 224 (.load (some 4) (.t 3)),
tq 225 (.call false true (.k (.fn n_law05_program [] [])) [.t 224]),
tq 226 (.mv (.t 7)),
tq 227 (.mv (.t 1)),
tq 228 (.call false true (.k (.fn n_law05_claims [] [])) [.t 227]),
tq 229 (.mv (.t 22)),
tq 230 (.call true true (.k (.fn n_priority_CheckRank [] [])) [.t 225, .t 226, .t 228, .t 229]),
tq 231 (.bin .neq (.t 230) (kq 21))] [22, 224, 225, 226, 227, 228, 229, 230])
(.cond (.t 231) (.seq (.reg false [
tq 6 (.mv (.k (.d (.bool false))))] [])
.ret)
 .skip))
(.seq (.reg true [
tq 233 (.load (some 4) (.t 3)),
tq 234 (.call false true (.k (.fn n_law05_program [] [])) [.t 233]),
tq 235 (.mv (.t 1)),
tq 236 (.mv (.t 8)),
tq 237 (.mv (.t 18)),
tq 238 (.bin .sub (.t 237) (kq 1)),
tq 239 (.idxAddr 1 (.t 236) (.t 238)),
ld 240 239,
tq 241 (.idxAddr 18 (.t 235) (.t 240)),
tq 242 (.load (some 18) (.t 241)),
tq 243 (.mv (.t 1)),
tq 244 (.mv (.t 19)),
tq 245 (.idxAddr 18 (.t 243) (.t 244)),
tq 246 (.load (some 18) (.t 245)),
tq 247 (.call false true (.k (.fn n_priority_Compare [] [])) [.t 234, .t 242, .t 246]),
tq 232 (.mv (.t 247)),
tq 248 (.extract (.t 232) 0),
tq 249 (.extract (.t 232) 1),
tq 23 (.mv (.t 248)),
tq 24 (.mv (.t 249))] [19, 232, 233, 234, 235, 236, 237, 238, 239, 240, 241, 242, 243, 244, 245, 246, 247, 248, 249])
(.seq (.reg false [
tq 250 (.mv (.t 24)),
tq 251 (.bin .neq (.t 250) (kq 0)),
tq 252 (.mv (.t 251)),
⟨some 253, (some (252, false)), .mv (.t 10)⟩,
⟨some 254, (some (252, false)), .mv (.t 18)⟩,
⟨some 255, (some (252, false)), .bin .sub (.t 254) (kq 1)⟩,
⟨some 256, (some (252, false)), .idxAddr 1 (.t 253) (.t 255)⟩,
⟨some 257, (some (252, false)), .load none (.t 256)⟩,
⟨some 258, (some (252, false)), .bin .eql (.t 257) (.k (.d (.str [108, 111, 116])))⟩,
⟨some 259, (some (252, false)), .mv (.t 258)⟩,
⟨some 260, (some (259, true)), .mv (.t 23)⟩,
⟨some 261, (some (259, true)), .bin .neq (.t 260) (kq 0)⟩,
⟨some 262, (some (252, false)), .pick (.t 259) (.t 261) (.k (.d (.bool false)))⟩,
tq 263 (.pick (.t 252) (.k (.d (.bool true))) (.t 262)),
tq 264 (.mv (.t 263)),
⟨some 265, (some (264, false)), .mv (.t 10)⟩,
⟨some 266, (some (264, false)), .mv (.t 18)⟩,
⟨some 267, (some (264, false)), .bin .sub (.t 266) (kq 1)⟩,
⟨some 268, (some (264, false)), .idxAddr 1 (.t 265) (.t 267)⟩,
⟨some 269, (some (264, false)), .load none (.t 268)⟩,
⟨some 270, (some (264, false)), .bin .neq (.t 269) (.k (.d (.str [108, 111, 116])))⟩,
⟨some 271, (some (264, false)), .mv (.t 270)⟩,
⟨some 272, (some (271, true)), .mv (.t 10)⟩,
⟨some 273, (some (271, true)), .mv (.t 18)⟩,
⟨some 274, (some (271, true)), .bin .sub (.t 273) (kq 1)⟩,
⟨some 275, (some (271, true)), .idxAddr 1 (.t 272) (.t 274)⟩,
⟨some 276, (some (271, true)), .load none (.t 275)⟩,
⟨some 277, (some (271, true)), .bin .neq (.t 276) (.k (.d (.str [115, 104, 97, 114, 101])))⟩,
⟨some 278, (some (264, false)), .pick (.t 271) (.t 277) (.k (.d (.bool false)))⟩,
⟨some 279, (some (264, false)), .mv (.t 278)⟩,
⟨some 280, (some (279, true)), .mv (.t 23)⟩,
⟨some 281, (some (279, true)), .bin .neq (.t 280) (kq (-1))⟩,
⟨some 282, (some (264, false)), .pick (.t 279) (.t 281) (.k (.d (.bool false)))⟩,
tq 283 (.pick (.t 264) (.k (.d (.bool true))) (.t 282)),
tq 284 (.mv (.t 283)),
⟨some 285, (some (284, false)), .mv (.t 10)⟩,
⟨some 286, (some (284, false)), .mv (.t 18)⟩,
⟨some 287, (some (284, false)), .bin .sub (.t 286) (kq 1)⟩,
⟨some 288, (some (284, false)), .idxAddr 1 (.t 285) (.t 287)⟩,
⟨some 289, (some (284, false)), .load none (.t 288)⟩,
⟨some 290, (some (284, false)), .bin .eql (.t 289) (.k (.d (.str [115, 104, 97, 114, 101])))⟩,
⟨some 291, (some (284, false)), .mv (.t 290)⟩,
⟨some 292, (some (291, true)), .mv (.t 23)⟩,
⟨some 293, (some (291, true)), .bin .eql (.t 292) (kq (-1))⟩,
⟨some 294, (some (284, false)), .pick (.t 291) (.t 293) (.k (.d (.bool false)))⟩,
tq 295 (.pick (.t 284) (.k (.d (.bool true))) (.t 294))] [18, 23, 24, 250, 251, 252, 253, 254, 255, 256, 257, 258, 259, 260, 261, 262, 263, 264, 265, 266, 267, 268, 269, 270, 271, 272, 273, 274, 275, 276, 277, 278, 279, 280, 281, 282, 283, 284, 285, 286, 287, 288, 289, 290, 291, 292, 293, 294])
(.cond (.t 295) (.seq (.reg false [
tq 6 (.mv (.k (.d (.bool false))))] [])
.ret)
 .skip)))))))))))))
(.reg false [
tq 296 (.bin .add (.t 154) (kq 1)),
tq 154 (.mv (.t 296))] [296]))))

def b_law05_PriorityOrders_3 : C :=
  (.seq (.reg false [
tq 333 (.bin .lss (.t 332) (.t 331))] [])
(.seq (.cond (.t 333) .skip
 (.exit 6))
(.seq (.block 7 (.seq (.reg false [
tq 334 (.mv (.t 332)),
tq 29 (.mv (.t 334))] [334])
(.seq (.reg true [
tq 335 (.mv (.t 1)),
tq 336 (.mv (.t 26)),
tq 337 (.mv (.t 29)),
tq 338 (.idxAddr 1 (.t 336) (.t 337)),
ld 339 338,
tq 340 (.idxAddr 18 (.t 335) (.t 339)),
tq 341 (.load (some 18) (.t 340)),
tq 342 (.mv (.t 1)),
tq 343 (.mv (.t 26)),
tq 344 (.mv (.t 28)),
tq 345 (.idxAddrD 1 (.t 343) (.t 344)),
tq 346 (.loadD none (.t 345)),
tq 347 (.idxAddrD 18 (.t 342) (.t 346)),
tq 348 (.loadD (some 18) (.t 347)),
tq 30 (.alloc ty_turnroundref05_Claim [.z (.str []), .z (.str []), .z (.str []), .z (.str []), .z (.str []), .z (.str []), .z (.int .i64 0), .z (.int .i64 0), .z (.int .i64 0), .z (.int .i64 0), .z (.int .i64 0), .z (.int .i64 0), .z (.int .i64 0), .z (.bool false), .z (.bool false), .z (.bool false), .z (.bool false), .z (.int .i64 0)]),
tq 31 (.alloc ty_turnroundref05_Claim [.z (.str []), .z (.str []), .z (.str []), .z (.str []), .z (.str []), .z (.str []), .z (.int .i64 0), .z (.int .i64 0), .z (.int .i64 0), .z (.int .i64 0), .z (.int .i64 0), .z (.int .i64 0), .z (.int .i64 0), .z (.bool false), .z (.bool false), .z (.bool false), .z (.bool false), .z (.int .i64 0)]),
⟨none, none, .store 18 (.t 30) (.t 341)⟩,
⟨none, none, .store 18 (.t 31) (.t 348)⟩] [29, 335, 336, 337, 338, 339, 340, 341, 342, 343, 344, 345, 346, 347, 348])
(.seq (.reg false [
tq 350 (.load (some 4) (.t 25)),
tq 351 (.load (some 18) (.t 30)),
tq 352 (.load (some 18) (.t 31)),
tq 353 (.call false true (.k (.fn n_priority_Compare [] [])) [.t 350, .t 351, .t 352]),
tq 349 (.mv (.t 353)),
tq 354 (.extract (.t 349) 0),
tq 355 (.extract (.t 349) 1),
tq 32 (.mv (.t 354)),
tq 33 (.mv (.t 355))] [30, 31, 349, 350, 351, 352, 353, 354, 355])
(.seq (.reg false [
tq 356 (.mv (.t 33)),
tq 357 (.bin .neq (.t 356) (kq 0)),
tq 358 (.mv (.t 357)),
⟨some 359, (some (358, false)), .mv (.t 32)⟩,
⟨some 360, (some (358, false)), .bin .gtr (.t 359) (kq 0)⟩,
tq 361 (.pick (.t 358) (.k (.d (.bool true))) (.t 360))] [32, 33, 356, 357, 358, 359, 360])
(.cond (.t 361) (.seq (.reg false [
tq 6 (.mv (.k (.d (.bool false))))] [])
.ret)
 .skip))))))
(.reg false [
tq 362 (.bin .add (.t 332) (kq 1)),
tq 332 (.mv (.t 362))] [362]))))

def b_law05_PriorityOrders_4 : C :=
  (.seq (.reg false [
tq 329 (.bin .lss (.t 328) (.t 327))] [])
(.seq (.cond (.t 329) .skip
 (.exit 4))
(.seq (.block 5 (.seq (.reg false [
tq 330 (.mv (.t 328)),
tq 28 (.mv (.t 330))] [330])
(.seq (.reg false [
tq 331 (.mv (.t 28)),
tq 332 (.mv (kq 0))] [])
(.block 6 (.loop [1, 25, 26, 28, 327, 328, 331, 332] b_law05_PriorityOrders_3)))))
(.reg false [
tq 363 (.bin .add (.t 328) (kq 1)),
tq 328 (.mv (.t 363))] [363]))))

def c_law05_PriorityOrders : CF := ⟨[.tmp 6],
  (.seq (.reg false [
tq 3 (.box ty_turnroundref05_Program (.t 0)),
tq 6 (.mv (.k (.d (.bool false))))] [0, 6])
(.seq (.seq (.reg false [
tq 34 (.load (some 4) (.t 3)),
tq 35 (.call false true (.k (.fn n_ref05_Short [] [])) [.t 34]),
tq 36 (.un .not (.t 35)),
tq 37 (.mv (.t 36)),
⟨some 38, (some (37, false)), .mv (.t 1)⟩,
⟨some 39, (some (37, false)), .call false true (.k (.fn n_ref05_ShortClaims [] [])) [.t 38, kq 7]⟩,
⟨some 40, (some (37, false)), .un .not (.t 39)⟩,
tq 41 (.pick (.t 37) (.k (.d (.bool true))) (.t 40)),
tq 42 (.mv (.t 41)),
⟨some 43, (some (42, false)), .mv (.t 1)⟩,
⟨some 44, (some (42, false)), .len .slc (.t 43)⟩,
⟨some 45, (some (42, false)), .bin .gtr (.t 44) (kq 7)⟩,
tq 46 (.pick (.t 42) (.k (.d (.bool true))) (.t 45)),
tq 47 (.mv (.t 46)),
⟨some 48, (some (47, false)), .load (some 4) (.t 3)⟩,
⟨some 49, (some (47, false)), .call false true (.k (.fn n_ref05_CheckProgram [] [])) [.t 48]⟩,
⟨some 50, (some (47, false)), .bin .neq (.t 49) (kq 0)⟩,
tq 51 (.pick (.t 47) (.k (.d (.bool true))) (.t 50)),
tq 52 (.mv (.t 51)),
⟨some 53, (some (52, false)), .mv (.t 1)⟩,
⟨some 54, (some (52, false)), .call false true (.k (.fn n_ref05_CheckClaims [] [])) [.t 53]⟩,
⟨some 55, (some (52, false)), .bin .neq (.t 54) (kq 0)⟩,
tq 56 (.pick (.t 52) (.k (.d (.bool true))) (.t 55))] [34, 35, 36, 37, 38, 39, 40, 41, 42, 43, 44, 45, 46, 47, 48, 49, 50, 51, 52, 53, 54, 55])
(.cond (.t 56) (.seq (.reg false [
tq 57 (.call false true (.k (.fn n_law05_awake [] [])) []),
tq 6 (.mv (.t 57))] [57])
.ret)
 .skip))
(.seq (.reg false [
tq 58 (.mv (.t 2)),
tq 59 (.conv .i64 (.t 58)),
tq 60 (.bin .add (kq 1) (.t 59)),
tq 7 (.mv (.t 60))] [2, 58, 59, 60])
(.seq (.reg false [
tq 62 (.load (some 4) (.t 3)),
tq 63 (.call false true (.k (.fn n_law05_program [] [])) [.t 62]),
tq 64 (.mv (.t 7)),
tq 65 (.mv (.t 1)),
tq 66 (.call false true (.k (.fn n_law05_claims [] [])) [.t 65]),
tq 67 (.call false true (.k (.fn n_priority_Rank [] [])) [.t 63, .t 64, .t 66]),
tq 61 (.mv (.t 67)),
tq 68 (.extract (.t 61) 0),
tq 69 (.extract (.t 61) 1),
tq 8 (.mv (.t 68)),
tq 9 (.mv (.t 69))] [61, 62, 63, 64, 65, 66, 67, 68, 69])
(.seq (.reg false [
tq 71 (.load (some 4) (.t 3)),
tq 72 (.call false true (.k (.fn n_law05_program [] [])) [.t 71]),
tq 73 (.mv (.t 7)),
tq 74 (.mv (.t 1)),
tq 75 (.call false true (.k (.fn n_law05_claims [] [])) [.t 74]),
tq 76 (.call false true (.k (.fn n_priority_Why [] [])) [.t 72, .t 73, .t 75]),
tq 70 (.mv (.t 76)),
tq 77 (.extract (.t 70) 0),
tq 78 (.extract (.t 70) 1),
tq 10 (.mv (.t 77)),
tq 11 (.mv (.t 78))] [70, 71, 72, 73, 74, 75, 76, 77, 78])
(.seq (.seq (.reg false [
tq 79 (.mv (.t 9)),
tq 80 (.bin .neq (.t 79) (kq 0)),
tq 81 (.mv (.t 80)),
⟨some 82, (some (81, false)), .mv (.t 11)⟩,
⟨some 83, (some (81, false)), .bin .neq (.t 82) (kq 0)⟩,
tq 84 (.pick (.t 81) (.k (.d (.bool true))) (.t 83)),
tq 85 (.mv (.t 84)),
⟨some 86, (some (85, false)), .mv (.t 8)⟩,
⟨some 87, (some (85, false)), .len .slc (.t 86)⟩,
⟨some 88, (some (85, false)), .mv (.t 1)⟩,
⟨some 89, (some (85, false)), .len .slc (.t 88)⟩,
⟨some 90, (some (85, false)), .bin .neq (.t 87) (.t 89)⟩,
tq 91 (.pick (.t 85) (.k (.d (.bool true))) (.t 90)),
tq 92 (.mv (.t 91)),
⟨some 93, (some (92, false)), .mv (.t 8)⟩,
⟨some 94, (some (92, false)), .call false true (.k (.fn n_ref01_IsOrder [] [])) [.t 93]⟩,
⟨some 95, (some (92, false)), .un .not (.t 94)⟩,
tq 96 (.pick (.t 92) (.k (.d (.bool true))) (.t 95)),
tq 97 (.mv (.t 96)),
⟨some 98, (some (97, false)), .mv (.t 10)⟩,
⟨some 99, (some (97, false)), .len .slc (.t 98)⟩,
⟨some 100, (some (97, false)), .mv (.t 1)⟩,
⟨some 101, (some (97, false)), .len .slc (.t 100)⟩,
⟨some 102, (some (97, false)), .bin .sub (.t 101) (kq 1)⟩,
⟨some 103, (some (97, false)), .minmax true [kq 0, .t 102]⟩,
⟨some 104, (some (97, false)), .bin .neq (.t 99) (.t 103)⟩,
tq 105 (.pick (.t 97) (.k (.d (.bool true))) (.t 104)),
tq 106 (.mv (.t 105)),
⟨some 107, (some (106, false)), .load (some 4) (.t 3)⟩,
⟨some 108, (some (106, false)), .call false true (.k (.fn n_law05_program [] [])) [.t 107]⟩,
⟨some 109, (some (106, false)), .mv (.t 7)⟩,
⟨some 110, (some (106, false)), .mv (.t 1)⟩,
⟨some 111, (some (106, false)), .call false true (.k (.fn n_law05_claims [] [])) [.t 110]⟩,
⟨some 112, (some (106, false)), .mkRow ⟨false, ty_int, 1, 8⟩ 0 []⟩,
⟨some 113, (some (106, false)), .mv (.t 8)⟩,
⟨some 114, (some (106, false)), .append ⟨false, ty_int, 1, 8⟩ (.t 112) (.t 113)⟩,
⟨some 115, (some (106, false)), .call false true (.k (.fn n_priority_CheckRank [] [])) [.t 108, .t 109, .t 111, .t 114]⟩,
⟨some 116, (some (106, false)), .bin .neq (.t 115) (kq 0)⟩,
tq 117 (.pick (.t 106) (.k (.d (.bool true))) (.t 116))] [9, 11, 79, 80, 81, 82, 83, 84, 85, 86, 87, 88, 89, 90, 91, 92, 93, 94, 95, 96, 97, 98, 99, 100, 101, 102, 103, 104, 105, 106, 107, 108, 109, 110, 111, 112, 113, 114, 115, 116])
(.cond (.t 117) (.seq (.reg false [
tq 6 (.mv (.k (.d (.bool false))))] [])
.ret)
 .skip))
(.seq (.reg false [
tq 12 (.ownNil ⟨false, ty_turnroundref05_Claim, 18, 168⟩)] [])
(.seq (.seq (.reg false [
tq 118 (.mv (.t 1)),
tq 119 (.len .slc (.t 118)),
tq 120 (.mv (kq 0))] [])
(.block 0 (.loop [1, 3, 7, 8, 10, 12, 118, 119, 120] b_law05_PriorityOrders_1)))
(.seq (.reg false [
tq 130 (.load (some 4) (.t 3)),
tq 131 (.call false true (.k (.fn n_law05_program [] [])) [.t 130]),
tq 132 (.mv (.t 7)),
tq 133 (.mv (.t 12)),
tq 134 (.call false true (.k (.fn n_law05_claims [] [])) [.t 133]),
tq 135 (.call false true (.k (.fn n_priority_Rank [] [])) [.t 131, .t 132, .t 134]),
tq 129 (.mv (.t 135)),
tq 136 (.extract (.t 129) 0),
tq 137 (.extract (.t 129) 1),
tq 15 (.mv (.t 136)),
tq 16 (.mv (.t 137))] [129, 130, 131, 132, 133, 134, 135, 136, 137])
(.seq (.seq (.reg false [
tq 138 (.mv (.t 16)),
tq 139 (.bin .neq (.t 138) (kq 0)),
tq 140 (.mv (.t 139)),
⟨some 141, (some (140, false)), .mv (.t 15)⟩,
⟨some 142, (some (140, false)), .len .slc (.t 141)⟩,
⟨some 143, (some (140, false)), .mv (.t 8)⟩,
⟨some 144, (some (140, false)), .len .slc (.t 143)⟩,
⟨some 145, (some (140, false)), .bin .neq (.t 142) (.t 144)⟩,
tq 146 (.pick (.t 140) (.k (.d (.bool true))) (.t 145)),
tq 147 (.mv (.t 146)),
⟨some 148, (some (147, false)), .mv (.t 15)⟩,
⟨some 149, (some (147, false)), .call false true (.k (.fn n_ref01_IsOrder [] [])) [.t 148]⟩,
⟨some 150, (some (147, false)), .un .not (.t 149)⟩,
tq 151 (.pick (.t 147) (.k (.d (.bool true))) (.t 150))] [16, 138, 139, 140, 141, 142, 143, 144, 145, 146, 147, 148, 149, 150])
(.cond (.t 151) (.seq (.reg false [
tq 6 (.mv (.k (.d (.bool false))))] [])
.ret)
 .skip))
(.seq (.reg false [
tq 17 (.mv (.k (.d (.bool false))))] [])
(.seq (.seq (.reg false [
tq 152 (.mv (.t 8)),
tq 153 (.len .slc (.t 152)),
tq 154 (.mv (kq 0))] [])
(.block 2 (.loop [1, 3, 7, 8, 10, 12, 15, 17, 152, 153, 154] b_law05_PriorityOrders_2)))
(.seq (.reg false [
tq 297 (.load (some 4) (.t 3)),
tq 298 (.call false true (.k (.fn n_law05_program [] [])) [.t 297]),
tq 25 (.alloc ty_priority_Program [.z (.list 0 []), .z (.int .i64 0), .z (.int .i64 0), .z (.int .i64 0)]),
⟨none, none, .store 4 (.t 25) (.t 298)⟩] [297, 298])
(.seq (.reg false [
fa 299 3 25,
⟨none, none, .store 1 (.t 299) (kq 0)⟩] [299])
(.seq (.reg false [
fa 300 0 3,
ld 301 300,
tq 302 (.len .slc (.t 301)),
fa 303 1 25,
⟨none, none, .store 1 (.t 303) (.t 302)⟩] [3, 300, 301, 302, 303])
(.seq (.reg true [
tq 305 (.load (some 4) (.t 25)),
tq 306 (.mv (.t 7)),
tq 307 (.mv (.t 1)),
tq 308 (.call false true (.k (.fn n_law05_claims [] [])) [.t 307]),
tq 309 (.call false true (.k (.fn n_priority_Rank [] [])) [.t 305, .t 306, .t 308]),
tq 304 (.mv (.t 309)),
tq 310 (.extract (.t 304) 0),
tq 311 (.extract (.t 304) 1),
tq 26 (.mv (.t 310)),
tq 27 (.mv (.t 311))] [7, 304, 305, 306, 307, 308, 309, 310, 311])
(.seq (.seq (.reg false [
tq 312 (.mv (.t 27)),
tq 313 (.bin .neq (.t 312) (kq 0)),
tq 314 (.mv (.t 313)),
⟨some 315, (some (314, false)), .mv (.t 26)⟩,
⟨some 316, (some (314, false)), .len .slc (.t 315)⟩,
⟨some 317, (some (314, false)), .mv (.t 1)⟩,
⟨some 318, (some (314, false)), .len .slc (.t 317)⟩,
⟨some 319, (some (314, false)), .bin .neq (.t 316) (.t 318)⟩,
tq 320 (.pick (.t 314) (.k (.d (.bool true))) (.t 319)),
tq 321 (.mv (.t 320)),
⟨some 322, (some (321, false)), .mv (.t 26)⟩,
⟨some 323, (some (321, false)), .call false true (.k (.fn n_ref01_IsOrder [] [])) [.t 322]⟩,
⟨some 324, (some (321, false)), .un .not (.t 323)⟩,
tq 325 (.pick (.t 321) (.k (.d (.bool true))) (.t 324))] [27, 312, 313, 314, 315, 316, 317, 318, 319, 320, 321, 322, 323, 324])
(.cond (.t 325) (.seq (.reg false [
tq 6 (.mv (.k (.d (.bool false))))] [])
.ret)
 .skip))
(.seq (.seq (.reg false [
tq 326 (.mv (.t 26)),
tq 327 (.len .slc (.t 326)),
tq 328 (.mv (kq 0))] [326])
(.block 4 (.loop [1, 25, 26, 327, 328] b_law05_PriorityOrders_4)))
(.seq (.reg false [
tq 364 (.call false true (.k (.fn n_law05_awake [] [])) []),
tq 6 (.mv (.t 364))] [364])
.ret)))))))))))))))))))⟩

def b_ref05_Short_1 : C :=
  (.seq (.seq (.reg false [
tq 57 (.mv (.t 5)),
fa 58 1 4,
ld 59 58,
tq 60 (.len .slc (.t 59)),
tq 61 (.bin .lss (.t 57) (.t 60))] [57, 58, 59, 60])
(.cond (.t 61) .skip
 (.exit 2)))
(.seq (.block 3 (.seq (.reg false [
fa 64 1 4,
ld 65 64,
tq 66 (.mv (.t 5)),
tq 67 (.idxAddr 3 (.t 65) (.t 66)),
fa 68 0 67,
ld 69 68,
tq 70 (.len .str (.t 69)),
tq 71 (.bin .gtr (.t 70) (kq 40)),
tq 72 (.mv (.t 71)),
⟨some 73, (some (72, false)), .fieldAddr 1 (.t 4)⟩,
⟨some 74, (some (72, false)), .load none (.t 73)⟩,
⟨some 75, (some (72, false)), .mv (.t 5)⟩,
⟨some 76, (some (72, false)), .idxAddr 3 (.t 74) (.t 75)⟩,
⟨some 77, (some (72, false)), .fieldAddr 1 (.t 76)⟩,
⟨some 78, (some (72, false)), .load none (.t 77)⟩,
⟨some 79, (some (72, false)), .len .str (.t 78)⟩,
⟨some 80, (some (72, false)), .bin .gtr (.t 79) (kq 40)⟩,
tq 81 (.pick (.t 72) (.k (.d (.bool true))) (.t 80))] [64, 65, 66, 67, 68, 69, 70, 71, 72, 73, 74, 75, 76, 77, 78, 79, 80])
(.cond (.t 81) (.seq (.reg false [
tq 2 (.mv (.k (.d (.bool false))))] [])
.ret)
 .skip)))
(.reg false [
tq 62 (.mv (.t 5)),
tq 63 (.bin .add (.t 62) (kq 1)),
tq 5 (.mv (.t 63))] [62, 63])))

def b_ref05_Short_2 : C :=
  (.seq (.seq (.reg false [
tq 82 (.mv (.t 6)),
fa 83 2 4,
ld 84 83,
tq 85 (.len .slc (.t 84)),
tq 86 (.bin .lss (.t 82) (.t 85))] [82, 83, 84, 85])
(.cond (.t 86) .skip
 (.exit 4)))
(.seq (.block 5 (.seq (.reg false [
fa 89 2 4,
ld 90 89,
tq 91 (.mv (.t 6)),
tq 92 (.idxAddr 2 (.t 90) (.t 91)),
fa 93 0 92,
ld 94 93,
tq 95 (.len .str (.t 94)),
tq 96 (.bin .gtr (.t 95) (kq 40))] [89, 90, 91, 92, 93, 94, 95])
(.cond (.t 96) (.seq (.reg false [
tq 2 (.mv (.k (.d (.bool false))))] [])
.ret)
 .skip)))
(.reg false [
tq 87 (.mv (.t 6)),
tq 88 (.bin .add (.t 87) (kq 1)),
tq 6 (.mv (.t 88))] [87, 88])))

def b_ref05_Short_3 : C :=
  (.seq (.seq (.reg false [
tq 17 (.mv (.t 3)),
fa 18 0 1,
ld 19 18,
tq 20 (.len .slc (.t 19)),
tq 21 (.bin .lss (.t 17) (.t 20))] [17, 18, 19, 20])
(.cond (.t 21) .skip
 (.exit 0)))
(.seq (.block 1 (.seq (.reg false [
fa 24 0 1,
ld 25 24,
tq 26 (.mv (.t 3)),
tq 27 (.idxAddr 3 (.t 25) (.t 26)),
tq 28 (.load (some 3) (.t 27)),
tq 4 (.alloc ty_turnroundref05_Class [.z (.str []), .z (.list 0 []), .z (.list 0 [])]),
⟨none, none, .store 3 (.t 4) (.t 28)⟩] [24, 25, 26, 27, 28])
(.seq (.seq (.reg false [
fa 29 0 4,
ld 30 29,
tq 31 (.len .str (.t 30)),
tq 32 (.bin .gtr (.t 31) (kq 40)),
tq 33 (.mv (.t 32)),
⟨some 34, (some (33, false)), .fieldAddr 1 (.t 4)⟩,
⟨some 35, (some (33, false)), .load none (.t 34)⟩,
⟨some 36, (some (33, false)), .len .slc (.t 35)⟩,
⟨some 37, (some (33, false)), .bin .gtr (.t 36) (kq 4)⟩,
⟨some 38, (some (33, false)), .mv (.t 37)⟩,
⟨some 39, (some (38, true)), .fieldAddr 1 (.t 4)⟩,
⟨some 40, (some (38, true)), .load none (.t 39)⟩,
⟨some 41, (some (38, true)), .len .slc (.t 40)⟩,
⟨some 42, (some (38, true)), .bin .neq (.t 41) (kq 9)⟩,
⟨some 43, (some (33, false)), .pick (.t 38) (.t 42) (.k (.d (.bool false)))⟩,
tq 44 (.pick (.t 33) (.k (.d (.bool true))) (.t 43)),
tq 45 (.mv (.t 44)),
⟨some 46, (some (45, false)), .fieldAddr 2 (.t 4)⟩,
⟨some 47, (some (45, false)), .load none (.t 46)⟩,
⟨some 48, (some (45, false)), .len .slc (.t 47)⟩,
⟨some 49, (some (45, false)), .bin .gtr (.t 48) (kq 4)⟩,
⟨some 50, (some (45, false)), .mv (.t 49)⟩,
⟨some 51, (some (50, true)), .fieldAddr 2 (.t 4)⟩,
⟨some 52, (some (50, true)), .load none (.t 51)⟩,
⟨some 53, (some (50, true)), .len .slc (.t 52)⟩,
⟨some 54, (some (50, true)), .bin .neq (.t 53) (kq 9)⟩,
⟨some 55, (some (45, false)), .pick (.t 50) (.t 54) (.k (.d (.bool false)))⟩,
tq 56 (.pick (.t 45) (.k (.d (.bool true))) (.t 55))] [29, 30, 31, 32, 33, 34, 35, 36, 37, 38, 39, 40, 41, 42, 43, 44, 45, 46, 47, 48, 49, 50, 51, 52, 53, 54, 55])
(.cond (.t 56) (.seq (.reg false [
tq 2 (.mv (.k (.d (.bool false))))] [])
.ret)
 .skip))
(.seq (.seq (.reg false [
tq 5 (.mv (kq 0))] [])
(.block 2 (.loop [1, 3, 4, 5] b_ref05_Short_1)))
(.seq (.reg false [
tq 6 (.mv (kq 0))] [])
(.block 4 (.loop [1, 3, 4, 6] b_ref05_Short_2)))))))
(.reg false [
tq 22 (.mv (.t 3)),
tq 23 (.bin .add (.t 22) (kq 1)),
tq 3 (.mv (.t 23))] [22, 23])))

def c_ref05_Short : CF := ⟨[.tmp 2],
  (.seq (.reg false [
tq 1 (.box ty_turnroundref05_Program (.t 0)),
tq 2 (.mv (.k (.d (.bool false))))] [0, 2])
(.seq (.seq (.reg false [
fa 7 0 1,
ld 8 7,
tq 9 (.len .slc (.t 8)),
tq 10 (.bin .gtr (.t 9) (kq 5)),
tq 11 (.mv (.t 10)),
⟨some 12, (some (11, true)), .fieldAddr 0 (.t 1)⟩,
⟨some 13, (some (11, true)), .load none (.t 12)⟩,
⟨some 14, (some (11, true)), .len .slc (.t 13)⟩,
⟨some 15, (some (11, true)), .bin .neq (.t 14) (kq 17)⟩,
tq 16 (.pick (.t 11) (.t 15) (.k (.d (.bool false))))] [7, 8, 9, 10, 11, 12, 13, 14, 15])
(.cond (.t 16) (.seq (.reg false [
tq 2 (.mv (.k (.d (.bool false))))] [])
.ret)
 .skip))
(.seq (.seq (.reg false [
tq 3 (.mv (kq 0))] [])
(.block 0 (.loop [1, 3] b_ref05_Short_3)))
(.seq (.reg false [
tq 2 (.mv (.k (.d (.bool true))))] [])
.ret))))⟩

def b_ref05_ShortClaims_1 : C :=
  (.seq (.seq (.reg false [
tq 15 (.mv (.t 5)),
tq 16 (.mv (.t 0)),
tq 17 (.len .slc (.t 16)),
tq 18 (.bin .lss (.t 15) (.t 17))] [15, 16, 17])
(.cond (.t 18) .skip
 (.exit 0)))
(.seq (.block 1 (.seq (.reg false [
tq 21 (.mv (.t 0)),
tq 22 (.mv (.t 5)),
tq 23 (.idxAddr 18 (.t 21) (.t 22)),
fa 24 0 23,
tq 25 (.load (some 13) (.t 24)),
tq 26 (.call false true (.k (.fn n_ref02_Brief [] [])) [.t 25]),
tq 27 (.un .not (.t 26))] [21, 22, 23, 24, 25, 26])
(.cond (.t 27) (.seq (.reg false [
tq 4 (.mv (.k (.d (.bool false))))] [])
.ret)
 .skip)))
(.reg false [
tq 19 (.mv (.t 5)),
tq 20 (.bin .add (.t 19) (kq 1)),
tq 5 (.mv (.t 20))] [19, 20])))

def c_ref05_ShortClaims : CF := ⟨[.tmp 4],
  (.seq (.reg false [
tq 4 (.mv (.k (.d (.bool false))))] [4])
(.seq (.seq (.reg false [
tq 6 (.mv (.t 0)),
tq 7 (.len .slc (.t 6)),
tq 8 (.mv (.t 1)),
tq 9 (.bin .gtr (.t 7) (.t 8)),
tq 10 (.mv (.t 9)),
⟨some 11, (some (10, true)), .mv (.t 0)⟩,
⟨some 12, (some (10, true)), .len .slc (.t 11)⟩,
⟨some 13, (some (10, true)), .bin .neq (.t 12) (kq 65)⟩,
tq 14 (.pick (.t 10) (.t 13) (.k (.d (.bool false))))] [1, 6, 7, 8, 9, 10, 11, 12, 13])
(.cond (.t 14) (.seq (.reg false [
tq 4 (.mv (.k (.d (.bool false))))] [])
.ret)
 .skip))
(.seq (.seq (.reg false [
tq 5 (.mv (kq 0))] [])
(.block 0 (.loop [0, 5] b_ref05_ShortClaims_1)))
(.seq (.reg false [
tq 4 (.mv (.k (.d (.bool true))))] [])
.ret))))⟩

def b_ref05_CheckProgram_1 : C :=
  (.seq (.seq (.reg false [
tq 13 (.mv (.t 3)),
fa 14 0 1,
ld 15 14,
tq 16 (.len .slc (.t 15)),
tq 17 (.bin .lss (.t 13) (.t 16))] [13, 14, 15, 16])
(.cond (.t 17) .skip
 (.exit 0)))
(.seq (.block 1 (.seq (.reg true [
fa 20 0 1,
ld 21 20,
tq 22 (.mv (.t 3)),
tq 23 (.slice 3 (.t 21) none (some (.t 22)) none),
fa 24 0 1,
ld 25 24,
tq 26 (.mv (.t 3)),
tq 27 (.idxAddr 3 (.t 25) (.t 26)),
tq 28 (.load (some 3) (.t 27)),
tq 29 (.call false true (.k (.fn n_ref05_added [] [])) [.t 23, .t 28]),
tq 4 (.mv (.t 29))] [20, 21, 22, 23, 24, 25, 26, 27, 28, 29])
(.seq (.reg false [
tq 30 (.mv (.t 4)),
tq 31 (.bin .neq (.t 30) (kq 0))] [30])
(.cond (.t 31) (.seq (.reg false [
tq 32 (.mv (.t 4)),
tq 2 (.mv (.t 32))] [4, 32])
.ret)
 .skip))))
(.reg false [
tq 18 (.mv (.t 3)),
tq 19 (.bin .add (.t 18) (kq 1)),
tq 3 (.mv (.t 19))] [18, 19])))

def c_ref05_CheckProgram : CF := ⟨[.tmp 2],
  (.seq (.reg false [
tq 1 (.box ty_turnroundref05_Program (.t 0)),
tq 2 (.mv (kq 0))] [0, 2])
(.seq (.seq (.reg false [
fa 5 0 1,
ld 6 5,
tq 7 (.len .slc (.t 6)),
tq 8 (.bin .eql (.t 7) (kq 0))] [5, 6, 7])
(.cond (.t 8) (.seq (.reg false [
tq 2 (.mv (kq 12))] [])
.ret)
 .skip))
(.seq (.seq (.reg false [
fa 9 0 1,
ld 10 9,
tq 11 (.len .slc (.t 10)),
tq 12 (.bin .gtr (.t 11) (kq 16))] [9, 10, 11])
(.cond (.t 12) (.seq (.reg false [
tq 2 (.mv (kq 5))] [])
.ret)
 .skip))
(.seq (.seq (.reg false [
tq 3 (.mv (kq 0))] [])
(.block 0 (.loop [1, 3] b_ref05_CheckProgram_1)))
(.seq (.reg false [
tq 33 (.load (some 4) (.t 1)),
tq 34 (.call false true (.k (.fn n_ref05_CheckPool [] [])) [.t 33]),
tq 2 (.mv (.t 34))] [1, 33, 34])
.ret)))))⟩

def b_ref05_CheckClaims_1 : C :=
  (.seq (.seq (.reg false [
tq 20 (.mv (.t 5)),
tq 21 (.mv (.t 3)),
tq 22 (.bin .lss (.t 20) (.t 21)),
tq 23 (.mv (.t 22)),
⟨some 24, (some (23, true)), .mv (.t 4)⟩,
⟨some 25, (some (23, true)), .bin .eql (.t 24) (kq 0)⟩,
tq 26 (.pick (.t 23) (.t 25) (.k (.d (.bool false))))] [20, 21, 22, 23, 24, 25])
(.cond (.t 26) .skip
 (.exit 2)))
(.seq (.block 3 (.seq (.reg true [
tq 29 (.mv (.t 0)),
tq 30 (.mv (.t 5)),
tq 31 (.idxAddr 18 (.t 29) (.t 30)),
fa 32 0 31,
fa 33 0 32,
ld 34 33,
tq 35 (.mv (.t 0)),
tq 36 (.mv (.t 3)),
tq 37 (.idxAddr 18 (.t 35) (.t 36)),
fa 38 0 37,
fa 39 0 38,
ld 40 39,
tq 41 (.bin .eql (.t 34) (.t 40))] [29, 30, 31, 32, 33, 34, 35, 36, 37, 38, 39, 40])
(.cond (.t 41) (.reg false [
tq 4 (.mv (kq 9))] [])
 .skip)))
(.reg false [
tq 27 (.mv (.t 5)),
tq 28 (.bin .add (.t 27) (kq 1)),
tq 5 (.mv (.t 28))] [27, 28])))

def b_ref05_CheckClaims_2 : C :=
  (.seq (.seq (.reg false [
tq 9 (.mv (.t 3)),
tq 10 (.mv (.t 0)),
tq 11 (.len .slc (.t 10)),
tq 12 (.bin .lss (.t 9) (.t 11))] [9, 10, 11])
(.cond (.t 12) .skip
 (.exit 0)))
(.seq (.block 1 (.seq (.reg false [
tq 15 (.mv (.t 0)),
tq 16 (.mv (.t 3)),
tq 17 (.idxAddr 18 (.t 15) (.t 16)),
tq 18 (.load (some 18) (.t 17)),
tq 19 (.call false true (.k (.fn n_ref05_CheckClaim [] [])) [.t 18]),
tq 4 (.mv (.t 19))] [15, 16, 17, 18, 19])
(.seq (.seq (.reg false [
tq 5 (.mv (kq 0))] [])
(.block 2 (.loop [0, 3, 4, 5] b_ref05_CheckClaims_1)))
(.seq (.reg false [
tq 42 (.mv (.t 4)),
tq 43 (.bin .neq (.t 42) (kq 0))] [42])
(.cond (.t 43) (.seq (.reg false [
tq 44 (.mv (.t 4)),
tq 2 (.mv (.t 44))] [4, 44])
.ret)
 .skip)))))
(.reg false [
tq 13 (.mv (.t 3)),
tq 14 (.bin .add (.t 13) (kq 1)),
tq 3 (.mv (.t 14))] [13, 14])))

def c_ref05_CheckClaims : CF := ⟨[.tmp 2],
  (.seq (.reg false [
tq 2 (.mv (kq 0))] [2])
(.seq (.seq (.reg false [
tq 6 (.mv (.t 0)),
tq 7 (.len .slc (.t 6)),
tq 8 (.bin .gtr (.t 7) (kq 64))] [6, 7])
(.cond (.t 8) (.seq (.reg false [
tq 2 (.mv (kq 5))] [])
.ret)
 .skip))
(.seq (.seq (.reg false [
tq 3 (.mv (kq 0))] [])
(.block 0 (.loop [0, 3] b_ref05_CheckClaims_2)))
(.seq (.reg false [
tq 2 (.mv (kq 0))] [])
.ret))))⟩

def c_law05_awake : CF := ⟨[.tmp 0],
  (.seq (.reg false [
tq 0 (.mv (.k (.d (.bool false))))] [0])
(.seq (.reg false [
tq 38 (.call false true (.k (.fn n_priority_Default [] [])) []),
tq 1 (.alloc ty_priority_Program [.z (.list 0 []), .z (.int .i64 0), .z (.int .i64 0), .z (.int .i64 0)]),
⟨none, none, .store 4 (.t 1) (.t 38)⟩] [38])
(.seq (.reg false [
tq 40 (.load (some 4) (.t 1)),
tq 41 (.call false true (.k (.fn n_priority_Print [] [])) [.t 40]),
tq 39 (.mv (.t 41)),
tq 42 (.extract (.t 39) 0),
tq 43 (.extract (.t 39) 1),
tq 2 (.mv (.t 42)),
tq 3 (.mv (.t 43))] [39, 40, 41, 42, 43])
(.seq (.reg false [
tq 45 (.call false true (.k (.fn n_priority_Parse [] [])) [.k (.d (.str [99, 108, 97, 115, 115, 32, 104, 105, 115, 116, 111, 114, 105, 99, 32, 119, 104, 101, 110, 32, 104, 105, 115, 116, 111, 114, 105, 99, 61, 49, 32, 114, 101, 116, 105, 109, 101, 100, 61, 48, 32, 98, 121, 32, 100, 97, 121, 115, 45, 32, 115, 101, 97, 116, 115, 45, 10, 99, 108, 97, 115, 115, 32, 114, 101, 116, 105, 109, 101, 100, 32, 119, 104, 101, 110, 32, 104, 105, 115, 116, 111, 114, 105, 99, 61, 49, 32, 98, 121, 32, 100, 97, 121, 115, 45, 32, 115, 101, 97, 116, 115, 45, 10, 99, 108, 97, 115, 115, 32, 121, 101, 97, 114, 114, 111, 117, 110, 100, 32, 119, 104, 101, 110, 32, 121, 101, 97, 114, 114, 111, 117, 110, 100, 61, 49, 32, 98, 121, 32, 100, 97, 121, 115, 45, 32, 115, 101, 97, 116, 115, 45, 32, 100, 105, 115, 116, 97, 110, 99, 101, 45, 10, 99, 108, 97, 115, 115, 32, 111, 116, 104, 101, 114, 115, 32, 98, 121, 32, 100, 97, 121, 115, 45, 32, 115, 101, 97, 116, 115, 45, 32, 100, 105, 115, 116, 97, 110, 99, 101, 45, 10, 112, 111, 111, 108, 32, 50, 32, 115, 104, 97, 114, 101, 32, 49, 32, 111, 102, 32, 50, 10]))]),
tq 44 (.mv (.t 45)),
tq 46 (.extract (.t 44) 0),
tq 47 (.extract (.t 44) 1),
tq 48 (.extract (.t 44) 2),
tq 4 (.alloc ty_priority_Program [.z (.list 0 []), .z (.int .i64 0), .z (.int .i64 0), .z (.int .i64 0)]),
⟨none, none, .store 4 (.t 4) (.t 46)⟩,
tq 5 (.mv (.t 47)),
tq 6 (.mv (.t 48))] [5, 44, 45, 46, 47, 48])
(.seq (.reg false [
tq 49 (.call false true (.k (.fn n_law05_sample [] [])) [.k (.d (.str [104])), kq 90]),
tq 50 (.call false true (.k (.fn n_law05_sample [] [])) [.k (.d (.str [99])), kq 180]),
tq 51 (.call false true (.k (.fn n_law05_sample [] [])) [.k (.d (.str [100])), kq 150]),
tq 52 (.call false true (.k (.fn n_law05_sample [] [])) [.k (.d (.str [98])), kq 100]),
tq 53 (.call false true (.k (.fn n_law05_sample [] [])) [.k (.d (.str [101])), kq 90]),
tq 7 (.alloc ty_priority_Claim [.z (.str []), .z (.str []), .z (.str []), .z (.str []), .z (.str []), .z (.str []), .z (.int .i64 0), .z (.int .i64 0), .z (.int .i64 0), .z (.int .i64 0), .z (.int .i64 0), .z (.int .i64 0), .z (.int .i64 0), .z (.bool false), .z (.bool false), .z (.bool false), .z (.bool false), .z (.int .i64 0)]),
tq 8 (.alloc ty_priority_Claim [.z (.str []), .z (.str []), .z (.str []), .z (.str []), .z (.str []), .z (.str []), .z (.int .i64 0), .z (.int .i64 0), .z (.int .i64 0), .z (.int .i64 0), .z (.int .i64 0), .z (.int .i64 0), .z (.int .i64 0), .z (.bool false), .z (.bool false), .z (.bool false), .z (.bool false), .z (.int .i64 0)]),
tq 9 (.alloc ty_priority_Claim [.z (.str []), .z (.str []), .z (.str []), .z (.str []), .z (.str []), .z (.str []), .z (.int .i64 0), .z (.int .i64 0), .z (.int .i64 0), .z (.int .i64 0), .z (.int .i64 0), .z (.int .i64 0), .z (.int .i64 0), .z (.bool false), .z (.bool false), .z (.bool false), .z (.bool false), .z (.int .i64 0)]),
tq 10 (.alloc ty_priority_Claim [.z (.str []), .z (.str []), .z (.str []), .z (.str []), .z (.str []), .z (.str []), .z (.int .i64 0), .z (.int .i64 0), .z (.int .i64 0), .z (.int .i64 0), .z (.int .i64 0), .z (.int .i64 0), .z (.int .i64 0), .z (.bool false), .z (.bool false), .z (.bool false), .z (.bool false), .z (.int .i64 0)]),
tq 11 (.alloc ty_priority_Claim [.z (.str []), .z (.str []), .z (.str []), .z (.str []), .z (.str []), .z (.str []), .z (.int .i64 0), .z (.int .i64 0), .z (.int .i64 0), .z (.int .i64 0), .z (.int .i64 0), .z (.int .i64 0), .z (.int .i64 0), .z (.bool false), .z (.bool false), .z (.bool false), .z (.bool false), .z (.int .i64 0)]),
⟨none, none, .store 18 (.t 7) (.t 49)⟩,
⟨none, none, .store 18 (.t 8) (.t 50)⟩,
⟨none, none, .store 18 (.t 9) (.t 51)⟩,
⟨none, none, .store 18 (.t 10) (.t 52)⟩,
⟨none, none, .store 18 (.t 11) (.t 53)⟩] [49, 50, 51, 52, 53])
(.seq (.reg false [
fa 54 13 7,
⟨none, none, .store 1 (.t 54) (.k (.d (.bool true)))⟩,
fa 55 15 9,
⟨none, none, .store 1 (.t 55) (.k (.d (.bool true)))⟩,
fa 56 15 10,
⟨none, none, .store 1 (.t 56) (.k (.d (.bool true)))⟩] [54, 55, 56])
(.seq (.reg false [
tq 57 (.load (some 18) (.t 7)),
tq 12 (.alloc ty_priority_Claim [.z (.str []), .z (.str []), .z (.str []), .z (.str []), .z (.str []), .z (.str []), .z (.int .i64 0), .z (.int .i64 0), .z (.int .i64 0), .z (.int .i64 0), .z (.int .i64 0), .z (.int .i64 0), .z (.int .i64 0), .z (.bool false), .z (.bool false), .z (.bool false), .z (.bool false), .z (.int .i64 0)]),
⟨none, none, .store 18 (.t 12) (.t 57)⟩] [57])
(.seq (.reg false [
fa 58 14 12,
⟨none, none, .store 1 (.t 58) (.k (.d (.bool true)))⟩] [58])
(.seq (.reg false [
tq 60 (.load (some 4) (.t 1)),
tq 61 (.load (some 18) (.t 12)),
tq 62 (.call false true (.k (.fn n_priority_ClassOf [] [])) [.t 60, .t 61]),
tq 59 (.mv (.t 62)),
tq 63 (.extract (.t 59) 0),
tq 64 (.extract (.t 59) 1),
tq 13 (.mv (.t 63)),
tq 14 (.mv (.t 64))] [12, 59, 60, 61, 62, 63, 64])
(.seq (.reg false [
tq 66 (.load (some 4) (.t 1)),
tq 67 (.load (some 18) (.t 8)),
tq 68 (.call false true (.k (.fn n_priority_ClassOf [] [])) [.t 66, .t 67]),
tq 65 (.mv (.t 68)),
tq 69 (.extract (.t 65) 0),
tq 70 (.extract (.t 65) 1),
tq 15 (.mv (.t 69)),
tq 16 (.mv (.t 70))] [65, 66, 67, 68, 69, 70])
(.seq (.reg false [
tq 71 (.load (some 18) (.t 7)),
tq 72 (.load (some 18) (.t 8)),
tq 73 (.load (some 18) (.t 9)),
tq 74 (.load (some 18) (.t 10)),
tq 75 (.load (some 18) (.t 11)),
tq 76 (.mkList 18 5 [.t 71, .t 72, .t 73, .t 74, .t 75]),
tq 17 (.mv (.t 76))] [7, 9, 10, 11, 71, 72, 73, 74, 75, 76])
(.seq (.reg false [
tq 78 (.load (some 4) (.t 1)),
tq 79 (.mv (.t 17)),
tq 80 (.call false true (.k (.fn n_priority_Rank [] [])) [.t 78, kq 5, .t 79]),
tq 77 (.mv (.t 80)),
tq 81 (.extract (.t 77) 0),
tq 82 (.extract (.t 77) 1),
tq 18 (.mv (.t 81)),
tq 19 (.mv (.t 82))] [77, 78, 79, 80, 81, 82])
(.seq (.reg false [
tq 84 (.load (some 4) (.t 1)),
tq 85 (.mv (.t 17)),
tq 86 (.call false true (.k (.fn n_priority_Why [] [])) [.t 84, kq 5, .t 85]),
tq 83 (.mv (.t 86)),
tq 87 (.extract (.t 83) 0),
tq 88 (.extract (.t 83) 1),
tq 20 (.mv (.t 87)),
tq 21 (.mv (.t 88))] [17, 83, 84, 85, 86, 87, 88])
(.seq (.seq (.reg true [
tq 89 (.mv (.t 3)),
tq 90 (.bin .neq (.t 89) (kq 0)),
tq 91 (.mv (.t 90)),
⟨some 92, (some (91, false)), .mv (.t 2)⟩,
⟨some 93, (some (91, false)), .bin .neq (.t 92) (.k (.d (.str [99, 108, 97, 115, 115, 32, 104, 105, 115, 116, 111, 114, 105, 99, 32, 119, 104, 101, 110, 32, 104, 105, 115, 116, 111, 114, 105, 99, 61, 49, 32, 114, 101, 116, 105, 109, 101, 100, 61, 48, 32, 98, 121, 32, 100, 97, 121, 115, 45, 32, 115, 101, 97, 116, 115, 45, 10, 99, 108, 97, 115, 115, 32, 114, 101, 116, 105, 109, 101, 100, 32, 119, 104, 101, 110, 32, 104, 105, 115, 116, 111, 114, 105, 99, 61, 49, 32, 98, 121, 32, 100, 97, 121, 115, 45, 32, 115, 101, 97, 116, 115, 45, 10, 99, 108, 97, 115, 115, 32, 121, 101, 97, 114, 114, 111, 117, 110, 100, 32, 119, 104, 101, 110, 32, 121, 101, 97, 114, 114, 111, 117, 110, 100, 61, 49, 32, 98, 121, 32, 100, 97, 121, 115, 45, 32, 115, 101, 97, 116, 115, 45, 32, 100, 105, 115, 116, 97, 110, 99, 101, 45, 10, 99, 108, 97, 115, 115, 32, 111, 116, 104, 101, 114, 115, 32, 98, 121, 32, 100, 97, 121, 115, 45, 32, 115, 101, 97, 116, 115, 45, 32, 100, 105, 115, 116, 97, 110, 99, 101, 45, 10, 112, 111, 111, 108, 32, 50, 32, 115, 104, 97, 114, 101, 32, 49, 32, 111, 102, 32, 50, 10])))⟩,
tq 94 (.pick (.t 91) (.k (.d (.bool true))) (.t 93)),
tq 95 (.mv (.t 94)),
⟨some 96, (some (95, false)), .mv (.t 6)⟩,
⟨some 97, (some (95, false)), .bin .neq (.t 96) (kq 0)⟩,
tq 98 (.pick (.t 95) (.k (.d (.bool true))) (.t 97)),
tq 99 (.mv (.t 98)),
⟨some 100, (some (99, false)), .load (some 4) (.t 4)⟩,
⟨some 101, (some (99, false)), .call false true (.k (.fn n_law05_own [] [])) [.t 100]⟩,
⟨some 102, (some (99, false)), .load (some 4) (.t 1)⟩,
⟨some 103, (some (99, false)), .call false true (.k (.fn n_law05_own [] [])) [.t 102]⟩,
⟨some 104, (some (99, false)), .call false true (.k (.fn n_ref05_Same [] [])) [.t 101, .t 103]⟩,
⟨some 105, (some (99, false)), .un .not (.t 104)⟩,
tq 106 (.pick (.t 99) (.k (.d (.bool true))) (.t 105)),
tq 107 (.mv (.t 106)),
⟨some 108, (some (107, false)), .mv (.t 14)⟩,
⟨some 109, (some (107, false)), .mv (.t 16)⟩,
⟨some 110, (some (107, false)), .bin .add (.t 108) (.t 109)⟩,
⟨some 111, (some (107, false)), .bin .neq (.t 110) (kq 0)⟩,
tq 112 (.pick (.t 107) (.k (.d (.bool true))) (.t 111)),
tq 113 (.mv (.t 112)),
⟨some 114, (some (113, false)), .mv (.t 13)⟩,
⟨some 115, (some (113, false)), .bin .neq (.t 114) (kq 1)⟩,
tq 116 (.pick (.t 113) (.k (.d (.bool true))) (.t 115)),
tq 117 (.mv (.t 116)),
⟨some 118, (some (117, false)), .mv (.t 15)⟩,
⟨some 119, (some (117, false)), .bin .neq (.t 118) (kq 3)⟩,
tq 120 (.pick (.t 117) (.k (.d (.bool true))) (.t 119)),
tq 121 (.mv (.t 120)),
⟨some 122, (some (121, false)), .mv (.t 19)⟩,
⟨some 123, (some (121, false)), .bin .neq (.t 122) (kq 0)⟩,
tq 124 (.pick (.t 121) (.k (.d (.bool true))) (.t 123)),
tq 125 (.mv (.t 124)),
⟨some 126, (some (125, false)), .mv (.t 18)⟩,
⟨some 127, (some (125, false)), .mkList 1 5 [kq 0, kq 2, kq 1, kq 3, kq 4]⟩,
⟨some 128, (some (125, false)), .call false true (.k (.fn n_ref01_SameInts [] [])) [.t 126, .t 127]⟩,
⟨some 129, (some (125, false)), .un .not (.t 128)⟩,
tq 130 (.pick (.t 125) (.k (.d (.bool true))) (.t 129)),
tq 131 (.mv (.t 130)),
⟨some 132, (some (131, false)), .mv (.t 21)⟩,
⟨some 133, (some (131, false)), .bin .neq (.t 132) (kq 0)⟩,
tq 134 (.pick (.t 131) (.k (.d (.bool true))) (.t 133)),
tq 135 (.mv (.t 134)),
⟨some 136, (some (135, false)), .mv (.t 20)⟩,
⟨some 137, (some (135, false)), .mkList 1 4 [.k (.d (.str [99, 108, 97, 115, 115])), .k (.d (.str [115, 104, 97, 114, 101])), .k (.d (.str [115, 101, 97, 116, 115])), .k (.d (.str [115, 101, 97, 116, 115]))]⟩,
⟨some 138, (some (135, false)), .call false true (.k (.fn n_ref01_SameWords [] [])) [.t 136, .t 137]⟩,
⟨some 139, (some (135, false)), .un .not (.t 138)⟩,
tq 140 (.pick (.t 135) (.k (.d (.bool true))) (.t 139))] [1, 2, 3, 4, 6, 13, 14, 15, 16, 18, 19, 20, 21, 89, 90, 91, 92, 93, 94, 95, 96, 97, 98, 99, 100, 101, 102, 103, 104, 105, 106, 107, 108, 109, 110, 111, 112, 113, 114, 115, 116, 117, 118, 119, 120, 121, 122, 123, 124, 125, 126, 127, 128, 129, 130, 131, 132, 133, 134, 135, 136, 137, 138, 139])
(.cond (.t 140) (.seq (.reg false [
tq 0 (.mv (.k (.d (.bool false))))] [])
.ret)
 .skip))
(.seq (.reg false [
tq 142 (.mkList 1 5 [.k (.d (.bool false)), .k (.d (.bool true)), .k (.d (.bool false)), .k (.d (.bool true)), .k (.d (.bool true))]),
tq 143 (.call false true (.k (.fn n_priority_Interleave [] [])) [kq 3, kq 2, .t 142]),
tq 141 (.mv (.t 143)),
tq 144 (.extract (.t 141) 0),
tq 145 (.extract (.t 141) 1),
tq 22 (.mv (.t 144)),
tq 23 (.mv (.t 145))] [141, 142, 143, 144, 145])
(.seq (.reg false [
tq 146 (.call false true (.k (.fn n_law05_sample [] [])) [.k (.d (.str [120])), kq 1]),
tq 147 (.call false true (.k (.fn n_law05_sample [] [])) [.k (.d (.str [121])), kq 1]),
tq 24 (.alloc ty_priority_Claim [.z (.str []), .z (.str []), .z (.str []), .z (.str []), .z (.str []), .z (.str []), .z (.int .i64 0), .z (.int .i64 0), .z (.int .i64 0), .z (.int .i64 0), .z (.int .i64 0), .z (.int .i64 0), .z (.int .i64 0), .z (.bool false), .z (.bool false), .z (.bool false), .z (.bool false), .z (.int .i64 0)]),
tq 25 (.alloc ty_priority_Claim [.z (.str []), .z (.str []), .z (.str []), .z (.str []), .z (.str []), .z (.str []), .z (.int .i64 0), .z (.int .i64 0), .z (.int .i64 0), .z (.int .i64 0), .z (.int .i64 0), .z (.int .i64 0), .z (.int .i64 0), .z (.bool false), .z (.bool false), .z (.bool false), .z (.bool false), .z (.int .i64 0)]),
⟨none, none, .store 18 (.t 24) (.t 146)⟩,
⟨none, none, .store 18 (.t 25) (.t 147)⟩] [146, 147])
(.seq (.reg false [
tq 149 (.load (some 18) (.t 24)),
tq 150 (.load (some 18) (.t 25)),
tq 151 (.mkList 18 2 [.t 149, .t 150]),
tq 152 (.call false true (.k (.fn n_priority_Lots [] [])) [kq 2, .t 151]),
tq 148 (.mv (.t 152)),
tq 153 (.extract (.t 148) 0),
tq 154 (.extract (.t 148) 1),
tq 26 (.mv (.t 153)),
tq 27 (.mv (.t 154))] [24, 25, 148, 149, 150, 151, 152, 153, 154])
(.seq (.reg false [
tq 156 (.call false true (.k (.fn n_priority_Parse [] [])) [.k (.d (.str [99, 108, 97, 115, 115, 32, 97, 32, 98, 121, 32, 115, 101, 97, 116, 115, 10]))]),
tq 155 (.mv (.t 156)),
tq 157 (.extract (.t 155) 0),
tq 158 (.extract (.t 155) 1),
tq 159 (.extract (.t 155) 2),
tq 28 (.alloc ty_priority_Program [.z (.list 0 []), .z (.int .i64 0), .z (.int .i64 0), .z (.int .i64 0)]),
⟨none, none, .store 4 (.t 28) (.t 157)⟩,
tq 29 (.mv (.t 158)),
tq 30 (.mv (.t 159))] [28, 155, 156, 157, 158, 159])
(.seq (.reg false [
tq 161 (.call false true (.k (.fn n_priority_Parse [] [])) [.k (.d (.str [99, 108, 97, 115, 115, 32, 97, 32, 98, 121, 32, 115, 101, 97, 116, 115, 45, 10]))]),
tq 160 (.mv (.t 161)),
tq 162 (.extract (.t 160) 0),
tq 163 (.extract (.t 160) 1),
tq 164 (.extract (.t 160) 2),
tq 31 (.alloc ty_priority_Program [.z (.list 0 []), .z (.int .i64 0), .z (.int .i64 0), .z (.int .i64 0)]),
⟨none, none, .store 4 (.t 31) (.t 162)⟩,
tq 32 (.mv (.t 163)),
tq 33 (.mv (.t 164))] [31, 160, 161, 162, 163, 164])
(.seq (.reg false [
tq 166 (.load (some 18) (.t 8)),
tq 167 (.call false true (.k (.fn n_priority_Fact [] [])) [.t 166, .k (.d (.str [100, 97, 121, 115]))]),
tq 165 (.mv (.t 167)),
tq 168 (.extract (.t 165) 0),
tq 169 (.extract (.t 165) 1),
tq 34 (.mv (.t 168)),
tq 35 (.mv (.t 169))] [165, 166, 167, 168, 169])
(.seq (.reg false [
tq 171 (.call false true (.k (.fn n_priority_Newcomer [] [])) [.k (.d (.str [97, 98])), kq 8900, .k (.d (.list 0 []))]),
tq 170 (.mv (.t 171)),
tq 172 (.extract (.t 170) 0),
tq 173 (.extract (.t 170) 1),
tq 36 (.mv (.t 172)),
tq 37 (.mv (.t 173))] [170, 171, 172, 173])
(.seq (.reg false [
tq 174 (.mv (.t 23)),
tq 175 (.bin .eql (.t 174) (kq 0)),
tq 176 (.mv (.t 175)),
⟨some 177, (some (176, true)), .mv (.t 22)⟩,
⟨some 178, (some (176, true)), .mkList 1 5 [kq 1, kq 3, kq 0, kq 4, kq 2]⟩,
⟨some 179, (some (176, true)), .call false true (.k (.fn n_ref01_SameInts [] [])) [.t 177, .t 178]⟩,
tq 180 (.pick (.t 176) (.t 179) (.k (.d (.bool false)))),
tq 181 (.mv (.t 180)),
⟨some 182, (some (181, true)), .mv (.t 27)⟩,
⟨some 183, (some (181, true)), .bin .eql (.t 182) (kq 0)⟩,
tq 184 (.pick (.t 181) (.t 183) (.k (.d (.bool false)))),
tq 185 (.mv (.t 184)),
⟨some 186, (some (185, true)), .mv (.t 26)⟩,
⟨some 187, (some (185, true)), .mkList 1 2 [kq 1, kq 0]⟩,
⟨some 188, (some (185, true)), .call false true (.k (.fn n_ref01_SameInts [] [])) [.t 186, .t 187]⟩,
tq 189 (.pick (.t 185) (.t 188) (.k (.d (.bool false)))),
tq 190 (.mv (.t 189)),
⟨some 191, (some (190, true)), .mv (.t 29)⟩,
⟨some 192, (some (190, true)), .bin .eql (.t 191) (kq 0)⟩,
tq 193 (.pick (.t 190) (.t 192) (.k (.d (.bool false)))),
tq 194 (.mv (.t 193)),
⟨some 195, (some (194, true)), .mv (.t 30)⟩,
⟨some 196, (some (194, true)), .bin .eql (.t 195) (kq 25)⟩,
tq 197 (.pick (.t 194) (.t 196) (.k (.d (.bool false)))),
tq 198 (.mv (.t 197)),
⟨some 199, (some (198, true)), .mv (.t 32)⟩,
⟨some 200, (some (198, true)), .bin .eql (.t 199) (kq 1)⟩,
tq 201 (.pick (.t 198) (.t 200) (.k (.d (.bool false)))),
tq 202 (.mv (.t 201)),
⟨some 203, (some (202, true)), .mv (.t 33)⟩,
⟨some 204, (some (202, true)), .bin .eql (.t 203) (kq 28)⟩,
tq 205 (.pick (.t 202) (.t 204) (.k (.d (.bool false)))),
tq 206 (.mv (.t 205)),
⟨some 207, (some (206, true)), .mv (.t 35)⟩,
⟨some 208, (some (206, true)), .bin .eql (.t 207) (kq 0)⟩,
tq 209 (.pick (.t 206) (.t 208) (.k (.d (.bool false)))),
tq 210 (.mv (.t 209)),
⟨some 211, (some (210, true)), .mv (.t 34)⟩,
⟨some 212, (some (210, true)), .fieldAddr 0 (.t 8)⟩,
⟨some 213, (some (210, true)), .fieldAddr 6 (.t 212)⟩,
⟨some 214, (some (210, true)), .load (some 3) (.t 213)⟩,
⟨some 215, (some (210, true)), .call false true (.k (.fn n_ref01_DaysOf [] [])) [.t 214]⟩,
⟨some 216, (some (210, true)), .len .slc (.t 215)⟩,
⟨some 217, (some (210, true)), .bin .eql (.t 211) (.t 216)⟩,
tq 218 (.pick (.t 210) (.t 217) (.k (.d (.bool false)))),
tq 219 (.mv (.t 218)),
⟨some 220, (some (219, true)), .mv (.t 37)⟩,
⟨some 221, (some (219, true)), .bin .eql (.t 220) (kq 0)⟩,
tq 222 (.pick (.t 219) (.t 221) (.k (.d (.bool false)))),
tq 223 (.mv (.t 222)),
⟨some 224, (some (223, true)), .mv (.t 36)⟩,
tq 225 (.pick (.t 223) (.t 224) (.k (.d (.bool false)))),
tq 0 (.mv (.t 225))] [8, 22, 23, 26, 27, 29, 30, 32, 33, 34, 35, 36, 37, 174, 175, 176, 177, 178, 179, 180, 181, 182, 183, 184, 185, 186, 187, 188, 189, 190, 191, 192, 193, 194, 195, 196, 197, 198, 199, 200, 201, 202, 203, 204, 205, 206, 207, 208, 209, 210, 211, 212, 213, 214, 215, 216, 217, 218, 219, 220, 221, 222, 223, 224, 225])
.ret))))))))))))))))))))))⟩

def c_priority_Rank : CF := ⟨[.tmp 6, .tmp 7],
  (.seq (.reg false [
tq 3 (.box ty_priority_Program (.t 0)),
tq 6 (.mv (.k (.d (.list 0 [])))),
tq 7 (.mv (kq 0))] [0, 6, 7])
(.seq (.seq (.reg false [
tq 9 (.load (some 4) (.t 3)),
tq 10 (.mv (.t 1)),
tq 11 (.mv (.t 2)),
tq 12 (.call false true (.k (.fn n_priority_checkRanking [] [])) [.t 9, .t 10, .t 11]),
tq 8 (.mv (.t 12))] [9, 10, 11, 12])
(.seq (.reg false [
tq 13 (.mv (.t 8)),
tq 14 (.bin .neq (.t 13) (kq 0))] [13])
(.cond (.t 14) (.seq (.reg false [
tq 15 (.mv (.t 8)),
tq 6 (.mv (.k (.d (.list 0 [])))),
tq 7 (.mv (.t 15))] [8, 15])
.ret)
 .skip)))
(.seq (.reg false [
tq 16 (.load (some 4) (.t 3)),
tq 17 (.mv (.t 1)),
tq 18 (.mv (.t 2)),
tq 19 (.call false true (.k (.fn n_priority_ranked [] [])) [.t 16, .t 17, .t 18]),
tq 20 (.call false true (.k (.fn n_priority_ranking_order [] [])) [.t 19]),
tq 6 (.mv (.t 20)),
tq 7 (.mv (kq 0))] [1, 2, 3, 16, 17, 18, 19, 20])
.ret)))⟩

def b_law05_program_1 : C :=
  (.seq (.reg false [
tq 32 (.bin .lss (.t 31) (.t 30))] [])
(.seq (.cond (.t 32) .skip
 (.exit 2))
(.seq (.block 3 (.seq (.reg false [
tq 33 (.idxAddr 3 (.t 29) (.t 31)),
tq 34 (.load (some 3) (.t 33)),
tq 8 (.alloc ty_turnroundref05_Test [.z (.str []), .z (.str []), .z (.int .i64 0)]),
⟨none, none, .store 3 (.t 8) (.t 34)⟩] [33, 34])
(.reg false [
fa 35 1 6,
ld 36 35,
tq 37 (.load (some 3) (.t 8)),
tq 38 (.mkList 3 1 [.t 37]),
tq 39 (.append ⟨false, ty_priority_Test, 3, 40⟩ (.t 36) (.t 38)),
fa 40 1 6,
⟨none, none, .store 1 (.t 40) (.t 39)⟩] [8, 35, 36, 37, 38, 39, 40])))
(.reg false [
tq 41 (.bin .add (.t 31) (kq 1)),
tq 31 (.mv (.t 41))] [41]))))

def b_law05_program_2 : C :=
  (.seq (.reg false [
tq 46 (.bin .lss (.t 45) (.t 44))] [])
(.seq (.cond (.t 46) .skip
 (.exit 4))
(.seq (.block 5 (.seq (.reg false [
tq 47 (.idxAddr 2 (.t 43) (.t 45)),
tq 48 (.load (some 2) (.t 47)),
tq 10 (.alloc ty_turnroundref05_Key [.z (.str []), .z (.bool false)]),
⟨none, none, .store 2 (.t 10) (.t 48)⟩] [47, 48])
(.reg false [
fa 49 2 6,
ld 50 49,
tq 51 (.load (some 2) (.t 10)),
tq 52 (.mkList 2 1 [.t 51]),
tq 53 (.append ⟨false, ty_priority_Key, 2, 24⟩ (.t 50) (.t 52)),
fa 54 2 6,
⟨none, none, .store 1 (.t 54) (.t 53)⟩] [10, 49, 50, 51, 52, 53, 54])))
(.reg false [
tq 55 (.bin .add (.t 45) (kq 1)),
tq 45 (.mv (.t 55))] [55]))))

def b_law05_program_3 : C :=
  (.seq (.reg false [
tq 22 (.bin .lss (.t 21) (.t 20))] [])
(.seq (.cond (.t 22) .skip
 (.exit 0))
(.seq (.block 1 (.seq (.reg false [
tq 23 (.idxAddr 3 (.t 19) (.t 21)),
tq 24 (.load (some 3) (.t 23)),
tq 5 (.alloc ty_turnroundref05_Class [.z (.str []), .z (.list 0 []), .z (.list 0 [])]),
⟨none, none, .store 3 (.t 5) (.t 24)⟩] [23, 24])
(.seq (.reg false [
fa 25 0 5,
ld 26 25,
tq 27 (.build [.z (.str []), .own ⟨false, ty_priority_Test, 3, 40⟩, .own ⟨false, ty_priority_Key, 2, 24⟩] [(0, 1, .t 26)]),
tq 6 (.alloc ty_priority_Class [.z (.str []), .own ⟨false, ty_priority_Test, 3, 40⟩, .own ⟨false, ty_priority_Key, 2, 24⟩]),
⟨none, none, .store 3 (.t 6) (.t 27)⟩] [25, 26, 27])
(.seq (.seq (.reg false [
fa 28 1 5,
ld 29 28,
tq 30 (.len .slc (.t 29)),
tq 31 (.mv (kq 0))] [28])
(.block 2 (.loop [2, 3, 5, 6, 19, 20, 21, 29, 30, 31] b_law05_program_1)))
(.seq (.seq (.reg false [
fa 42 2 5,
ld 43 42,
tq 44 (.len .slc (.t 43)),
tq 45 (.mv (kq 0))] [5, 42])
(.block 4 (.loop [2, 3, 6, 19, 20, 21, 43, 44, 45] b_law05_program_2)))
(.reg false [
fa 56 0 3,
ld 57 56,
tq 58 (.load (some 3) (.t 6)),
tq 59 (.mkList 3 1 [.t 58]),
tq 60 (.append ⟨false, ty_priority_Class, 3, 64⟩ (.t 57) (.t 59)),
fa 61 0 3,
⟨none, none, .store 1 (.t 61) (.t 60)⟩] [6, 56, 57, 58, 59, 60, 61]))))))
(.reg false [
tq 62 (.bin .add (.t 21) (kq 1)),
tq 21 (.mv (.t 62))] [62]))))

def c_law05_program : CF := ⟨[.cell 2 (some 4)],
  (.seq (.reg false [
tq 1 (.box ty_turnroundref05_Program (.t 0)),
tq 2 (.alloc ty_priority_Program [.own ⟨false, ty_priority_Class, 3, 64⟩, .z (.int .i64 0), .z (.int .i64 0), .z (.int .i64 0)])] [0])
(.seq (.reg false [
fa 11 1 1,
ld 12 11,
fa 13 2 1,
ld 14 13,
fa 15 3 1,
ld 16 15,
tq 17 (.build [.own ⟨false, ty_priority_Class, 3, 64⟩, .z (.int .i64 0), .z (.int .i64 0), .z (.int .i64 0)] [(1, 1, .t 12), (2, 1, .t 14), (3, 1, .t 16)]),
tq 3 (.alloc ty_priority_Program [.own ⟨false, ty_priority_Class, 3, 64⟩, .z (.int .i64 0), .z (.int .i64 0), .z (.int .i64 0)]),
⟨none, none, .store 4 (.t 3) (.t 17)⟩] [11, 12, 13, 14, 15, 16, 17])
(.seq (.seq (.reg false [
fa 18 0 1,
ld 19 18,
tq 20 (.len .slc (.t 19)),
tq 21 (.mv (kq 0))] [1, 18])
(.block 0 (.loop [2, 3, 19, 20, 21] b_law05_program_3)))
(.seq (.reg false [
tq 63 (.load (some 4) (.t 3)),
⟨none, none, .store 4 (.t 2) (.t 63)⟩] [3, 63])
.ret))))⟩

def b_law05_claims_1 : C :=
  (.seq (.reg false [
tq 9 (.bin .lss (.t 8) (.t 7))] [])
(.seq (.cond (.t 9) .skip
 (.exit 0))
(.seq (.block 1 (.seq (.reg false [
tq 10 (.idxAddr 18 (.t 6) (.t 8)),
tq 11 (.load (some 18) (.t 10)),
tq 5 (.alloc ty_turnroundref05_Claim [.z (.str []), .z (.str []), .z (.str []), .z (.str []), .z (.str []), .z (.str []), .z (.int .i64 0), .z (.int .i64 0), .z (.int .i64 0), .z (.int .i64 0), .z (.int .i64 0), .z (.int .i64 0), .z (.int .i64 0), .z (.bool false), .z (.bool false), .z (.bool false), .z (.bool false), .z (.int .i64 0)]),
⟨none, none, .store 18 (.t 5) (.t 11)⟩] [10, 11])
(.reg false [
tq 12 (.mv (.t 3)),
tq 13 (.load (some 18) (.t 5)),
tq 14 (.mkList 18 1 [.t 13]),
tq 15 (.append ⟨false, ty_priority_Claim, 18, 168⟩ (.t 12) (.t 14)),
tq 3 (.mv (.t 15))] [5, 12, 13, 14, 15])))
(.reg false [
tq 16 (.bin .add (.t 8) (kq 1)),
tq 8 (.mv (.t 16))] [16]))))

def c_law05_claims : CF := ⟨[.tmp 2],
  (.seq (.reg false [
tq 2 (.ownNil ⟨false, ty_priority_Claim, 18, 168⟩)] [2])
(.seq (.reg false [
tq 3 (.ownNil ⟨false, ty_priority_Claim, 18, 168⟩)] [])
(.seq (.seq (.reg false [
tq 6 (.mv (.t 0)),
tq 7 (.len .slc (.t 6)),
tq 8 (.mv (kq 0))] [0])
(.block 0 (.loop [3, 6, 7, 8] b_law05_claims_1)))
(.seq (.reg false [
tq 17 (.mv (.t 3)),
tq 2 (.mv (.t 17))] [3, 17])
.ret))))⟩

def b_priority_Why_1 : C :=
  (.seq (.seq (.reg false [
tq 28 (.mv (.t 12)),
tq 29 (.mv (.t 10)),
tq 30 (.len .slc (.t 29)),
tq 31 (.bin .lss (.t 28) (.t 30))] [28, 29, 30])
(.cond (.t 31) .skip
 (.exit 0)))
(.seq (.block 1 (.seq (.reg true [
tq 35 (.load (some 6) (.t 9)),
tq 36 (.mv (.t 10)),
tq 37 (.mv (.t 12)),
tq 38 (.bin .sub (.t 37) (kq 1)),
tq 39 (.idxAddr 1 (.t 36) (.t 38)),
ld 40 39,
tq 41 (.mv (.t 10)),
tq 42 (.mv (.t 12)),
tq 43 (.idxAddr 1 (.t 41) (.t 42)),
ld 44 43,
tq 45 (.call false true (.k (.fn n_priority_ranking_compare [] [])) [.t 35, .t 40, .t 44]),
tq 34 (.mv (.t 45)),
tq 46 (.extract (.t 34) 0),
tq 47 (.extract (.t 34) 1),
tq 13 (.mv (.t 46)),
tq 14 (.mv (.t 47))] [34, 35, 36, 37, 38, 39, 40, 41, 42, 43, 44, 45, 46, 47])
(.seq (.seq (.reg false [
tq 48 (.mv (.t 13)),
tq 49 (.bin .gtr (.t 48) (kq 0))] [13, 48])
(.cond (.t 49) (.reg false [
tq 14 (.mv (.k (.d (.str [115, 104, 97, 114, 101]))))] [])
 .skip))
(.reg false [
tq 50 (.mv (.t 11)),
tq 51 (.mv (.t 14)),
tq 52 (.mkList 1 1 [.t 51]),
tq 53 (.append ⟨false, ty_string, 1, 16⟩ (.t 50) (.t 52)),
tq 11 (.mv (.t 53))] [14, 50, 51, 52, 53]))))
(.reg false [
tq 32 (.mv (.t 12)),
tq 33 (.bin .add (.t 32) (kq 1)),
tq 12 (.mv (.t 33))] [32, 33])))

def c_priority_Why : CF := ⟨[.tmp 6, .tmp 7],
  (.seq (.reg false [
tq 3 (.box ty_priority_Program (.t 0)),
tq 6 (.ownNil ⟨false, ty_string, 1, 16⟩),
tq 7 (.mv (kq 0))] [0, 6, 7])
(.seq (.seq (.reg false [
tq 15 (.load (some 4) (.t 3)),
tq 16 (.mv (.t 1)),
tq 17 (.mv (.t 2)),
tq 18 (.call false true (.k (.fn n_priority_checkRanking [] [])) [.t 15, .t 16, .t 17]),
tq 8 (.mv (.t 18))] [15, 16, 17, 18])
(.seq (.reg false [
tq 19 (.mv (.t 8)),
tq 20 (.bin .neq (.t 19) (kq 0))] [19])
(.cond (.t 20) (.seq (.reg false [
tq 21 (.mv (.t 8)),
tq 6 (.ownNil ⟨false, ty_string, 1, 16⟩),
tq 7 (.mv (.t 21))] [8, 21])
.ret)
 .skip)))
(.seq (.reg false [
tq 22 (.load (some 4) (.t 3)),
tq 23 (.mv (.t 1)),
tq 24 (.mv (.t 2)),
tq 25 (.call false true (.k (.fn n_priority_ranked [] [])) [.t 22, .t 23, .t 24]),
tq 9 (.alloc ty_priority_ranking [.z (.list 0 []), .z (.int .i64 0), .z (.int .i64 0), .z (.int .i64 0), .z (.list 0 []), .z (.list 0 [])]),
⟨none, none, .store 6 (.t 9) (.t 25)⟩] [1, 2, 3, 22, 23, 24, 25])
(.seq (.reg false [
tq 26 (.load (some 6) (.t 9)),
tq 27 (.call false true (.k (.fn n_priority_ranking_order [] [])) [.t 26]),
tq 10 (.mv (.t 27))] [26, 27])
(.seq (.reg false [
tq 11 (.ownNil ⟨false, ty_string, 1, 16⟩)] [])
(.seq (.seq (.reg false [
tq 12 (.mv (kq 1))] [])
(.block 0 (.loop [9, 10, 11, 12] b_priority_Why_1)))
(.seq (.reg false [
tq 54 (.mv (.t 11)),
tq 6 (.mv (.t 54)),
tq 7 (.mv (kq 0))] [11, 54])
.ret)))))))⟩

def b_ref01_IsOrder_1 : C :=
  (.seq (.seq (.reg false [
tq 25 (.mv (.t 4)),
tq 26 (.mv (.t 3)),
tq 27 (.bin .lss (.t 25) (.t 26))] [25, 26])
(.cond (.t 27) .skip
 (.exit 2)))
(.seq (.block 3 (.seq (.reg true [
tq 30 (.mv (.t 0)),
tq 31 (.mv (.t 4)),
tq 32 (.idxAddr 1 (.t 30) (.t 31)),
ld 33 32,
tq 34 (.mv (.t 0)),
tq 35 (.mv (.t 3)),
tq 36 (.idxAddr 1 (.t 34) (.t 35)),
ld 37 36,
tq 38 (.bin .eql (.t 33) (.t 37))] [30, 31, 32, 33, 34, 35, 36, 37])
(.cond (.t 38) (.seq (.reg false [
tq 2 (.mv (.k (.d (.bool false))))] [])
.ret)
 .skip)))
(.reg false [
tq 28 (.mv (.t 4)),
tq 29 (.bin .add (.t 28) (kq 1)),
tq 4 (.mv (.t 29))] [28, 29])))

def b_ref01_IsOrder_2 : C :=
  (.seq (.seq (.reg false [
tq 5 (.mv (.t 3)),
tq 6 (.mv (.t 0)),
tq 7 (.len .slc (.t 6)),
tq 8 (.bin .lss (.t 5) (.t 7))] [5, 6, 7])
(.cond (.t 8) .skip
 (.exit 0)))
(.seq (.block 1 (.seq (.seq (.reg false [
tq 11 (.mv (.t 0)),
tq 12 (.mv (.t 3)),
tq 13 (.idxAddr 1 (.t 11) (.t 12)),
ld 14 13,
tq 15 (.bin .lss (.t 14) (kq 0)),
tq 16 (.mv (.t 15)),
⟨some 17, (some (16, false)), .mv (.t 0)⟩,
⟨some 18, (some (16, false)), .mv (.t 3)⟩,
⟨some 19, (some (16, false)), .idxAddr 1 (.t 17) (.t 18)⟩,
⟨some 20, (some (16, false)), .load none (.t 19)⟩,
⟨some 21, (some (16, false)), .mv (.t 0)⟩,
⟨some 22, (some (16, false)), .len .slc (.t 21)⟩,
⟨some 23, (some (16, false)), .bin .geq (.t 20) (.t 22)⟩,
tq 24 (.pick (.t 16) (.k (.d (.bool true))) (.t 23))] [11, 12, 13, 14, 15, 16, 17, 18, 19, 20, 21, 22, 23])
(.cond (.t 24) (.seq (.reg false [
tq 2 (.mv (.k (.d (.bool false))))] [])
.ret)
 .skip))
(.seq (.reg false [
tq 4 (.mv (kq 0))] [])
(.block 2 (.loop [0, 3, 4] b_ref01_IsOrder_1)))))
(.reg false [
tq 9 (.mv (.t 3)),
tq 10 (.bin .add (.t 9) (kq 1)),
tq 3 (.mv (.t 10))] [9, 10])))

def c_ref01_IsOrder : CF := ⟨[.tmp 2],
  (.seq (.reg false [
tq 2 (.mv (.k (.d (.bool false))))] [2])
(.seq (.seq (.reg false [
tq 3 (.mv (kq 0))] [])
(.block 0 (.loop [0, 3] b_ref01_IsOrder_2)))
(.seq (.reg false [
tq 2 (.mv (.k (.d (.bool true))))] [])
.ret)))⟩

def c_priority_CheckRank : CF := ⟨[.tmp 8],
  (.seq (.reg false [
tq 4 (.box ty_priority_Program (.t 0)),
tq 8 (.mv (kq 0))] [0, 8])
(.seq (.seq (.reg false [
tq 10 (.load (some 4) (.t 4)),
tq 11 (.mv (.t 1)),
tq 12 (.mv (.t 2)),
tq 13 (.call false true (.k (.fn n_priority_checkRanking [] [])) [.t 10, .t 11, .t 12]),
tq 14 (.mv (.t 3)),
tq 15 (.len .slc (.t 14)),
tq 16 (.mv (.t 2)),
tq 17 (.len .slc (.t 16)),
tq 18 (.bin .neq (.t 15) (.t 17)),
tq 19 (.call false true (.k (.fn n_priority_when [] [])) [.t 18, kq 2]),
tq 20 (.mkList 1 2 [.t 13, .t 19]),
tq 21 (.call false true (.k (.fn n_priority_first [] [])) [.t 20]),
tq 9 (.mv (.t 21))] [10, 11, 12, 13, 14, 15, 16, 17, 18, 19, 20, 21])
(.seq (.reg false [
tq 22 (.mv (.t 9)),
tq 23 (.bin .neq (.t 22) (kq 0))] [22])
(.cond (.t 23) (.seq (.reg false [
tq 24 (.mv (.t 9)),
tq 8 (.mv (.t 24))] [9, 24])
.ret)
 .skip)))
(.seq (.reg false [
tq 25 (.mv (.t 3)),
tq 26 (.load (some 4) (.t 4)),
tq 27 (.mv (.t 1)),
tq 28 (.mv (.t 2)),
tq 29 (.call false true (.k (.fn n_priority_ranked [] [])) [.t 26, .t 27, .t 28]),
tq 30 (.call false true (.k (.fn n_priority_ranking_order [] [])) [.t 29]),
tq 31 (.call true true (.k (.fn n_slices_Equal_Lint_int [] [])) [.t 25, .t 30]),
tq 32 (.un .not (.t 31)),
tq 33 (.call false true (.k (.fn n_priority_when [] [])) [.t 32, kq 21]),
tq 8 (.mv (.t 33))] [1, 2, 3, 4, 25, 26, 27, 28, 29, 30, 31, 32, 33])
.ret)))⟩

def c_priority_ClassOf : CF := ⟨[.tmp 4, .tmp 5],
  (.seq (.reg false [
tq 2 (.box ty_priority_Program (.t 0)),
tq 3 (.box ty_priority_Claim (.t 1)),
tq 4 (.mv (kq 0)),
tq 5 (.mv (kq 0))] [0, 1, 4, 5])
(.seq (.seq (.reg true [
tq 7 (.load (some 4) (.t 2)),
tq 8 (.call false true (.k (.fn n_priority_CheckProgram [] [])) [.t 7]),
tq 9 (.load (some 18) (.t 3)),
tq 10 (.call false true (.k (.fn n_priority_CheckClaim [] [])) [.t 9]),
tq 11 (.mkList 1 2 [.t 8, .t 10]),
tq 12 (.call false true (.k (.fn n_priority_first [] [])) [.t 11]),
tq 6 (.mv (.t 12))] [7, 8, 9, 10, 11, 12])
(.seq (.reg false [
tq 13 (.mv (.t 6)),
tq 14 (.bin .neq (.t 13) (kq 0))] [13])
(.cond (.t 14) (.seq (.reg false [
tq 15 (.mv (.t 6)),
tq 4 (.mv (kq 0)),
tq 5 (.mv (.t 15))] [6, 15])
.ret)
 .skip)))
(.seq (.reg false [
tq 16 (.load (some 4) (.t 2)),
tq 17 (.load (some 18) (.t 3)),
tq 18 (.call false true (.k (.fn n_priority_Program_classOf [] [])) [.t 16, .t 17]),
tq 4 (.mv (.t 18)),
tq 5 (.mv (kq 0))] [2, 3, 16, 17, 18])
.ret)))⟩

def c_priority_Compare : CF := ⟨[.tmp 6, .tmp 7],
  (.seq (.reg false [
tq 3 (.box ty_priority_Program (.t 0)),
tq 4 (.box ty_priority_Claim (.t 1)),
tq 5 (.box ty_priority_Claim (.t 2)),
tq 6 (.mv (kq 0)),
tq 7 (.mv (kq 0))] [0, 1, 2, 6, 7])
(.seq (.seq (.reg true [
tq 11 (.load (some 4) (.t 3)),
tq 12 (.call false true (.k (.fn n_priority_CheckProgram [] [])) [.t 11]),
tq 13 (.load (some 18) (.t 4)),
tq 14 (.call false true (.k (.fn n_priority_CheckClaim [] [])) [.t 13]),
tq 15 (.load (some 18) (.t 5)),
tq 16 (.call false true (.k (.fn n_priority_CheckClaim [] [])) [.t 15]),
tq 17 (.mkList 1 3 [.t 12, .t 14, .t 16]),
tq 18 (.call false true (.k (.fn n_priority_first [] [])) [.t 17]),
tq 8 (.mv (.t 18))] [11, 12, 13, 14, 15, 16, 17, 18])
(.seq (.reg false [
tq 19 (.mv (.t 8)),
tq 20 (.bin .neq (.t 19) (kq 0))] [19])
(.cond (.t 20) (.seq (.reg false [
tq 21 (.mv (.t 8)),
tq 6 (.mv (kq 0)),
tq 7 (.mv (.t 21))] [8, 21])
.ret)
 .skip)))
(.seq (.reg false [
tq 23 (.load (some 4) (.t 3)),
tq 24 (.load (some 18) (.t 4)),
tq 25 (.load (some 18) (.t 5)),
tq 26 (.call false true (.k (.fn n_priority_Program_decide [] [])) [.t 23, .t 24, .t 25]),
tq 22 (.mv (.t 26)),
tq 27 (.extract (.t 22) 0),
tq 28 (.extract (.t 22) 1),
tq 9 (.mv (.t 27)),
tq 10 (.mv (.t 28))] [3, 4, 5, 10, 22, 23, 24, 25, 26, 27, 28])
(.seq (.reg false [
tq 29 (.mv (.t 9)),
tq 6 (.mv (.t 29)),
tq 7 (.mv (kq 0))] [9, 29])
.ret))))⟩

def b_priority_Parse_1 : C :=
  (.seq (.reg false [
tq 33 (.bin .lss (.t 32) (.t 31))] [])
(.seq (.cond (.t 33) .skip
 (.exit 0))
(.seq (.block 1 (.seq (.reg false [
tq 34 (.mv (.t 32)),
tq 35 (.idxAddr 1 (.t 30) (.t 32)),
ld 36 35,
tq 7 (.mv (.t 34)),
tq 8 (.mv (.t 36))] [34, 35, 36])
(.seq (.reg false [
tq 38 (.load (some 4) (.t 6)),
tq 39 (.mv (.t 8)),
tq 40 (.call true false (.k (.fn n_priority_Program_line [] [])) [.t 38, .t 39]),
tq 37 (.mv (.t 40)),
tq 41 (.extract (.t 37) 0),
tq 42 (.extract (.t 37) 1),
tq 43 (.extract (.t 37) 2),
tq 9 (.alloc ty_priority_Program [.own ⟨true, ty_priority_Class, 3, 64⟩, .z (.int .i64 0), .z (.int .i64 0), .z (.int .i64 0)]),
⟨none, none, .store 4 (.t 9) (.t 41)⟩,
tq 10 (.mv (.t 42)),
tq 11 (.mv (.t 43))] [8, 37, 38, 39, 40, 41, 42, 43])
(.seq (.seq (.reg false [
tq 44 (.mv (.t 11)),
tq 45 (.bin .neq (.t 44) (kq 0))] [44])
(.cond (.t 45) (.seq (.reg false [
tq 46 (.build [.own ⟨true, ty_priority_Class, 3, 64⟩, .z (.int .i64 0), .z (.int .i64 0), .z (.int .i64 0)] []),
tq 47 (.mv (.t 7)),
tq 48 (.mv (.t 11)),
⟨none, none, .store 4 (.t 2) (.t 46)⟩,
tq 3 (.mv (.t 47)),
tq 4 (.mv (.t 48))] [7, 11, 46, 47, 48])
.ret)
 .skip))
(.seq (.seq (.reg false [
tq 49 (.mv (.t 10)),
tq 50 (.mv (.t 49)),
⟨some 51, (some (50, true)), .mv (.t 7)⟩,
⟨some 52, (some (50, true)), .bin .add (.t 51) (kq 1)⟩,
⟨some 53, (some (50, true)), .mv (.t 5)⟩,
⟨some 54, (some (50, true)), .len .slc (.t 53)⟩,
⟨some 55, (some (50, true)), .bin .lss (.t 52) (.t 54)⟩,
tq 56 (.pick (.t 50) (.t 55) (.k (.d (.bool false))))] [49, 50, 51, 52, 53, 54, 55])
(.cond (.t 56) (.seq (.reg false [
tq 57 (.build [.own ⟨true, ty_priority_Class, 3, 64⟩, .z (.int .i64 0), .z (.int .i64 0), .z (.int .i64 0)] []),
tq 58 (.mv (.t 7)),
tq 59 (.bin .add (.t 58) (kq 1)),
⟨none, none, .store 4 (.t 2) (.t 57)⟩,
tq 3 (.mv (.t 59)),
tq 4 (.mv (kq 25))] [7, 57, 58, 59])
.ret)
 .skip))
(.seq (.seq (.reg false [
tq 60 (.mv (.t 10))] [10])
(.cond (.t 60) (.seq (.reg false [
tq 61 (.load (some 4) (.t 9)),
⟨none, none, .store 4 (.t 2) (.t 61)⟩,
tq 3 (.mv (kq 0)),
tq 4 (.mv (kq 0))] [9, 61])
.ret)
 .skip))
(.reg false [
tq 62 (.load (some 4) (.t 9)),
⟨none, none, .store 4 (.t 6) (.t 62)⟩] [9, 62])))))))
(.reg false [
tq 63 (.bin .add (.t 32) (kq 1)),
tq 32 (.mv (.t 63))] [63]))))

def c_priority_Parse : CF := ⟨[.cell 2 (some 4), .tmp 3, .tmp 4],
  (.seq (.reg false [
tq 2 (.alloc ty_priority_Program [.own ⟨true, ty_priority_Class, 3, 64⟩, .z (.int .i64 0), .z (.int .i64 0), .z (.int .i64 0)]),
tq 3 (.mv (kq 0)),
tq 4 (.mv (kq 0))] [3, 4])
(.seq (.seq (.reg false [
tq 12 (.mv (.t 0)),
tq 13 (.len .str (.t 12)),
tq 14 (.bin .gtr (.t 13) (kq 4096))] [12, 13])
(.cond (.t 14) (.seq (.reg false [
tq 15 (.build [.own ⟨true, ty_priority_Class, 3, 64⟩, .z (.int .i64 0), .z (.int .i64 0), .z (.int .i64 0)] []),
⟨none, none, .store 4 (.t 2) (.t 15)⟩,
tq 3 (.mv (kq 0)),
tq 4 (.mv (kq 26))] [15])
.ret)
 .skip))
(.seq (.reg false [
tq 16 (.mv (.t 0)),
tq 17 (.call false true (.k (.fn n_strings_SplitAfter [] [])) [.t 16, .k (.d (.str [10]))]),
tq 5 (.mv (.t 17))] [0, 16, 17])
(.seq (.seq (.reg false [
tq 18 (.mv (.t 5)),
tq 19 (.mv (.t 5)),
tq 20 (.len .slc (.t 19)),
tq 21 (.bin .sub (.t 20) (kq 1)),
tq 22 (.idxAddr 1 (.t 18) (.t 21)),
ld 23 22,
tq 24 (.bin .eql (.t 23) (.k (.d (.str []))))] [18, 19, 20, 21, 22, 23])
(.cond (.t 24) (.reg false [
tq 25 (.mv (.t 5)),
tq 26 (.mv (.t 5)),
tq 27 (.len .slc (.t 26)),
tq 28 (.bin .sub (.t 27) (kq 1)),
tq 29 (.slice 1 (.t 25) none (some (.t 28)) none),
tq 5 (.mv (.t 29))] [25, 26, 27, 28, 29])
 .skip))
(.seq (.reg false [
tq 6 (.alloc ty_priority_Program [.own ⟨true, ty_priority_Class, 3, 64⟩, .z (.int .i64 0), .z (.int .i64 0), .z (.int .i64 0)])] [])
(.seq (.seq (.reg false [
tq 30 (.mv (.t 5)),
tq 31 (.len .slc (.t 30)),
tq 32 (.mv (kq 0))] [])
(.block 0 (.loop [2, 5, 6, 30, 31, 32] b_priority_Parse_1)))
(.seq (.reg false [
tq 64 (.build [.own ⟨true, ty_priority_Class, 3, 64⟩, .z (.int .i64 0), .z (.int .i64 0), .z (.int .i64 0)] []),
tq 65 (.mv (.t 5)),
tq 66 (.len .slc (.t 65)),
⟨none, none, .store 4 (.t 2) (.t 64)⟩,
tq 3 (.mv (.t 66)),
tq 4 (.mv (kq 28))] [5, 64, 65, 66])
.ret)))))))⟩

def b_ref05_Same_1 : C :=
  (.seq (.seq (.reg false [
tq 78 (.mv (.t 8)),
fa 79 1 6,
ld 80 79,
tq 81 (.len .slc (.t 80)),
tq 82 (.bin .lss (.t 78) (.t 81))] [78, 79, 80, 81])
(.cond (.t 82) .skip
 (.exit 2)))
(.seq (.block 3 (.seq (.reg true [
fa 85 1 6,
ld 86 85,
tq 87 (.mv (.t 8)),
tq 88 (.idxAddr 3 (.t 86) (.t 87)),
tq 89 (.load (some 3) (.t 88)),
fa 90 1 7,
ld 91 90,
tq 92 (.mv (.t 8)),
tq 93 (.idxAddr 3 (.t 91) (.t 92)),
tq 94 (.load (some 3) (.t 93)),
tq 95 (.eqv (some [.str, .str, .int]) true (.t 89) (.t 94))] [85, 86, 87, 88, 89, 90, 91, 92, 93, 94])
(.cond (.t 95) (.seq (.reg false [
tq 4 (.mv (.k (.d (.bool false))))] [])
.ret)
 .skip)))
(.reg false [
tq 83 (.mv (.t 8)),
tq 84 (.bin .add (.t 83) (kq 1)),
tq 8 (.mv (.t 84))] [83, 84])))

def b_ref05_Same_2 : C :=
  (.seq (.seq (.reg false [
tq 96 (.mv (.t 9)),
fa 97 2 6,
ld 98 97,
tq 99 (.len .slc (.t 98)),
tq 100 (.bin .lss (.t 96) (.t 99))] [96, 97, 98, 99])
(.cond (.t 100) .skip
 (.exit 4)))
(.seq (.block 5 (.seq (.reg true [
fa 103 2 6,
ld 104 103,
tq 105 (.mv (.t 9)),
tq 106 (.idxAddr 2 (.t 104) (.t 105)),
tq 107 (.load (some 2) (.t 106)),
fa 108 2 7,
ld 109 108,
tq 110 (.mv (.t 9)),
tq 111 (.idxAddr 2 (.t 109) (.t 110)),
tq 112 (.load (some 2) (.t 111)),
tq 113 (.eqv (some [.str, .bool]) true (.t 107) (.t 112))] [103, 104, 105, 106, 107, 108, 109, 110, 111, 112])
(.cond (.t 113) (.seq (.reg false [
tq 4 (.mv (.k (.d (.bool false))))] [])
.ret)
 .skip)))
(.reg false [
tq 101 (.mv (.t 9)),
tq 102 (.bin .add (.t 101) (kq 1)),
tq 9 (.mv (.t 102))] [101, 102])))

def b_ref05_Same_3 : C :=
  (.seq (.seq (.reg false [
tq 38 (.mv (.t 5)),
fa 39 0 2,
ld 40 39,
tq 41 (.len .slc (.t 40)),
tq 42 (.bin .lss (.t 38) (.t 41))] [38, 39, 40, 41])
(.cond (.t 42) .skip
 (.exit 0)))
(.seq (.block 1 (.seq (.reg true [
fa 45 0 2,
ld 46 45,
tq 47 (.mv (.t 5)),
tq 48 (.idxAddr 3 (.t 46) (.t 47)),
tq 49 (.load (some 3) (.t 48)),
fa 50 0 3,
ld 51 50,
tq 52 (.mv (.t 5)),
tq 53 (.idxAddrD 3 (.t 51) (.t 52)),
tq 54 (.loadD (some 3) (.t 53)),
tq 6 (.alloc ty_turnroundref05_Class [.z (.str []), .z (.list 0 []), .z (.list 0 [])]),
tq 7 (.alloc ty_turnroundref05_Class [.z (.str []), .z (.list 0 []), .z (.list 0 [])]),
⟨none, none, .storeR 3 (.t 6) (.t 49) [3]⟩,
⟨none, none, .store 3 (.t 7) (.t 54)⟩] [45, 46, 47, 48, 49, 50, 51, 52, 53, 54])
(.seq (.seq (.reg false [
fa 55 0 6,
ld 56 55,
fa 57 0 7,
ld 58 57,
tq 59 (.bin .neq (.t 56) (.t 58)),
tq 60 (.mv (.t 59)),
⟨some 61, (some (60, false)), .fieldAddr 1 (.t 6)⟩,
⟨some 62, (some (60, false)), .load none (.t 61)⟩,
⟨some 63, (some (60, false)), .len .slc (.t 62)⟩,
⟨some 64, (some (60, false)), .fieldAddr 1 (.t 7)⟩,
⟨some 65, (some (60, false)), .load none (.t 64)⟩,
⟨some 66, (some (60, false)), .len .slc (.t 65)⟩,
⟨some 67, (some (60, false)), .bin .neq (.t 63) (.t 66)⟩,
tq 68 (.pick (.t 60) (.k (.d (.bool true))) (.t 67)),
tq 69 (.mv (.t 68)),
⟨some 70, (some (69, false)), .fieldAddr 2 (.t 6)⟩,
⟨some 71, (some (69, false)), .load none (.t 70)⟩,
⟨some 72, (some (69, false)), .len .slc (.t 71)⟩,
⟨some 73, (some (69, false)), .fieldAddr 2 (.t 7)⟩,
⟨some 74, (some (69, false)), .load none (.t 73)⟩,
⟨some 75, (some (69, false)), .len .slc (.t 74)⟩,
⟨some 76, (some (69, false)), .bin .neq (.t 72) (.t 75)⟩,
tq 77 (.pick (.t 69) (.k (.d (.bool true))) (.t 76))] [55, 56, 57, 58, 59, 60, 61, 62, 63, 64, 65, 66, 67, 68, 69, 70, 71, 72, 73, 74, 75, 76])
(.cond (.t 77) (.seq (.reg false [
tq 4 (.mv (.k (.d (.bool false))))] [])
.ret)
 .skip))
(.seq (.seq (.reg false [
tq 8 (.mv (kq 0))] [])
(.block 2 (.loop [2, 3, 5, 6, 7, 8] b_ref05_Same_1)))
(.seq (.reg false [
tq 9 (.mv (kq 0))] [])
(.block 4 (.loop [2, 3, 5, 6, 7, 9] b_ref05_Same_2)))))))
(.reg false [
tq 43 (.mv (.t 5)),
tq 44 (.bin .add (.t 43) (kq 1)),
tq 5 (.mv (.t 44))] [43, 44])))

def c_ref05_Same : CF := ⟨[.tmp 4],
  (.seq (.reg false [
tq 2 (.box ty_turnroundref05_Program (.t 0)),
tq 3 (.box ty_turnroundref05_Program (.t 1)),
tq 4 (.mv (.k (.d (.bool false))))] [0, 1, 4])
(.seq (.seq (.reg false [
fa 10 1 2,
ld 11 10,
fa 12 1 3,
ld 13 12,
tq 14 (.bin .neq (.t 11) (.t 13)),
tq 15 (.mv (.t 14)),
⟨some 16, (some (15, false)), .fieldAddr 2 (.t 2)⟩,
⟨some 17, (some (15, false)), .load none (.t 16)⟩,
⟨some 18, (some (15, false)), .fieldAddr 2 (.t 3)⟩,
⟨some 19, (some (15, false)), .load none (.t 18)⟩,
⟨some 20, (some (15, false)), .bin .neq (.t 17) (.t 19)⟩,
tq 21 (.pick (.t 15) (.k (.d (.bool true))) (.t 20)),
tq 22 (.mv (.t 21)),
⟨some 23, (some (22, false)), .fieldAddr 3 (.t 2)⟩,
⟨some 24, (some (22, false)), .load none (.t 23)⟩,
⟨some 25, (some (22, false)), .fieldAddr 3 (.t 3)⟩,
⟨some 26, (some (22, false)), .load none (.t 25)⟩,
⟨some 27, (some (22, false)), .bin .neq (.t 24) (.t 26)⟩,
tq 28 (.pick (.t 22) (.k (.d (.bool true))) (.t 27)),
tq 29 (.mv (.t 28)),
⟨some 30, (some (29, false)), .fieldAddr 0 (.t 2)⟩,
⟨some 31, (some (29, false)), .load none (.t 30)⟩,
⟨some 32, (some (29, false)), .len .slc (.t 31)⟩,
⟨some 33, (some (29, false)), .fieldAddr 0 (.t 3)⟩,
⟨some 34, (some (29, false)), .load none (.t 33)⟩,
⟨some 35, (some (29, false)), .len .slc (.t 34)⟩,
⟨some 36, (some (29, false)), .bin .neq (.t 32) (.t 35)⟩,
tq 37 (.pick (.t 29) (.k (.d (.bool true))) (.t 36))] [10, 11, 12, 13, 14, 15, 16, 17, 18, 19, 20, 21, 22, 23, 24, 25, 26, 27, 28, 29, 30, 31, 32, 33, 34, 35, 36])
(.cond (.t 37) (.seq (.reg false [
tq 4 (.mv (.k (.d (.bool false))))] [])
.ret)
 .skip))
(.seq (.seq (.reg false [
tq 5 (.mv (kq 0))] [])
(.block 0 (.loop [2, 3, 5] b_ref05_Same_3)))
(.seq (.reg false [
tq 4 (.mv (.k (.d (.bool true))))] [])
.ret))))⟩

def b_law05_own_1 : C :=
  (.seq (.reg false [
tq 32 (.bin .lss (.t 31) (.t 30))] [])
(.seq (.cond (.t 32) .skip
 (.exit 2))
(.seq (.block 3 (.seq (.reg false [
tq 33 (.idxAddr 3 (.t 29) (.t 31)),
tq 34 (.load (some 3) (.t 33)),
tq 8 (.alloc ty_priority_Test [.z (.str []), .z (.str []), .z (.int .i64 0)]),
⟨none, none, .store 3 (.t 8) (.t 34)⟩] [33, 34])
(.reg false [
fa 35 1 6,
ld 36 35,
tq 37 (.load (some 3) (.t 8)),
tq 38 (.mkList 3 1 [.t 37]),
tq 39 (.append ⟨false, ty_turnroundref05_Test, 3, 40⟩ (.t 36) (.t 38)),
fa 40 1 6,
⟨none, none, .store 1 (.t 40) (.t 39)⟩] [8, 35, 36, 37, 38, 39, 40])))
(.reg false [
tq 41 (.bin .add (.t 31) (kq 1)),
tq 31 (.mv (.t 41))] [41]))))

def b_law05_own_2 : C :=
  (.seq (.reg false [
tq 46 (.bin .lss (.t 45) (.t 44))] [])
(.seq (.cond (.t 46) .skip
 (.exit 4))
(.seq (.block 5 (.seq (.reg false [
tq 47 (.idxAddr 2 (.t 43) (.t 45)),
tq 48 (.load (some 2) (.t 47)),
tq 10 (.alloc ty_priority_Key [.z (.str []), .z (.bool false)]),
⟨none, none, .store 2 (.t 10) (.t 48)⟩] [47, 48])
(.reg false [
fa 49 2 6,
ld 50 49,
tq 51 (.load (some 2) (.t 10)),
tq 52 (.mkList 2 1 [.t 51]),
tq 53 (.append ⟨false, ty_turnroundref05_Key, 2, 24⟩ (.t 50) (.t 52)),
fa 54 2 6,
⟨none, none, .store 1 (.t 54) (.t 53)⟩] [10, 49, 50, 51, 52, 53, 54])))
(.reg false [
tq 55 (.bin .add (.t 45) (kq 1)),
tq 45 (.mv (.t 55))] [55]))))

def b_law05_own_3 : C :=
  (.seq (.reg false [
tq 22 (.bin .lss (.t 21) (.t 20))] [])
(.seq (.cond (.t 22) .skip
 (.exit 0))
(.seq (.block 1 (.seq (.reg false [
tq 23 (.idxAddr 3 (.t 19) (.t 21)),
tq 24 (.load (some 3) (.t 23)),
tq 5 (.alloc ty_priority_Class [.z (.str []), .z (.list 0 []), .z (.list 0 [])]),
⟨none, none, .store 3 (.t 5) (.t 24)⟩] [23, 24])
(.seq (.reg false [
fa 25 0 5,
ld 26 25,
tq 27 (.build [.z (.str []), .own ⟨false, ty_turnroundref05_Test, 3, 40⟩, .own ⟨false, ty_turnroundref05_Key, 2, 24⟩] [(0, 1, .t 26)]),
tq 6 (.alloc ty_turnroundref05_Class [.z (.str []), .own ⟨false, ty_turnroundref05_Test, 3, 40⟩, .own ⟨false, ty_turnroundref05_Key, 2, 24⟩]),
⟨none, none, .store 3 (.t 6) (.t 27)⟩] [25, 26, 27])
(.seq (.seq (.reg false [
fa 28 1 5,
ld 29 28,
tq 30 (.len .slc (.t 29)),
tq 31 (.mv (kq 0))] [28])
(.block 2 (.loop [2, 3, 5, 6, 19, 20, 21, 29, 30, 31] b_law05_own_1)))
(.seq (.seq (.reg false [
fa 42 2 5,
ld 43 42,
tq 44 (.len .slc (.t 43)),
tq 45 (.mv (kq 0))] [5, 42])
(.block 4 (.loop [2, 3, 6, 19, 20, 21, 43, 44, 45] b_law05_own_2)))
(.reg false [
fa 56 0 3,
ld 57 56,
tq 58 (.load (some 3) (.t 6)),
tq 59 (.mkList 3 1 [.t 58]),
tq 60 (.append ⟨false, ty_turnroundref05_Class, 3, 64⟩ (.t 57) (.t 59)),
fa 61 0 3,
⟨none, none, .store 1 (.t 61) (.t 60)⟩] [6, 56, 57, 58, 59, 60, 61]))))))
(.reg false [
tq 62 (.bin .add (.t 21) (kq 1)),
tq 21 (.mv (.t 62))] [62]))))

def c_law05_own : CF := ⟨[.cell 2 (some 4)],
  (.seq (.reg false [
tq 1 (.box ty_priority_Program (.t 0)),
tq 2 (.alloc ty_turnroundref05_Program [.own ⟨false, ty_turnroundref05_Class, 3, 64⟩, .z (.int .i64 0), .z (.int .i64 0), .z (.int .i64 0)])] [0])
(.seq (.reg false [
fa 11 1 1,
ld 12 11,
fa 13 2 1,
ld 14 13,
fa 15 3 1,
ld 16 15,
tq 17 (.build [.own ⟨false, ty_turnroundref05_Class, 3, 64⟩, .z (.int .i64 0), .z (.int .i64 0), .z (.int .i64 0)] [(1, 1, .t 12), (2, 1, .t 14), (3, 1, .t 16)]),
tq 3 (.alloc ty_turnroundref05_Program [.own ⟨false, ty_turnroundref05_Class, 3, 64⟩, .z (.int .i64 0), .z (.int .i64 0), .z (.int .i64 0)]),
⟨none, none, .store 4 (.t 3) (.t 17)⟩] [11, 12, 13, 14, 15, 16, 17])
(.seq (.seq (.reg false [
fa 18 0 1,
ld 19 18,
tq 20 (.len .slc (.t 19)),
tq 21 (.mv (kq 0))] [1, 18])
(.block 0 (.loop [2, 3, 19, 20, 21] b_law05_own_3)))
(.seq (.reg false [
tq 63 (.load (some 4) (.t 3)),
⟨none, none, .store 4 (.t 2) (.t 63)⟩] [3, 63])
.ret))))⟩

def b_priority_Print_1 : C :=
  (.seq (.reg false [
tq 41 (.bin .lss (.t 40) (.t 39))] [])
(.seq (.cond (.t 41) .skip
 (.exit 2))
(.seq (.block 3 (.seq (.reg false [
tq 42 (.idxAddr 3 (.t 38) (.t 40)),
tq 43 (.load (some 3) (.t 42)),
tq 11 (.alloc ty_priority_Test [.z (.str []), .z (.str []), .z (.int .i64 0)]),
⟨none, none, .store 3 (.t 11) (.t 43)⟩] [42, 43])
(.reg true [
tq 44 (.mv (.t 9)),
fa 45 0 11,
ld 46 45,
fa 47 1 11,
ld 48 47,
tq 49 (.bin .add (.t 46) (.t 48)),
fa 50 2 11,
ld 51 50,
tq 52 (.call false true (.k (.fn n_strconv_Itoa [] [])) [.t 51]),
tq 53 (.bin .add (.t 49) (.t 52)),
tq 54 (.mkList 1 1 [.t 53]),
tq 55 (.append ⟨false, ty_string, 1, 16⟩ (.t 44) (.t 54)),
tq 9 (.mv (.t 55))] [11, 44, 45, 46, 47, 48, 49, 50, 51, 52, 53, 54, 55])))
(.reg false [
tq 56 (.bin .add (.t 40) (kq 1)),
tq 40 (.mv (.t 56))] [56]))))

def b_priority_Print_2 : C :=
  (.seq (.reg false [
tq 68 (.bin .lss (.t 67) (.t 66))] [])
(.seq (.cond (.t 68) .skip
 (.exit 4))
(.seq (.block 5 (.seq (.reg false [
tq 69 (.idxAddr 2 (.t 65) (.t 67)),
tq 70 (.load (some 2) (.t 69)),
tq 13 (.alloc ty_priority_Key [.z (.str []), .z (.bool false)]),
⟨none, none, .store 2 (.t 13) (.t 70)⟩] [69, 70])
(.reg true [
tq 71 (.mv (.t 9)),
fa 72 0 13,
ld 73 72,
tq 74 (.load (some 2) (.t 13)),
tq 75 (.call false true (.k (.fn n_priority_Key_sign [] [])) [.t 74]),
tq 76 (.bin .add (.t 73) (.t 75)),
tq 77 (.mkList 1 1 [.t 76]),
tq 78 (.append ⟨false, ty_string, 1, 16⟩ (.t 71) (.t 77)),
tq 9 (.mv (.t 78))] [13, 71, 72, 73, 74, 75, 76, 77, 78])))
(.reg false [
tq 79 (.bin .add (.t 67) (kq 1)),
tq 67 (.mv (.t 79))] [79]))))

def b_priority_Print_3 : C :=
  (.seq (.reg false [
tq 24 (.bin .lss (.t 23) (.t 22))] [])
(.seq (.cond (.t 24) .skip
 (.exit 0))
(.seq (.block 1 (.seq (.reg false [
tq 25 (.idxAddr 3 (.t 21) (.t 23)),
tq 26 (.load (some 3) (.t 25)),
tq 8 (.alloc ty_priority_Class [.z (.str []), .z (.list 0 []), .z (.list 0 [])]),
⟨none, none, .store 3 (.t 8) (.t 26)⟩] [25, 26])
(.seq (.reg false [
fa 27 0 8,
ld 28 27,
tq 29 (.mkRow ⟨false, ty_string, 1, 16⟩ 2 [.k (.d (.str [99, 108, 97, 115, 115])), .t 28]),
tq 9 (.mv (.t 29))] [27, 28, 29])
(.seq (.seq (.reg false [
fa 30 1 8,
ld 31 30,
tq 32 (.len .slc (.t 31)),
tq 33 (.bin .gtr (.t 32) (kq 0))] [30, 31, 32])
(.cond (.t 33) (.reg false [
tq 34 (.mv (.t 9)),
tq 35 (.mkList 1 1 [.k (.d (.str [119, 104, 101, 110]))]),
tq 36 (.append ⟨false, ty_string, 1, 16⟩ (.t 34) (.t 35)),
tq 9 (.mv (.t 36))] [34, 35, 36])
 .skip))
(.seq (.seq (.reg false [
fa 37 1 8,
ld 38 37,
tq 39 (.len .slc (.t 38)),
tq 40 (.mv (kq 0))] [37])
(.block 2 (.loop [1, 5, 6, 8, 9, 21, 22, 23, 38, 39, 40] b_priority_Print_1)))
(.seq (.seq (.reg false [
fa 57 2 8,
ld 58 57,
tq 59 (.len .slc (.t 58)),
tq 60 (.bin .gtr (.t 59) (kq 0))] [57, 58, 59])
(.cond (.t 60) (.reg false [
tq 61 (.mv (.t 9)),
tq 62 (.mkList 1 1 [.k (.d (.str [98, 121]))]),
tq 63 (.append ⟨false, ty_string, 1, 16⟩ (.t 61) (.t 62)),
tq 9 (.mv (.t 63))] [61, 62, 63])
 .skip))
(.seq (.seq (.reg false [
fa 64 2 8,
ld 65 64,
tq 66 (.len .slc (.t 65)),
tq 67 (.mv (kq 0))] [8, 64])
(.block 4 (.loop [1, 5, 6, 9, 21, 22, 23, 65, 66, 67] b_priority_Print_2)))
(.reg false [
tq 80 (.mv (.t 6)),
tq 81 (.mv (.t 9)),
tq 82 (.call true true (.t 80) [.t 81])] [9, 80, 81, 82]))))))))
(.reg false [
tq 83 (.bin .add (.t 23) (kq 1)),
tq 23 (.mv (.t 83))] [83]))))

def c_priority_Print : CF := ⟨[.tmp 2, .tmp 3],
  (.seq (.reg false [
tq 1 (.box ty_priority_Program (.t 0)),
tq 2 (.mv (.k (.d (.str [])))),
tq 3 (.mv (kq 0))] [0, 2, 3])
(.seq (.seq (.reg false [
tq 14 (.load (some 4) (.t 1)),
tq 15 (.call false true (.k (.fn n_priority_CheckProgram [] [])) [.t 14]),
tq 4 (.mv (.t 15))] [14, 15])
(.seq (.reg false [
tq 16 (.mv (.t 4)),
tq 17 (.bin .neq (.t 16) (kq 0))] [16])
(.cond (.t 17) (.seq (.reg false [
tq 18 (.mv (.t 4)),
tq 2 (.mv (.k (.d (.str [])))),
tq 3 (.mv (.t 18))] [4, 18])
.ret)
 .skip)))
(.seq (.reg false [
tq 5 (.alloc ty_strings_Builder [.z .nilp, .own ⟨false, ty_uint8, 1, 1⟩])] [])
(.seq (.reg false [
tq 19 (.mkFunc n_priority_Print_1 [] [.t 5]),
tq 6 (.mv (.t 19))] [19])
(.seq (.seq (.reg false [
fa 20 0 1,
ld 21 20,
tq 22 (.len .slc (.t 21)),
tq 23 (.mv (kq 0))] [20])
(.block 0 (.loop [1, 5, 6, 21, 22, 23] b_priority_Print_3)))
(.seq (.reg true [
tq 84 (.mv (.t 6)),
fa 85 1 1,
ld 86 85,
tq 87 (.call false true (.k (.fn n_strconv_Itoa [] [])) [.t 86]),
fa 88 3 1,
ld 89 88,
tq 90 (.call false true (.k (.fn n_strconv_Itoa [] [])) [.t 89]),
fa 91 2 1,
ld 92 91,
tq 93 (.call false true (.k (.fn n_strconv_Itoa [] [])) [.t 92]),
tq 94 (.mkList 1 6 [.k (.d (.str [112, 111, 111, 108])), .t 87, .k (.d (.str [115, 104, 97, 114, 101])), .t 90, .k (.d (.str [111, 102])), .t 93]),
tq 95 (.call true true (.t 84) [.t 94])] [1, 6, 84, 85, 86, 87, 88, 89, 90, 91, 92, 93, 94, 95])
(.seq (.reg false [
tq 96 (.call true true (.k (.fn n_strings_Builder_String [] [])) [.t 5]),
tq 2 (.mv (.t 96)),
tq 3 (.mv (kq 0))] [5, 96])
.ret)))))))⟩

def c_ref02_Brief : CF := ⟨[.tmp 2],
  (.seq (.reg false [
tq 1 (.box ty_api_Request (.t 0)),
tq 2 (.mv (.k (.d (.bool false))))] [0, 2])
(.seq (.reg false [
fa 3 0 1,
ld 4 3,
tq 5 (.len .str (.t 4)),
tq 6 (.bin .leq (.t 5) (kq 40)),
tq 7 (.mv (.t 6)),
⟨some 8, (some (7, true)), .fieldAddr 1 (.t 1)⟩,
⟨some 9, (some (7, true)), .load none (.t 8)⟩,
⟨some 10, (some (7, true)), .len .str (.t 9)⟩,
⟨some 11, (some (7, true)), .bin .leq (.t 10) (kq 40)⟩,
tq 12 (.pick (.t 7) (.t 11) (.k (.d (.bool false)))),
tq 13 (.mv (.t 12)),
⟨some 14, (some (13, true)), .fieldAddr 2 (.t 1)⟩,
⟨some 15, (some (13, true)), .load none (.t 14)⟩,
⟨some 16, (some (13, true)), .len .str (.t 15)⟩,
⟨some 17, (some (13, true)), .bin .leq (.t 16) (kq 40)⟩,
tq 18 (.pick (.t 13) (.t 17) (.k (.d (.bool false)))),
tq 19 (.mv (.t 18)),
⟨some 20, (some (19, true)), .fieldAddr 3 (.t 1)⟩,
⟨some 21, (some (19, true)), .load none (.t 20)⟩,
⟨some 22, (some (19, true)), .len .str (.t 21)⟩,
⟨some 23, (some (19, true)), .bin .leq (.t 22) (kq 40)⟩,
tq 24 (.pick (.t 19) (.t 23) (.k (.d (.bool false)))),
tq 25 (.mv (.t 24)),
⟨some 26, (some (25, true)), .fieldAddr 4 (.t 1)⟩,
⟨some 27, (some (25, true)), .load none (.t 26)⟩,
⟨some 28, (some (25, true)), .len .str (.t 27)⟩,
⟨some 29, (some (25, true)), .bin .leq (.t 28) (kq 40)⟩,
tq 30 (.pick (.t 25) (.t 29) (.k (.d (.bool false)))),
tq 31 (.mv (.t 30)),
⟨some 32, (some (31, true)), .fieldAddr 5 (.t 1)⟩,
⟨some 33, (some (31, true)), .load none (.t 32)⟩,
⟨some 34, (some (31, true)), .len .str (.t 33)⟩,
⟨some 35, (some (31, true)), .bin .leq (.t 34) (kq 40)⟩,
tq 36 (.pick (.t 31) (.t 35) (.k (.d (.bool false)))),
tq 2 (.mv (.t 36))] [1, 3, 4, 5, 6, 7, 8, 9, 10, 11, 12, 13, 14, 15, 16, 17, 18, 19, 20, 21, 22, 23, 24, 25, 26, 27, 28, 29, 30, 31, 32, 33, 34, 35, 36])
.ret))⟩

def b_ref05_added_1 : C :=
  (.seq (.seq (.reg false [
tq 9 (.mv (.t 6)),
tq 10 (.mv (.t 0)),
tq 11 (.len .slc (.t 10)),
tq 12 (.bin .lss (.t 9) (.t 11)),
tq 13 (.mv (.t 12)),
⟨some 14, (some (13, true)), .mv (.t 5)⟩,
⟨some 15, (some (13, true)), .bin .eql (.t 14) (kq 0)⟩,
tq 16 (.pick (.t 13) (.t 15) (.k (.d (.bool false))))] [9, 10, 11, 12, 13, 14, 15])
(.cond (.t 16) .skip
 (.exit 0)))
(.seq (.block 1 (.seq (.reg true [
tq 19 (.mv (.t 0)),
tq 20 (.mv (.t 6)),
tq 21 (.idxAddr 3 (.t 19) (.t 20)),
fa 22 0 21,
ld 23 22,
fa 24 0 3,
ld 25 24,
tq 26 (.bin .eql (.t 23) (.t 25))] [19, 20, 21, 22, 23, 24, 25])
(.cond (.t 26) (.reg false [
tq 5 (.mv (kq 9))] [])
 .skip)))
(.reg false [
tq 17 (.mv (.t 6)),
tq 18 (.bin .add (.t 17) (kq 1)),
tq 6 (.mv (.t 18))] [17, 18])))

def c_ref05_added : CF := ⟨[.tmp 4],
  (.seq (.reg false [
tq 3 (.box ty_turnroundref05_Class (.t 1)),
tq 4 (.mv (kq 0))] [1, 4])
(.seq (.reg false [
tq 7 (.load (some 3) (.t 3)),
tq 8 (.call false true (.k (.fn n_ref05_CheckClass [] [])) [.t 7]),
tq 5 (.mv (.t 8))] [7, 8])
(.seq (.seq (.reg false [
tq 6 (.mv (kq 0))] [])
(.block 0 (.loop [0, 3, 5, 6] b_ref05_added_1)))
(.seq (.reg false [
tq 27 (.mv (.t 5)),
tq 4 (.mv (.t 27))] [5, 27])
.ret))))⟩

def c_ref05_CheckPool : CF := ⟨[.tmp 2],
  (.seq (.reg false [
tq 1 (.box ty_turnroundref05_Program (.t 0)),
tq 2 (.mv (kq 0))] [0, 2])
(.seq (.reg true [
fa 3 1 1,
ld 4 3,
fa 5 0 1,
ld 6 5,
tq 7 (.len .slc (.t 6)),
tq 8 (.call false true (.k (.fn n_ref01_CheckRange [] [])) [.t 4, kq 0, .t 7]),
fa 9 2 1,
ld 10 9,
tq 11 (.call false true (.k (.fn n_ref01_CheckRange [] [])) [.t 10, kq 1, kq 100]),
fa 12 3 1,
ld 13 12,
fa 14 2 1,
ld 15 14,
tq 16 (.call false true (.k (.fn n_ref01_CheckRange [] [])) [.t 13, kq 0, .t 15]),
tq 17 (.mkList 1 3 [.t 8, .t 11, .t 16]),
tq 18 (.call false true (.k (.fn n_ref01_First [] [])) [.t 17]),
tq 2 (.mv (.t 18))] [1, 3, 4, 5, 6, 7, 8, 9, 10, 11, 12, 13, 14, 15, 16, 17, 18])
.ret))⟩

def c_ref05_CheckClaim : CF := ⟨[.tmp 2],
  (.seq (.reg false [
tq 1 (.box ty_turnroundref05_Claim (.t 0)),
tq 2 (.mv (kq 0))] [0, 2])
(.seq (.reg true [
fa 3 0 1,
tq 4 (.load (some 13) (.t 3)),
tq 5 (.call false true (.k (.fn n_ref02_CheckRequest [] [])) [.t 4]),
fa 6 17 1,
ld 7 6,
tq 8 (.call false true (.k (.fn n_ref01_CheckRange [] [])) [.t 7, kq 0, kq 20000]),
tq 9 (.mkList 1 2 [.t 5, .t 8]),
tq 10 (.call false true (.k (.fn n_ref01_First [] [])) [.t 9]),
tq 2 (.mv (.t 10))] [1, 3, 4, 5, 6, 7, 8, 9, 10])
.ret))⟩

def c_priority_Default : CF := ⟨[.cell 0 (some 4)],
  (.seq (.reg false [
tq 0 (.alloc ty_priority_Program [.z (.list 0 []), .z (.int .i64 0), .z (.int .i64 0), .z (.int .i64 0)])] [])
(.seq (.reg false [
tq 4 (.build [.z (.str []), .z (.bool false)] [(0, 1, .k (.d (.str [100, 97, 121, 115]))), (1, 1, .k (.d (.bool true)))]),
tq 5 (.build [.z (.str []), .z (.bool false)] [(0, 1, .k (.d (.str [115, 101, 97, 116, 115]))), (1, 1, .k (.d (.bool true)))]),
tq 6 (.build [.z (.str []), .z (.bool false)] [(0, 1, .k (.d (.str [100, 105, 115, 116, 97, 110, 99, 101]))), (1, 1, .k (.d (.bool true)))]),
tq 1 (.alloc ty_priority_Key [.z (.str []), .z (.bool false)]),
tq 2 (.alloc ty_priority_Key [.z (.str []), .z (.bool false)]),
tq 3 (.alloc ty_priority_Key [.z (.str []), .z (.bool false)]),
⟨none, none, .store 2 (.t 1) (.t 4)⟩,
⟨none, none, .store 2 (.t 2) (.t 5)⟩,
⟨none, none, .store 2 (.t 3) (.t 6)⟩] [4, 5, 6])
(.seq (.reg false [
tq 7 (.build [.z (.str []), .z (.str []), .z (.int .i64 0)] [(0, 1, .k (.d (.str [104, 105, 115, 116, 111, 114, 105, 99]))), (1, 1, .k (.d (.str [61]))), (2, 1, kq 1)]),
tq 8 (.build [.z (.str []), .z (.str []), .z (.int .i64 0)] [(0, 1, .k (.d (.str [114, 101, 116, 105, 109, 101, 100]))), (1, 1, .k (.d (.str [61]))), (2, 1, kq 0)]),
tq 9 (.mkList 3 2 [.t 7, .t 8]),
tq 10 (.load (some 2) (.t 1)),
tq 11 (.load (some 2) (.t 2)),
tq 12 (.mkList 2 2 [.t 10, .t 11]),
tq 13 (.build [.z (.str []), .z (.list 0 []), .z (.list 0 [])] [(0, 1, .k (.d (.str [104, 105, 115, 116, 111, 114, 105, 99]))), (1, 1, .t 9), (2, 1, .t 12)]),
tq 14 (.build [.z (.str []), .z (.str []), .z (.int .i64 0)] [(0, 1, .k (.d (.str [104, 105, 115, 116, 111, 114, 105, 99]))), (1, 1, .k (.d (.str [61]))), (2, 1, kq 1)]),
tq 15 (.mkList 3 1 [.t 14]),
tq 16 (.load (some 2) (.t 1)),
tq 17 (.load (some 2) (.t 2)),
tq 18 (.mkList 2 2 [.t 16, .t 17]),
tq 19 (.build [.z (.str []), .z (.list 0 []), .z (.list 0 [])] [(0, 1, .k (.d (.str [114, 101, 116, 105, 109, 101, 100]))), (1, 1, .t 15), (2, 1, .t 18)]),
tq 20 (.build [.z (.str []), .z (.str []), .z (.int .i64 0)] [(0, 1, .k (.d (.str [121, 101, 97, 114, 114, 111, 117, 110, 100]))), (1, 1, .k (.d (.str [61]))), (2, 1, kq 1)]),
tq 21 (.mkList 3 1 [.t 20]),
tq 22 (.load (some 2) (.t 1)),
tq 23 (.load (some 2) (.t 2)),
tq 24 (.load (some 2) (.t 3)),
tq 25 (.mkList 2 3 [.t 22, .t 23, .t 24]),
tq 26 (.build [.z (.str []), .z (.list 0 []), .z (.list 0 [])] [(0, 1, .k (.d (.str [121, 101, 97, 114, 114, 111, 117, 110, 100]))), (1, 1, .t 21), (2, 1, .t 25)]),
tq 27 (.load (some 2) (.t 1)),
tq 28 (.load (some 2) (.t 2)),
tq 29 (.load (some 2) (.t 3)),
tq 30 (.mkList 2 3 [.t 27, .t 28, .t 29]),
tq 31 (.build [.z (.str []), .z (.list 0 []), .z (.list 0 [])] [(0, 1, .k (.d (.str [111, 116, 104, 101, 114, 115]))), (1, 1, .k (.d (.list 0 []))), (2, 1, .t 30)]),
tq 32 (.mkList 3 4 [.t 13, .t 19, .t 26, .t 31]),
tq 33 (.build [.z (.list 0 []), .z (.int .i64 0), .z (.int .i64 0), .z (.int .i64 0)] [(0, 1, .t 32), (1, 1, kq 2), (2, 1, kq 2), (3, 1, kq 1)]),
⟨none, none, .store 4 (.t 0) (.t 33)⟩] [1, 2, 3, 7, 8, 9, 10, 11, 12, 13, 14, 15, 16, 17, 18, 19, 20, 21, 22, 23, 24, 25, 26, 27, 28, 29, 30, 31, 32, 33])
.ret)))⟩

def c_law05_sample : CF := ⟨[.cell 4 (some 18)],
  (.seq (.reg false [
tq 4 (.alloc ty_priority_Claim [.z (.str []), .z (.str []), .z (.str []), .z (.str []), .z (.str []), .z (.str []), .z (.int .i64 0), .z (.int .i64 0), .z (.int .i64 0), .z (.int .i64 0), .z (.int .i64 0), .z (.int .i64 0), .z (.int .i64 0), .z (.bool false), .z (.bool false), .z (.bool false), .z (.bool false), .z (.int .i64 0)])] [])
(.seq (.reg false [
tq 5 (.mv (.t 0)),
tq 6 (.build [.z (.int .i64 0), .z (.int .i64 0), .z (.int .i64 0)] [(0, 1, kq 8900), (1, 1, kq 8920), (2, 1, kq 5)]),
tq 7 (.mv (.t 1)),
tq 8 (.build [.z (.str []), .z (.str []), .z (.str []), .z (.str []), .z (.str []), .z (.str []), .z (.int .i64 0), .z (.int .i64 0), .z (.int .i64 0), .z (.int .i64 0), .z (.int .i64 0), .z (.int .i64 0), .z (.int .i64 0)] [(0, 1, .t 5), (1, 1, .k (.d (.str [97, 98]))), (2, 1, .k (.d (.str [65]))), (4, 1, .k (.d (.str [102, 97, 114]))), (6, 3, .t 6), (9, 1, kq 600), (10, 1, .t 7), (11, 1, kq 4)]),
tq 9 (.build [.z (.str []), .z (.str []), .z (.str []), .z (.str []), .z (.str []), .z (.str []), .z (.int .i64 0), .z (.int .i64 0), .z (.int .i64 0), .z (.int .i64 0), .z (.int .i64 0), .z (.int .i64 0), .z (.int .i64 0), .z (.bool false), .z (.bool false), .z (.bool false), .z (.bool false), .z (.int .i64 0)] [(0, 13, .t 8)]),
⟨none, none, .store 18 (.t 4) (.t 9)⟩] [0, 1, 5, 6, 7, 8, 9])
.ret))⟩

def b_ref01_SameInts_1 : C :=
  (.seq (.seq (.reg false [
tq 11 (.mv (.t 5)),
tq 12 (.mv (.t 0)),
tq 13 (.len .slc (.t 12)),
tq 14 (.bin .lss (.t 11) (.t 13))] [11, 12, 13])
(.cond (.t 14) .skip
 (.exit 0)))
(.seq (.block 1 (.seq (.reg true [
tq 17 (.mv (.t 0)),
tq 18 (.mv (.t 5)),
tq 19 (.idxAddr 1 (.t 17) (.t 18)),
ld 20 19,
tq 21 (.mv (.t 1)),
tq 22 (.mv (.t 5)),
tq 23 (.idxAddr 1 (.t 21) (.t 22)),
ld 24 23,
tq 25 (.bin .neq (.t 20) (.t 24))] [17, 18, 19, 20, 21, 22, 23, 24])
(.cond (.t 25) (.seq (.reg false [
tq 4 (.mv (.k (.d (.bool false))))] [])
.ret)
 .skip)))
(.reg false [
tq 15 (.mv (.t 5)),
tq 16 (.bin .add (.t 15) (kq 1)),
tq 5 (.mv (.t 16))] [15, 16])))

def c_ref01_SameInts : CF := ⟨[.tmp 4],
  (.seq (.reg false [
tq 4 (.mv (.k (.d (.bool false))))] [4])
(.seq (.seq (.reg false [
tq 6 (.mv (.t 0)),
tq 7 (.len .slc (.t 6)),
tq 8 (.mv (.t 1)),
tq 9 (.len .slc (.t 8)),
tq 10 (.bin .neq (.t 7) (.t 9))] [6, 7, 8, 9])
(.cond (.t 10) (.seq (.reg false [
tq 4 (.mv (.k (.d (.bool false))))] [])
.ret)
 .skip))
(.seq (.seq (.reg false [
tq 5 (.mv (kq 0))] [])
(.block 0 (.loop [0, 1, 5] b_ref01_SameInts_1)))
(.seq (.reg false [
tq 4 (.mv (.k (.d (.bool true))))] [])
.ret))))⟩

def b_ref01_SameWords_1 : C :=
  (.seq (.seq (.reg false [
tq 11 (.mv (.t 5)),
tq 12 (.mv (.t 0)),
tq 13 (.len .slc (.t 12)),
tq 14 (.bin .lss (.t 11) (.t 13))] [11, 12, 13])
(.cond (.t 14) .skip
 (.exit 0)))
(.seq (.block 1 (.seq (.reg true [
tq 17 (.mv (.t 0)),
tq 18 (.mv (.t 5)),
tq 19 (.idxAddr 1 (.t 17) (.t 18)),
ld 20 19,
tq 21 (.mv (.t 1)),
tq 22 (.mv (.t 5)),
tq 23 (.idxAddr 1 (.t 21) (.t 22)),
ld 24 23,
tq 25 (.bin .neq (.t 20) (.t 24))] [17, 18, 19, 20, 21, 22, 23, 24])
(.cond (.t 25) (.seq (.reg false [
tq 4 (.mv (.k (.d (.bool false))))] [])
.ret)
 .skip)))
(.reg false [
tq 15 (.mv (.t 5)),
tq 16 (.bin .add (.t 15) (kq 1)),
tq 5 (.mv (.t 16))] [15, 16])))

def c_ref01_SameWords : CF := ⟨[.tmp 4],
  (.seq (.reg false [
tq 4 (.mv (.k (.d (.bool false))))] [4])
(.seq (.seq (.reg false [
tq 6 (.mv (.t 0)),
tq 7 (.len .slc (.t 6)),
tq 8 (.mv (.t 1)),
tq 9 (.len .slc (.t 8)),
tq 10 (.bin .neq (.t 7) (.t 9))] [6, 7, 8, 9])
(.cond (.t 10) (.seq (.reg false [
tq 4 (.mv (.k (.d (.bool false))))] [])
.ret)
 .skip))
(.seq (.seq (.reg false [
tq 5 (.mv (kq 0))] [])
(.block 0 (.loop [0, 1, 5] b_ref01_SameWords_1)))
(.seq (.reg false [
tq 4 (.mv (.k (.d (.bool true))))] [])
.ret))))⟩

def c_priority_Interleave : CF := ⟨[.tmp 6, .tmp 7],
  (.seq (.reg false [
tq 6 (.mv (.k (.d (.list 0 [])))),
tq 7 (.mv (kq 0))] [6, 7])
(.seq (.seq (.reg false [
tq 9 (.mv (.t 0)),
tq 10 (.call false true (.k (.fn n_priority_within [] [])) [.t 9, kq 1, kq 100]),
tq 11 (.mv (.t 1)),
tq 12 (.mv (.t 0)),
tq 13 (.call false true (.k (.fn n_priority_within [] [])) [.t 11, kq 0, .t 12]),
tq 14 (.mv (.t 2)),
tq 15 (.len .slc (.t 14)),
tq 16 (.bin .gtr (.t 15) (kq 64)),
tq 17 (.call false true (.k (.fn n_priority_when [] [])) [.t 16, kq 5]),
tq 18 (.mkList 1 3 [.t 10, .t 13, .t 17]),
tq 19 (.call false true (.k (.fn n_priority_first [] [])) [.t 18]),
tq 8 (.mv (.t 19))] [9, 10, 11, 12, 13, 14, 15, 16, 17, 18, 19])
(.seq (.reg false [
tq 20 (.mv (.t 8)),
tq 21 (.bin .neq (.t 20) (kq 0))] [20])
(.cond (.t 21) (.seq (.reg false [
tq 22 (.mv (.t 8)),
tq 6 (.mv (.k (.d (.list 0 [])))),
tq 7 (.mv (.t 22))] [8, 22])
.ret)
 .skip)))
(.seq (.reg false [
tq 23 (.mv (.t 0)),
tq 24 (.mv (.t 1)),
tq 25 (.mv (.t 2)),
tq 26 (.call false true (.k (.fn n_priority_interleaved [] [])) [.t 23, .t 24, .t 25]),
tq 6 (.mv (.t 26)),
tq 7 (.mv (kq 0))] [0, 1, 2, 23, 24, 25, 26])
.ret)))⟩

def c_priority_Lots : CF := ⟨[.tmp 4, .tmp 5],
  (.seq (.reg false [
tq 4 (.mv (.k (.d (.list 0 [])))),
tq 5 (.mv (kq 0))] [4, 5])
(.seq (.seq (.reg false [
tq 7 (.mv (.t 0)),
tq 8 (.call false true (.k (.fn n_priority_checkKey [] [])) [.t 7]),
tq 9 (.mv (.t 1)),
tq 10 (.call false true (.k (.fn n_priority_checkClaims [] [])) [.t 9]),
tq 11 (.mkList 1 2 [.t 8, .t 10]),
tq 12 (.call false true (.k (.fn n_priority_first [] [])) [.t 11]),
tq 6 (.mv (.t 12))] [7, 8, 9, 10, 11, 12])
(.seq (.reg false [
tq 13 (.mv (.t 6)),
tq 14 (.bin .neq (.t 13) (kq 0))] [13])
(.cond (.t 14) (.seq (.reg false [
tq 15 (.mv (.t 6)),
tq 4 (.mv (.k (.d (.list 0 [])))),
tq 5 (.mv (.t 15))] [6, 15])
.ret)
 .skip)))
(.seq (.reg false [
tq 16 (.mv (.t 0)),
tq 17 (.mv (.t 1)),
tq 18 (.call false true (.k (.fn n_priority_lots [] [])) [.t 16, .t 17]),
tq 4 (.mv (.t 18)),
tq 5 (.mv (kq 0))] [0, 1, 16, 17, 18])
.ret)))⟩

def c_priority_Fact : CF := ⟨[.tmp 4, .tmp 5],
  (.seq (.reg false [
tq 2 (.box ty_priority_Claim (.t 0)),
tq 4 (.mv (kq 0)),
tq 5 (.mv (kq 0))] [0, 4, 5])
(.seq (.reg false [
tq 10 (.call false false (.k (.fn n_priority_known [] [])) []),
tq 11 (.mv (.t 1)),
tq 12 (.lookup .str (.agg [.str [], .nilf]) true (.t 10) (.t 11)),
tq 9 (.mv (.t 12)),
tq 13 (.extract (.t 9) 0),
tq 14 (.extract (.t 9) 1),
tq 6 (.alloc ty_priority_fact [.z (.str []), .z (.nilf)]),
⟨none, none, .store 2 (.t 6) (.t 13)⟩,
tq 7 (.mv (.t 14))] [1, 9, 10, 11, 12, 13, 14])
(.seq (.seq (.reg false [
tq 15 (.load (some 18) (.t 2)),
tq 16 (.call false true (.k (.fn n_priority_CheckClaim [] [])) [.t 15]),
tq 17 (.mv (.t 7)),
tq 18 (.un .not (.t 17)),
tq 19 (.call false true (.k (.fn n_priority_when [] [])) [.t 18, kq 10]),
tq 20 (.mkList 1 2 [.t 16, .t 19]),
tq 21 (.call false true (.k (.fn n_priority_first [] [])) [.t 20]),
tq 8 (.mv (.t 21))] [7, 15, 16, 17, 18, 19, 20, 21])
(.seq (.reg false [
tq 22 (.mv (.t 8)),
tq 23 (.bin .neq (.t 22) (kq 0))] [22])
(.cond (.t 23) (.seq (.reg false [
tq 24 (.mv (.t 8)),
tq 4 (.mv (kq 0)),
tq 5 (.mv (.t 24))] [8, 24])
.ret)
 .skip)))
(.seq (.reg false [
fa 25 1 6,
ld 26 25,
tq 27 (.load (some 18) (.t 2)),
tq 28 (.call false true (.t 26) [.t 27]),
tq 4 (.mv (.t 28)),
tq 5 (.mv (kq 0))] [2, 6, 25, 26, 27, 28])
.ret))))⟩

def b_priority_Newcomer_1 : C :=
  (.seq (.reg false [
tq 37 (.bin .lss (.t 36) (.t 35))] [])
(.seq (.cond (.t 37) .skip
 (.exit 0))
(.seq (.block 1 (.seq (.reg false [
tq 38 (.idxAddr 13 (.t 34) (.t 36)),
tq 39 (.load (some 13) (.t 38)),
tq 11 (.alloc ty_api_Request [.z (.str []), .z (.str []), .z (.str []), .z (.str []), .z (.str []), .z (.str []), .z (.int .i64 0), .z (.int .i64 0), .z (.int .i64 0), .z (.int .i64 0), .z (.int .i64 0), .z (.int .i64 0), .z (.int .i64 0)]),
⟨none, none, .store 13 (.t 11) (.t 39)⟩] [38, 39])
(.seq (.reg false [
fa 41 6 11,
tq 42 (.load (some 3) (.t 41)),
tq 43 (.mv (.t 1)),
tq 44 (.call false true (.k (.fn n_calendar_Has [] [])) [.t 42, .t 43]),
tq 40 (.mv (.t 44)),
tq 45 (.extract (.t 40) 0),
tq 46 (.extract (.t 40) 1),
tq 12 (.mv (.t 45)),
tq 13 (.mv (.t 46))] [13, 40, 41, 42, 43, 44, 45, 46])
(.reg false [
tq 47 (.mv (.t 9)),
tq 48 (.mv (.t 12)),
tq 49 (.mv (.t 48)),
⟨some 50, (some (49, true)), .fieldAddr 1 (.t 11)⟩,
⟨some 51, (some (49, true)), .load none (.t 50)⟩,
⟨some 52, (some (49, true)), .mv (.t 0)⟩,
⟨some 53, (some (49, true)), .bin .eql (.t 51) (.t 52)⟩,
tq 54 (.pick (.t 49) (.t 53) (.k (.d (.bool false)))),
tq 55 (.call false true (.k (.fn n_priority_bit [] [])) [.t 54]),
tq 56 (.bin .add (.t 47) (.t 55)),
tq 9 (.mv (.t 56))] [11, 12, 47, 48, 49, 50, 51, 52, 53, 54, 55, 56]))))
(.reg false [
tq 57 (.bin .add (.t 36) (kq 1)),
tq 36 (.mv (.t 57))] [57]))))

def c_priority_Newcomer : CF := ⟨[.tmp 6, .tmp 7],
  (.seq (.reg false [
tq 6 (.mv (.k (.d (.bool false)))),
tq 7 (.mv (kq 0))] [6, 7])
(.seq (.reg false [
tq 14 (.mv (.t 0)),
tq 15 (.call false true (.k (.fn n_calendar_IsName [] [])) [.t 14]),
tq 16 (.un .not (.t 15)),
tq 17 (.call false true (.k (.fn n_priority_when [] [])) [.t 16, kq 8]),
tq 18 (.mv (.t 1)),
tq 19 (.call false true (.k (.fn n_priority_within [] [])) [.t 18, kq 0, kq 99999]),
tq 20 (.mv (.t 2)),
tq 21 (.len .slc (.t 20)),
tq 22 (.bin .gtr (.t 21) (kq 64)),
tq 23 (.call false true (.k (.fn n_priority_when [] [])) [.t 22, kq 5]),
tq 24 (.mkList 1 3 [.t 17, .t 19, .t 23]),
tq 25 (.call false true (.k (.fn n_priority_first [] [])) [.t 24]),
tq 8 (.mv (.t 25))] [14, 15, 16, 17, 18, 19, 20, 21, 22, 23, 24, 25])
(.seq (.seq (.reg false [
tq 26 (.mv (.t 8)),
tq 27 (.bin .neq (.t 26) (kq 0))] [26])
(.cond (.t 27) (.seq (.reg false [
tq 28 (.mv (.t 8)),
tq 6 (.mv (.k (.d (.bool false)))),
tq 7 (.mv (.t 28))] [8, 28])
.ret)
 .skip))
(.seq (.reg false [
tq 29 (.mv (.t 2)),
tq 30 (.call false true (.k (.fn n_priority_each_api_Request [] [])) [.t 29, .k (.fn n_priority_Newcomer_1 [] [])]),
tq 8 (.mv (.t 30))] [29, 30])
(.seq (.seq (.reg false [
tq 31 (.mv (.t 8)),
tq 32 (.bin .neq (.t 31) (kq 0))] [31])
(.cond (.t 32) (.seq (.reg false [
tq 33 (.mv (.t 8)),
tq 6 (.mv (.k (.d (.bool false)))),
tq 7 (.mv (.t 33))] [8, 33])
.ret)
 .skip))
(.seq (.reg false [
tq 9 (.mv (kq 0))] [])
(.seq (.seq (.reg false [
tq 34 (.mv (.t 2)),
tq 35 (.len .slc (.t 34)),
tq 36 (.mv (kq 0))] [2])
(.block 0 (.loop [0, 1, 9, 34, 35, 36] b_priority_Newcomer_1)))
(.seq (.reg false [
tq 58 (.mv (.t 9)),
tq 59 (.bin .lss (.t 58) (kq 5)),
tq 6 (.mv (.t 59)),
tq 7 (.mv (kq 0))] [9, 58, 59])
.ret))))))))⟩

def b_ref01_DaysOf_1 : C :=
  (.seq (.seq (.reg false [
tq 7 (.mv (.t 4)),
fa 8 1 1,
ld 9 8,
tq 10 (.bin .leq (.t 7) (.t 9))] [7, 8, 9])
(.cond (.t 10) .skip
 (.exit 0)))
(.seq (.block 1 (.seq (.reg false [
tq 13 (.load (some 3) (.t 1)),
tq 14 (.mv (.t 4)),
tq 15 (.call false true (.k (.fn n_ref01_Has [] [])) [.t 13, .t 14])] [13, 14])
(.cond (.t 15) (.reg false [
tq 16 (.mv (.t 3)),
tq 17 (.mv (.t 4)),
tq 18 (.mkList 1 1 [.t 17]),
tq 19 (.append ⟨false, ty_int, 1, 8⟩ (.t 16) (.t 18)),
tq 3 (.mv (.t 19))] [16, 17, 18, 19])
 .skip)))
(.reg false [
tq 11 (.mv (.t 4)),
tq 12 (.bin .add (.t 11) (kq 1)),
tq 4 (.mv (.t 12))] [11, 12])))

def c_ref01_DaysOf : CF := ⟨[.tmp 2],
  (.seq (.reg false [
tq 1 (.box ty_api_Period (.t 0)),
tq 2 (.ownNil ⟨false, ty_int, 1, 8⟩)] [0, 2])
(.seq (.reg false [
tq 3 (.ownNil ⟨false, ty_int, 1, 8⟩)] [])
(.seq (.seq (.reg false [
fa 5 0 1,
ld 6 5,
tq 4 (.mv (.t 6))] [5, 6])
(.block 0 (.loop [1, 3, 4] b_ref01_DaysOf_1)))
(.seq (.reg false [
tq 20 (.mv (.t 3)),
tq 2 (.mv (.t 20))] [3, 20])
.ret))))⟩

def c_priority_checkRanking : CF := ⟨[.tmp 6],
  (.seq (.reg false [
tq 3 (.box ty_priority_Program (.t 0)),
tq 6 (.mv (kq 0))] [0, 6])
(.seq (.reg false [
tq 7 (.load (some 4) (.t 3)),
tq 8 (.call false true (.k (.fn n_priority_CheckProgram [] [])) [.t 7]),
tq 9 (.mv (.t 1)),
tq 10 (.call false true (.k (.fn n_priority_checkKey [] [])) [.t 9]),
tq 11 (.mv (.t 2)),
tq 12 (.call false true (.k (.fn n_priority_checkClaims [] [])) [.t 11]),
tq 13 (.mkList 1 3 [.t 8, .t 10, .t 12]),
tq 14 (.call false true (.k (.fn n_priority_first [] [])) [.t 13]),
tq 6 (.mv (.t 14))] [1, 2, 3, 7, 8, 9, 10, 11, 12, 13, 14])
.ret))⟩

def c_priority_ranked : CF := ⟨[.cell 6 (some 6)],
  (.seq (.reg false [
tq 3 (.box ty_priority_Program (.t 0)),
tq 6 (.alloc ty_priority_ranking [.z (.list 0 []), .z (.int .i64 0), .z (.int .i64 0), .z (.int .i64 0), .z (.list 0 []), .z (.list 0 [])])] [0])
(.seq (.reg true [
tq 7 (.load (some 4) (.t 3)),
tq 8 (.mv (.t 2)),
tq 9 (.mv (.t 1)),
tq 10 (.mv (.t 2)),
tq 11 (.call false true (.k (.fn n_priority_lots [] [])) [.t 9, .t 10]),
tq 12 (.build [.z (.list 0 []), .z (.int .i64 0), .z (.int .i64 0), .z (.int .i64 0), .z (.list 0 []), .z (.list 0 [])] [(0, 4, .t 7), (4, 1, .t 8), (5, 1, .t 11)]),
⟨none, none, .store 6 (.t 6) (.t 12)⟩] [1, 2, 3, 7, 8, 9, 10, 11, 12])
.ret))⟩

def b_priority_ranking_order_1 : C :=
  (.seq (.reg false [
tq 37 (.bin .lss (.t 36) (.t 35))] [])
(.seq (.cond (.t 37) .skip
 (.exit 0))
(.seq (.block 1 (.seq (.reg false [
tq 38 (.idxAddr 1 (.t 34) (.t 36)),
ld 39 38,
tq 8 (.mv (.t 39))] [38, 39])
(.reg false [
tq 40 (.mv (.t 6)),
fa 41 4 1,
ld 42 41,
tq 43 (.mv (.t 8)),
tq 44 (.idxAddr 18 (.t 42) (.t 43)),
fa 45 15 44,
ld 46 45,
tq 47 (.mkList 1 1 [.t 46]),
tq 48 (.append ⟨false, ty_bool, 1, 1⟩ (.t 40) (.t 47)),
tq 6 (.mv (.t 48))] [8, 40, 41, 42, 43, 44, 45, 46, 47, 48])))
(.reg false [
tq 49 (.bin .add (.t 36) (kq 1)),
tq 36 (.mv (.t 49))] [49]))))

def b_priority_ranking_order_2 : C :=
  (.seq (.reg false [
tq 60 (.bin .lss (.t 59) (.t 58))] [])
(.seq (.cond (.t 60) .skip
 (.exit 2))
(.seq (.block 3 (.seq (.reg false [
tq 61 (.mv (.t 59)),
tq 62 (.idxAddr 1 (.t 57) (.t 59)),
ld 63 62,
tq 9 (.mv (.t 61)),
tq 10 (.mv (.t 63))] [61, 62, 63])
(.reg false [
tq 64 (.mv (.t 3)),
tq 65 (.mv (.t 4)),
tq 66 (.mv (.t 9)),
tq 67 (.bin .add (.t 65) (.t 66)),
tq 68 (.mv (.t 5)),
tq 69 (.mv (.t 10)),
tq 70 (.idxAddr 1 (.t 68) (.t 69)),
ld 71 70,
tq 72 (.idxAddr 1 (.t 64) (.t 67)),
⟨none, none, .store 1 (.t 72) (.t 71)⟩] [9, 10, 64, 65, 66, 67, 68, 69, 70, 71, 72])))
(.reg false [
tq 73 (.bin .add (.t 59) (kq 1)),
tq 59 (.mv (.t 73))] [73]))))

def c_priority_ranking_order : CF := ⟨[.tmp 2],
  (.seq (.reg false [
tq 1 (.box ty_priority_ranking (.t 0)),
tq 2 (.ownNil ⟨true, ty_int, 1, 8⟩)] [0, 2])
(.seq (.reg false [
fa 11 4 1,
ld 12 11,
tq 13 (.len .slc (.t 12)),
tq 14 (.makeRow ⟨true, ty_int, 1, 8⟩ [.int .i64 0] (.t 13)),
tq 3 (.mv (.t 14))] [11, 12, 13, 14])
(.seq (.reg false [
tq 15 (.mv (.t 3)),
fa 16 4 1,
ld 17 16,
tq 18 (.len .slc (.t 17)),
tq 19 (.call false true (.k (.fn n_priority_indices [] [])) [.t 18]),
tq 20 (.copy 1 (.t 15) (.t 19))] [15, 16, 17, 18, 19, 20])
(.seq (.reg false [
tq 21 (.mv (.t 3)),
tq 22 (.mkFunc n_priority_ranking_order_1 [] [.t 1]),
tq 23 (.call true true (.k (.fn n_slices_SortFunc_Lint_int [] [])) [.t 21, .t 22])] [21, 22, 23])
(.seq (.reg false [
tq 24 (.mv (.t 3)),
tq 25 (.mkFunc n_priority_ranking_order_2 [] [.t 1]),
tq 26 (.call true true (.k (.fn n_slices_IndexFunc_Lint_int [] [])) [.t 24, .t 25]),
tq 4 (.mv (.t 26))] [24, 25, 26])
(.seq (.seq (.reg false [
tq 27 (.mv (.t 4)),
tq 28 (.bin .lss (.t 27) (kq 0))] [27])
(.cond (.t 28) (.seq (.reg false [
tq 29 (.mv (.t 3)),
tq 2 (.mv (.t 29))] [3, 29])
.ret)
 .skip))
(.seq (.reg false [
tq 30 (.mv (.t 3)),
tq 31 (.mv (.t 4)),
tq 32 (.slice 1 (.t 30) (some (.t 31)) none none),
tq 33 (.call true true (.k (.fn n_slices_Clone_Lint_int [] [])) [.t 32]),
tq 5 (.mv (.t 33))] [30, 31, 32, 33])
(.seq (.reg false [
tq 6 (.ownNil ⟨false, ty_bool, 1, 1⟩)] [])
(.seq (.seq (.reg false [
tq 34 (.mv (.t 5)),
tq 35 (.len .slc (.t 34)),
tq 36 (.mv (kq 0))] [])
(.block 0 (.loop [1, 3, 4, 5, 6, 34, 35, 36] b_priority_ranking_order_1)))
(.seq (.seq (.reg false [
fa 50 0 1,
fa 51 2 50,
ld 52 51,
fa 53 0 1,
fa 54 3 53,
ld 55 54,
tq 56 (.mv (.t 6)),
tq 57 (.call false true (.k (.fn n_priority_interleaved [] [])) [.t 52, .t 55, .t 56]),
tq 58 (.len .slc (.t 57)),
tq 59 (.mv (kq 0))] [1, 6, 50, 51, 52, 53, 54, 55, 56])
(.block 2 (.loop [3, 4, 5, 57, 58, 59] b_priority_ranking_order_2)))
(.seq (.reg false [
tq 74 (.mv (.t 3)),
tq 2 (.mv (.t 74))] [3, 74])
.ret)))))))))))⟩

def c_priority_ranking_compare : CF := ⟨[.tmp 6, .tmp 7],
  (.seq (.reg false [
tq 3 (.box ty_priority_ranking (.t 0)),
tq 6 (.mv (kq 0)),
tq 7 (.mv (.k (.d (.str []))))] [0, 6, 7])
(.seq (.reg true [
fa 11 0 3,
tq 12 (.load (some 4) (.t 11)),
fa 13 4 3,
ld 14 13,
tq 15 (.mv (.t 1)),
tq 16 (.idxAddr 18 (.t 14) (.t 15)),
tq 17 (.load (some 18) (.t 16)),
fa 18 4 3,
ld 19 18,
tq 20 (.mv (.t 2)),
tq 21 (.idxAddr 18 (.t 19) (.t 20)),
tq 22 (.load (some 18) (.t 21)),
tq 23 (.call false true (.k (.fn n_priority_Program_decide [] [])) [.t 12, .t 17, .t 22]),
tq 10 (.mv (.t 23)),
tq 24 (.extract (.t 10) 0),
tq 25 (.extract (.t 10) 1),
tq 8 (.mv (.t 24)),
tq 9 (.mv (.t 25))] [10, 11, 12, 13, 14, 15, 16, 17, 18, 19, 20, 21, 22, 23, 24, 25])
(.seq (.seq (.reg false [
tq 26 (.mv (.t 8)),
tq 27 (.bin .eql (.t 26) (kq 0))] [26])
(.cond (.t 27) (.seq (.reg true [
fa 28 5 3,
ld 29 28,
tq 30 (.mv (.t 1)),
tq 31 (.idxAddr 1 (.t 29) (.t 30)),
ld 32 31,
fa 33 5 3,
ld 34 33,
tq 35 (.mv (.t 2)),
tq 36 (.idxAddr 1 (.t 34) (.t 35)),
ld 37 36,
tq 38 (.call false true (.k (.fn n_cmp_Compare_int [] [])) [.t 32, .t 37]),
tq 6 (.mv (.t 38)),
tq 7 (.mv (.k (.d (.str [108, 111, 116]))))] [1, 2, 3, 28, 29, 30, 31, 32, 33, 34, 35, 36, 37, 38])
.ret)
 .skip))
(.seq (.reg false [
tq 39 (.mv (.t 8)),
tq 40 (.mv (.t 9)),
tq 6 (.mv (.t 39)),
tq 7 (.mv (.t 40))] [8, 9, 39, 40])
.ret))))⟩

def b_priority_first_1 : C :=
  (.seq (.reg false [
tq 8 (.bin .lss (.t 7) (.t 6))] [])
(.seq (.cond (.t 8) .skip
 (.exit 0))
(.seq (.block 1 (.seq (.reg false [
tq 9 (.idxAddr 1 (.t 5) (.t 7)),
ld 10 9,
tq 4 (.mv (.t 10))] [9, 10])
(.seq (.reg false [
tq 11 (.mv (.t 4)),
tq 12 (.bin .neq (.t 11) (kq 0))] [11])
(.cond (.t 12) (.seq (.reg false [
tq 13 (.mv (.t 4)),
tq 2 (.mv (.t 13))] [4, 13])
.ret)
 .skip))))
(.reg false [
tq 14 (.bin .add (.t 7) (kq 1)),
tq 7 (.mv (.t 14))] [14]))))

def c_priority_first : CF := ⟨[.tmp 2],
  (.seq (.reg false [
tq 2 (.mv (kq 0))] [2])
(.seq (.seq (.reg false [
tq 5 (.mv (.t 0)),
tq 6 (.len .slc (.t 5)),
tq 7 (.mv (kq 0))] [0])
(.block 0 (.loop [5, 6, 7] b_priority_first_1)))
(.seq (.reg false [
tq 2 (.mv (kq 0))] [])
.ret)))⟩

def c_priority_when : CF := ⟨[.tmp 4],
  (.seq (.reg false [
tq 4 (.mv (kq 0))] [4])
(.seq (.seq (.reg false [
tq 5 (.mv (.t 0))] [0])
(.cond (.t 5) (.seq (.reg false [
tq 6 (.mv (.t 1)),
tq 4 (.mv (.t 6))] [1, 6])
.ret)
 .skip))
(.seq (.reg false [
tq 4 (.mv (kq 0))] [])
.ret)))⟩

def b_slices_Equal_Lint_int_1 : C :=
  (.seq (.reg false [
tq 14 (.bin .lss (.t 13) (.t 12))] [])
(.seq (.cond (.t 14) .skip
 (.exit 0))
(.seq (.block 1 (.seq (.reg false [
tq 15 (.mv (.t 13)),
tq 5 (.mv (.t 15))] [15])
(.seq (.reg true [
tq 16 (.mv (.t 0)),
tq 17 (.mv (.t 5)),
tq 18 (.idxAddr 1 (.t 16) (.t 17)),
ld 19 18,
tq 20 (.mv (.t 1)),
tq 21 (.mv (.t 5)),
tq 22 (.idxAddr 1 (.t 20) (.t 21)),
ld 23 22,
tq 24 (.bin .neq (.t 19) (.t 23))] [5, 16, 17, 18, 19, 20, 21, 22, 23])
(.cond (.t 24) (.seq (.reg false [
tq 4 (.mv (.k (.d (.bool false))))] [])
.ret)
 .skip))))
(.reg false [
tq 25 (.bin .add (.t 13) (kq 1)),
tq 13 (.mv (.t 25))] [25]))))

def c_slices_Equal_Lint_int : CF := ⟨[.tmp 4],
  (.seq (.reg false [
tq 4 (.mv (.k (.d (.bool false))))] [4])
(.seq (.seq (.reg false [
tq 6 (.mv (.t 0)),
tq 7 (.len .slc (.t 6)),
tq 8 (.mv (.t 1)),
tq 9 (.len .slc (.t 8)),
tq 10 (.bin .neq (.t 7) (.t 9))] [6, 7, 8, 9])
(.cond (.t 10) (.seq (.reg false [
tq 4 (.mv (.k (.d (.bool false))))] [])
.ret)
 .skip))
(.seq (.seq (.reg false [
tq 11 (.mv (.t 0)),
tq 12 (.len .slc (.t 11)),
tq 13 (.mv (kq 0))] [11])
(.block 0 (.loop [0, 1, 12, 13] b_slices_Equal_Lint_int_1)))
(.seq (.reg false [
tq 4 (.mv (.k (.d (.bool true))))] [])
.ret))))⟩

def c_priority_CheckProgram : CF := ⟨[.tmp 2],
  (.seq (.reg false [
tq 1 (.box ty_priority_Program (.t 0)),
tq 2 (.mv (kq 0))] [0, 2])
(.seq (.seq (.reg true [
fa 4 0 1,
ld 5 4,
tq 6 (.len .slc (.t 5)),
tq 7 (.bin .eql (.t 6) (kq 0)),
tq 8 (.call false true (.k (.fn n_priority_when [] [])) [.t 7, kq 12]),
fa 9 0 1,
ld 10 9,
tq 11 (.len .slc (.t 10)),
tq 12 (.bin .gtr (.t 11) (kq 16)),
tq 13 (.call false true (.k (.fn n_priority_when [] [])) [.t 12, kq 5]),
tq 14 (.mkList 1 2 [.t 8, .t 13]),
tq 15 (.call false true (.k (.fn n_priority_first [] [])) [.t 14]),
tq 3 (.mv (.t 15))] [4, 5, 6, 7, 8, 9, 10, 11, 12, 13, 14, 15])
(.seq (.reg false [
tq 16 (.mv (.t 3)),
tq 17 (.bin .neq (.t 16) (kq 0))] [16])
(.cond (.t 17) (.seq (.reg false [
tq 18 (.mv (.t 3)),
tq 2 (.mv (.t 18))] [3, 18])
.ret)
 .skip)))
(.seq (.reg true [
fa 19 0 1,
ld 20 19,
tq 21 (.call false true (.k (.fn n_priority_each_priority_Class [] [])) [.t 20, .k (.fn n_priority_added [] [])]),
tq 22 (.load (some 4) (.t 1)),
tq 23 (.call false true (.k (.fn n_priority_Program_pool [] [])) [.t 22]),
tq 24 (.mkList 1 2 [.t 21, .t 23]),
tq 25 (.call false true (.k (.fn n_priority_first [] [])) [.t 24]),
tq 2 (.mv (.t 25))] [1, 19, 20, 21, 22, 23, 24, 25])
.ret)))⟩

def c_priority_CheckClaim : CF := ⟨[.tmp 2],
  (.seq (.reg false [
tq 1 (.box ty_priority_Claim (.t 0)),
tq 2 (.mv (kq 0))] [0, 2])
(.seq (.reg true [
fa 3 0 1,
tq 4 (.load (some 13) (.t 3)),
tq 5 (.call false true (.k (.fn n_message_CheckRequest [] [])) [.t 4]),
fa 6 17 1,
ld 7 6,
tq 8 (.call false true (.k (.fn n_priority_within [] [])) [.t 7, kq 0, kq 20000]),
tq 9 (.mkList 1 2 [.t 5, .t 8]),
tq 10 (.call false true (.k (.fn n_priority_first [] [])) [.t 9]),
tq 2 (.mv (.t 10))] [1, 3, 4, 5, 6, 7, 8, 9, 10])
.ret))⟩

def b_priority_Program_classOf_1 : C :=
  (.seq (.reg false [
tq 21 (.bin .lss (.t 20) (.t 19))] [])
(.seq (.cond (.t 21) .skip
 (.exit 2))
(.seq (.block 3 (.seq (.reg false [
tq 22 (.idxAddr 3 (.t 18) (.t 20)),
tq 23 (.load (some 3) (.t 22)),
tq 8 (.alloc ty_priority_Test [.z (.str []), .z (.str []), .z (.int .i64 0)]),
⟨none, none, .store 3 (.t 8) (.t 23)⟩] [22, 23])
(.seq (.reg false [
tq 24 (.load (some 18) (.t 3)),
tq 25 (.load (some 3) (.t 8)),
tq 26 (.call false true (.k (.fn n_priority_holds [] [])) [.t 24, .t 25]),
tq 27 (.un .not (.t 26))] [8, 24, 25, 26])
(.cond (.t 27) (.exit 1)
 .skip))))
(.reg false [
tq 28 (.bin .add (.t 20) (kq 1)),
tq 20 (.mv (.t 28))] [28]))))

def b_priority_Program_classOf_2 : C :=
  (.seq (.reg false [
tq 13 (.bin .lss (.t 12) (.t 11))] [])
(.seq (.cond (.t 13) .skip
 (.exit 0))
(.seq (.block 1 (.seq (.reg false [
tq 14 (.mv (.t 12)),
tq 15 (.idxAddr 3 (.t 10) (.t 12)),
tq 16 (.load (some 3) (.t 15)),
tq 6 (.alloc ty_priority_Class [.z (.str []), .z (.list 0 []), .z (.list 0 [])]),
tq 5 (.mv (.t 14)),
⟨none, none, .store 3 (.t 6) (.t 16)⟩] [14, 15, 16])
(.seq (.seq (.reg false [
fa 17 1 6,
ld 18 17,
tq 19 (.len .slc (.t 18)),
tq 20 (.mv (kq 0))] [6, 17])
(.block 2 (.loop [2, 3, 5, 10, 11, 12, 18, 19, 20] b_priority_Program_classOf_1)))
(.seq (.reg false [
tq 29 (.mv (.t 5)),
tq 4 (.mv (.t 29))] [5, 29])
.ret))))
(.reg false [
tq 30 (.bin .add (.t 12) (kq 1)),
tq 12 (.mv (.t 30))] [30]))))

def c_priority_Program_classOf : CF := ⟨[.tmp 4],
  (.seq (.reg false [
tq 2 (.box ty_priority_Program (.t 0)),
tq 3 (.box ty_priority_Claim (.t 1)),
tq 4 (.mv (kq 0))] [0, 1, 4])
(.scope (.seq .label
(.seq (.seq (.reg false [
fa 9 0 2,
ld 10 9,
tq 11 (.len .slc (.t 10)),
tq 12 (.mv (kq 0))] [9])
(.block 0 (.loop [2, 3, 10, 11, 12] b_priority_Program_classOf_2)))
(.seq (.reg false [
fa 31 0 2,
ld 32 31,
tq 33 (.len .slc (.t 32)),
tq 4 (.mv (.t 33))] [2, 31, 32, 33])
.ret)))))⟩

def b_priority_Program_decide_1 : C :=
  (.seq (.reg false [
tq 10 (.alloc ty_priority_Key [.z (.str []), .z (.bool false)]),
⟨none, none, .store 2 (.t 10) (.t 42)⟩] [42])
(.reg false [
tq 11 (.alloc ty_priority_fact [.z (.str []), .z (.nilf)]),
⟨none, none, .store 2 (.t 11) (.t 43)⟩] [43]))

def b_priority_Program_decide_2 : C :=
  (.block 1 (.seq (.reg true [
fa 44 1 11,
ld 45 44,
tq 46 (.load (some 18) (.t 4)),
tq 47 (.call false true (.t 45) [.t 46]),
fa 48 1 11,
ld 49 48,
tq 50 (.load (some 18) (.t 5)),
tq 51 (.call false true (.t 49) [.t 50]),
tq 12 (.mv (.t 47)),
tq 13 (.mv (.t 51))] [4, 5, 11, 44, 45, 46, 47, 48, 49, 50, 51])
(.seq (.reg false [
tq 52 (.mv (.t 12)),
tq 53 (.mv (.t 13)),
tq 54 (.bin .neq (.t 52) (.t 53))] [52, 53])
(.cond (.t 54) (.seq (.reg true [
tq 55 (.mv (.t 12)),
tq 56 (.mv (.t 13)),
tq 57 (.bin .gtr (.t 55) (.t 56)),
fa 58 1 10,
ld 59 58,
tq 60 (.eqv none true (.t 57) (.t 59)),
tq 61 (.call false true (.k (.fn n_priority_bit [] [])) [.t 60]),
tq 62 (.bin .mul (kq 2) (.t 61)),
tq 63 (.bin .sub (.t 62) (kq 1)),
fa 64 0 10,
ld 65 64,
⟨none, none, .storeR 1 (.t 6) (.t 63) [10]⟩,
⟨none, none, .store 1 (.t 7) (.t 65)⟩] [10, 12, 13, 55, 56, 57, 58, 59, 60, 61, 62, 63, 64, 65])
.ret)
 .skip))))

def c_priority_Program_decide : CF := ⟨[.cell 6 none, .cell 7 none],
  (.seq (.reg false [
tq 3 (.box ty_priority_Program (.t 0)),
tq 4 (.box ty_priority_Claim (.t 1)),
tq 5 (.box ty_priority_Claim (.t 2)),
tq 6 (.alloc ty_int [.z (.int .i64 0)]),
tq 7 (.alloc ty_string [.z (.str [])])] [0, 1, 2])
(.seq (.reg true [
tq 14 (.load (some 4) (.t 3)),
tq 15 (.load (some 18) (.t 4)),
tq 16 (.call false true (.k (.fn n_priority_Program_classOf [] [])) [.t 14, .t 15]),
tq 17 (.load (some 4) (.t 3)),
tq 18 (.load (some 18) (.t 5)),
tq 19 (.call false true (.k (.fn n_priority_Program_classOf [] [])) [.t 17, .t 18]),
tq 8 (.mv (.t 16)),
tq 9 (.mv (.t 19))] [14, 15, 16, 17, 18, 19])
(.seq (.seq (.reg false [
tq 20 (.mv (.t 8)),
tq 21 (.mv (.t 9)),
tq 22 (.bin .neq (.t 20) (.t 21))] [20, 21])
(.cond (.t 22) (.seq (.reg false [
tq 23 (.mv (.t 8)),
tq 24 (.mv (.t 9)),
tq 25 (.bin .gtr (.t 23) (.t 24)),
tq 26 (.call false true (.k (.fn n_priority_bit [] [])) [.t 25]),
tq 27 (.bin .mul (kq 2) (.t 26)),
tq 28 (.bin .sub (.t 27) (kq 1)),
⟨none, none, .store 1 (.t 6) (.t 28)⟩,
⟨none, none, .store 1 (.t 7) (.k (.d (.str [99, 108, 97, 115, 115])))⟩] [8, 9, 23, 24, 25, 26, 27, 28])
.ret)
 .skip))
(.seq (.seq (.reg false [
fa 29 0 4,
tq 30 (.load (some 13) (.t 29)),
fa 31 0 5,
tq 32 (.load (some 13) (.t 31)),
tq 33 (.eqv (some [.str, .str, .str, .str, .str, .str, .int, .int, .int, .int, .int, .int, .int]) false (.t 30) (.t 32)),
tq 34 (.mv (.t 33)),
⟨some 35, (some (34, true)), .load (some 18) (.t 4)⟩,
⟨some 36, (some (34, true)), .load (some 18) (.t 5)⟩,
⟨some 37, (some (34, true)), .eqv (some [.str, .str, .str, .str, .str, .str, .int, .int, .int, .int, .int, .int, .int, .bool, .bool, .bool, .bool, .int]) false (.t 35) (.t 36)⟩,
tq 38 (.pick (.t 34) (.t 37) (.k (.d (.bool false))))] [29, 30, 31, 32, 33, 34, 35, 36, 37])
(.cond (.t 38) (.seq (.reg false [
⟨none, none, .store 1 (.t 6) (kq 0)⟩,
⟨none, none, .store 1 (.t 7) (.k (.d (.str [])))⟩] [])
.ret)
 .skip))
(.seq (.seq (.reg false [
tq 39 (.load (some 4) (.t 3)),
tq 40 (.mv (.t 8)),
tq 41 (.call false false (.k (.fn n_priority_Program_keys [] [])) [.t 39, .t 40])] [3, 8, 39, 40])
(.block 0 (.rangeFn 67 (.t 41) [42, 43] b_priority_Program_decide_1 b_priority_Program_decide_2)))
(.seq (.reg false [
⟨none, none, .store 1 (.t 6) (kq 0)⟩,
⟨none, none, .store 1 (.t 7) (.k (.d (.str [])))⟩] [])
.ret))))))⟩

def c_strings_SplitAfter : CF := ⟨[.tmp 4],
  (.seq (.reg false [
tq 4 (.mv (.k (.d (.list 0 []))))] [4])
(.seq (.reg false [
tq 5 (.mv (.t 0)),
tq 6 (.mv (.t 1)),
tq 7 (.mv (.t 1)),
tq 8 (.len .str (.t 7)),
tq 9 (.call false true (.k (.fn n_strings_genSplit [] [])) [.t 5, .t 6, .t 8, kq (-1)]),
tq 4 (.mv (.t 9))] [0, 1, 5, 6, 7, 8, 9])
.ret))⟩

def c_priority_Program_line : CF := ⟨[.cell 4 (some 4), .tmp 5, .tmp 6],
  (.seq (.reg false [
tq 2 (.box ty_priority_Program (.t 0)),
tq 4 (.alloc ty_priority_Program [.own ⟨true, ty_priority_Class, 3, 64⟩, .z (.int .i64 0), .z (.int .i64 0), .z (.int .i64 0)]),
tq 5 (.mv (.k (.d (.bool false)))),
tq 6 (.mv (kq 0))] [0, 5, 6])
(.seq (.reg false [
tq 17 (.mv (.t 1)),
tq 18 (.call false true (.k (.fn n_strings_CutSuffix [] [])) [.t 17, .k (.d (.str [10]))]),
tq 16 (.mv (.t 18)),
tq 19 (.extract (.t 16) 0),
tq 20 (.extract (.t 16) 1),
tq 7 (.mv (.t 19)),
tq 8 (.mv (.t 20))] [1, 16, 17, 18, 19, 20])
(.seq (.reg false [
tq 21 (.mv (.t 7)),
tq 22 (.call false true (.k (.fn n_strings_Split [] [])) [.t 21, .k (.d (.str [32]))]),
tq 23 (.build [.z (.list 0 [])] [(0, 1, .t 22)]),
tq 24 (.box ty_priority_reader (.t 23)),
tq 9 (.mv (.t 24))] [7, 21, 22, 23, 24])
(.seq (.seq (.reg false [
tq 25 (.mv (.t 8)),
tq 26 (.un .not (.t 25)),
tq 27 (.mv (.t 26)),
⟨some 28, (some (27, false)), .mv (.t 9)⟩,
⟨some 29, (some (27, false)), .nilCheck (.t 28)⟩,
⟨some 30, (some (27, false)), .fieldAddr 0 (.t 29)⟩,
⟨some 31, (some (27, false)), .load none (.t 30)⟩,
⟨some 32, (some (27, false)), .call false true (.k (.fn n_slices_Contains_Lstring_string [] [])) [.t 31, .k (.d (.str []))]⟩,
tq 33 (.pick (.t 27) (.k (.d (.bool true))) (.t 32))] [8, 25, 26, 27, 28, 29, 30, 31, 32])
(.cond (.t 33) (.seq (.reg false [
tq 34 (.build [.own ⟨true, ty_priority_Class, 3, 64⟩, .z (.int .i64 0), .z (.int .i64 0), .z (.int .i64 0)] []),
⟨none, none, .store 4 (.t 4) (.t 34)⟩,
tq 5 (.mv (.k (.d (.bool false)))),
tq 6 (.mv (kq 25))] [34])
.ret)
 .skip))
(.seq (.seq (.reg false [
tq 35 (.mv (.t 9)),
tq 36 (.call true true (.k (.fn n_priority_reader_next [] [])) [.t 35])] [35])
(.block 0 (.seq (.reg false [
tq 38 (.bin .eql (.t 36) (.k (.d (.str [99, 108, 97, 115, 115])))),
tq 37 (.mv (.t 38))] [38])
(.cond (.t 37) (.seq (.reg false [
tq 40 (.mv (.t 9)),
tq 41 (.call true true (.k (.fn n_priority_reader_class [] [])) [.t 40]),
tq 39 (.mv (.t 41)),
tq 42 (.extract (.t 39) 0),
tq 43 (.extract (.t 39) 1),
tq 10 (.alloc ty_priority_Class [.z (.str []), .z (.list 0 []), .z (.list 0 [])]),
⟨none, none, .store 3 (.t 10) (.t 42)⟩,
tq 11 (.mv (.t 43))] [9, 39, 40, 41, 42, 43])
(.seq (.seq (.reg true [
tq 44 (.mv (.t 11)),
tq 45 (.un .not (.t 44)),
tq 46 (.call false true (.k (.fn n_priority_when [] [])) [.t 45, kq 25]),
fa 47 0 2,
ld 48 47,
tq 49 (.len .slc (.t 48)),
tq 50 (.bin .geq (.t 49) (kq 16)),
tq 51 (.call false true (.k (.fn n_priority_when [] [])) [.t 50, kq 5]),
tq 52 (.mkList 1 2 [.t 46, .t 51]),
tq 53 (.call false true (.k (.fn n_priority_first [] [])) [.t 52]),
tq 12 (.mv (.t 53))] [11, 44, 45, 46, 47, 48, 49, 50, 51, 52, 53])
(.seq (.reg false [
tq 54 (.mv (.t 12)),
tq 55 (.bin .neq (.t 54) (kq 0))] [54])
(.cond (.t 55) (.seq (.reg false [
tq 56 (.build [.own ⟨true, ty_priority_Class, 3, 64⟩, .z (.int .i64 0), .z (.int .i64 0), .z (.int .i64 0)] []),
tq 57 (.mv (.t 12)),
⟨none, none, .store 4 (.t 4) (.t 56)⟩,
tq 5 (.mv (.k (.d (.bool false)))),
tq 6 (.mv (.t 57))] [12, 56, 57])
.ret)
 .skip)))
(.seq (.reg false [
fa 58 0 2,
ld 59 58,
tq 60 (.load (some 3) (.t 10)),
tq 61 (.call true true (.k (.fn n_priority_added [] [])) [.t 59, .t 60]),
tq 13 (.mv (.t 61))] [58, 59, 60, 61])
(.seq (.reg false [
fa 62 0 2,
ld 63 62,
tq 64 (.load (some 3) (.t 10)),
tq 65 (.mkList 3 1 [.t 64]),
tq 66 (.append ⟨true, ty_priority_Class, 3, 64⟩ (.t 63) (.t 65)),
fa 67 0 2,
⟨none, none, .store 1 (.t 67) (.t 66)⟩] [10, 62, 63, 64, 65, 66, 67])
(.seq (.reg false [
tq 68 (.load (some 4) (.t 2)),
tq 69 (.mv (.t 13)),
⟨none, none, .store 4 (.t 4) (.t 68)⟩,
tq 5 (.mv (.k (.d (.bool false)))),
tq 6 (.mv (.t 69))] [2, 13, 68, 69])
.ret)))))
 (.seq (.reg false [
tq 71 (.bin .eql (.t 36) (.k (.d (.str [112, 111, 111, 108])))),
tq 70 (.mv (.t 71))] [36, 71])
(.cond (.t 70) (.seq (.reg false [
tq 73 (.mv (.t 9)),
tq 74 (.load (some 4) (.t 2)),
tq 75 (.call true false (.k (.fn n_priority_reader_pool [] [])) [.t 73, .t 74]),
tq 72 (.mv (.t 75)),
tq 76 (.extract (.t 72) 0),
tq 77 (.extract (.t 72) 1),
tq 14 (.alloc ty_priority_Program [.own ⟨true, ty_priority_Class, 3, 64⟩, .z (.int .i64 0), .z (.int .i64 0), .z (.int .i64 0)]),
⟨none, none, .store 4 (.t 14) (.t 76)⟩,
tq 15 (.mv (.t 77))] [9, 72, 73, 74, 75, 76, 77])
(.seq (.reg true [
tq 78 (.load (some 4) (.t 14)),
tq 79 (.mv (.t 15)),
tq 80 (.un .not (.t 79)),
tq 81 (.call false true (.k (.fn n_priority_when [] [])) [.t 80, kq 25]),
fa 82 0 2,
ld 83 82,
tq 84 (.len .slc (.t 83)),
tq 85 (.bin .eql (.t 84) (kq 0)),
tq 86 (.call false true (.k (.fn n_priority_when [] [])) [.t 85, kq 12]),
tq 87 (.load (some 4) (.t 14)),
tq 88 (.callR true (.k (.fn n_priority_Program_pool [] [])) [.t 87] [14]),
tq 89 (.mkList 1 3 [.t 81, .t 86, .t 88]),
tq 90 (.call false true (.k (.fn n_priority_first [] [])) [.t 89]),
⟨none, none, .store 4 (.t 4) (.t 78)⟩,
tq 5 (.mv (.k (.d (.bool true)))),
tq 6 (.mv (.t 90))] [2, 14, 15, 78, 79, 80, 81, 82, 83, 84, 85, 86, 87, 88, 89, 90])
.ret))
 .skip))))))
(.seq (.reg false [
tq 91 (.build [.own ⟨true, ty_priority_Class, 3, 64⟩, .z (.int .i64 0), .z (.int .i64 0), .z (.int .i64 0)] []),
⟨none, none, .store 4 (.t 4) (.t 91)⟩,
tq 5 (.mv (.k (.d (.bool false)))),
tq 6 (.mv (kq 25))] [91])
.ret))))))⟩

def c_priority_Print_1 : CF := ⟨[],
  (.reg false [
tq 3 (.mv (.t 0)),
tq 4 (.call false true (.k (.fn n_strings_Join [] [])) [.t 3, .k (.d (.str [32]))]),
tq 5 (.bin .add (.t 4) (.k (.d (.str [10])))),
tq 6 (.call true false (.k (.fn n_strings_Builder_WriteString [] [])) [.t 1, .t 5])] [0, 1, 3, 4, 5, 6])⟩

def c_strings_Builder_WriteString : CF := ⟨[.tmp 4, .tmp 5],
  (.seq (.reg false [
tq 4 (.mv (kq 0)),
tq 5 (.mv (.k (.d (.nili))))] [4, 5])
(.seq (.reg false [
tq 6 (.mv (.t 0)),
tq 7 (.call true true (.k (.fn n_strings_Builder_copyCheck [] [])) [.t 6])] [6, 7])
(.seq (.reg false [
tq 8 (.mv (.t 0)),
tq 9 (.mv (.t 0)),
tq 10 (.nilCheck (.t 9)),
fa 11 1 10,
ld 12 11,
tq 13 (.mv (.t 1)),
tq 14 (.appendS ⟨false, ty_uint8, 1, 1⟩ (.t 12) (.t 13)),
tq 15 (.nilCheck (.t 8)),
fa 16 1 15,
⟨none, none, .store 1 (.t 16) (.t 14)⟩] [0, 8, 9, 10, 11, 12, 13, 14, 15, 16])
(.seq (.reg false [
tq 17 (.mv (.t 1)),
tq 18 (.len .str (.t 17)),
tq 4 (.mv (.t 18)),
tq 5 (.mv (.k (.d (.nili))))] [1, 17, 18])
.ret))))⟩

def c_priority_Key_sign : CF := ⟨[.tmp 2],
  (.seq (.reg false [
tq 1 (.box ty_priority_Key (.t 0)),
tq 2 (.mv (.k (.d (.str []))))] [0, 2])
(.seq (.seq (.reg false [
fa 3 1 1,
ld 4 3] [1, 3])
(.cond (.t 4) (.seq (.reg false [
tq 2 (.mv (.k (.d (.str [45]))))] [])
.ret)
 .skip))
(.seq (.reg false [
tq 2 (.mv (.k (.d (.str [43]))))] [])
.ret)))⟩

def b_ref05_CheckClass_1 : C :=
  (.seq (.seq (.reg false [
tq 15 (.mv (.t 3)),
fa 16 1 1,
ld 17 16,
tq 18 (.len .slc (.t 17)),
tq 19 (.bin .lss (.t 15) (.t 18))] [15, 16, 17, 18])
(.cond (.t 19) .skip
 (.exit 0)))
(.seq (.block 1 (.seq (.reg false [
fa 22 1 1,
ld 23 22,
tq 24 (.mv (.t 3)),
tq 25 (.idxAddr 3 (.t 23) (.t 24)),
tq 26 (.load (some 3) (.t 25)),
tq 27 (.call false true (.k (.fn n_ref05_CheckTest [] [])) [.t 26]),
tq 4 (.mv (.t 27))] [22, 23, 24, 25, 26, 27])
(.seq (.reg false [
tq 28 (.mv (.t 4)),
tq 29 (.bin .neq (.t 28) (kq 0))] [28])
(.cond (.t 29) (.seq (.reg false [
tq 30 (.mv (.t 4)),
tq 2 (.mv (.t 30))] [4, 30])
.ret)
 .skip))))
(.reg false [
tq 20 (.mv (.t 3)),
tq 21 (.bin .add (.t 20) (kq 1)),
tq 3 (.mv (.t 21))] [20, 21])))

def b_ref05_CheckClass_2 : C :=
  (.seq (.seq (.reg false [
tq 51 (.mv (.t 6)),
tq 52 (.mv (.t 5)),
tq 53 (.bin .lss (.t 51) (.t 52))] [51, 52])
(.cond (.t 53) .skip
 (.exit 4)))
(.seq (.block 5 (.seq (.reg true [
fa 56 2 1,
ld 57 56,
tq 58 (.mv (.t 6)),
tq 59 (.idxAddr 2 (.t 57) (.t 58)),
fa 60 0 59,
ld 61 60,
fa 62 2 1,
ld 63 62,
tq 64 (.mv (.t 5)),
tq 65 (.idxAddr 2 (.t 63) (.t 64)),
fa 66 0 65,
ld 67 66,
tq 68 (.bin .eql (.t 61) (.t 67))] [56, 57, 58, 59, 60, 61, 62, 63, 64, 65, 66, 67])
(.cond (.t 68) (.seq (.reg false [
tq 2 (.mv (kq 9))] [])
.ret)
 .skip)))
(.reg false [
tq 54 (.mv (.t 6)),
tq 55 (.bin .add (.t 54) (kq 1)),
tq 6 (.mv (.t 55))] [54, 55])))

def b_ref05_CheckClass_3 : C :=
  (.seq (.seq (.reg false [
tq 35 (.mv (.t 5)),
fa 36 2 1,
ld 37 36,
tq 38 (.len .slc (.t 37)),
tq 39 (.bin .lss (.t 35) (.t 38))] [35, 36, 37, 38])
(.cond (.t 39) .skip
 (.exit 2)))
(.seq (.block 3 (.seq (.seq (.reg true [
tq 42 (.call false true (.k (.fn n_ref05_Facts [] [])) []),
fa 43 2 1,
ld 44 43,
tq 45 (.mv (.t 5)),
tq 46 (.idxAddr 2 (.t 44) (.t 45)),
fa 47 0 46,
ld 48 47,
tq 49 (.call false true (.k (.fn n_ref01_HasWord [] [])) [.t 42, .t 48]),
tq 50 (.un .not (.t 49))] [42, 43, 44, 45, 46, 47, 48, 49])
(.cond (.t 50) (.seq (.reg false [
tq 2 (.mv (kq 10))] [])
.ret)
 .skip))
(.seq (.reg false [
tq 6 (.mv (kq 0))] [])
(.block 4 (.loop [1, 5, 6] b_ref05_CheckClass_2)))))
(.reg false [
tq 40 (.mv (.t 5)),
tq 41 (.bin .add (.t 40) (kq 1)),
tq 5 (.mv (.t 41))] [40, 41])))

def c_ref05_CheckClass : CF := ⟨[.tmp 2],
  (.seq (.reg false [
tq 1 (.box ty_turnroundref05_Class (.t 0)),
tq 2 (.mv (kq 0))] [0, 2])
(.seq (.seq (.reg false [
fa 7 0 1,
ld 8 7,
tq 9 (.call false true (.k (.fn n_ref01_IsName [] [])) [.t 8]),
tq 10 (.un .not (.t 9))] [7, 8, 9])
(.cond (.t 10) (.seq (.reg false [
tq 2 (.mv (kq 8))] [])
.ret)
 .skip))
(.seq (.seq (.reg false [
fa 11 1 1,
ld 12 11,
tq 13 (.len .slc (.t 12)),
tq 14 (.bin .gtr (.t 13) (kq 8))] [11, 12, 13])
(.cond (.t 14) (.seq (.reg false [
tq 2 (.mv (kq 5))] [])
.ret)
 .skip))
(.seq (.seq (.reg false [
tq 3 (.mv (kq 0))] [])
(.block 0 (.loop [1, 3] b_ref05_CheckClass_1)))
(.seq (.seq (.reg false [
fa 31 2 1,
ld 32 31,
tq 33 (.len .slc (.t 32)),
tq 34 (.bin .gtr (.t 33) (kq 8))] [31, 32, 33])
(.cond (.t 34) (.seq (.reg false [
tq 2 (.mv (kq 5))] [])
.ret)
 .skip))
(.seq (.seq (.reg false [
tq 5 (.mv (kq 0))] [])
(.block 2 (.loop [1, 5] b_ref05_CheckClass_3)))
(.seq (.reg false [
tq 2 (.mv (kq 0))] [])
.ret)))))))⟩

def b_ref01_First_1 : C :=
  (.seq (.seq (.reg false [
tq 4 (.mv (.t 3)),
tq 5 (.mv (.t 0)),
tq 6 (.len .slc (.t 5)),
tq 7 (.bin .lss (.t 4) (.t 6))] [4, 5, 6])
(.cond (.t 7) .skip
 (.exit 0)))
(.seq (.block 1 (.seq (.reg false [
tq 10 (.mv (.t 0)),
tq 11 (.mv (.t 3)),
tq 12 (.idxAddr 1 (.t 10) (.t 11)),
ld 13 12,
tq 14 (.bin .neq (.t 13) (kq 0))] [10, 11, 12, 13])
(.cond (.t 14) (.seq (.reg false [
tq 15 (.mv (.t 0)),
tq 16 (.mv (.t 3)),
tq 17 (.idxAddr 1 (.t 15) (.t 16)),
ld 18 17,
tq 2 (.mv (.t 18))] [0, 3, 15, 16, 17, 18])
.ret)
 .skip)))
(.reg false [
tq 8 (.mv (.t 3)),
tq 9 (.bin .add (.t 8) (kq 1)),
tq 3 (.mv (.t 9))] [8, 9])))

def c_ref01_First : CF := ⟨[.tmp 2],
  (.seq (.reg false [
tq 2 (.mv (kq 0))] [2])
(.seq (.seq (.reg false [
tq 3 (.mv (kq 0))] [])
(.block 0 (.loop [0, 3] b_ref01_First_1)))
(.seq (.reg false [
tq 2 (.mv (kq 0))] [])
.ret)))⟩

def c_ref01_CheckRange : CF := ⟨[.tmp 6],
  (.seq (.reg false [
tq 6 (.mv (kq 0))] [6])
(.seq (.seq (.reg false [
tq 7 (.mv (.t 0)),
tq 8 (.mv (.t 1)),
tq 9 (.bin .lss (.t 7) (.t 8)),
tq 10 (.mv (.t 9)),
⟨some 11, (some (10, false)), .mv (.t 0)⟩,
⟨some 12, (some (10, false)), .mv (.t 2)⟩,
⟨some 13, (some (10, false)), .bin .gtr (.t 11) (.t 12)⟩,
tq 14 (.pick (.t 10) (.k (.d (.bool true))) (.t 13))] [0, 1, 2, 7, 8, 9, 10, 11, 12, 13])
(.cond (.t 14) (.seq (.reg false [
tq 6 (.mv (kq 3))] [])
.ret)
 .skip))
(.seq (.reg false [
tq 6 (.mv (kq 0))] [])
.ret)))⟩

def c_ref02_CheckRequest : CF := ⟨[.tmp 2],
  (.seq (.reg false [
tq 1 (.box ty_api_Request (.t 0)),
tq 2 (.mv (kq 0))] [0, 2])
(.seq (.seq (.reg false [
fa 4 0 1,
ld 5 4,
tq 6 (.call false true (.k (.fn n_ref01_IsName [] [])) [.t 5]),
tq 7 (.un .not (.t 6)),
tq 8 (.mv (.t 7)),
⟨some 9, (some (8, false)), .fieldAddr 1 (.t 1)⟩,
⟨some 10, (some (8, false)), .load none (.t 9)⟩,
⟨some 11, (some (8, false)), .call false true (.k (.fn n_ref01_IsName [] [])) [.t 10]⟩,
⟨some 12, (some (8, false)), .un .not (.t 11)⟩,
tq 13 (.pick (.t 8) (.k (.d (.bool true))) (.t 12)),
tq 14 (.mv (.t 13)),
⟨some 15, (some (14, false)), .fieldAddr 4 (.t 1)⟩,
⟨some 16, (some (14, false)), .load none (.t 15)⟩,
⟨some 17, (some (14, false)), .call false true (.k (.fn n_ref01_IsName [] [])) [.t 16]⟩,
⟨some 18, (some (14, false)), .un .not (.t 17)⟩,
tq 19 (.pick (.t 14) (.k (.d (.bool true))) (.t 18)),
tq 20 (.mv (.t 19)),
⟨some 21, (some (20, false)), .fieldAddr 3 (.t 1)⟩,
⟨some 22, (some (20, false)), .load none (.t 21)⟩,
⟨some 23, (some (20, false)), .call false true (.k (.fn n_ref02_optional [] [])) [.t 22]⟩,
⟨some 24, (some (20, false)), .un .not (.t 23)⟩,
tq 25 (.pick (.t 20) (.k (.d (.bool true))) (.t 24)),
tq 26 (.mv (.t 25)),
⟨some 27, (some (26, false)), .fieldAddr 5 (.t 1)⟩,
⟨some 28, (some (26, false)), .load none (.t 27)⟩,
⟨some 29, (some (26, false)), .call false true (.k (.fn n_ref02_optional [] [])) [.t 28]⟩,
⟨some 30, (some (26, false)), .un .not (.t 29)⟩,
tq 31 (.pick (.t 26) (.k (.d (.bool true))) (.t 30))] [4, 5, 6, 7, 8, 9, 10, 11, 12, 13, 14, 15, 16, 17, 18, 19, 20, 21, 22, 23, 24, 25, 26, 27, 28, 29, 30])
(.cond (.t 31) (.seq (.reg false [
tq 2 (.mv (kq 8))] [])
.ret)
 .skip))
(.seq (.seq (.reg false [
fa 32 2 1,
ld 33 32,
tq 34 (.bin .neq (.t 33) (.k (.d (.str [65])))),
tq 35 (.mv (.t 34)),
⟨some 36, (some (35, true)), .fieldAddr 2 (.t 1)⟩,
⟨some 37, (some (35, true)), .load none (.t 36)⟩,
⟨some 38, (some (35, true)), .bin .neq (.t 37) (.k (.d (.str [68])))⟩,
tq 39 (.pick (.t 35) (.t 38) (.k (.d (.bool false))))] [32, 33, 34, 35, 36, 37, 38])
(.cond (.t 39) (.seq (.reg false [
tq 2 (.mv (kq 13))] [])
.ret)
 .skip))
(.seq (.seq (.reg false [
fa 40 5 1,
ld 41 40,
fa 42 0 1,
ld 43 42,
tq 44 (.bin .eql (.t 41) (.t 43))] [40, 41, 42, 43])
(.cond (.t 44) (.seq (.reg false [
tq 2 (.mv (kq 32))] [])
.ret)
 .skip))
(.seq (.reg false [
fa 45 6 1,
tq 46 (.load (some 3) (.t 45)),
tq 47 (.call false true (.k (.fn n_ref01_CheckPeriod [] [])) [.t 46]),
tq 3 (.mv (.t 47))] [45, 46, 47])
(.seq (.seq (.reg false [
tq 48 (.mv (.t 3)),
tq 49 (.bin .neq (.t 48) (kq 0))] [48])
(.cond (.t 49) (.seq (.reg false [
tq 50 (.mv (.t 3)),
tq 2 (.mv (.t 50))] [3, 50])
.ret)
 .skip))
(.seq (.reg true [
fa 51 9 1,
ld 52 51,
tq 53 (.call false true (.k (.fn n_ref01_CheckRange [] [])) [.t 52, kq 0, kq 1439]),
fa 54 10 1,
ld 55 54,
tq 56 (.call false true (.k (.fn n_ref01_CheckRange [] [])) [.t 55, kq 0, kq 999]),
fa 57 11 1,
ld 58 57,
tq 59 (.call false true (.k (.fn n_ref01_CheckRange [] [])) [.t 58, kq 1, kq 9]),
fa 60 12 1,
ld 61 60,
tq 62 (.call false true (.k (.fn n_ref01_CheckRange [] [])) [.t 61, kq 0, kq 99]),
tq 63 (.mkList 1 4 [.t 53, .t 56, .t 59, .t 62]),
tq 64 (.call false true (.k (.fn n_ref01_First [] [])) [.t 63]),
tq 2 (.mv (.t 64))] [1, 51, 52, 53, 54, 55, 56, 57, 58, 59, 60, 61, 62, 63, 64])
.ret)))))))⟩

def c_priority_within : CF := ⟨[.tmp 6],
  (.seq (.reg false [
tq 6 (.mv (kq 0))] [6])
(.seq (.reg false [
tq 7 (.mv (.t 0)),
tq 8 (.mv (.t 1)),
tq 9 (.bin .lss (.t 7) (.t 8)),
tq 10 (.mv (.t 9)),
⟨some 11, (some (10, false)), .mv (.t 0)⟩,
⟨some 12, (some (10, false)), .mv (.t 2)⟩,
⟨some 13, (some (10, false)), .bin .gtr (.t 11) (.t 12)⟩,
tq 14 (.pick (.t 10) (.k (.d (.bool true))) (.t 13)),
tq 15 (.call false true (.k (.fn n_priority_when [] [])) [.t 14, kq 3]),
tq 6 (.mv (.t 15))] [0, 1, 2, 7, 8, 9, 10, 11, 12, 13, 14, 15])
.ret))⟩

def b_priority_interleaved_1 : C :=
  (.seq (.reg false [
tq 16 (.bin .lss (.t 15) (.t 14))] [])
(.seq (.cond (.t 16) .skip
 (.exit 0))
(.seq (.block 1 (.seq (.reg false [
tq 17 (.mv (.t 15)),
tq 18 (.idxAddr 1 (.t 13) (.t 15)),
ld 19 18,
tq 8 (.mv (.t 17)),
tq 9 (.mv (.t 19))] [17, 18, 19])
(.reg false [
tq 20 (.mv (.t 9)),
tq 21 (.un .not (.t 20)),
tq 22 (.call false true (.k (.fn n_priority_bit [] [])) [.t 21]),
tq 23 (.mv (.t 9)),
tq 24 (.un .not (.t 23)),
tq 25 (.call false true (.k (.fn n_priority_bit [] [])) [.t 24]),
tq 26 (.idxAddrA 2 1 (.t 7) (.t 25)),
ld 27 26,
tq 28 (.mv (.t 8)),
tq 29 (.mkList 1 1 [.t 28]),
tq 30 (.append ⟨false, ty_int, 1, 8⟩ (.t 27) (.t 29)),
tq 31 (.idxAddrA 2 1 (.t 7) (.t 22)),
⟨none, none, .store 1 (.t 31) (.t 30)⟩] [8, 9, 20, 21, 22, 23, 24, 25, 26, 27, 28, 29, 30, 31])))
(.reg false [
tq 32 (.bin .add (.t 15) (kq 1)),
tq 15 (.mv (.t 32))] [32]))))

def b_priority_interleaved_2 : C :=
  (.seq (.reg false [
tq 36 (.bin .lss (.t 35) (.t 34))] [])
(.seq (.cond (.t 36) .skip
 (.exit 2))
(.seq (.block 3 (.seq (.reg false [
tq 37 (.mv (.t 35)),
tq 11 (.mv (.t 37))] [37])
(.seq (.reg false [
tq 38 (.mv (.t 11)),
tq 39 (.mv (.t 0)),
tq 40 (.bin .rem (.t 38) (.t 39)),
tq 41 (.mv (.t 1)),
tq 42 (.bin .geq (.t 40) (.t 41)),
tq 43 (.call false true (.k (.fn n_priority_bit [] [])) [.t 42]),
tq 12 (.mv (.t 43))] [11, 38, 39, 40, 41, 42, 43])
(.seq (.seq (.reg false [
tq 44 (.mv (.t 12)),
tq 45 (.idxAddrA 2 1 (.t 7) (.t 44)),
ld 46 45,
tq 47 (.len .slc (.t 46)),
tq 48 (.bin .eql (.t 47) (kq 0))] [44, 45, 46, 47])
(.cond (.t 48) (.reg false [
tq 49 (.mv (.t 12)),
tq 50 (.bin .sub (kq 1) (.t 49)),
tq 12 (.mv (.t 50))] [49, 50])
 .skip))
(.regC [
tq 51 (.mv (.t 12)),
tq 52 (.mv (.t 10)),
tq 53 (.mv (.t 12)),
tq 54 (.idxAddrA 2 1 (.t 7) (.t 53)),
ld 55 54,
tq 56 (.idxAddr 1 (.t 55) (kq 0)),
ld 57 56,
tq 58 (.mkList 1 1 [.t 57]),
tq 59 (.append ⟨false, ty_int, 1, 8⟩ (.t 52) (.t 58)),
tq 60 (.mv (.t 12)),
tq 61 (.idxAddrA 2 1 (.t 7) (.t 60)),
ld 62 61,
tq 63 (.slice 1 (.t 62) (some (kq 1)) none none),
tq 10 (.mv (.t 59)),
tq 64 (.idxAddrA 2 1 (.t 7) (.t 51)),
⟨none, none, .store 1 (.t 64) (.t 63)⟩] [12, 51, 52, 53, 54, 55, 56, 57, 58, 59, 60, 61, 62, 63, 64] [(7, 59), (61, 59), (62, 59)])))))
(.reg false [
tq 65 (.bin .add (.t 35) (kq 1)),
tq 35 (.mv (.t 65))] [65]))))

def c_priority_interleaved : CF := ⟨[.tmp 6],
  (.seq (.reg false [
tq 6 (.ownNil ⟨false, ty_int, 1, 8⟩)] [6])
(.seq (.reg false [
tq 7 (.alloc ty_2_Lint [.own ⟨false, ty_int, 1, 8⟩, .own ⟨false, ty_int, 1, 8⟩])] [])
(.seq (.seq (.reg false [
tq 13 (.mv (.t 2)),
tq 14 (.len .slc (.t 13)),
tq 15 (.mv (kq 0))] [])
(.block 0 (.loop [0, 1, 2, 7, 13, 14, 15] b_priority_interleaved_1)))
(.seq (.reg false [
tq 10 (.ownNil ⟨false, ty_int, 1, 8⟩)] [])
(.seq (.seq (.reg false [
tq 33 (.mv (.t 2)),
tq 34 (.len .slc (.t 33)),
tq 35 (.mv (kq 0))] [2, 33])
(.block 2 (.loop [0, 1, 7, 10, 34, 35] b_priority_interleaved_2)))
(.seq (.reg false [
tq 66 (.mv (.t 10)),
tq 6 (.mv (.t 66))] [10, 66])
.ret))))))⟩

def c_priority_checkKey : CF := ⟨[.tmp 2],
  (.seq (.reg false [
tq 2 (.mv (kq 0))] [2])
(.seq (.reg false [
tq 3 (.mv (.t 0)),
tq 4 (.call false true (.k (.fn n_priority_within [] [])) [.t 3, kq 1, kq 2147483646]),
tq 2 (.mv (.t 4))] [0, 3, 4])
.ret))⟩

def c_priority_checkClaims : CF := ⟨[.tmp 2],
  (.seq (.reg false [
tq 2 (.mv (kq 0))] [2])
(.seq (.seq (.reg false [
tq 3 (.mv (.t 0)),
tq 4 (.len .slc (.t 3)),
tq 5 (.bin .gtr (.t 4) (kq 64))] [3, 4])
(.cond (.t 5) (.seq (.reg false [
tq 2 (.mv (kq 5))] [])
.ret)
 .skip))
(.seq (.reg false [
tq 6 (.mv (.t 0)),
tq 7 (.call false true (.k (.fn n_priority_each_priority_Claim [] [])) [.t 6, .k (.fn n_priority_checkClaims_1 [] [])]),
tq 2 (.mv (.t 7))] [0, 6, 7])
.ret)))⟩

def b_priority_lots_1 : C :=
  (.seq (.reg false [
tq 30 (.bin .lss (.t 29) (.t 28))] [])
(.seq (.cond (.t 30) .skip
 (.exit 0))
(.seq (.block 1 (.seq (.reg false [
tq 31 (.mv (.t 29)),
tq 32 (.idxAddr 1 (.t 27) (.t 29)),
ld 33 32,
tq 9 (.mv (.t 31)),
tq 10 (.mv (.t 33))] [31, 32, 33])
(.reg false [
tq 34 (.mv (.t 8)),
tq 35 (.mv (.t 10)),
tq 36 (.mv (.t 6)),
tq 37 (.mv (.t 9)),
tq 38 (.idxAddr 1 (.t 36) (.t 37)),
ld 39 38,
tq 40 (.idxAddr 1 (.t 34) (.t 35)),
⟨none, none, .store 1 (.t 40) (.t 39)⟩] [9, 10, 34, 35, 36, 37, 38, 39, 40])))
(.reg false [
tq 41 (.bin .add (.t 29) (kq 1)),
tq 29 (.mv (.t 41))] [41]))))

def c_priority_lots : CF := ⟨[.tmp 4],
  (.seq (.reg false [
tq 3 (.box ty_Lpriority_Claim (.t 1)),
tq 4 (.ownNil ⟨true, ty_int, 1, 8⟩)] [1, 4])
(.seq (.reg false [
ld 11 3,
tq 12 (.len .slc (.t 11)),
tq 13 (.call false false (.k (.fn n_priority_indices [] [])) [.t 12]),
tq 5 (.mv (.t 13))] [11, 12, 13])
(.seq (.reg false [
tq 14 (.mv (.t 5)),
tq 15 (.mkFunc n_priority_lots_1 [] [.t 3]),
tq 16 (.call true true (.k (.fn n_slices_SortFunc_Lint_int [] [])) [.t 14, .t 15])] [14, 15, 16])
(.seq (.reg false [
tq 18 (.mv (.t 0)),
ld 19 3,
tq 20 (.len .slc (.t 19)),
tq 21 (.call false true (.k (.fn n_calendar_Draw [] [])) [.t 18, .t 20]),
tq 17 (.mv (.t 21)),
tq 22 (.extract (.t 17) 0),
tq 23 (.extract (.t 17) 1),
tq 6 (.mv (.t 22)),
tq 7 (.mv (.t 23))] [0, 7, 17, 18, 19, 20, 21, 22, 23])
(.seq (.reg false [
ld 24 3,
tq 25 (.len .slc (.t 24)),
tq 26 (.makeRow ⟨true, ty_int, 1, 8⟩ [.int .i64 0] (.t 25)),
tq 8 (.mv (.t 26))] [3, 24, 25, 26])
(.seq (.seq (.reg false [
tq 27 (.mv (.t 5)),
tq 28 (.len .slc (.t 27)),
tq 29 (.mv (kq 0))] [5])
(.block 0 (.loop [6, 8, 27, 28, 29] b_priority_lots_1)))
(.seq (.reg false [
tq 42 (.mv (.t 8)),
tq 4 (.mv (.t 42))] [8, 42])
.ret)))))))⟩

def b_priority_known_1 : C :=
  (.seq (.reg false [
tq 8 (.bin .lss (.t 7) (.t 6))] [])
(.seq (.cond (.t 8) .skip
 (.exit 0))
(.seq (.block 1 (.seq (.reg false [
tq 9 (.idxAddr 2 (.t 5) (.t 7)),
tq 10 (.load (some 2) (.t 9)),
tq 3 (.alloc ty_priority_fact [.z (.str []), .z (.nilf)]),
⟨none, none, .store 2 (.t 3) (.t 10)⟩] [9, 10])
(.reg false [
tq 11 (.mv (.t 1)),
fa 12 0 3,
ld 13 12,
tq 14 (.load (some 2) (.t 3)),
⟨none, none, .mapSet .str (.t 11) (.t 13) (.t 14)⟩] [3, 11, 12, 13, 14])))
(.reg false [
tq 15 (.bin .add (.t 7) (kq 1)),
tq 7 (.mv (.t 15))] [15]))))

def c_priority_known : CF := ⟨[.tmp 0],
  (.seq (.reg false [
tq 0 (.mv (.k (.d (.nilm))))] [0])
(.seq (.reg false [
tq 4 (.mkMap),
tq 1 (.mv (.t 4))] [4])
(.seq (.seq (.reg false [
tq 5 (.call false false (.k (.fn n_priority_facts [] [])) []),
tq 6 (.len .slc (.t 5)),
tq 7 (.mv (kq 0))] [])
(.block 0 (.loop [1, 5, 6, 7] b_priority_known_1)))
(.seq (.reg false [
tq 16 (.mv (.t 1)),
tq 0 (.mv (.t 16))] [1, 16])
.ret))))⟩

def b_calendar_IsName_1 : C :=
  (.seq (.reg false [
tq 16 (.nextS (.t 15)),
tq 17 (.extract (.t 16) 0)] [])
(.seq (.cond (.t 17) .skip
 (.exit 0))
(.block 1 (.seq (.reg false [
tq 18 (.extract (.t 16) 1),
tq 19 (.extract (.t 16) 2),
tq 3 (.mv (.t 18)),
tq 4 (.mv (.t 19))] [16, 18, 19])
(.seq (.reg false [
tq 20 (.mv (.t 4)),
tq 21 (.bin .geq (.t 20) (.k (.d (.int .i32 65)))),
tq 22 (.mv (.t 21)),
⟨some 23, (some (22, true)), .mv (.t 4)⟩,
⟨some 24, (some (22, true)), .bin .leq (.t 23) (.k (.d (.int .i32 90)))⟩,
tq 25 (.pick (.t 22) (.t 24) (.k (.d (.bool false)))),
tq 26 (.mv (.t 25)),
⟨some 27, (some (26, false)), .mv (.t 4)⟩,
⟨some 28, (some (26, false)), .bin .geq (.t 27) (.k (.d (.int .i32 97)))⟩,
⟨some 29, (some (26, false)), .mv (.t 28)⟩,
⟨some 30, (some (29, true)), .mv (.t 4)⟩,
⟨some 31, (some (29, true)), .bin .leq (.t 30) (.k (.d (.int .i32 122)))⟩,
⟨some 32, (some (26, false)), .pick (.t 29) (.t 31) (.k (.d (.bool false)))⟩,
tq 33 (.pick (.t 26) (.k (.d (.bool true))) (.t 32)),
tq 5 (.mv (.t 33))] [20, 21, 22, 23, 24, 25, 26, 27, 28, 29, 30, 31, 32, 33])
(.seq (.reg false [
tq 34 (.mv (.t 5)),
tq 35 (.un .not (.t 34)),
tq 36 (.mv (.t 35)),
⟨some 37, (some (36, true)), .mv (.t 3)⟩,
⟨some 38, (some (36, true)), .bin .eql (.t 37) (kq 0)⟩,
⟨some 39, (some (36, true)), .mv (.t 38)⟩,
⟨some 40, (some (39, false)), .mv (.t 4)⟩,
⟨some 41, (some (39, false)), .bin .neq (.t 40) (.k (.d (.int .i32 95)))⟩,
⟨some 42, (some (39, false)), .mv (.t 41)⟩,
⟨some 43, (some (42, true)), .mv (.t 4)⟩,
⟨some 44, (some (42, true)), .bin .lss (.t 43) (.k (.d (.int .i32 48)))⟩,
⟨some 45, (some (42, true)), .mv (.t 44)⟩,
⟨some 46, (some (45, false)), .mv (.t 4)⟩,
⟨some 47, (some (45, false)), .bin .gtr (.t 46) (.k (.d (.int .i32 57)))⟩,
⟨some 48, (some (42, true)), .pick (.t 45) (.k (.d (.bool true))) (.t 47)⟩,
⟨some 49, (some (39, false)), .pick (.t 42) (.t 48) (.k (.d (.bool false)))⟩,
⟨some 50, (some (36, true)), .pick (.t 39) (.k (.d (.bool true))) (.t 49)⟩,
tq 51 (.pick (.t 36) (.t 50) (.k (.d (.bool false))))] [3, 4, 5, 34, 35, 36, 37, 38, 39, 40, 41, 42, 43, 44, 45, 46, 47, 48, 49, 50])
(.cond (.t 51) (.seq (.reg false [
tq 2 (.mv (.k (.d (.bool false))))] [])
.ret)
 .skip)))))))

def c_calendar_IsName : CF := ⟨[.tmp 2],
  (.seq (.reg false [
tq 2 (.mv (.k (.d (.bool false))))] [2])
(.seq (.seq (.reg false [
tq 6 (.mv (.t 0)),
tq 7 (.len .str (.t 6)),
tq 8 (.bin .eql (.t 7) (kq 0)),
tq 9 (.mv (.t 8)),
⟨some 10, (some (9, false)), .mv (.t 0)⟩,
⟨some 11, (some (9, false)), .len .str (.t 10)⟩,
⟨some 12, (some (9, false)), .bin .gtr (.t 11) (kq 24)⟩,
tq 13 (.pick (.t 9) (.k (.d (.bool true))) (.t 12))] [6, 7, 8, 9, 10, 11, 12])
(.cond (.t 13) (.seq (.reg false [
tq 2 (.mv (.k (.d (.bool false))))] [])
.ret)
 .skip))
(.seq (.seq (.reg false [
tq 14 (.mv (.t 0)),
tq 15 (.rangeS (.t 14))] [0, 14])
(.block 0 (.loop [15] b_calendar_IsName_1)))
(.seq (.reg false [
tq 2 (.mv (.k (.d (.bool true))))] [])
.ret))))⟩

def b_priority_each_api_Request_1 : C :=
  (.seq (.reg false [
tq 11 (.bin .lss (.t 10) (.t 9))] [])
(.seq (.cond (.t 11) .skip
 (.exit 0))
(.seq (.block 1 (.seq (.reg false [
tq 12 (.mv (.t 10)),
tq 13 (.idxAddr 13 (.t 8) (.t 10)),
tq 14 (.load (some 13) (.t 13)),
tq 6 (.alloc ty_api_Request [.z (.str []), .z (.str []), .z (.str []), .z (.str []), .z (.str []), .z (.str []), .z (.int .i64 0), .z (.int .i64 0), .z (.int .i64 0), .z (.int .i64 0), .z (.int .i64 0), .z (.int .i64 0), .z (.int .i64 0)]),
tq 5 (.mv (.t 12)),
⟨none, none, .store 13 (.t 6) (.t 14)⟩] [12, 13, 14])
(.seq (.reg true [
tq 15 (.mv (.t 1)),
tq 16 (.mv (.t 0)),
tq 17 (.mv (.t 5)),
tq 18 (.slice 13 (.t 16) none (some (.t 17)) none),
tq 19 (.load (some 13) (.t 6)),
tq 20 (.call false true (.t 15) [.t 18, .t 19]),
tq 7 (.mv (.t 20))] [5, 6, 15, 16, 17, 18, 19, 20])
(.seq (.reg false [
tq 21 (.mv (.t 7)),
tq 22 (.bin .neq (.t 21) (kq 0))] [21])
(.cond (.t 22) (.seq (.reg false [
tq 23 (.mv (.t 7)),
tq 4 (.mv (.t 23))] [7, 23])
.ret)
 .skip)))))
(.reg false [
tq 24 (.bin .add (.t 10) (kq 1)),
tq 10 (.mv (.t 24))] [24]))))

def c_priority_each_api_Request : CF := ⟨[.tmp 4],
  (.seq (.reg false [
tq 4 (.mv (kq 0))] [4])
(.seq (.seq (.reg false [
tq 8 (.mv (.t 0)),
tq 9 (.len .slc (.t 8)),
tq 10 (.mv (kq 0))] [])
(.block 0 (.loop [0, 1, 8, 9, 10] b_priority_each_api_Request_1)))
(.seq (.reg false [
tq 4 (.mv (kq 0))] [])
.ret)))⟩

def c_priority_Newcomer_1 : CF := ⟨[.tmp 4],
  (.seq (.reg false [
tq 3 (.box ty_api_Request (.t 1)),
tq 4 (.mv (kq 0))] [1, 4])
(.seq (.reg false [
tq 6 (.mv (.t 0)),
tq 7 (.mkFunc n_priority_Newcomer_1_1 [] [.t 3]),
tq 8 (.call true true (.k (.fn n_slices_ContainsFunc_Lapi_Request_api_Request [] [])) [.t 6, .t 7]),
tq 5 (.mv (.t 8))] [0, 6, 7, 8])
(.seq (.reg false [
tq 9 (.load (some 13) (.t 3)),
tq 10 (.call false true (.k (.fn n_message_CheckRequest [] [])) [.t 9]),
tq 11 (.mv (.t 5)),
tq 12 (.call false true (.k (.fn n_priority_when [] [])) [.t 11, kq 9]),
tq 13 (.mkList 1 2 [.t 10, .t 12]),
tq 14 (.call false true (.k (.fn n_priority_first [] [])) [.t 13]),
tq 4 (.mv (.t 14))] [3, 5, 9, 10, 11, 12, 13, 14])
.ret)))⟩

def c_slices_ContainsFunc_Lapi_Request_api_Request : CF := ⟨[.tmp 4],
  (.seq (.reg false [
tq 4 (.mv (.k (.d (.bool false))))] [4])
(.seq (.reg false [
tq 5 (.mv (.t 0)),
tq 6 (.mv (.t 1)),
tq 7 (.call true true (.k (.fn n_slices_IndexFunc_Lapi_Request_api_Request [] [])) [.t 5, .t 6]),
tq 8 (.bin .geq (.t 7) (kq 0)),
tq 4 (.mv (.t 8))] [0, 1, 5, 6, 7, 8])
.ret))⟩

def c_priority_Newcomer_1_1 : CF := ⟨[.tmp 3],
  (.seq (.reg false [
tq 2 (.box ty_api_Request (.t 0)),
tq 3 (.mv (.k (.d (.bool false))))] [0, 3])
(.seq (.reg false [
fa 4 0 2,
ld 5 4,
fa 6 0 1,
ld 7 6,
tq 8 (.bin .eql (.t 5) (.t 7)),
tq 3 (.mv (.t 8))] [1, 2, 4, 5, 6, 7, 8])
.ret))⟩

def c_message_CheckRequest : CF := ⟨[.tmp 2],
  (.seq (.reg false [
tq 1 (.box ty_api_Request (.t 0)),
tq 2 (.mv (kq 0))] [0, 2])
(.seq (.reg true [
fa 3 0 1,
ld 4 3,
tq 5 (.call false true (.k (.fn n_message_named [] [])) [.t 4]),
fa 6 1 1,
ld 7 6,
tq 8 (.call false true (.k (.fn n_message_named [] [])) [.t 7]),
fa 9 4 1,
ld 10 9,
tq 11 (.call false true (.k (.fn n_message_named [] [])) [.t 10]),
fa 12 3 1,
ld 13 12,
tq 14 (.call false true (.k (.fn n_message_optional [] [])) [.t 13]),
fa 15 5 1,
ld 16 15,
tq 17 (.call false true (.k (.fn n_message_optional [] [])) [.t 16]),
fa 18 2 1,
ld 19 18,
tq 20 (.call false true (.k (.fn n_message_isKind [] [])) [.t 19]),
tq 21 (.un .not (.t 20)),
tq 22 (.call false true (.k (.fn n_message_when [] [])) [.t 21, kq 13]),
fa 23 5 1,
ld 24 23,
fa 25 0 1,
ld 26 25,
tq 27 (.bin .eql (.t 24) (.t 26)),
tq 28 (.call false true (.k (.fn n_message_when [] [])) [.t 27, kq 32]),
fa 29 6 1,
tq 30 (.load (some 3) (.t 29)),
tq 31 (.call false true (.k (.fn n_calendar_CheckPeriod [] [])) [.t 30]),
fa 32 9 1,
ld 33 32,
tq 34 (.call false true (.k (.fn n_message_within [] [])) [.t 33, kq 0, kq 1439]),
fa 35 10 1,
ld 36 35,
tq 37 (.call false true (.k (.fn n_message_within [] [])) [.t 36, kq 0, kq 999]),
fa 38 11 1,
ld 39 38,
tq 40 (.call false true (.k (.fn n_message_within [] [])) [.t 39, kq 1, kq 9]),
fa 41 12 1,
ld 42 41,
tq 43 (.call false true (.k (.fn n_message_within [] [])) [.t 42, kq 0, kq 99]),
tq 44 (.mkList 1 12 [.t 5, .t 8, .t 11, .t 14, .t 17, .t 22, .t 28, .t 31, .t 34, .t 37, .t 40, .t 43]),
tq 45 (.call false true (.k (.fn n_message_first [] [])) [.t 44]),
tq 2 (.mv (.t 45))] [1, 3, 4, 5, 6, 7, 8, 9, 10, 11, 12, 13, 14, 15, 16, 17, 18, 19, 20, 21, 22, 23, 24, 25, 26, 27, 28, 29, 30, 31, 32, 33, 34, 35, 36, 37, 38, 39, 40, 41, 42, 43, 44, 45])
.ret))⟩

def c_calendar_Has : CF := ⟨[.tmp 4, .tmp 5],
  (.seq (.reg false [
tq 2 (.box ty_api_Period (.t 0)),
tq 4 (.mv (.k (.d (.bool false)))),
tq 5 (.mv (kq 0))] [0, 4, 5])
(.seq (.seq (.reg false [
tq 7 (.load (some 3) (.t 2)),
tq 8 (.call false true (.k (.fn n_calendar_CheckPeriod [] [])) [.t 7]),
tq 9 (.mv (.t 1)),
tq 10 (.call false true (.k (.fn n_calendar_checkDay [] [])) [.t 9]),
tq 11 (.mkList 1 2 [.t 8, .t 10]),
tq 12 (.call false true (.k (.fn n_calendar_first [] [])) [.t 11]),
tq 6 (.mv (.t 12))] [7, 8, 9, 10, 11, 12])
(.seq (.reg false [
tq 13 (.mv (.t 6)),
tq 14 (.bin .neq (.t 13) (kq 0))] [13])
(.cond (.t 14) (.seq (.reg false [
tq 15 (.mv (.t 6)),
tq 4 (.mv (.k (.d (.bool false)))),
tq 5 (.mv (.t 15))] [6, 15])
.ret)
 .skip)))
(.seq (.reg false [
tq 16 (.load (some 3) (.t 2)),
tq 17 (.mv (.t 1)),
tq 18 (.call false true (.k (.fn n_calendar_has [] [])) [.t 16, .t 17]),
tq 4 (.mv (.t 18)),
tq 5 (.mv (kq 0))] [1, 2, 16, 17, 18])
.ret)))⟩

def c_priority_bit : CF := ⟨[.tmp 2],
  (.seq (.reg false [
tq 2 (.mv (kq 0))] [2])
(.seq (.seq (.reg false [
tq 3 (.mv (.t 0))] [0])
(.cond (.t 3) (.seq (.reg false [
tq 2 (.mv (kq 1))] [])
.ret)
 .skip))
(.seq (.reg false [
tq 2 (.mv (kq 0))] [])
.ret)))⟩

def c_ref01_Has : CF := ⟨[.tmp 4],
  (.seq (.reg false [
tq 2 (.box ty_api_Period (.t 0)),
tq 4 (.mv (.k (.d (.bool false))))] [0, 4])
(.seq (.reg true [
tq 5 (.mv (.t 1)),
fa 6 0 2,
ld 7 6,
tq 8 (.bin .geq (.t 5) (.t 7)),
tq 9 (.mv (.t 8)),
⟨some 10, (some (9, true)), .mv (.t 1)⟩,
⟨some 11, (some (9, true)), .fieldAddr 1 (.t 2)⟩,
⟨some 12, (some (9, true)), .load none (.t 11)⟩,
⟨some 13, (some (9, true)), .bin .leq (.t 10) (.t 12)⟩,
tq 14 (.pick (.t 9) (.t 13) (.k (.d (.bool false)))),
tq 15 (.mv (.t 14)),
⟨some 16, (some (15, true)), .fieldAddr 2 (.t 2)⟩,
⟨some 17, (some (15, true)), .load none (.t 16)⟩,
⟨some 18, (some (15, true)), .mv (.t 1)⟩,
⟨some 19, (some (15, true)), .call false true (.k (.fn n_ref01_Weekday [] [])) [.t 18]⟩,
⟨some 20, (some (15, true)), .call false true (.k (.fn n_ref01_InMask [] [])) [.t 17, .t 19]⟩,
tq 21 (.pick (.t 15) (.t 20) (.k (.d (.bool false)))),
tq 4 (.mv (.t 21))] [1, 2, 5, 6, 7, 8, 9, 10, 11, 12, 13, 14, 15, 16, 17, 18, 19, 20, 21])
.ret))⟩

def b_priority_indices_1 : C :=
  (.seq (.reg false [
tq 7 (.bin .lss (.t 6) (.t 5))] [])
(.seq (.cond (.t 7) .skip
 (.exit 0))
(.seq (.block 1 (.seq (.reg false [
tq 8 (.mv (.t 6)),
tq 4 (.mv (.t 8))] [8])
(.reg false [
tq 9 (.mv (.t 3)),
tq 10 (.mv (.t 4)),
tq 11 (.mkList 1 1 [.t 10]),
tq 12 (.append ⟨true, ty_int, 1, 8⟩ (.t 9) (.t 11)),
tq 3 (.mv (.t 12))] [4, 9, 10, 11, 12])))
(.reg false [
tq 13 (.bin .add (.t 6) (kq 1)),
tq 6 (.mv (.t 13))] [13]))))

def c_priority_indices : CF := ⟨[.tmp 2],
  (.seq (.reg false [
tq 2 (.ownNil ⟨true, ty_int, 1, 8⟩)] [2])
(.seq (.reg false [
tq 3 (.ownNil ⟨true, ty_int, 1, 8⟩)] [])
(.seq (.seq (.reg false [
tq 5 (.mv (.t 0)),
tq 6 (.mv (kq 0))] [0])
(.block 0 (.loop [3, 5, 6] b_priority_indices_1)))
(.seq (.reg false [
tq 14 (.mv (.t 3)),
tq 2 (.mv (.t 14))] [3, 14])
.ret))))⟩

def c_slices_SortFunc_Lint_int : CF := ⟨[],
  (.seq (.reg false [
tq 5 (.mv (.t 0)),
tq 6 (.len .slc (.t 5)),
tq 4 (.mv (.t 6))] [5, 6])
(.reg false [
tq 7 (.mv (.t 0)),
tq 8 (.mv (.t 4)),
tq 9 (.mv (.t 4)),
tq 10 (.conv .u64 (.t 9)),
tq 11 (.call false true (.k (.fn n_math_bits_Len [] [])) [.t 10]),
tq 12 (.mv (.t 1)),
tq 13 (.call true true (.k (.fn n_slices_pdqsortCmpFunc_int [] [])) [.t 7, kq 0, .t 8, .t 11, .t 12])] [0, 1, 4, 7, 8, 9, 10, 11, 12, 13]))⟩

def c_priority_ranking_order_1 : CF := ⟨[.tmp 5],
  (.seq (.reg false [
tq 5 (.mv (kq 0))] [5])
(.seq (.reg false [
tq 9 (.load (some 6) (.t 2)),
tq 10 (.mv (.t 0)),
tq 11 (.mv (.t 1)),
tq 12 (.call false true (.k (.fn n_priority_ranking_compare [] [])) [.t 9, .t 10, .t 11]),
tq 8 (.mv (.t 12)),
tq 13 (.extract (.t 8) 0),
tq 14 (.extract (.t 8) 1),
tq 6 (.mv (.t 13)),
tq 7 (.mv (.t 14))] [0, 1, 2, 7, 8, 9, 10, 11, 12, 13, 14])
(.seq (.reg false [
tq 15 (.mv (.t 6)),
tq 5 (.mv (.t 15))] [6, 15])
.ret)))⟩

def b_slices_IndexFunc_Lint_int_1 : C :=
  (.seq (.reg false [
tq 9 (.bin .lss (.t 8) (.t 7))] [])
(.seq (.cond (.t 9) .skip
 (.exit 0))
(.seq (.block 1 (.seq (.reg false [
tq 10 (.mv (.t 8)),
tq 5 (.mv (.t 10))] [10])
(.seq (.reg false [
tq 11 (.mv (.t 1)),
tq 12 (.mv (.t 0)),
tq 13 (.mv (.t 5)),
tq 14 (.idxAddr 1 (.t 12) (.t 13)),
ld 15 14,
tq 16 (.call true true (.t 11) [.t 15])] [11, 12, 13, 14, 15])
(.cond (.t 16) (.seq (.reg false [
tq 17 (.mv (.t 5)),
tq 4 (.mv (.t 17))] [5, 17])
.ret)
 .skip))))
(.reg false [
tq 18 (.bin .add (.t 8) (kq 1)),
tq 8 (.mv (.t 18))] [18]))))

def c_slices_IndexFunc_Lint_int : CF := ⟨[.tmp 4],
  (.seq (.reg false [
tq 4 (.mv (kq 0))] [4])
(.seq (.seq (.reg false [
tq 6 (.mv (.t 0)),
tq 7 (.len .slc (.t 6)),
tq 8 (.mv (kq 0))] [6])
(.block 0 (.loop [0, 1, 7, 8] b_slices_IndexFunc_Lint_int_1)))
(.seq (.reg false [
tq 4 (.mv (kq (-1)))] [])
.ret)))⟩

def c_priority_ranking_order_2 : CF := ⟨[.tmp 3],
  (.seq (.reg false [
tq 3 (.mv (.k (.d (.bool false))))] [3])
(.seq (.reg true [
fa 4 0 1,
tq 5 (.load (some 4) (.t 4)),
fa 6 4 1,
ld 7 6,
tq 8 (.mv (.t 0)),
tq 9 (.idxAddr 18 (.t 7) (.t 8)),
tq 10 (.load (some 18) (.t 9)),
tq 11 (.call false true (.k (.fn n_priority_Program_classOf [] [])) [.t 5, .t 10]),
fa 12 0 1,
fa 13 1 12,
ld 14 13,
tq 15 (.bin .geq (.t 11) (.t 14)),
tq 3 (.mv (.t 15))] [0, 1, 4, 5, 6, 7, 8, 9, 10, 11, 12, 13, 14, 15])
.ret))⟩

def c_slices_Clone_Lint_int : CF := ⟨[.tmp 2],
  (.seq (.reg false [
tq 2 (.ownNil ⟨false, ty_int, 1, 8⟩)] [2])
(.seq (.seq (.reg false [
tq 3 (.mv (.t 0)),
tq 4 (.nilEq 2 false (.t 3))] [3])
(.cond (.t 4) (.seq (.reg false [
tq 2 (.ownNil ⟨false, ty_int, 1, 8⟩)] [])
.ret)
 .skip))
(.seq (.reg false [
tq 5 (.mkRow ⟨false, ty_int, 1, 8⟩ 0 []),
tq 6 (.mv (.t 0)),
tq 7 (.append ⟨false, ty_int, 1, 8⟩ (.t 5) (.t 6)),
tq 2 (.mv (.t 7))] [0, 5, 6, 7])
.ret)))⟩

def c_cmp_Compare_int : CF := ⟨[.tmp 4],
  (.seq (.reg false [
tq 4 (.mv (kq 0))] [4])
(.seq (.reg false [
tq 7 (.mv (.t 0)),
tq 8 (.call false true (.k (.fn n_cmp_isNaN_int [] [])) [.t 7]),
tq 5 (.mv (.t 8))] [7, 8])
(.seq (.reg false [
tq 9 (.mv (.t 1)),
tq 10 (.call false true (.k (.fn n_cmp_isNaN_int [] [])) [.t 9]),
tq 6 (.mv (.t 10))] [9, 10])
(.seq (.seq (.reg false [
tq 11 (.mv (.t 5))] [5])
(.cond (.t 11) (.seq (.seq (.reg false [
tq 12 (.mv (.t 6))] [6])
(.cond (.t 12) (.seq (.reg false [
tq 4 (.mv (kq 0))] [])
.ret)
 .skip))
(.seq (.reg false [
tq 4 (.mv (kq (-1)))] [])
.ret))
 .skip))
(.seq (.seq (.reg false [
tq 13 (.mv (.t 6))] [6])
(.cond (.t 13) (.seq (.reg false [
tq 4 (.mv (kq 1))] [])
.ret)
 .skip))
(.seq (.seq (.reg false [
tq 14 (.mv (.t 0)),
tq 15 (.mv (.t 1)),
tq 16 (.bin .lss (.t 14) (.t 15))] [14, 15])
(.cond (.t 16) (.seq (.reg false [
tq 4 (.mv (kq (-1)))] [])
.ret)
 .skip))
(.seq (.seq (.reg false [
tq 17 (.mv (.t 0)),
tq 18 (.mv (.t 1)),
tq 19 (.bin .gtr (.t 17) (.t 18))] [0, 1, 17, 18])
(.cond (.t 19) (.seq (.reg false [
tq 4 (.mv (kq 1))] [])
.ret)
 .skip))
(.seq (.reg false [
tq 4 (.mv (kq 0))] [])
.ret))))))))⟩

def b_priority_each_priority_Class_1 : C :=
  (.seq (.reg false [
tq 11 (.bin .lss (.t 10) (.t 9))] [])
(.seq (.cond (.t 11) .skip
 (.exit 0))
(.seq (.block 1 (.seq (.reg false [
tq 12 (.mv (.t 10)),
tq 13 (.idxAddr 3 (.t 8) (.t 10)),
tq 14 (.load (some 3) (.t 13)),
tq 6 (.alloc ty_priority_Class [.z (.str []), .z (.list 0 []), .z (.list 0 [])]),
tq 5 (.mv (.t 12)),
⟨none, none, .store 3 (.t 6) (.t 14)⟩] [12, 13, 14])
(.seq (.reg true [
tq 15 (.mv (.t 1)),
tq 16 (.mv (.t 0)),
tq 17 (.mv (.t 5)),
tq 18 (.slice 3 (.t 16) none (some (.t 17)) none),
tq 19 (.load (some 3) (.t 6)),
tq 20 (.call false true (.t 15) [.t 18, .t 19]),
tq 7 (.mv (.t 20))] [5, 6, 15, 16, 17, 18, 19, 20])
(.seq (.reg false [
tq 21 (.mv (.t 7)),
tq 22 (.bin .neq (.t 21) (kq 0))] [21])
(.cond (.t 22) (.seq (.reg false [
tq 23 (.mv (.t 7)),
tq 4 (.mv (.t 23))] [7, 23])
.ret)
 .skip)))))
(.reg false [
tq 24 (.bin .add (.t 10) (kq 1)),
tq 10 (.mv (.t 24))] [24]))))

def c_priority_each_priority_Class : CF := ⟨[.tmp 4],
  (.seq (.reg false [
tq 4 (.mv (kq 0))] [4])
(.seq (.seq (.reg false [
tq 8 (.mv (.t 0)),
tq 9 (.len .slc (.t 8)),
tq 10 (.mv (kq 0))] [])
(.block 0 (.loop [0, 1, 8, 9, 10] b_priority_each_priority_Class_1)))
(.seq (.reg false [
tq 4 (.mv (kq 0))] [])
.ret)))⟩

def c_priority_added : CF := ⟨[.tmp 4],
  (.seq (.reg false [
tq 3 (.box ty_priority_Class (.t 1)),
tq 4 (.mv (kq 0))] [1, 4])
(.seq (.reg false [
tq 6 (.mv (.t 0)),
tq 7 (.mkFunc n_priority_added_1 [] [.t 3]),
tq 8 (.call true true (.k (.fn n_slices_ContainsFunc_Lpriority_Class_priority_Class [] [])) [.t 6, .t 7]),
tq 5 (.mv (.t 8))] [0, 6, 7, 8])
(.seq (.reg false [
tq 9 (.load (some 3) (.t 3)),
tq 10 (.call false true (.k (.fn n_priority_Class_check [] [])) [.t 9]),
tq 11 (.mv (.t 5)),
tq 12 (.call false true (.k (.fn n_priority_when [] [])) [.t 11, kq 9]),
tq 13 (.mkList 1 2 [.t 10, .t 12]),
tq 14 (.call false true (.k (.fn n_priority_first [] [])) [.t 13]),
tq 4 (.mv (.t 14))] [3, 5, 9, 10, 11, 12, 13, 14])
.ret)))⟩

def c_priority_Program_pool : CF := ⟨[.tmp 2],
  (.seq (.reg false [
tq 1 (.box ty_priority_Program (.t 0)),
tq 2 (.mv (kq 0))] [0, 2])
(.seq (.reg true [
fa 3 1 1,
ld 4 3,
fa 5 0 1,
ld 6 5,
tq 7 (.len .slc (.t 6)),
tq 8 (.call false true (.k (.fn n_priority_within [] [])) [.t 4, kq 0, .t 7]),
fa 9 2 1,
ld 10 9,
tq 11 (.call false true (.k (.fn n_priority_within [] [])) [.t 10, kq 1, kq 100]),
fa 12 3 1,
ld 13 12,
fa 14 2 1,
ld 15 14,
tq 16 (.call false true (.k (.fn n_priority_within [] [])) [.t 13, kq 0, .t 15]),
tq 17 (.mkList 1 3 [.t 8, .t 11, .t 16]),
tq 18 (.call false true (.k (.fn n_priority_first [] [])) [.t 17]),
tq 2 (.mv (.t 18))] [1, 3, 4, 5, 6, 7, 8, 9, 10, 11, 12, 13, 14, 15, 16, 17, 18])
.ret))⟩

def c_priority_holds : CF := ⟨[.tmp 4],
  (.seq (.reg false [
tq 2 (.box ty_priority_Claim (.t 0)),
tq 3 (.box ty_priority_Test (.t 1)),
tq 4 (.mv (.k (.d (.bool false))))] [0, 1, 4])
(.seq (.reg true [
tq 6 (.call false false (.k (.fn n_priority_known [] [])) []),
fa 7 0 3,
ld 8 7,
tq 9 (.lookup .str (.agg [.str [], .nilf]) false (.t 6) (.t 8)),
tq 10 (.field 1 none (.t 9)),
tq 11 (.load (some 18) (.t 2)),
tq 12 (.call false true (.t 10) [.t 11]),
tq 5 (.mv (.t 12))] [2, 6, 7, 8, 9, 10, 11, 12])
(.seq (.reg false [
tq 13 (.mv (.t 5)),
fa 14 2 3,
ld 15 14,
tq 16 (.bin .eql (.t 13) (.t 15)),
tq 17 (.mv (.t 16)),
⟨some 18, (some (17, true)), .fieldAddr 1 (.t 3)⟩,
⟨some 19, (some (17, true)), .load none (.t 18)⟩,
⟨some 20, (some (17, true)), .bin .eql (.t 19) (.k (.d (.str [61])))⟩,
tq 21 (.pick (.t 17) (.t 20) (.k (.d (.bool false)))),
tq 22 (.mv (.t 21)),
⟨some 23, (some (22, false)), .mv (.t 5)⟩,
⟨some 24, (some (22, false)), .fieldAddr 2 (.t 3)⟩,
⟨some 25, (some (22, false)), .load none (.t 24)⟩,
⟨some 26, (some (22, false)), .bin .lss (.t 23) (.t 25)⟩,
⟨some 27, (some (22, false)), .mv (.t 26)⟩,
⟨some 28, (some (27, true)), .fieldAddr 1 (.t 3)⟩,
⟨some 29, (some (27, true)), .load none (.t 28)⟩,
⟨some 30, (some (27, true)), .bin .eql (.t 29) (.k (.d (.str [60])))⟩,
⟨some 31, (some (22, false)), .pick (.t 27) (.t 30) (.k (.d (.bool false)))⟩,
tq 32 (.pick (.t 22) (.k (.d (.bool true))) (.t 31)),
tq 33 (.mv (.t 32)),
⟨some 34, (some (33, false)), .mv (.t 5)⟩,
⟨some 35, (some (33, false)), .fieldAddr 2 (.t 3)⟩,
⟨some 36, (some (33, false)), .load none (.t 35)⟩,
⟨some 37, (some (33, false)), .bin .gtr (.t 34) (.t 36)⟩,
⟨some 38, (some (33, false)), .mv (.t 37)⟩,
⟨some 39, (some (38, true)), .fieldAddr 1 (.t 3)⟩,
⟨some 40, (some (38, true)), .load none (.t 39)⟩,
⟨some 41, (some (38, true)), .bin .eql (.t 40) (.k (.d (.str [62])))⟩,
⟨some 42, (some (33, false)), .pick (.t 38) (.t 41) (.k (.d (.bool false)))⟩,
tq 43 (.pick (.t 33) (.k (.d (.bool true))) (.t 42)),
tq 4 (.mv (.t 43))] [3, 5, 13, 14, 15, 16, 17, 18, 19, 20, 21, 22, 23, 24, 25, 26, 27, 28, 29, 30, 31, 32, 33, 34, 35, 36, 37, 38, 39, 40, 41, 42, 43])
.ret)))⟩

def c_priority_Program_keys : CF := ⟨[.tmp 4],
  (.seq (.reg false [
tq 2 (.box ty_priority_Program (.t 0)),
tq 3 (.box ty_int (.t 1)),
tq 4 (.mv (.k (.d (.nilf))))] [0, 1, 4])
(.seq (.reg false [
tq 5 (.mkFunc n_priority_Program_keys_1 [] [.t 3, .t 2]),
tq 4 (.mv (.t 5))] [2, 3, 5])
.ret))⟩

def c_strings_CutSuffix : CF := ⟨[.tmp 4, .tmp 5],
  (.seq (.reg false [
tq 4 (.mv (.k (.d (.str [])))),
tq 5 (.mv (.k (.d (.bool false))))] [4, 5])
(.seq (.reg false [
tq 6 (.mv (.t 0)),
tq 7 (.mv (.t 1)),
tq 8 (.call false true (.k (.fn n_internal_stringslite_CutSuffix [] [])) [.t 6, .t 7]),
tq 9 (.extract (.t 8) 0),
tq 10 (.extract (.t 8) 1),
tq 4 (.mv (.t 9)),
tq 5 (.mv (.t 10))] [0, 1, 6, 7, 8, 9, 10])
.ret))⟩

def c_slices_Contains_Lstring_string : CF := ⟨[.tmp 4],
  (.seq (.reg false [
tq 4 (.mv (.k (.d (.bool false))))] [4])
(.seq (.reg false [
tq 5 (.mv (.t 0)),
tq 6 (.mv (.t 1)),
tq 7 (.call false true (.k (.fn n_slices_Index_Lstring_string [] [])) [.t 5, .t 6]),
tq 8 (.bin .geq (.t 7) (kq 0)),
tq 4 (.mv (.t 8))] [0, 1, 5, 6, 7, 8])
.ret))⟩

def c_priority_reader_next : CF := ⟨[.tmp 2],
  (.seq (.reg false [
tq 2 (.mv (.k (.d (.str []))))] [2])
(.seq (.seq (.reg false [
tq 4 (.mv (.t 0)),
tq 5 (.nilCheck (.t 4)),
fa 6 0 5,
ld 7 6,
tq 8 (.len .slc (.t 7)),
tq 9 (.bin .eql (.t 8) (kq 0))] [4, 5, 6, 7, 8])
(.cond (.t 9) (.seq (.reg false [
tq 2 (.mv (.k (.d (.str []))))] [])
.ret)
 .skip))
(.seq (.reg false [
tq 10 (.mv (.t 0)),
tq 11 (.nilCheck (.t 10)),
fa 12 0 11,
ld 13 12,
tq 14 (.idxAddr 1 (.t 13) (kq 0)),
ld 15 14,
tq 3 (.mv (.t 15))] [10, 11, 12, 13, 14, 15])
(.seq (.reg false [
tq 16 (.mv (.t 0)),
tq 17 (.mv (.t 0)),
tq 18 (.nilCheck (.t 17)),
fa 19 0 18,
ld 20 19,
tq 21 (.slice 1 (.t 20) (some (kq 1)) none none),
tq 22 (.nilCheck (.t 16)),
fa 23 0 22,
⟨none, none, .store 1 (.t 23) (.t 21)⟩] [0, 16, 17, 18, 19, 20, 21, 22, 23])
(.seq (.reg false [
tq 24 (.mv (.t 3)),
tq 2 (.mv (.t 24))] [3, 24])
.ret)))))⟩

def c_priority_reader_class : CF := ⟨[.cell 2 (some 3), .tmp 3],
  (.seq (.reg false [
tq 2 (.alloc ty_priority_Class [.z (.str []), .z (.list 0 []), .z (.list 0 [])]),
tq 3 (.mv (.k (.d (.bool false))))] [3])
(.seq (.reg false [
tq 7 (.mv (.t 0)),
tq 8 (.mkFunc n_priority_reader_next [.t 7] []),
tq 4 (.mv (.t 8))] [7, 8])
(.seq (.reg false [
tq 9 (.mv (.t 4)),
tq 10 (.call true true (.t 9) []),
tq 11 (.build [.z (.str []), .z (.list 0 []), .z (.list 0 [])] [(0, 1, .t 10)]),
tq 5 (.alloc ty_priority_Class [.z (.str []), .z (.list 0 []), .z (.list 0 [])]),
⟨none, none, .store 3 (.t 5) (.t 11)⟩] [9, 10, 11])
(.seq (.reg false [
fa 12 0 5,
ld 13 12,
tq 14 (.bin .neq (.t 13) (.k (.d (.str [])))),
tq 6 (.mv (.t 14))] [12, 13, 14])
(.seq (.seq (.reg false [
tq 15 (.mv (.t 6)),
tq 16 (.mv (.t 15)),
⟨some 17, (some (16, true)), .mv (.t 0)⟩,
⟨some 18, (some (16, true)), .nilCheck (.t 17)⟩,
⟨some 19, (some (16, true)), .fieldAddr 0 (.t 18)⟩,
⟨some 20, (some (16, true)), .load none (.t 19)⟩,
⟨some 21, (some (16, true)), .len .slc (.t 20)⟩,
⟨some 22, (some (16, true)), .bin .gtr (.t 21) (kq 0)⟩,
tq 23 (.pick (.t 16) (.t 22) (.k (.d (.bool false)))),
tq 24 (.mv (.t 23)),
⟨some 25, (some (24, true)), .mv (.t 0)⟩,
⟨some 26, (some (24, true)), .nilCheck (.t 25)⟩,
⟨some 27, (some (24, true)), .fieldAddr 0 (.t 26)⟩,
⟨some 28, (some (24, true)), .load none (.t 27)⟩,
⟨some 29, (some (24, true)), .idxAddr 1 (.t 28) (kq 0)⟩,
⟨some 30, (some (24, true)), .load none (.t 29)⟩,
⟨some 31, (some (24, true)), .bin .eql (.t 30) (.k (.d (.str [119, 104, 101, 110])))⟩,
tq 32 (.pick (.t 24) (.t 31) (.k (.d (.bool false))))] [15, 16, 17, 18, 19, 20, 21, 22, 23, 24, 25, 26, 27, 28, 29, 30, 31])
(.cond (.t 32) (.seq (.reg false [
tq 33 (.mv (.t 4)),
tq 34 (.call true true (.t 33) [])] [33, 34])
(.reg false [
tq 36 (.mv (.t 0)),
tq 37 (.call true true (.k (.fn n_priority_all_priority_Test [] [])) [.t 36, .k (.d (.str [98, 121])), .k (.fn n_priority_test [] [])]),
tq 35 (.mv (.t 37)),
tq 38 (.extract (.t 35) 0),
tq 39 (.extract (.t 35) 1),
fa 40 1 5,
⟨none, none, .store 1 (.t 40) (.t 38)⟩,
tq 6 (.mv (.t 39))] [35, 36, 37, 38, 39, 40]))
 .skip))
(.seq (.seq (.reg false [
tq 41 (.mv (.t 6)),
tq 42 (.un .not (.t 41)),
tq 43 (.mv (.t 42)),
⟨some 44, (some (43, false)), .mv (.t 0)⟩,
⟨some 45, (some (43, false)), .nilCheck (.t 44)⟩,
⟨some 46, (some (43, false)), .fieldAddr 0 (.t 45)⟩,
⟨some 47, (some (43, false)), .load none (.t 46)⟩,
⟨some 48, (some (43, false)), .len .slc (.t 47)⟩,
⟨some 49, (some (43, false)), .bin .eql (.t 48) (kq 0)⟩,
tq 50 (.pick (.t 43) (.k (.d (.bool true))) (.t 49))] [41, 42, 43, 44, 45, 46, 47, 48, 49])
(.cond (.t 50) (.seq (.reg false [
tq 51 (.load (some 3) (.t 5)),
tq 52 (.mv (.t 6)),
⟨none, none, .store 3 (.t 2) (.t 51)⟩,
tq 3 (.mv (.t 52))] [5, 6, 51, 52])
.ret)
 .skip))
(.seq (.seq (.reg false [
tq 53 (.mv (.t 4)),
tq 54 (.call true true (.t 53) []),
tq 55 (.bin .neq (.t 54) (.k (.d (.str [98, 121]))))] [4, 53, 54])
(.cond (.t 55) (.seq (.reg false [
tq 56 (.build [.z (.str []), .z (.list 0 []), .z (.list 0 [])] []),
⟨none, none, .store 3 (.t 2) (.t 56)⟩,
tq 3 (.mv (.k (.d (.bool false))))] [56])
.ret)
 .skip))
(.seq (.reg false [
tq 58 (.mv (.t 0)),
tq 59 (.call true true (.k (.fn n_priority_all_priority_Key [] [])) [.t 58, .k (.d (.str [])), .k (.fn n_priority_key [] [])]),
tq 57 (.mv (.t 59)),
tq 60 (.extract (.t 57) 0),
tq 61 (.extract (.t 57) 1),
fa 62 2 5,
⟨none, none, .store 1 (.t 62) (.t 60)⟩,
tq 6 (.mv (.t 61))] [0, 57, 58, 59, 60, 61, 62])
(.seq (.reg false [
tq 63 (.load (some 3) (.t 5)),
tq 64 (.mv (.t 6)),
⟨none, none, .store 3 (.t 2) (.t 63)⟩,
tq 3 (.mv (.t 64))] [5, 6, 63, 64])
.ret)))))))))⟩

def b_priority_reader_pool_1 : C :=
  (.seq (.reg false [
tq 36 (.bin .lss (.t 35) (kq 3))] [])
(.seq (.cond (.t 36) .skip
 (.exit 0))
(.seq (.block 1 (.seq (.reg false [
tq 37 (.mv (.t 35)),
tq 7 (.mv (.t 37))] [37])
(.seq (.reg false [
tq 39 (.mv (.t 0)),
tq 40 (.nilCheck (.t 39)),
fa 41 0 40,
ld 42 41,
tq 43 (.mv (.t 7)),
tq 44 (.bin .mul (kq 2) (.t 43)),
tq 45 (.idxAddr 1 (.t 42) (.t 44)),
ld 46 45,
tq 47 (.call false true (.k (.fn n_priority_integer [] [])) [.t 46]),
tq 38 (.mv (.t 47)),
tq 48 (.extract (.t 38) 0),
tq 49 (.extract (.t 38) 1),
tq 8 (.mv (.t 48)),
tq 9 (.mv (.t 49))] [38, 39, 40, 41, 42, 43, 44, 45, 46, 47, 48, 49])
(.seq (.seq (.reg false [
tq 50 (.mv (.t 9)),
tq 51 (.un .not (.t 50))] [9, 50])
(.cond (.t 51) (.seq (.reg false [
tq 52 (.build [.own ⟨true, ty_priority_Class, 3, 64⟩, .z (.int .i64 0), .z (.int .i64 0), .z (.int .i64 0)] []),
⟨none, none, .store 4 (.t 4) (.t 52)⟩,
tq 5 (.mv (.k (.d (.bool false))))] [52])
.ret)
 .skip))
(.reg false [
tq 53 (.mv (.t 7)),
tq 54 (.mv (.t 8)),
tq 55 (.idxAddrA 3 1 (.t 6) (.t 53)),
⟨none, none, .store 1 (.t 55) (.t 54)⟩] [7, 8, 53, 54, 55])))))
(.reg false [
tq 56 (.bin .add (.t 35) (kq 1)),
tq 35 (.mv (.t 56))] [56]))))

def c_priority_reader_pool : CF := ⟨[.cell 4 (some 4), .tmp 5],
  (.seq (.reg false [
tq 3 (.box ty_priority_Program (.t 1)),
tq 4 (.alloc ty_priority_Program [.own ⟨true, ty_priority_Class, 3, 64⟩, .z (.int .i64 0), .z (.int .i64 0), .z (.int .i64 0)]),
tq 5 (.mv (.k (.d (.bool false))))] [1, 5])
(.seq (.seq (.reg false [
tq 10 (.mv (.t 0)),
tq 11 (.nilCheck (.t 10)),
fa 12 0 11,
ld 13 12,
tq 14 (.len .slc (.t 13)),
tq 15 (.bin .neq (.t 14) (kq 5)),
tq 16 (.mv (.t 15)),
⟨some 17, (some (16, false)), .mv (.t 0)⟩,
⟨some 18, (some (16, false)), .nilCheck (.t 17)⟩,
⟨some 19, (some (16, false)), .fieldAddr 0 (.t 18)⟩,
⟨some 20, (some (16, false)), .load none (.t 19)⟩,
⟨some 21, (some (16, false)), .idxAddr 1 (.t 20) (kq 1)⟩,
⟨some 22, (some (16, false)), .load none (.t 21)⟩,
⟨some 23, (some (16, false)), .bin .neq (.t 22) (.k (.d (.str [115, 104, 97, 114, 101])))⟩,
tq 24 (.pick (.t 16) (.k (.d (.bool true))) (.t 23)),
tq 25 (.mv (.t 24)),
⟨some 26, (some (25, false)), .mv (.t 0)⟩,
⟨some 27, (some (25, false)), .nilCheck (.t 26)⟩,
⟨some 28, (some (25, false)), .fieldAddr 0 (.t 27)⟩,
⟨some 29, (some (25, false)), .load none (.t 28)⟩,
⟨some 30, (some (25, false)), .idxAddr 1 (.t 29) (kq 3)⟩,
⟨some 31, (some (25, false)), .load none (.t 30)⟩,
⟨some 32, (some (25, false)), .bin .neq (.t 31) (.k (.d (.str [111, 102])))⟩,
tq 33 (.pick (.t 25) (.k (.d (.bool true))) (.t 32))] [10, 11, 12, 13, 14, 15, 16, 17, 18, 19, 20, 21, 22, 23, 24, 25, 26, 27, 28, 29, 30, 31, 32])
(.cond (.t 33) (.seq (.reg false [
tq 34 (.build [.own ⟨true, ty_priority_Class, 3, 64⟩, .z (.int .i64 0), .z (.int .i64 0), .z (.int .i64 0)] []),
⟨none, none, .store 4 (.t 4) (.t 34)⟩,
tq 5 (.mv (.k (.d (.bool false))))] [34])
.ret)
 .skip))
(.seq (.reg false [
tq 6 (.alloc ty_3_int [.z (.int .i64 0), .z (.int .i64 0), .z (.int .i64 0)])] [])
(.seq (.seq (.reg false [
tq 35 (.mv (kq 0))] [])
(.block 0 (.loop [0, 3, 4, 6, 35] b_priority_reader_pool_1)))
(.seq (.reg true [
tq 57 (.idxAddrA 3 1 (.t 6) (kq 0)),
ld 58 57,
tq 59 (.idxAddrA 3 1 (.t 6) (kq 1)),
ld 60 59,
tq 61 (.idxAddrA 3 1 (.t 6) (kq 2)),
ld 62 61,
fa 63 1 3,
⟨none, none, .storeR 1 (.t 63) (.t 58) [6]⟩,
fa 64 3 3,
⟨none, none, .storeR 1 (.t 64) (.t 60) [6]⟩,
fa 65 2 3,
⟨none, none, .store 1 (.t 65) (.t 62)⟩] [6, 57, 58, 59, 60, 61, 62, 63, 64, 65])
(.seq (.reg false [
tq 66 (.load (some 4) (.t 3)),
⟨none, none, .store 4 (.t 4) (.t 66)⟩,
tq 5 (.mv (.k (.d (.bool true))))] [3, 66])
.ret))))))⟩

def b_ref01_IsName_1 : C :=
  (.seq (.seq (.reg false [
tq 14 (.mv (.t 3)),
tq 15 (.mv (.t 0)),
tq 16 (.len .str (.t 15)),
tq 17 (.bin .lss (.t 14) (.t 16))] [14, 15, 16])
(.cond (.t 17) .skip
 (.exit 0)))
(.seq (.block 1 (.seq (.reg false [
tq 20 (.mv (.t 0)),
tq 21 (.mv (.t 3)),
tq 22 (.idxS (.t 20) (.t 21)),
tq 4 (.mv (.t 22))] [20, 21, 22])
(.seq (.reg false [
tq 23 (.mv (.t 4)),
tq 24 (.bin .geq (.t 23) (.k (.d (.int .u8 97)))),
tq 25 (.mv (.t 24)),
⟨some 26, (some (25, true)), .mv (.t 4)⟩,
⟨some 27, (some (25, true)), .bin .leq (.t 26) (.k (.d (.int .u8 122)))⟩,
tq 28 (.pick (.t 25) (.t 27) (.k (.d (.bool false)))),
tq 29 (.mv (.t 28)),
⟨some 30, (some (29, false)), .mv (.t 4)⟩,
⟨some 31, (some (29, false)), .bin .geq (.t 30) (.k (.d (.int .u8 65)))⟩,
⟨some 32, (some (29, false)), .mv (.t 31)⟩,
⟨some 33, (some (32, true)), .mv (.t 4)⟩,
⟨some 34, (some (32, true)), .bin .leq (.t 33) (.k (.d (.int .u8 90)))⟩,
⟨some 35, (some (29, false)), .pick (.t 32) (.t 34) (.k (.d (.bool false)))⟩,
tq 36 (.pick (.t 29) (.k (.d (.bool true))) (.t 35)),
tq 5 (.mv (.t 36))] [23, 24, 25, 26, 27, 28, 29, 30, 31, 32, 33, 34, 35, 36])
(.seq (.reg false [
tq 37 (.mv (.t 5)),
tq 38 (.un .not (.t 37)),
tq 39 (.mv (.t 38)),
⟨some 40, (some (39, true)), .mv (.t 3)⟩,
⟨some 41, (some (39, true)), .bin .eql (.t 40) (kq 0)⟩,
⟨some 42, (some (39, true)), .mv (.t 41)⟩,
⟨some 43, (some (42, false)), .mv (.t 4)⟩,
⟨some 44, (some (42, false)), .bin .neq (.t 43) (.k (.d (.int .u8 95)))⟩,
⟨some 45, (some (42, false)), .mv (.t 44)⟩,
⟨some 46, (some (45, true)), .mv (.t 4)⟩,
⟨some 47, (some (45, true)), .bin .lss (.t 46) (.k (.d (.int .u8 48)))⟩,
⟨some 48, (some (45, true)), .mv (.t 47)⟩,
⟨some 49, (some (48, false)), .mv (.t 4)⟩,
⟨some 50, (some (48, false)), .bin .gtr (.t 49) (.k (.d (.int .u8 57)))⟩,
⟨some 51, (some (45, true)), .pick (.t 48) (.k (.d (.bool true))) (.t 50)⟩,
⟨some 52, (some (42, false)), .pick (.t 45) (.t 51) (.k (.d (.bool false)))⟩,
⟨some 53, (some (39, true)), .pick (.t 42) (.k (.d (.bool true))) (.t 52)⟩,
tq 54 (.pick (.t 39) (.t 53) (.k (.d (.bool false))))] [4, 5, 37, 38, 39, 40, 41, 42, 43, 44, 45, 46, 47, 48, 49, 50, 51, 52, 53])
(.cond (.t 54) (.seq (.reg false [
tq 2 (.mv (.k (.d (.bool false))))] [])
.ret)
 .skip)))))
(.reg false [
tq 18 (.mv (.t 3)),
tq 19 (.bin .add (.t 18) (kq 1)),
tq 3 (.mv (.t 19))] [18, 19])))

def c_ref01_IsName : CF := ⟨[.tmp 2],
  (.seq (.reg false [
tq 2 (.mv (.k (.d (.bool false))))] [2])
(.seq (.seq (.reg false [
tq 6 (.mv (.t 0)),
tq 7 (.len .str (.t 6)),
tq 8 (.bin .eql (.t 7) (kq 0)),
tq 9 (.mv (.t 8)),
⟨some 10, (some (9, false)), .mv (.t 0)⟩,
⟨some 11, (some (9, false)), .len .str (.t 10)⟩,
⟨some 12, (some (9, false)), .bin .gtr (.t 11) (kq 24)⟩,
tq 13 (.pick (.t 9) (.k (.d (.bool true))) (.t 12))] [6, 7, 8, 9, 10, 11, 12])
(.cond (.t 13) (.seq (.reg false [
tq 2 (.mv (.k (.d (.bool false))))] [])
.ret)
 .skip))
(.seq (.seq (.reg false [
tq 3 (.mv (kq 0))] [])
(.block 0 (.loop [0, 3] b_ref01_IsName_1)))
(.seq (.reg false [
tq 2 (.mv (.k (.d (.bool true))))] [])
.ret))))⟩

def c_ref05_CheckTest : CF := ⟨[.tmp 2],
  (.seq (.reg false [
tq 1 (.box ty_turnroundref05_Test (.t 0)),
tq 2 (.mv (kq 0))] [0, 2])
(.seq (.seq (.reg true [
tq 3 (.call false true (.k (.fn n_ref05_Facts [] [])) []),
fa 4 0 1,
ld 5 4,
tq 6 (.call false true (.k (.fn n_ref01_HasWord [] [])) [.t 3, .t 5]),
tq 7 (.un .not (.t 6))] [3, 4, 5, 6])
(.cond (.t 7) (.seq (.reg false [
tq 2 (.mv (kq 10))] [])
.ret)
 .skip))
(.seq (.seq (.reg false [
fa 8 1 1,
ld 9 8,
tq 10 (.bin .neq (.t 9) (.k (.d (.str [61])))),
tq 11 (.mv (.t 10)),
⟨some 12, (some (11, true)), .fieldAddr 1 (.t 1)⟩,
⟨some 13, (some (11, true)), .load none (.t 12)⟩,
⟨some 14, (some (11, true)), .bin .neq (.t 13) (.k (.d (.str [60])))⟩,
tq 15 (.pick (.t 11) (.t 14) (.k (.d (.bool false)))),
tq 16 (.mv (.t 15)),
⟨some 17, (some (16, true)), .fieldAddr 1 (.t 1)⟩,
⟨some 18, (some (16, true)), .load none (.t 17)⟩,
⟨some 19, (some (16, true)), .bin .neq (.t 18) (.k (.d (.str [62])))⟩,
tq 20 (.pick (.t 16) (.t 19) (.k (.d (.bool false))))] [8, 9, 10, 11, 12, 13, 14, 15, 16, 17, 18, 19])
(.cond (.t 20) (.seq (.reg false [
tq 2 (.mv (kq 13))] [])
.ret)
 .skip))
(.seq (.reg false [
fa 21 2 1,
ld 22 21,
tq 23 (.call false true (.k (.fn n_ref01_CheckRange [] [])) [.t 22, kq 0, kq 999999999]),
tq 2 (.mv (.t 23))] [1, 21, 22, 23])
.ret))))⟩

def b_ref01_HasWord_1 : C :=
  (.seq (.seq (.reg false [
tq 6 (.mv (.t 5)),
tq 7 (.mv (.t 0)),
tq 8 (.len .slc (.t 7)),
tq 9 (.bin .lss (.t 6) (.t 8))] [6, 7, 8])
(.cond (.t 9) .skip
 (.exit 0)))
(.seq (.block 1 (.seq (.reg false [
tq 12 (.mv (.t 0)),
tq 13 (.mv (.t 5)),
tq 14 (.idxAddr 1 (.t 12) (.t 13)),
ld 15 14,
tq 16 (.mv (.t 1)),
tq 17 (.bin .eql (.t 15) (.t 16))] [12, 13, 14, 15, 16])
(.cond (.t 17) (.seq (.reg false [
tq 4 (.mv (.k (.d (.bool true))))] [])
.ret)
 .skip)))
(.reg false [
tq 10 (.mv (.t 5)),
tq 11 (.bin .add (.t 10) (kq 1)),
tq 5 (.mv (.t 11))] [10, 11])))

def c_ref01_HasWord : CF := ⟨[.tmp 4],
  (.seq (.reg false [
tq 4 (.mv (.k (.d (.bool false))))] [4])
(.seq (.seq (.reg false [
tq 5 (.mv (kq 0))] [])
(.block 0 (.loop [0, 1, 5] b_ref01_HasWord_1)))
(.seq (.reg false [
tq 4 (.mv (.k (.d (.bool false))))] [])
.ret)))⟩

def c_ref05_Facts : CF := ⟨[.tmp 0],
  (.seq (.reg false [
tq 0 (.mv (.k (.d (.list 0 []))))] [0])
(.seq (.reg false [
tq 1 (.mkList 1 10 [.k (.d (.str [104, 105, 115, 116, 111, 114, 105, 99])), .k (.d (.str [114, 101, 116, 105, 109, 101, 100])), .k (.d (.str [110, 101, 119, 99, 111, 109, 101, 114])), .k (.d (.str [121, 101, 97, 114, 114, 111, 117, 110, 100])), .k (.d (.str [100, 97, 121, 115])), .k (.d (.str [115, 101, 97, 116, 115])), .k (.d (.str [115, 105, 122, 101])), .k (.d (.str [110, 111, 105, 115, 101])), .k (.d (.str [100, 105, 115, 116, 97, 110, 99, 101])), .k (.d (.str [109, 105, 110, 117, 116, 101]))]),
tq 0 (.mv (.t 1))] [1])
.ret))⟩

def c_ref02_optional : CF := ⟨[.tmp 2],
  (.seq (.reg false [
tq 2 (.mv (.k (.d (.bool false))))] [2])
(.seq (.reg false [
tq 3 (.mv (.t 0)),
tq 4 (.bin .eql (.t 3) (.k (.d (.str [])))),
tq 5 (.mv (.t 4)),
⟨some 6, (some (5, false)), .mv (.t 0)⟩,
⟨some 7, (some (5, false)), .call false true (.k (.fn n_ref01_IsName [] [])) [.t 6]⟩,
tq 8 (.pick (.t 5) (.k (.d (.bool true))) (.t 7)),
tq 2 (.mv (.t 8))] [0, 3, 4, 5, 6, 7, 8])
.ret))⟩

def c_ref01_CheckPeriod : CF := ⟨[.tmp 2],
  (.seq (.reg false [
tq 1 (.box ty_api_Period (.t 0)),
tq 2 (.mv (kq 0))] [0, 2])
(.seq (.seq (.reg false [
fa 3 0 1,
ld 4 3,
tq 5 (.call false true (.k (.fn n_ref01_CheckDay [] [])) [.t 4]),
tq 6 (.bin .neq (.t 5) (kq 0)),
tq 7 (.mv (.t 6)),
⟨some 8, (some (7, false)), .fieldAddr 1 (.t 1)⟩,
⟨some 9, (some (7, false)), .load none (.t 8)⟩,
⟨some 10, (some (7, false)), .call false true (.k (.fn n_ref01_CheckDay [] [])) [.t 9]⟩,
⟨some 11, (some (7, false)), .bin .neq (.t 10) (kq 0)⟩,
tq 12 (.pick (.t 7) (.k (.d (.bool true))) (.t 11))] [3, 4, 5, 6, 7, 8, 9, 10, 11])
(.cond (.t 12) (.seq (.reg false [
tq 2 (.mv (kq 3))] [])
.ret)
 .skip))
(.seq (.seq (.reg false [
fa 13 1 1,
ld 14 13,
fa 15 0 1,
ld 16 15,
tq 17 (.bin .lss (.t 14) (.t 16))] [13, 14, 15, 16])
(.cond (.t 17) (.seq (.reg false [
tq 2 (.mv (kq 11))] [])
.ret)
 .skip))
(.seq (.seq (.reg false [
fa 18 1 1,
ld 19 18,
fa 20 0 1,
ld 21 20,
tq 22 (.bin .sub (.t 19) (.t 21)),
tq 23 (.bin .gtr (.t 22) (kq 400))] [18, 19, 20, 21, 22])
(.cond (.t 23) (.seq (.reg false [
tq 2 (.mv (kq 4))] [])
.ret)
 .skip))
(.seq (.reg false [
fa 24 2 1,
ld 25 24,
tq 26 (.call false true (.k (.fn n_ref01_CheckRange [] [])) [.t 25, kq 1, kq 127]),
tq 2 (.mv (.t 26))] [1, 24, 25, 26])
.ret)))))⟩

def b_priority_each_priority_Claim_1 : C :=
  (.seq (.reg false [
tq 11 (.bin .lss (.t 10) (.t 9))] [])
(.seq (.cond (.t 11) .skip
 (.exit 0))
(.seq (.block 1 (.seq (.reg false [
tq 12 (.mv (.t 10)),
tq 13 (.idxAddr 18 (.t 8) (.t 10)),
tq 14 (.load (some 18) (.t 13)),
tq 6 (.alloc ty_priority_Claim [.z (.str []), .z (.str []), .z (.str []), .z (.str []), .z (.str []), .z (.str []), .z (.int .i64 0), .z (.int .i64 0), .z (.int .i64 0), .z (.int .i64 0), .z (.int .i64 0), .z (.int .i64 0), .z (.int .i64 0), .z (.bool false), .z (.bool false), .z (.bool false), .z (.bool false), .z (.int .i64 0)]),
tq 5 (.mv (.t 12)),
⟨none, none, .store 18 (.t 6) (.t 14)⟩] [12, 13, 14])
(.seq (.reg true [
tq 15 (.mv (.t 1)),
tq 16 (.mv (.t 0)),
tq 17 (.mv (.t 5)),
tq 18 (.slice 18 (.t 16) none (some (.t 17)) none),
tq 19 (.load (some 18) (.t 6)),
tq 20 (.call false true (.t 15) [.t 18, .t 19]),
tq 7 (.mv (.t 20))] [5, 6, 15, 16, 17, 18, 19, 20])
(.seq (.reg false [
tq 21 (.mv (.t 7)),
tq 22 (.bin .neq (.t 21) (kq 0))] [21])
(.cond (.t 22) (.seq (.reg false [
tq 23 (.mv (.t 7)),
tq 4 (.mv (.t 23))] [7, 23])
.ret)
 .skip)))))
(.reg false [
tq 24 (.bin .add (.t 10) (kq 1)),
tq 10 (.mv (.t 24))] [24]))))

def c_priority_each_priority_Claim : CF := ⟨[.tmp 4],
  (.seq (.reg false [
tq 4 (.mv (kq 0))] [4])
(.seq (.seq (.reg false [
tq 8 (.mv (.t 0)),
tq 9 (.len .slc (.t 8)),
tq 10 (.mv (kq 0))] [])
(.block 0 (.loop [0, 1, 8, 9, 10] b_priority_each_priority_Claim_1)))
(.seq (.reg false [
tq 4 (.mv (kq 0))] [])
.ret)))⟩

def c_priority_checkClaims_1 : CF := ⟨[.tmp 4],
  (.seq (.reg false [
tq 3 (.box ty_priority_Claim (.t 1)),
tq 4 (.mv (kq 0))] [1, 4])
(.seq (.reg false [
tq 6 (.mv (.t 0)),
tq 7 (.mkFunc n_priority_checkClaims_1_1 [] [.t 3]),
tq 8 (.call true true (.k (.fn n_slices_ContainsFunc_Lpriority_Claim_priority_Claim [] [])) [.t 6, .t 7]),
tq 5 (.mv (.t 8))] [0, 6, 7, 8])
(.seq (.reg false [
tq 9 (.load (some 18) (.t 3)),
tq 10 (.call false true (.k (.fn n_priority_CheckClaim [] [])) [.t 9]),
tq 11 (.mv (.t 5)),
tq 12 (.call false true (.k (.fn n_priority_when [] [])) [.t 11, kq 9]),
tq 13 (.mkList 1 2 [.t 10, .t 12]),
tq 14 (.call false true (.k (.fn n_priority_first [] [])) [.t 13]),
tq 4 (.mv (.t 14))] [3, 5, 9, 10, 11, 12, 13, 14])
.ret)))⟩

def c_slices_ContainsFunc_Lpriority_Claim_priority_Claim : CF := ⟨[.tmp 4],
  (.seq (.reg false [
tq 4 (.mv (.k (.d (.bool false))))] [4])
(.seq (.reg false [
tq 5 (.mv (.t 0)),
tq 6 (.mv (.t 1)),
tq 7 (.call true true (.k (.fn n_slices_IndexFunc_Lpriority_Claim_priority_Claim [] [])) [.t 5, .t 6]),
tq 8 (.bin .geq (.t 7) (kq 0)),
tq 4 (.mv (.t 8))] [0, 1, 5, 6, 7, 8])
.ret))⟩

def c_priority_checkClaims_1_1 : CF := ⟨[.tmp 3],
  (.seq (.reg false [
tq 2 (.box ty_priority_Claim (.t 0)),
tq 3 (.mv (.k (.d (.bool false))))] [0, 3])
(.seq (.reg false [
fa 4 0 2,
fa 5 0 4,
ld 6 5,
fa 7 0 1,
fa 8 0 7,
ld 9 8,
tq 10 (.bin .eql (.t 6) (.t 9)),
tq 3 (.mv (.t 10))] [1, 2, 4, 5, 6, 7, 8, 9, 10])
.ret))⟩

def c_priority_lots_1 : CF := ⟨[.tmp 5],
  (.seq (.reg false [
tq 5 (.mv (kq 0))] [5])
(.seq (.reg true [
ld 6 2,
tq 7 (.mv (.t 0)),
tq 8 (.idxAddr 18 (.t 6) (.t 7)),
fa 9 0 8,
fa 10 0 9,
ld 11 10,
ld 12 2,
tq 13 (.mv (.t 1)),
tq 14 (.idxAddr 18 (.t 12) (.t 13)),
fa 15 0 14,
fa 16 0 15,
ld 17 16,
tq 18 (.call false true (.k (.fn n_cmp_Compare_string [] [])) [.t 11, .t 17]),
tq 5 (.mv (.t 18))] [0, 1, 2, 6, 7, 8, 9, 10, 11, 12, 13, 14, 15, 16, 17, 18])
.ret))⟩

def c_cmp_Compare_string : CF := ⟨[.tmp 4],
  (.seq (.reg false [
tq 4 (.mv (kq 0))] [4])
(.seq (.reg false [
tq 7 (.mv (.t 0)),
tq 8 (.call false true (.k (.fn n_cmp_isNaN_string [] [])) [.t 7]),
tq 5 (.mv (.t 8))] [7, 8])
(.seq (.reg false [
tq 9 (.mv (.t 1)),
tq 10 (.call false true (.k (.fn n_cmp_isNaN_string [] [])) [.t 9]),
tq 6 (.mv (.t 10))] [9, 10])
(.seq (.seq (.reg false [
tq 11 (.mv (.t 5))] [5])
(.cond (.t 11) (.seq (.seq (.reg false [
tq 12 (.mv (.t 6))] [6])
(.cond (.t 12) (.seq (.reg false [
tq 4 (.mv (kq 0))] [])
.ret)
 .skip))
(.seq (.reg false [
tq 4 (.mv (kq (-1)))] [])
.ret))
 .skip))
(.seq (.seq (.reg false [
tq 13 (.mv (.t 6))] [6])
(.cond (.t 13) (.seq (.reg false [
tq 4 (.mv (kq 1))] [])
.ret)
 .skip))
(.seq (.seq (.reg false [
tq 14 (.mv (.t 0)),
tq 15 (.mv (.t 1)),
tq 16 (.bin .lss (.t 14) (.t 15))] [14, 15])
(.cond (.t 16) (.seq (.reg false [
tq 4 (.mv (kq (-1)))] [])
.ret)
 .skip))
(.seq (.seq (.reg false [
tq 17 (.mv (.t 0)),
tq 18 (.mv (.t 1)),
tq 19 (.bin .gtr (.t 17) (.t 18))] [0, 1, 17, 18])
(.cond (.t 19) (.seq (.reg false [
tq 4 (.mv (kq 1))] [])
.ret)
 .skip))
(.seq (.reg false [
tq 4 (.mv (kq 0))] [])
.ret))))))))⟩

def b_calendar_Draw_1 : C :=
  (.seq (.reg false [
tq 24 (.bin .lss (.t 23) (.t 22))] [])
(.seq (.cond (.t 24) .skip
 (.exit 0))
(.seq (.block 1 (.seq (.reg false [
tq 25 (.mv (.t 23)),
tq 8 (.mv (.t 25))] [25])
(.reg false [
tq 26 (.mv (.t 7)),
tq 27 (.mv (.t 8)),
tq 28 (.mkList 1 1 [.t 27]),
tq 29 (.append ⟨false, ty_int, 1, 8⟩ (.t 26) (.t 28)),
tq 7 (.mv (.t 29))] [8, 26, 27, 28, 29])))
(.reg false [
tq 30 (.bin .add (.t 23) (kq 1)),
tq 23 (.mv (.t 30))] [30]))))

def b_calendar_Draw_2 : C :=
  (.seq (.seq (.reg false [
tq 39 (.mv (.t 11)),
tq 40 (.bin .gtr (.t 39) (kq 0))] [39])
(.cond (.t 40) .skip
 (.exit 2)))
(.seq (.block 3 (.seq (.reg false [
tq 43 (.mv (.t 10)),
tq 44 (.bin .mul (kq 48271) (.t 43)),
tq 45 (.bin .rem (.t 44) (kq 2147483647)),
tq 10 (.mv (.t 45))] [43, 44, 45])
(.seq (.reg false [
tq 46 (.mv (.t 10)),
tq 47 (.mv (.t 11)),
tq 48 (.bin .add (.t 47) (kq 1)),
tq 49 (.bin .rem (.t 46) (.t 48)),
tq 12 (.mv (.t 49))] [46, 47, 48, 49])
(.reg true [
tq 50 (.mv (.t 9)),
tq 51 (.mv (.t 11)),
tq 52 (.mv (.t 9)),
tq 53 (.mv (.t 12)),
tq 54 (.mv (.t 9)),
tq 55 (.mv (.t 12)),
tq 56 (.idxAddr 1 (.t 54) (.t 55)),
ld 57 56,
tq 58 (.mv (.t 9)),
tq 59 (.mv (.t 11)),
tq 60 (.idxAddr 1 (.t 58) (.t 59)),
ld 61 60,
tq 62 (.idxAddr 1 (.t 50) (.t 51)),
⟨none, none, .store 1 (.t 62) (.t 57)⟩,
tq 63 (.idxAddr 1 (.t 52) (.t 53)),
⟨none, none, .store 1 (.t 63) (.t 61)⟩] [12, 50, 51, 52, 53, 54, 55, 56, 57, 58, 59, 60, 61, 62, 63]))))
(.reg false [
tq 41 (.mv (.t 11)),
tq 42 (.bin .sub (.t 41) (kq 1)),
tq 11 (.mv (.t 42))] [41, 42])))

def c_calendar_Draw : CF := ⟨[.tmp 4, .tmp 5],
  (.seq (.reg false [
tq 4 (.ownNil ⟨true, ty_int, 1, 8⟩),
tq 5 (.mv (kq 0))] [4, 5])
(.seq (.seq (.reg false [
tq 13 (.mv (.t 0)),
tq 14 (.call false true (.k (.fn n_calendar_within [] [])) [.t 13, kq 1, kq 2147483646]),
tq 15 (.mv (.t 1)),
tq 16 (.call false true (.k (.fn n_calendar_within [] [])) [.t 15, kq 0, kq 256]),
tq 17 (.mkList 1 2 [.t 14, .t 16]),
tq 18 (.call false true (.k (.fn n_calendar_first [] [])) [.t 17]),
tq 6 (.mv (.t 18))] [13, 14, 15, 16, 17, 18])
(.seq (.reg false [
tq 19 (.mv (.t 6)),
tq 20 (.bin .neq (.t 19) (kq 0))] [19])
(.cond (.t 20) (.seq (.reg false [
tq 21 (.mv (.t 6)),
tq 4 (.ownNil ⟨true, ty_int, 1, 8⟩),
tq 5 (.mv (.t 21))] [6, 21])
.ret)
 .skip)))
(.seq (.reg false [
tq 7 (.ownNil ⟨false, ty_int, 1, 8⟩)] [])
(.seq (.seq (.reg false [
tq 22 (.mv (.t 1)),
tq 23 (.mv (kq 0))] [])
(.block 0 (.loop [0, 1, 7, 22, 23] b_calendar_Draw_1)))
(.seq (.reg false [
tq 31 (.mv (.t 1)),
tq 32 (.makeRow ⟨true, ty_int, 1, 8⟩ [.int .i64 0] (.t 31)),
tq 9 (.mv (.t 32))] [31, 32])
(.seq (.reg false [
tq 33 (.mv (.t 9)),
tq 34 (.mv (.t 7)),
tq 35 (.copy 1 (.t 33) (.t 34))] [7, 33, 34, 35])
(.seq (.reg false [
tq 36 (.mv (.t 0)),
tq 10 (.mv (.t 36))] [0, 36])
(.seq (.seq (.reg false [
tq 37 (.mv (.t 1)),
tq 38 (.bin .sub (.t 37) (kq 1)),
tq 11 (.mv (.t 38))] [1, 37, 38])
(.block 2 (.loop [9, 10, 11] b_calendar_Draw_2)))
(.seq (.reg false [
tq 64 (.mv (.t 9)),
tq 4 (.mv (.t 64)),
tq 5 (.mv (kq 0))] [9, 64])
.ret)))))))))⟩

def c_priority_facts : CF := ⟨[.tmp 0],
  (.seq (.reg false [
tq 0 (.mv (.k (.d (.list 0 []))))] [0])
(.seq (.reg false [
tq 1 (.build [.z (.str []), .z (.nilf)] [(0, 1, .k (.d (.str [104, 105, 115, 116, 111, 114, 105, 99]))), (1, 1, .k (.fn n_priority_facts_1 [] []))]),
tq 2 (.build [.z (.str []), .z (.nilf)] [(0, 1, .k (.d (.str [114, 101, 116, 105, 109, 101, 100]))), (1, 1, .k (.fn n_priority_facts_2 [] []))]),
tq 3 (.build [.z (.str []), .z (.nilf)] [(0, 1, .k (.d (.str [110, 101, 119, 99, 111, 109, 101, 114]))), (1, 1, .k (.fn n_priority_facts_3 [] []))]),
tq 4 (.build [.z (.str []), .z (.nilf)] [(0, 1, .k (.d (.str [121, 101, 97, 114, 114, 111, 117, 110, 100]))), (1, 1, .k (.fn n_priority_facts_4 [] []))]),
tq 5 (.build [.z (.str []), .z (.nilf)] [(0, 1, .k (.d (.str [100, 97, 121, 115]))), (1, 1, .k (.fn n_priority_facts_5 [] []))]),
tq 6 (.build [.z (.str []), .z (.nilf)] [(0, 1, .k (.d (.str [115, 101, 97, 116, 115]))), (1, 1, .k (.fn n_priority_facts_6 [] []))]),
tq 7 (.build [.z (.str []), .z (.nilf)] [(0, 1, .k (.d (.str [115, 105, 122, 101]))), (1, 1, .k (.fn n_priority_facts_7 [] []))]),
tq 8 (.build [.z (.str []), .z (.nilf)] [(0, 1, .k (.d (.str [110, 111, 105, 115, 101]))), (1, 1, .k (.fn n_priority_facts_8 [] []))]),
tq 9 (.build [.z (.str []), .z (.nilf)] [(0, 1, .k (.d (.str [100, 105, 115, 116, 97, 110, 99, 101]))), (1, 1, .k (.fn n_priority_facts_9 [] []))]),
tq 10 (.build [.z (.str []), .z (.nilf)] [(0, 1, .k (.d (.str [109, 105, 110, 117, 116, 101]))), (1, 1, .k (.fn n_priority_facts_10 [] []))]),
tq 11 (.mkList 2 10 [.t 1, .t 2, .t 3, .t 4, .t 5, .t 6, .t 7, .t 8, .t 9, .t 10]),
tq 0 (.mv (.t 11))] [1, 2, 3, 4, 5, 6, 7, 8, 9, 10, 11])
.ret))⟩

def b_slices_IndexFunc_Lapi_Request_api_Request_1 : C :=
  (.seq (.reg false [
tq 9 (.bin .lss (.t 8) (.t 7))] [])
(.seq (.cond (.t 9) .skip
 (.exit 0))
(.seq (.block 1 (.seq (.reg false [
tq 10 (.mv (.t 8)),
tq 5 (.mv (.t 10))] [10])
(.seq (.reg false [
tq 11 (.mv (.t 1)),
tq 12 (.mv (.t 0)),
tq 13 (.mv (.t 5)),
tq 14 (.idxAddr 13 (.t 12) (.t 13)),
tq 15 (.load (some 13) (.t 14)),
tq 16 (.call true true (.t 11) [.t 15])] [11, 12, 13, 14, 15])
(.cond (.t 16) (.seq (.reg false [
tq 17 (.mv (.t 5)),
tq 4 (.mv (.t 17))] [5, 17])
.ret)
 .skip))))
(.reg false [
tq 18 (.bin .add (.t 8) (kq 1)),
tq 8 (.mv (.t 18))] [18]))))

def c_slices_IndexFunc_Lapi_Request_api_Request : CF := ⟨[.tmp 4],
  (.seq (.reg false [
tq 4 (.mv (kq 0))] [4])
(.seq (.seq (.reg false [
tq 6 (.mv (.t 0)),
tq 7 (.len .slc (.t 6)),
tq 8 (.mv (kq 0))] [6])
(.block 0 (.loop [0, 1, 7, 8] b_slices_IndexFunc_Lapi_Request_api_Request_1)))
(.seq (.reg false [
tq 4 (.mv (kq (-1)))] [])
.ret)))⟩

def b_message_first_1 : C :=
  (.seq (.reg false [
tq 8 (.bin .lss (.t 7) (.t 6))] [])
(.seq (.cond (.t 8) .skip
 (.exit 0))
(.seq (.block 1 (.seq (.reg false [
tq 9 (.idxAddr 1 (.t 5) (.t 7)),
ld 10 9,
tq 4 (.mv (.t 10))] [9, 10])
(.seq (.reg false [
tq 11 (.mv (.t 4)),
tq 12 (.bin .neq (.t 11) (kq 0))] [11])
(.cond (.t 12) (.seq (.reg false [
tq 13 (.mv (.t 4)),
tq 2 (.mv (.t 13))] [4, 13])
.ret)
 .skip))))
(.reg false [
tq 14 (.bin .add (.t 7) (kq 1)),
tq 7 (.mv (.t 14))] [14]))))

def c_message_first : CF := ⟨[.tmp 2],
  (.seq (.reg false [
tq 2 (.mv (kq 0))] [2])
(.seq (.seq (.reg false [
tq 5 (.mv (.t 0)),
tq 6 (.len .slc (.t 5)),
tq 7 (.mv (kq 0))] [0])
(.block 0 (.loop [5, 6, 7] b_message_first_1)))
(.seq (.reg false [
tq 2 (.mv (kq 0))] [])
.ret)))⟩

def c_message_named : CF := ⟨[.tmp 2],
  (.seq (.reg false [
tq 2 (.mv (kq 0))] [2])
(.seq (.reg false [
tq 3 (.mv (.t 0)),
tq 4 (.call false true (.k (.fn n_calendar_IsName [] [])) [.t 3]),
tq 5 (.un .not (.t 4)),
tq 6 (.call false true (.k (.fn n_message_when [] [])) [.t 5, kq 8]),
tq 2 (.mv (.t 6))] [0, 3, 4, 5, 6])
.ret))⟩

def c_message_optional : CF := ⟨[.tmp 2],
  (.seq (.reg false [
tq 2 (.mv (kq 0))] [2])
(.seq (.reg false [
tq 3 (.mv (.t 0)),
tq 4 (.bin .neq (.t 3) (.k (.d (.str [])))),
tq 5 (.mv (.t 4)),
⟨some 6, (some (5, true)), .mv (.t 0)⟩,
⟨some 7, (some (5, true)), .call false true (.k (.fn n_calendar_IsName [] [])) [.t 6]⟩,
⟨some 8, (some (5, true)), .un .not (.t 7)⟩,
tq 9 (.pick (.t 5) (.t 8) (.k (.d (.bool false)))),
tq 10 (.call false true (.k (.fn n_message_when [] [])) [.t 9, kq 8]),
tq 2 (.mv (.t 10))] [0, 3, 4, 5, 6, 7, 8, 9, 10])
.ret))⟩

def c_message_when : CF := ⟨[.tmp 4],
  (.seq (.reg false [
tq 4 (.mv (kq 0))] [4])
(.seq (.seq (.reg false [
tq 5 (.mv (.t 0))] [0])
(.cond (.t 5) (.seq (.reg false [
tq 6 (.mv (.t 1)),
tq 4 (.mv (.t 6))] [1, 6])
.ret)
 .skip))
(.seq (.reg false [
tq 4 (.mv (kq 0))] [])
.ret)))⟩

def c_message_isKind : CF := ⟨[.tmp 2],
  (.seq (.reg false [
tq 2 (.mv (.k (.d (.bool false))))] [2])
(.seq (.reg false [
tq 3 (.mv (.t 0)),
tq 4 (.bin .eql (.t 3) (.k (.d (.str [65])))),
tq 5 (.mv (.t 4)),
⟨some 6, (some (5, false)), .mv (.t 0)⟩,
⟨some 7, (some (5, false)), .bin .eql (.t 6) (.k (.d (.str [68])))⟩,
tq 8 (.pick (.t 5) (.k (.d (.bool true))) (.t 7)),
tq 2 (.mv (.t 8))] [0, 3, 4, 5, 6, 7, 8])
.ret))⟩

def c_calendar_CheckPeriod : CF := ⟨[.tmp 2],
  (.seq (.reg false [
tq 1 (.box ty_api_Period (.t 0)),
tq 2 (.mv (kq 0))] [0, 2])
(.seq (.seq (.reg true [
fa 4 0 1,
ld 5 4,
tq 6 (.call false true (.k (.fn n_calendar_checkDay [] [])) [.t 5]),
fa 7 1 1,
ld 8 7,
tq 9 (.call false true (.k (.fn n_calendar_checkDay [] [])) [.t 8]),
tq 10 (.mkList 1 2 [.t 6, .t 9]),
tq 11 (.call false true (.k (.fn n_calendar_first [] [])) [.t 10]),
tq 3 (.mv (.t 11))] [4, 5, 6, 7, 8, 9, 10, 11])
(.seq (.reg false [
tq 12 (.mv (.t 3)),
tq 13 (.bin .neq (.t 12) (kq 0))] [12])
(.cond (.t 13) (.seq (.reg false [
tq 14 (.mv (.t 3)),
tq 2 (.mv (.t 14))] [3, 14])
.ret)
 .skip)))
(.seq (.reg true [
fa 15 1 1,
ld 16 15,
fa 17 0 1,
ld 18 17,
tq 19 (.bin .lss (.t 16) (.t 18)),
tq 20 (.call false true (.k (.fn n_calendar_when [] [])) [.t 19, kq 11]),
fa 21 1 1,
ld 22 21,
fa 23 0 1,
ld 24 23,
tq 25 (.bin .sub (.t 22) (.t 24)),
tq 26 (.bin .gtr (.t 25) (kq 400)),
tq 27 (.call false true (.k (.fn n_calendar_when [] [])) [.t 26, kq 4]),
fa 28 2 1,
ld 29 28,
tq 30 (.call false true (.k (.fn n_calendar_within [] [])) [.t 29, kq 1, kq 127]),
tq 31 (.mkList 1 3 [.t 20, .t 27, .t 30]),
tq 32 (.call false true (.k (.fn n_calendar_first [] [])) [.t 31]),
tq 2 (.mv (.t 32))] [1, 15, 16, 17, 18, 19, 20, 21, 22, 23, 24, 25, 26, 27, 28, 29, 30, 31, 32])
.ret)))⟩

def c_message_within : CF := ⟨[.tmp 6],
  (.seq (.reg false [
tq 6 (.mv (kq 0))] [6])
(.seq (.reg false [
tq 7 (.mv (.t 0)),
tq 8 (.mv (.t 1)),
tq 9 (.bin .lss (.t 7) (.t 8)),
tq 10 (.mv (.t 9)),
⟨some 11, (some (10, false)), .mv (.t 0)⟩,
⟨some 12, (some (10, false)), .mv (.t 2)⟩,
⟨some 13, (some (10, false)), .bin .gtr (.t 11) (.t 12)⟩,
tq 14 (.pick (.t 10) (.k (.d (.bool true))) (.t 13)),
tq 15 (.call false true (.k (.fn n_message_when [] [])) [.t 14, kq 3]),
tq 6 (.mv (.t 15))] [0, 1, 2, 7, 8, 9, 10, 11, 12, 13, 14, 15])
.ret))⟩

def b_calendar_first_1 : C :=
  (.seq (.reg false [
tq 8 (.bin .lss (.t 7) (.t 6))] [])
(.seq (.cond (.t 8) .skip
 (.exit 0))
(.seq (.block 1 (.seq (.reg false [
tq 9 (.idxAddr 1 (.t 5) (.t 7)),
ld 10 9,
tq 4 (.mv (.t 10))] [9, 10])
(.seq (.reg false [
tq 11 (.mv (.t 4)),
tq 12 (.bin .neq (.t 11) (kq 0))] [11])
(.cond (.t 12) (.seq (.reg false [
tq 13 (.mv (.t 4)),
tq 2 (.mv (.t 13))] [4, 13])
.ret)
 .skip))))
(.reg false [
tq 14 (.bin .add (.t 7) (kq 1)),
tq 7 (.mv (.t 14))] [14]))))

def c_calendar_first : CF := ⟨[.tmp 2],
  (.seq (.reg false [
tq 2 (.mv (kq 0))] [2])
(.seq (.seq (.reg false [
tq 5 (.mv (.t 0)),
tq 6 (.len .slc (.t 5)),
tq 7 (.mv (kq 0))] [0])
(.block 0 (.loop [5, 6, 7] b_calendar_first_1)))
(.seq (.reg false [
tq 2 (.mv (kq 0))] [])
.ret)))⟩

def c_calendar_checkDay : CF := ⟨[.tmp 2],
  (.seq (.reg false [
tq 2 (.mv (kq 0))] [2])
(.seq (.reg false [
tq 3 (.mv (.t 0)),
tq 4 (.call false true (.k (.fn n_calendar_within [] [])) [.t 3, kq 0, kq 99999]),
tq 2 (.mv (.t 4))] [0, 3, 4])
.ret))⟩

def c_calendar_has : CF := ⟨[.tmp 4],
  (.seq (.reg false [
tq 2 (.box ty_api_Period (.t 0)),
tq 4 (.mv (.k (.d (.bool false))))] [0, 4])
(.seq (.reg true [
tq 5 (.mv (.t 1)),
fa 6 0 2,
ld 7 6,
tq 8 (.bin .geq (.t 5) (.t 7)),
tq 9 (.mv (.t 8)),
⟨some 10, (some (9, true)), .mv (.t 1)⟩,
⟨some 11, (some (9, true)), .fieldAddr 1 (.t 2)⟩,
⟨some 12, (some (9, true)), .load none (.t 11)⟩,
⟨some 13, (some (9, true)), .bin .leq (.t 10) (.t 12)⟩,
tq 14 (.pick (.t 9) (.t 13) (.k (.d (.bool false)))),
tq 15 (.mv (.t 14)),
⟨some 16, (some (15, true)), .fieldAddr 2 (.t 2)⟩,
⟨some 17, (some (15, true)), .load none (.t 16)⟩,
⟨some 18, (some (15, true)), .mv (.t 1)⟩,
⟨some 19, (some (15, true)), .call false true (.k (.fn n_calendar_weekday [] [])) [.t 18]⟩,
⟨some 20, (some (15, true)), .call false true (.k (.fn n_calendar_inMask [] [])) [.t 17, .t 19]⟩,
tq 21 (.pick (.t 15) (.t 20) (.k (.d (.bool false)))),
tq 4 (.mv (.t 21))] [1, 2, 5, 6, 7, 8, 9, 10, 11, 12, 13, 14, 15, 16, 17, 18, 19, 20, 21])
.ret))⟩

def b_ref01_InMask_1 : C :=
  (.seq (.seq (.reg false [
tq 6 (.mv (.t 5)),
tq 7 (.mv (.t 1)),
tq 8 (.bin .lss (.t 6) (.t 7))] [6, 7])
(.cond (.t 8) .skip
 (.exit 0)))
(.seq (.block 1 (.reg false [
tq 11 (.mv (.t 0)),
tq 12 (.bin .quo (.t 11) (kq 2)),
tq 0 (.mv (.t 12))] [11, 12]))
(.reg false [
tq 9 (.mv (.t 5)),
tq 10 (.bin .add (.t 9) (kq 1)),
tq 5 (.mv (.t 10))] [9, 10])))

def c_ref01_InMask : CF := ⟨[.tmp 4],
  (.seq (.reg false [
tq 4 (.mv (.k (.d (.bool false))))] [4])
(.seq (.seq (.reg false [
tq 5 (.mv (kq 0))] [])
(.block 0 (.loop [0, 1, 5] b_ref01_InMask_1)))
(.seq (.reg false [
tq 13 (.mv (.t 0)),
tq 14 (.bin .rem (.t 13) (kq 2)),
tq 15 (.bin .eql (.t 14) (kq 1)),
tq 4 (.mv (.t 15))] [0, 13, 14, 15])
.ret)))⟩

def c_ref01_Weekday : CF := ⟨[.tmp 2],
  (.seq (.reg false [
tq 2 (.mv (kq 0))] [2])
(.seq (.reg false [
tq 3 (.mv (.t 0)),
tq 4 (.bin .add (.t 3) (kq 5)),
tq 5 (.bin .rem (.t 4) (kq 7)),
tq 2 (.mv (.t 5))] [0, 3, 4, 5])
.ret))⟩

def b_slices_pdqsortCmpFunc_int_1 : C :=
  (.block 1 (.seq (.reg false [
tq 21 (.mv (.t 2)),
tq 22 (.mv (.t 1)),
tq 23 (.bin .sub (.t 21) (.t 22)),
tq 12 (.mv (.t 23))] [21, 22, 23])
(.seq (.seq (.reg false [
tq 24 (.mv (.t 12)),
tq 25 (.bin .leq (.t 24) (kq 12))] [24])
(.cond (.t 25) (.seq (.reg false [
tq 26 (.mv (.t 0)),
tq 27 (.mv (.t 1)),
tq 28 (.mv (.t 2)),
tq 29 (.mv (.t 4)),
tq 30 (.call true true (.k (.fn n_slices_insertionSortCmpFunc_int [] [])) [.t 26, .t 27, .t 28, .t 29])] [0, 1, 2, 4, 26, 27, 28, 29, 30])
.ret)
 .skip))
(.seq (.seq (.reg false [
tq 31 (.mv (.t 3)),
tq 32 (.bin .eql (.t 31) (kq 0))] [31])
(.cond (.t 32) (.seq (.reg false [
tq 33 (.mv (.t 0)),
tq 34 (.mv (.t 1)),
tq 35 (.mv (.t 2)),
tq 36 (.mv (.t 4)),
tq 37 (.call true true (.k (.fn n_slices_heapSortCmpFunc_int [] [])) [.t 33, .t 34, .t 35, .t 36])] [0, 1, 2, 4, 33, 34, 35, 36, 37])
.ret)
 .skip))
(.seq (.seq (.reg false [
tq 38 (.mv (.t 10)),
tq 39 (.un .not (.t 38))] [38])
(.cond (.t 39) (.seq (.reg false [
tq 40 (.mv (.t 0)),
tq 41 (.mv (.t 1)),
tq 42 (.mv (.t 2)),
tq 43 (.mv (.t 4)),
tq 44 (.call true true (.k (.fn n_slices_breakPatternsCmpFunc_int [] [])) [.t 40, .t 41, .t 42, .t 43])] [40, 41, 42, 43, 44])
(.reg false [
tq 45 (.mv (.t 3)),
tq 46 (.bin .sub (.t 45) (kq 1)),
tq 3 (.mv (.t 46))] [45, 46]))
 .skip))
(.seq (.reg false [
tq 48 (.mv (.t 0)),
tq 49 (.mv (.t 1)),
tq 50 (.mv (.t 2)),
tq 51 (.mv (.t 4)),
tq 52 (.call true true (.k (.fn n_slices_choosePivotCmpFunc_int [] [])) [.t 48, .t 49, .t 50, .t 51]),
tq 47 (.mv (.t 52)),
tq 53 (.extract (.t 47) 0),
tq 54 (.extract (.t 47) 1),
tq 13 (.mv (.t 53)),
tq 14 (.mv (.t 54))] [47, 48, 49, 50, 51, 52, 53, 54])
(.seq (.seq (.reg false [
tq 55 (.mv (.t 14)),
tq 56 (.bin .eql (.t 55) (kq 2))] [55])
(.cond (.t 56) (.seq (.reg false [
tq 57 (.mv (.t 0)),
tq 58 (.mv (.t 1)),
tq 59 (.mv (.t 2)),
tq 60 (.mv (.t 4)),
tq 61 (.call true true (.k (.fn n_slices_reverseRangeCmpFunc_int [] [])) [.t 57, .t 58, .t 59, .t 60])] [57, 58, 59, 60, 61])
(.seq (.reg false [
tq 62 (.mv (.t 2)),
tq 63 (.bin .sub (.t 62) (kq 1)),
tq 64 (.mv (.t 13)),
tq 65 (.mv (.t 1)),
tq 66 (.bin .sub (.t 64) (.t 65)),
tq 67 (.bin .sub (.t 63) (.t 66)),
tq 13 (.mv (.t 67))] [62, 63, 64, 65, 66, 67])
(.reg false [
tq 14 (.mv (kq 1))] [])))
 .skip))
(.seq (.seq (.reg false [
tq 68 (.mv (.t 10)),
tq 69 (.mv (.t 68)),
⟨some 70, (some (69, true)), .mv (.t 11)⟩,
tq 71 (.pick (.t 69) (.t 70) (.k (.d (.bool false)))),
tq 72 (.mv (.t 71)),
⟨some 73, (some (72, true)), .mv (.t 14)⟩,
⟨some 74, (some (72, true)), .bin .eql (.t 73) (kq 1)⟩,
tq 75 (.pick (.t 72) (.t 74) (.k (.d (.bool false))))] [14, 68, 69, 70, 71, 72, 73, 74])
(.cond (.t 75) (.seq (.reg false [
tq 76 (.mv (.t 0)),
tq 77 (.mv (.t 1)),
tq 78 (.mv (.t 2)),
tq 79 (.mv (.t 4)),
tq 80 (.call true true (.k (.fn n_slices_partialInsertionSortCmpFunc_int [] [])) [.t 76, .t 77, .t 78, .t 79])] [76, 77, 78, 79])
(.cond (.t 80) .ret
 .skip))
 .skip))
(.seq (.seq (.reg true [
tq 81 (.mv (.t 1)),
tq 82 (.bin .gtr (.t 81) (kq 0)),
tq 83 (.mv (.t 82)),
⟨some 84, (some (83, true)), .mv (.t 4)⟩,
⟨some 85, (some (83, true)), .mv (.t 0)⟩,
⟨some 86, (some (83, true)), .mv (.t 1)⟩,
⟨some 87, (some (83, true)), .bin .sub (.t 86) (kq 1)⟩,
⟨some 88, (some (83, true)), .idxAddr 1 (.t 85) (.t 87)⟩,
⟨some 89, (some (83, true)), .load none (.t 88)⟩,
⟨some 90, (some (83, true)), .mv (.t 0)⟩,
⟨some 91, (some (83, true)), .mv (.t 13)⟩,
⟨some 92, (some (83, true)), .idxAddr 1 (.t 90) (.t 91)⟩,
⟨some 93, (some (83, true)), .load none (.t 92)⟩,
⟨some 94, (some (83, true)), .call true true (.t 84) [.t 89, .t 93]⟩,
⟨some 95, (some (83, true)), .bin .lss (.t 94) (kq 0)⟩,
⟨some 96, (some (83, true)), .un .not (.t 95)⟩,
tq 97 (.pick (.t 83) (.t 96) (.k (.d (.bool false))))] [81, 82, 83, 84, 85, 86, 87, 88, 89, 90, 91, 92, 93, 94, 95, 96])
(.cond (.t 97) (.seq (.reg false [
tq 98 (.mv (.t 0)),
tq 99 (.mv (.t 1)),
tq 100 (.mv (.t 2)),
tq 101 (.mv (.t 13)),
tq 102 (.mv (.t 4)),
tq 103 (.call true true (.k (.fn n_slices_partitionEqualCmpFunc_int [] [])) [.t 98, .t 99, .t 100, .t 101, .t 102]),
tq 15 (.mv (.t 103))] [1, 13, 98, 99, 100, 101, 102, 103])
(.seq (.reg false [
tq 104 (.mv (.t 15)),
tq 1 (.mv (.t 104))] [15, 104])
(.exit 1)))
 .skip))
(.seq (.reg false [
tq 106 (.mv (.t 0)),
tq 107 (.mv (.t 1)),
tq 108 (.mv (.t 2)),
tq 109 (.mv (.t 13)),
tq 110 (.mv (.t 4)),
tq 111 (.call true true (.k (.fn n_slices_partitionCmpFunc_int [] [])) [.t 106, .t 107, .t 108, .t 109, .t 110]),
tq 105 (.mv (.t 111)),
tq 112 (.extract (.t 105) 0),
tq 113 (.extract (.t 105) 1),
tq 16 (.mv (.t 112)),
tq 17 (.mv (.t 113))] [13, 105, 106, 107, 108, 109, 110, 111, 112, 113])
(.seq (.reg false [
tq 114 (.mv (.t 17)),
tq 11 (.mv (.t 114))] [17, 114])
(.seq (.reg false [
tq 115 (.mv (.t 16)),
tq 116 (.mv (.t 1)),
tq 117 (.bin .sub (.t 115) (.t 116)),
tq 118 (.mv (.t 2)),
tq 119 (.mv (.t 16)),
tq 120 (.bin .sub (.t 118) (.t 119)),
tq 18 (.mv (.t 117)),
tq 19 (.mv (.t 120))] [115, 116, 117, 118, 119, 120])
(.seq (.reg false [
tq 121 (.mv (.t 12)),
tq 122 (.bin .quo (.t 121) (kq 8)),
tq 20 (.mv (.t 122))] [12, 121, 122])
(.seq (.reg false [
tq 123 (.mv (.t 18)),
tq 124 (.mv (.t 19)),
tq 125 (.bin .lss (.t 123) (.t 124))] [123, 124])
(.cond (.t 125) (.seq (.reg false [
tq 126 (.mv (.t 18)),
tq 127 (.mv (.t 20)),
tq 128 (.bin .geq (.t 126) (.t 127)),
tq 10 (.mv (.t 128))] [18, 20, 126, 127, 128])
(.seq (.reg false [
tq 129 (.mv (.t 0)),
tq 130 (.mv (.t 1)),
tq 131 (.mv (.t 16)),
tq 132 (.mv (.t 3)),
tq 133 (.mv (.t 4)),
tq 134 (.call true true (.k (.fn n_slices_pdqsortCmpFunc_int [] [])) [.t 129, .t 130, .t 131, .t 132, .t 133])] [1, 129, 130, 131, 132, 133, 134])
(.reg false [
tq 135 (.mv (.t 16)),
tq 136 (.bin .add (.t 135) (kq 1)),
tq 1 (.mv (.t 136))] [16, 135, 136])))
 (.seq (.reg false [
tq 137 (.mv (.t 19)),
tq 138 (.mv (.t 20)),
tq 139 (.bin .geq (.t 137) (.t 138)),
tq 10 (.mv (.t 139))] [19, 20, 137, 138, 139])
(.seq (.reg false [
tq 140 (.mv (.t 0)),
tq 141 (.mv (.t 16)),
tq 142 (.bin .add (.t 141) (kq 1)),
tq 143 (.mv (.t 2)),
tq 144 (.mv (.t 3)),
tq 145 (.mv (.t 4)),
tq 146 (.call true true (.k (.fn n_slices_pdqsortCmpFunc_int [] [])) [.t 140, .t 142, .t 143, .t 144, .t 145])] [2, 140, 141, 142, 143, 144, 145, 146])
(.reg false [
tq 147 (.mv (.t 16)),
tq 2 (.mv (.t 147))] [16, 147]))))))))))))))))))

def c_slices_pdqsortCmpFunc_int : CF := ⟨[],
  (.seq (.reg false [
tq 10 (.mv (.k (.d (.bool true))))] [])
(.seq (.reg false [
tq 11 (.mv (.k (.d (.bool true))))] [])
(.block 0 (.loop [0, 1, 2, 3, 4, 10, 11] b_slices_pdqsortCmpFunc_int_1))))⟩

def c_math_bits_Len : CF := ⟨[.tmp 2],
  (.seq (.reg false [
tq 2 (.mv (kq 0))] [2])
(.seq (.cond (.k (.d (.bool false))) (.seq (.reg false [
tq 3 (.mv (.t 0)),
tq 4 (.conv .u32 (.t 3)),
tq 5 (.call false true (.k (.fn n_math_bits_Len32 [] [])) [.t 4]),
tq 2 (.mv (.t 5))] [0, 3, 4, 5])
.ret)
 .skip)
(.seq (.reg false [
tq 6 (.mv (.t 0)),
tq 7 (.call false true (.k (.fn n_math_bits_Len64 [] [])) [.t 6]),
tq 2 (.mv (.t 7))] [0, 6, 7])
.ret)))⟩

def c_cmp_isNaN_int : CF := ⟨[.tmp 2],
  (.seq (.reg false [
tq 2 (.mv (.k (.d (.bool false))))] [2])
(.seq (.reg false [
tq 3 (.mv (.t 0)),
tq 4 (.mv (.t 0)),
tq 5 (.bin .neq (.t 3) (.t 4)),
tq 2 (.mv (.t 5))] [0, 3, 4, 5])
.ret))⟩

def c_slices_ContainsFunc_Lpriority_Class_priority_Class : CF := ⟨[.tmp 4],
  (.seq (.reg false [
tq 4 (.mv (.k (.d (.bool false))))] [4])
(.seq (.reg false [
tq 5 (.mv (.t 0)),
tq 6 (.mv (.t 1)),
tq 7 (.call true true (.k (.fn n_slices_IndexFunc_Lpriority_Class_priority_Class [] [])) [.t 5, .t 6]),
tq 8 (.bin .geq (.t 7) (kq 0)),
tq 4 (.mv (.t 8))] [0, 1, 5, 6, 7, 8])
.ret))⟩

def c_priority_added_1 : CF := ⟨[.tmp 3],
  (.seq (.reg false [
tq 2 (.box ty_priority_Class (.t 0)),
tq 3 (.mv (.k (.d (.bool false))))] [0, 3])
(.seq (.reg false [
fa 4 0 2,
ld 5 4,
fa 6 0 1,
ld 7 6,
tq 8 (.bin .eql (.t 5) (.t 7)),
tq 3 (.mv (.t 8))] [1, 2, 4, 5, 6, 7, 8])
.ret))⟩

def c_priority_Class_check : CF := ⟨[.tmp 2],
  (.seq (.reg false [
tq 1 (.box ty_priority_Class (.t 0)),
tq 2 (.mv (kq 0))] [0, 2])
(.seq (.seq (.reg true [
fa 5 0 1,
ld 6 5,
tq 7 (.call false true (.k (.fn n_calendar_IsName [] [])) [.t 6]),
tq 8 (.un .not (.t 7)),
tq 9 (.call false true (.k (.fn n_priority_when [] [])) [.t 8, kq 8]),
fa 10 1 1,
ld 11 10,
tq 12 (.len .slc (.t 11)),
tq 13 (.bin .gtr (.t 12) (kq 8)),
tq 14 (.call false true (.k (.fn n_priority_when [] [])) [.t 13, kq 5]),
tq 15 (.mkList 1 2 [.t 9, .t 14]),
tq 16 (.call false true (.k (.fn n_priority_first [] [])) [.t 15]),
tq 3 (.mv (.t 16))] [5, 6, 7, 8, 9, 10, 11, 12, 13, 14, 15, 16])
(.seq (.reg false [
tq 17 (.mv (.t 3)),
tq 18 (.bin .neq (.t 17) (kq 0))] [17])
(.cond (.t 18) (.seq (.reg false [
tq 19 (.mv (.t 3)),
tq 2 (.mv (.t 19))] [3, 19])
.ret)
 .skip)))
(.seq (.reg false [
fa 20 1 1,
ld 21 20,
tq 22 (.call false true (.k (.fn n_priority_each_priority_Test [] [])) [.t 21, .k (.fn n_priority_Class_check_1 [] [])]),
tq 4 (.mv (.t 22))] [20, 21, 22])
(.seq (.reg true [
tq 23 (.mv (.t 4)),
fa 24 2 1,
ld 25 24,
tq 26 (.len .slc (.t 25)),
tq 27 (.bin .gtr (.t 26) (kq 8)),
tq 28 (.call false true (.k (.fn n_priority_when [] [])) [.t 27, kq 5]),
fa 29 2 1,
ld 30 29,
tq 31 (.call false true (.k (.fn n_priority_each_priority_Key [] [])) [.t 30, .k (.fn n_priority_Class_check_2 [] [])]),
tq 32 (.mkList 1 3 [.t 23, .t 28, .t 31]),
tq 33 (.call false true (.k (.fn n_priority_first [] [])) [.t 32]),
tq 2 (.mv (.t 33))] [1, 4, 23, 24, 25, 26, 27, 28, 29, 30, 31, 32, 33])
.ret))))⟩

def b_priority_Program_keys_1_1 : C :=
  (.seq (.reg false [
tq 19 (.bin .lss (.t 18) (.t 17))] [])
(.seq (.cond (.t 19) .skip
 (.exit 0))
(.seq (.block 1 (.seq (.reg false [
tq 20 (.idxAddr 2 (.t 16) (.t 18)),
tq 21 (.load (some 2) (.t 20)),
tq 5 (.alloc ty_priority_Key [.z (.str []), .z (.bool false)]),
⟨none, none, .store 2 (.t 5) (.t 21)⟩] [20, 21])
(.seq (.reg true [
tq 22 (.mv (.t 0)),
tq 23 (.load (some 2) (.t 5)),
tq 24 (.call false false (.k (.fn n_priority_known [] [])) []),
fa 25 0 5,
ld 26 25,
tq 27 (.lookup .str (.agg [.str [], .nilf]) false (.t 24) (.t 26)),
tq 28 (.call true true (.t 22) [.t 23, .t 27]),
tq 29 (.un .not (.t 28))] [5, 22, 23, 24, 25, 26, 27, 28])
(.cond (.t 29) .ret
 .skip))))
(.reg false [
tq 30 (.bin .add (.t 18) (kq 1)),
tq 18 (.mv (.t 30))] [30]))))

def c_priority_Program_keys_1 : CF := ⟨[],
  (.seq (.seq (.reg false [
ld 6 1,
fa 7 0 2,
ld 8 7,
tq 9 (.len .slc (.t 8)),
tq 10 (.bin .geq (.t 6) (.t 9))] [6, 7, 8, 9])
(.cond (.t 10) .ret
 .skip))
(.seq (.reg false [
fa 11 0 2,
ld 12 11,
ld 13 1,
tq 14 (.idxAddr 3 (.t 12) (.t 13)),
fa 15 2 14,
ld 16 15,
tq 17 (.len .slc (.t 16)),
tq 18 (.mv (kq 0))] [1, 2, 11, 12, 13, 14, 15])
(.block 0 (.loop [0, 16, 17, 18] b_priority_Program_keys_1_1))))⟩

def c_internal_stringslite_CutSuffix : CF := ⟨[.tmp 4, .tmp 5],
  (.seq (.reg false [
tq 4 (.mv (.k (.d (.str [])))),
tq 5 (.mv (.k (.d (.bool false))))] [4, 5])
(.seq (.seq (.reg false [
tq 6 (.mv (.t 0)),
tq 7 (.mv (.t 1)),
tq 8 (.call false true (.k (.fn n_internal_stringslite_HasSuffix [] [])) [.t 6, .t 7]),
tq 9 (.un .not (.t 8))] [6, 7, 8])
(.cond (.t 9) (.seq (.reg false [
tq 10 (.mv (.t 0)),
tq 4 (.mv (.t 10)),
tq 5 (.mv (.k (.d (.bool false))))] [0, 10])
.ret)
 .skip))
(.seq (.reg false [
tq 11 (.mv (.t 0)),
tq 12 (.mv (.t 0)),
tq 13 (.len .str (.t 12)),
tq 14 (.mv (.t 1)),
tq 15 (.len .str (.t 14)),
tq 16 (.bin .sub (.t 13) (.t 15)),
tq 17 (.sliceS (.t 11) none (some (.t 16))),
tq 4 (.mv (.t 17)),
tq 5 (.mv (.k (.d (.bool true))))] [0, 1, 11, 12, 13, 14, 15, 16, 17])
.ret)))⟩

def b_slices_Index_Lstring_string_1 : C :=
  (.seq (.reg false [
tq 9 (.bin .lss (.t 8) (.t 7))] [])
(.seq (.cond (.t 9) .skip
 (.exit 0))
(.seq (.block 1 (.seq (.reg false [
tq 10 (.mv (.t 8)),
tq 5 (.mv (.t 10))] [10])
(.seq (.reg false [
tq 11 (.mv (.t 1)),
tq 12 (.mv (.t 0)),
tq 13 (.mv (.t 5)),
tq 14 (.idxAddr 1 (.t 12) (.t 13)),
ld 15 14,
tq 16 (.bin .eql (.t 11) (.t 15))] [11, 12, 13, 14, 15])
(.cond (.t 16) (.seq (.reg false [
tq 17 (.mv (.t 5)),
tq 4 (.mv (.t 17))] [5, 17])
.ret)
 .skip))))
(.reg false [
tq 18 (.bin .add (.t 8) (kq 1)),
tq 8 (.mv (.t 18))] [18]))))

def c_slices_Index_Lstring_string : CF := ⟨[.tmp 4],
  (.seq (.reg false [
tq 4 (.mv (kq 0))] [4])
(.seq (.seq (.reg false [
tq 6 (.mv (.t 0)),
tq 7 (.len .slc (.t 6)),
tq 8 (.mv (kq 0))] [6])
(.block 0 (.loop [0, 1, 7, 8] b_slices_Index_Lstring_string_1)))
(.seq (.reg false [
tq 4 (.mv (kq (-1)))] [])
.ret)))⟩

def b_priority_all_priority_Test_1 : C :=
  (.seq (.seq (.reg false [
tq 11 (.mv (.t 0)),
tq 12 (.nilCheck (.t 11)),
fa 13 0 12,
ld 14 13,
tq 15 (.len .slc (.t 14)),
tq 16 (.bin .gtr (.t 15) (kq 0)),
tq 17 (.mv (.t 16)),
⟨some 18, (some (17, true)), .mv (.t 0)⟩,
⟨some 19, (some (17, true)), .nilCheck (.t 18)⟩,
⟨some 20, (some (17, true)), .fieldAddr 0 (.t 19)⟩,
⟨some 21, (some (17, true)), .load none (.t 20)⟩,
⟨some 22, (some (17, true)), .idxAddr 1 (.t 21) (kq 0)⟩,
⟨some 23, (some (17, true)), .load none (.t 22)⟩,
⟨some 24, (some (17, true)), .mv (.t 1)⟩,
⟨some 25, (some (17, true)), .bin .neq (.t 23) (.t 24)⟩,
tq 26 (.pick (.t 17) (.t 25) (.k (.d (.bool false))))] [11, 12, 13, 14, 15, 16, 17, 18, 19, 20, 21, 22, 23, 24, 25])
(.cond (.t 26) .skip
 (.exit 0)))
(.block 1 (.seq (.reg false [
tq 28 (.mv (.t 2)),
tq 29 (.mv (.t 0)),
tq 30 (.call true true (.k (.fn n_priority_reader_next [] [])) [.t 29]),
tq 31 (.call true true (.t 28) [.t 30]),
tq 27 (.mv (.t 31)),
tq 32 (.extract (.t 27) 0),
tq 33 (.extract (.t 27) 1),
tq 9 (.alloc ty_priority_Test [.z (.str []), .z (.str []), .z (.int .i64 0)]),
⟨none, none, .store 3 (.t 9) (.t 32)⟩,
tq 10 (.mv (.t 33))] [27, 28, 29, 30, 31, 32, 33])
(.seq (.seq (.reg false [
tq 34 (.mv (.t 10)),
tq 35 (.un .not (.t 34))] [10, 34])
(.cond (.t 35) (.seq (.reg false [
tq 6 (.ownNil ⟨false, ty_priority_Test, 3, 40⟩),
tq 7 (.mv (.k (.d (.bool false))))] [])
.ret)
 .skip))
(.reg false [
tq 36 (.mv (.t 8)),
tq 37 (.load (some 3) (.t 9)),
tq 38 (.mkList 3 1 [.t 37]),
tq 39 (.append ⟨false, ty_priority_Test, 3, 40⟩ (.t 36) (.t 38)),
tq 8 (.mv (.t 39))] [9, 36, 37, 38, 39])))))

def c_priority_all_priority_Test : CF := ⟨[.tmp 6, .tmp 7],
  (.seq (.reg false [
tq 6 (.ownNil ⟨false, ty_priority_Test, 3, 40⟩),
tq 7 (.mv (.k (.d (.bool false))))] [6, 7])
(.seq (.reg false [
tq 8 (.ownNil ⟨false, ty_priority_Test, 3, 40⟩)] [])
(.seq (.block 0 (.loop [0, 1, 2, 8] b_priority_all_priority_Test_1))
(.seq (.reg false [
tq 40 (.mv (.t 8)),
tq 41 (.mv (.t 8)),
tq 42 (.len .slc (.t 41)),
tq 43 (.bin .gtr (.t 42) (kq 0)),
tq 6 (.mv (.t 40)),
tq 7 (.mv (.t 43))] [8, 40, 41, 42, 43])
.ret))))⟩

def c_priority_test : CF := ⟨[.cell 2 (some 3), .tmp 3],
  (.seq (.reg false [
tq 2 (.alloc ty_priority_Test [.z (.str []), .z (.str []), .z (.int .i64 0)]),
tq 3 (.mv (.k (.d (.bool false))))] [3])
(.seq (.reg false [
tq 7 (.mv (.t 0)),
tq 8 (.call false true (.k (.fn n_strings_IndexAny [] [])) [.t 7, .k (.d (.str [61, 60, 62]))]),
tq 4 (.mv (.t 8))] [7, 8])
(.seq (.seq (.reg false [
tq 9 (.mv (.t 4)),
tq 10 (.bin .lss (.t 9) (kq 0))] [9])
(.cond (.t 10) (.seq (.reg false [
tq 11 (.build [.z (.str []), .z (.str []), .z (.int .i64 0)] []),
⟨none, none, .store 3 (.t 2) (.t 11)⟩,
tq 3 (.mv (.k (.d (.bool false))))] [11])
.ret)
 .skip))
(.seq (.reg false [
tq 13 (.mv (.t 0)),
tq 14 (.mv (.t 4)),
tq 15 (.bin .add (.t 14) (kq 1)),
tq 16 (.sliceS (.t 13) (some (.t 15)) none),
tq 17 (.call false true (.k (.fn n_priority_integer [] [])) [.t 16]),
tq 12 (.mv (.t 17)),
tq 18 (.extract (.t 12) 0),
tq 19 (.extract (.t 12) 1),
tq 5 (.mv (.t 18)),
tq 6 (.mv (.t 19))] [12, 13, 14, 15, 16, 17, 18, 19])
(.seq (.reg true [
tq 20 (.mv (.t 0)),
tq 21 (.mv (.t 4)),
tq 22 (.sliceS (.t 20) none (some (.t 21))),
tq 23 (.mv (.t 0)),
tq 24 (.mv (.t 4)),
tq 25 (.mv (.t 4)),
tq 26 (.bin .add (.t 25) (kq 1)),
tq 27 (.sliceS (.t 23) (some (.t 24)) (some (.t 26))),
tq 28 (.mv (.t 5)),
tq 29 (.build [.z (.str []), .z (.str []), .z (.int .i64 0)] [(0, 1, .t 22), (1, 1, .t 27), (2, 1, .t 28)]),
tq 30 (.mv (.t 6)),
⟨none, none, .store 3 (.t 2) (.t 29)⟩,
tq 3 (.mv (.t 30))] [0, 4, 5, 6, 20, 21, 22, 23, 24, 25, 26, 27, 28, 29, 30])
.ret)))))⟩

def b_priority_all_priority_Key_1 : C :=
  (.seq (.seq (.reg false [
tq 11 (.mv (.t 0)),
tq 12 (.nilCheck (.t 11)),
fa 13 0 12,
ld 14 13,
tq 15 (.len .slc (.t 14)),
tq 16 (.bin .gtr (.t 15) (kq 0)),
tq 17 (.mv (.t 16)),
⟨some 18, (some (17, true)), .mv (.t 0)⟩,
⟨some 19, (some (17, true)), .nilCheck (.t 18)⟩,
⟨some 20, (some (17, true)), .fieldAddr 0 (.t 19)⟩,
⟨some 21, (some (17, true)), .load none (.t 20)⟩,
⟨some 22, (some (17, true)), .idxAddr 1 (.t 21) (kq 0)⟩,
⟨some 23, (some (17, true)), .load none (.t 22)⟩,
⟨some 24, (some (17, true)), .mv (.t 1)⟩,
⟨some 25, (some (17, true)), .bin .neq (.t 23) (.t 24)⟩,
tq 26 (.pick (.t 17) (.t 25) (.k (.d (.bool false))))] [11, 12, 13, 14, 15, 16, 17, 18, 19, 20, 21, 22, 23, 24, 25])
(.cond (.t 26) .skip
 (.exit 0)))
(.block 1 (.seq (.reg false [
tq 28 (.mv (.t 2)),
tq 29 (.mv (.t 0)),
tq 30 (.call true true (.k (.fn n_priority_reader_next [] [])) [.t 29]),
tq 31 (.call true true (.t 28) [.t 30]),
tq 27 (.mv (.t 31)),
tq 32 (.extract (.t 27) 0),
tq 33 (.extract (.t 27) 1),
tq 9 (.alloc ty_priority_Key [.z (.str []), .z (.bool false)]),
⟨none, none, .store 2 (.t 9) (.t 32)⟩,
tq 10 (.mv (.t 33))] [27, 28, 29, 30, 31, 32, 33])
(.seq (.seq (.reg false [
tq 34 (.mv (.t 10)),
tq 35 (.un .not (.t 34))] [10, 34])
(.cond (.t 35) (.seq (.reg false [
tq 6 (.ownNil ⟨false, ty_priority_Key, 2, 24⟩),
tq 7 (.mv (.k (.d (.bool false))))] [])
.ret)
 .skip))
(.reg false [
tq 36 (.mv (.t 8)),
tq 37 (.load (some 2) (.t 9)),
tq 38 (.mkList 2 1 [.t 37]),
tq 39 (.append ⟨false, ty_priority_Key, 2, 24⟩ (.t 36) (.t 38)),
tq 8 (.mv (.t 39))] [9, 36, 37, 38, 39])))))

def c_priority_all_priority_Key : CF := ⟨[.tmp 6, .tmp 7],
  (.seq (.reg false [
tq 6 (.ownNil ⟨false, ty_priority_Key, 2, 24⟩),
tq 7 (.mv (.k (.d (.bool false))))] [6, 7])
(.seq (.reg false [
tq 8 (.ownNil ⟨false, ty_priority_Key, 2, 24⟩)] [])
(.seq (.block 0 (.loop [0, 1, 2, 8] b_priority_all_priority_Key_1))
(.seq (.reg false [
tq 40 (.mv (.t 8)),
tq 41 (.mv (.t 8)),
tq 42 (.len .slc (.t 41)),
tq 43 (.bin .gtr (.t 42) (kq 0)),
tq 6 (.mv (.t 40)),
tq 7 (.mv (.t 43))] [8, 40, 41, 42, 43])
.ret))))⟩

def b_priority_key_1 : C :=
  (.seq (.reg false [
tq 9 (.nextS (.t 8)),
tq 10 (.extract (.t 9) 0)] [])
(.seq (.cond (.t 10) .skip
 (.exit 0))
(.block 1 (.seq (.reg false [
tq 11 (.extract (.t 9) 2),
tq 6 (.mv (.t 11))] [9, 11])
(.reg false [
tq 12 (.mv (.t 6)),
tq 4 (.mv (.t 12))] [6, 12])))))

def c_priority_key : CF := ⟨[.cell 2 (some 2), .tmp 3],
  (.seq (.reg false [
tq 2 (.alloc ty_priority_Key [.z (.str []), .z (.bool false)]),
tq 3 (.mv (.k (.d (.bool false))))] [3])
(.seq (.reg false [
tq 4 (.mv (.k (.d (.int .i32 0))))] [])
(.seq (.seq (.reg false [
tq 7 (.mv (.t 0)),
tq 8 (.rangeS (.t 7))] [7])
(.block 0 (.loop [0, 2, 4, 8] b_priority_key_1)))
(.seq (.seq (.reg false [
tq 13 (.mv (.t 4)),
tq 14 (.bin .neq (.t 13) (.k (.d (.int .i32 43)))),
tq 15 (.mv (.t 14)),
⟨some 16, (some (15, true)), .mv (.t 4)⟩,
⟨some 17, (some (15, true)), .bin .neq (.t 16) (.k (.d (.int .i32 45)))⟩,
tq 18 (.pick (.t 15) (.t 17) (.k (.d (.bool false))))] [13, 14, 15, 16, 17])
(.cond (.t 18) (.seq (.reg false [
tq 19 (.build [.z (.str []), .z (.bool false)] []),
⟨none, none, .store 2 (.t 2) (.t 19)⟩,
tq 3 (.mv (.k (.d (.bool false))))] [19])
.ret)
 .skip))
(.seq (.reg false [
tq 20 (.mv (.t 0)),
tq 21 (.mv (.t 0)),
tq 22 (.len .str (.t 21)),
tq 23 (.bin .sub (.t 22) (kq 1)),
tq 24 (.sliceS (.t 20) none (some (.t 23))),
tq 25 (.mv (.t 4)),
tq 26 (.bin .eql (.t 25) (.k (.d (.int .i32 45)))),
tq 27 (.build [.z (.str []), .z (.bool false)] [(0, 1, .t 24), (1, 1, .t 26)]),
⟨none, none, .store 2 (.t 2) (.t 27)⟩,
tq 3 (.mv (.k (.d (.bool true))))] [0, 4, 20, 21, 22, 23, 24, 25, 26, 27])
.ret)))))⟩

def c_priority_integer : CF := ⟨[.tmp 2, .tmp 3],
  (.seq (.reg false [
tq 2 (.mv (kq 0)),
tq 3 (.mv (.k (.d (.bool false))))] [2, 3])
(.seq (.reg false [
tq 7 (.mv (.t 0)),
tq 8 (.call false false (.k (.fn n_strconv_Atoi [] [])) [.t 7]),
tq 6 (.mv (.t 8)),
tq 9 (.extract (.t 6) 0),
tq 10 (.extract (.t 6) 1),
tq 4 (.mv (.t 9)),
tq 5 (.mv (.t 10))] [6, 7, 8, 9, 10])
(.seq (.reg false [
tq 11 (.mv (.t 4)),
tq 12 (.mv (.t 5)),
tq 13 (.nilEq 1 false (.t 12)),
tq 14 (.mv (.t 13)),
⟨some 15, (some (14, true)), .mv (.t 4)⟩,
⟨some 16, (some (14, true)), .bin .geq (.t 15) (kq 0)⟩,
tq 17 (.pick (.t 14) (.t 16) (.k (.d (.bool false)))),
tq 18 (.mv (.t 17)),
⟨some 19, (some (18, true)), .mv (.t 4)⟩,
⟨some 20, (some (18, true)), .bin .leq (.t 19) (kq 999999999)⟩,
tq 21 (.pick (.t 18) (.t 20) (.k (.d (.bool false)))),
tq 22 (.mv (.t 21)),
⟨some 23, (some (22, true)), .mv (.t 4)⟩,
⟨some 24, (some (22, true)), .call false true (.k (.fn n_strconv_Itoa [] [])) [.t 23]⟩,
⟨some 25, (some (22, true)), .mv (.t 0)⟩,
⟨some 26, (some (22, true)), .bin .eql (.t 24) (.t 25)⟩,
tq 27 (.pick (.t 22) (.t 26) (.k (.d (.bool false)))),
tq 2 (.mv (.t 11)),
tq 3 (.mv (.t 27))] [0, 4, 5, 11, 12, 13, 14, 15, 16, 17, 18, 19, 20, 21, 22, 23, 24, 25, 26, 27])
.ret)))⟩

def c_ref01_CheckDay : CF := ⟨[.tmp 2],
  (.seq (.reg false [
tq 2 (.mv (kq 0))] [2])
(.seq (.reg false [
tq 3 (.mv (.t 0)),
tq 4 (.call false true (.k (.fn n_ref01_CheckRange [] [])) [.t 3, kq 0, kq 99999]),
tq 2 (.mv (.t 4))] [0, 3, 4])
.ret))⟩

def b_slices_IndexFunc_Lpriority_Claim_priority_Claim_1 : C :=
  (.seq (.reg false [
tq 9 (.bin .lss (.t 8) (.t 7))] [])
(.seq (.cond (.t 9) .skip
 (.exit 0))
(.seq (.block 1 (.seq (.reg false [
tq 10 (.mv (.t 8)),
tq 5 (.mv (.t 10))] [10])
(.seq (.reg false [
tq 11 (.mv (.t 1)),
tq 12 (.mv (.t 0)),
tq 13 (.mv (.t 5)),
tq 14 (.idxAddr 18 (.t 12) (.t 13)),
tq 15 (.load (some 18) (.t 14)),
tq 16 (.call true true (.t 11) [.t 15])] [11, 12, 13, 14, 15])
(.cond (.t 16) (.seq (.reg false [
tq 17 (.mv (.t 5)),
tq 4 (.mv (.t 17))] [5, 17])
.ret)
 .skip))))
(.reg false [
tq 18 (.bin .add (.t 8) (kq 1)),
tq 8 (.mv (.t 18))] [18]))))

def c_slices_IndexFunc_Lpriority_Claim_priority_Claim : CF := ⟨[.tmp 4],
  (.seq (.reg false [
tq 4 (.mv (kq 0))] [4])
(.seq (.seq (.reg false [
tq 6 (.mv (.t 0)),
tq 7 (.len .slc (.t 6)),
tq 8 (.mv (kq 0))] [6])
(.block 0 (.loop [0, 1, 7, 8] b_slices_IndexFunc_Lpriority_Claim_priority_Claim_1)))
(.seq (.reg false [
tq 4 (.mv (kq (-1)))] [])
.ret)))⟩

def c_cmp_isNaN_string : CF := ⟨[.tmp 2],
  (.seq (.reg false [
tq 2 (.mv (.k (.d (.bool false))))] [2])
(.seq (.reg false [
tq 3 (.mv (.t 0)),
tq 4 (.mv (.t 0)),
tq 5 (.bin .neq (.t 3) (.t 4)),
tq 2 (.mv (.t 5))] [0, 3, 4, 5])
.ret))⟩

def c_calendar_within : CF := ⟨[.tmp 6],
  (.seq (.reg false [
tq 6 (.mv (kq 0))] [6])
(.seq (.reg false [
tq 7 (.mv (.t 0)),
tq 8 (.mv (.t 1)),
tq 9 (.bin .lss (.t 7) (.t 8)),
tq 10 (.mv (.t 9)),
⟨some 11, (some (10, false)), .mv (.t 0)⟩,
⟨some 12, (some (10, false)), .mv (.t 2)⟩,
⟨some 13, (some (10, false)), .bin .gtr (.t 11) (.t 12)⟩,
tq 14 (.pick (.t 10) (.k (.d (.bool true))) (.t 13)),
tq 15 (.call false true (.k (.fn n_calendar_when [] [])) [.t 14, kq 3]),
tq 6 (.mv (.t 15))] [0, 1, 2, 7, 8, 9, 10, 11, 12, 13, 14, 15])
.ret))⟩

def c_priority_facts_1 : CF := ⟨[.tmp 2],
  (.seq (.reg false [
tq 1 (.box ty_priority_Claim (.t 0)),
tq 2 (.mv (kq 0))] [0, 2])
(.seq (.reg false [
fa 3 13 1,
ld 4 3,
tq 5 (.call false true (.k (.fn n_priority_bit [] [])) [.t 4]),
tq 2 (.mv (.t 5))] [1, 3, 4, 5])
.ret))⟩

def c_priority_facts_2 : CF := ⟨[.tmp 2],
  (.seq (.reg false [
tq 1 (.box ty_priority_Claim (.t 0)),
tq 2 (.mv (kq 0))] [0, 2])
(.seq (.reg false [
fa 3 14 1,
ld 4 3,
tq 5 (.call false true (.k (.fn n_priority_bit [] [])) [.t 4]),
tq 2 (.mv (.t 5))] [1, 3, 4, 5])
.ret))⟩

def c_priority_facts_3 : CF := ⟨[.tmp 2],
  (.seq (.reg false [
tq 1 (.box ty_priority_Claim (.t 0)),
tq 2 (.mv (kq 0))] [0, 2])
(.seq (.reg false [
fa 3 15 1,
ld 4 3,
tq 5 (.call false true (.k (.fn n_priority_bit [] [])) [.t 4]),
tq 2 (.mv (.t 5))] [1, 3, 4, 5])
.ret))⟩

def c_priority_facts_4 : CF := ⟨[.tmp 2],
  (.seq (.reg false [
tq 1 (.box ty_priority_Claim (.t 0)),
tq 2 (.mv (kq 0))] [0, 2])
(.seq (.reg false [
fa 3 16 1,
ld 4 3,
tq 5 (.call false true (.k (.fn n_priority_bit [] [])) [.t 4]),
tq 2 (.mv (.t 5))] [1, 3, 4, 5])
.ret))⟩

def c_priority_facts_5 : CF := ⟨[.tmp 2],
  (.seq (.reg false [
tq 1 (.box ty_priority_Claim (.t 0)),
tq 2 (.mv (kq 0))] [0, 2])
(.seq (.reg false [
fa 6 0 1,
fa 7 6 6,
tq 8 (.load (some 3) (.t 7)),
tq 9 (.call false true (.k (.fn n_calendar_Count [] [])) [.t 8]),
tq 5 (.mv (.t 9)),
tq 10 (.extract (.t 5) 0),
tq 11 (.extract (.t 5) 1),
tq 3 (.mv (.t 10)),
tq 4 (.mv (.t 11))] [1, 4, 5, 6, 7, 8, 9, 10, 11])
(.seq (.reg false [
tq 12 (.mv (.t 3)),
tq 2 (.mv (.t 12))] [3, 12])
.ret)))⟩

def c_calendar_Count : CF := ⟨[.tmp 2, .tmp 3],
  (.seq (.reg false [
tq 1 (.box ty_api_Period (.t 0)),
tq 2 (.mv (kq 0)),
tq 3 (.mv (kq 0))] [0, 2, 3])
(.seq (.reg false [
tq 7 (.load (some 3) (.t 1)),
tq 8 (.call false true (.k (.fn n_calendar_DaysOf [] [])) [.t 7]),
tq 6 (.mv (.t 8)),
tq 9 (.extract (.t 6) 0),
tq 10 (.extract (.t 6) 1),
tq 4 (.mv (.t 9)),
tq 5 (.mv (.t 10))] [1, 6, 7, 8, 9, 10])
(.seq (.reg false [
tq 11 (.mv (.t 4)),
tq 12 (.len .slc (.t 11)),
tq 13 (.mv (.t 5)),
tq 2 (.mv (.t 12)),
tq 3 (.mv (.t 13))] [4, 5, 11, 12, 13])
.ret)))⟩

def c_priority_facts_6 : CF := ⟨[.tmp 2],
  (.seq (.reg false [
tq 1 (.box ty_priority_Claim (.t 0)),
tq 2 (.mv (kq 0))] [0, 2])
(.seq (.reg false [
fa 3 0 1,
fa 4 10 3,
ld 5 4,
tq 2 (.mv (.t 5))] [1, 3, 4, 5])
.ret))⟩

def c_priority_facts_7 : CF := ⟨[.tmp 2],
  (.seq (.reg false [
tq 1 (.box ty_priority_Claim (.t 0)),
tq 2 (.mv (kq 0))] [0, 2])
(.seq (.reg false [
fa 3 0 1,
fa 4 11 3,
ld 5 4,
tq 2 (.mv (.t 5))] [1, 3, 4, 5])
.ret))⟩

def c_priority_facts_8 : CF := ⟨[.tmp 2],
  (.seq (.reg false [
tq 1 (.box ty_priority_Claim (.t 0)),
tq 2 (.mv (kq 0))] [0, 2])
(.seq (.reg false [
fa 3 0 1,
fa 4 12 3,
ld 5 4,
tq 2 (.mv (.t 5))] [1, 3, 4, 5])
.ret))⟩

def c_priority_facts_9 : CF := ⟨[.tmp 2],
  (.seq (.reg false [
tq 1 (.box ty_priority_Claim (.t 0)),
tq 2 (.mv (kq 0))] [0, 2])
(.seq (.reg false [
fa 3 17 1,
ld 4 3,
tq 2 (.mv (.t 4))] [1, 3, 4])
.ret))⟩

def c_priority_facts_10 : CF := ⟨[.tmp 2],
  (.seq (.reg false [
tq 1 (.box ty_priority_Claim (.t 0)),
tq 2 (.mv (kq 0))] [0, 2])
(.seq (.reg false [
fa 3 0 1,
fa 4 9 3,
ld 5 4,
tq 2 (.mv (.t 5))] [1, 3, 4, 5])
.ret))⟩

def c_calendar_when : CF := ⟨[.tmp 4],
  (.seq (.reg false [
tq 4 (.mv (kq 0))] [4])
(.seq (.seq (.reg false [
tq 5 (.mv (.t 0))] [0])
(.cond (.t 5) (.seq (.reg false [
tq 6 (.mv (.t 1)),
tq 4 (.mv (.t 6))] [1, 6])
.ret)
 .skip))
(.seq (.reg false [
tq 4 (.mv (kq 0))] [])
.ret)))⟩

def c_calendar_inMask : CF := ⟨[.tmp 4],
  (.seq (.reg false [
tq 4 (.mv (.k (.d (.bool false))))] [4])
(.seq (.reg false [
tq 5 (.mv (.t 0)),
tq 6 (.mv (.t 1)),
tq 7 (.bin .shr (.t 5) (.t 6)),
tq 8 (.bin .and (.t 7) (kq 1)),
tq 9 (.bin .eql (.t 8) (kq 1)),
tq 4 (.mv (.t 9))] [0, 1, 5, 6, 7, 8, 9])
.ret))⟩

def c_calendar_weekday : CF := ⟨[.tmp 2],
  (.seq (.reg false [
tq 2 (.mv (kq 0))] [2])
(.seq (.reg false [
tq 3 (.mv (.t 0)),
tq 4 (.bin .add (.t 3) (kq 5)),
tq 5 (.bin .rem (.t 4) (kq 7)),
tq 2 (.mv (.t 5))] [0, 3, 4, 5])
.ret))⟩

def b_slices_insertionSortCmpFunc_int_1 : C :=
  (.seq (.seq (.reg true [
tq 18 (.mv (.t 9)),
tq 19 (.mv (.t 1)),
tq 20 (.bin .gtr (.t 18) (.t 19)),
tq 21 (.mv (.t 20)),
⟨some 22, (some (21, true)), .mv (.t 3)⟩,
⟨some 23, (some (21, true)), .mv (.t 0)⟩,
⟨some 24, (some (21, true)), .mv (.t 9)⟩,
⟨some 25, (some (21, true)), .idxAddr 1 (.t 23) (.t 24)⟩,
⟨some 26, (some (21, true)), .load none (.t 25)⟩,
⟨some 27, (some (21, true)), .mv (.t 0)⟩,
⟨some 28, (some (21, true)), .mv (.t 9)⟩,
⟨some 29, (some (21, true)), .bin .sub (.t 28) (kq 1)⟩,
⟨some 30, (some (21, true)), .idxAddr 1 (.t 27) (.t 29)⟩,
⟨some 31, (some (21, true)), .load none (.t 30)⟩,
⟨some 32, (some (21, true)), .call true true (.t 22) [.t 26, .t 31]⟩,
⟨some 33, (some (21, true)), .bin .lss (.t 32) (kq 0)⟩,
tq 34 (.pick (.t 21) (.t 33) (.k (.d (.bool false))))] [18, 19, 20, 21, 22, 23, 24, 25, 26, 27, 28, 29, 30, 31, 32, 33])
(.cond (.t 34) .skip
 (.exit 2)))
(.seq (.block 3 (.reg true [
tq 37 (.mv (.t 0)),
tq 38 (.mv (.t 9)),
tq 39 (.mv (.t 0)),
tq 40 (.mv (.t 9)),
tq 41 (.bin .sub (.t 40) (kq 1)),
tq 42 (.mv (.t 0)),
tq 43 (.mv (.t 9)),
tq 44 (.bin .sub (.t 43) (kq 1)),
tq 45 (.idxAddr 1 (.t 42) (.t 44)),
ld 46 45,
tq 47 (.mv (.t 0)),
tq 48 (.mv (.t 9)),
tq 49 (.idxAddr 1 (.t 47) (.t 48)),
ld 50 49,
tq 51 (.idxAddr 1 (.t 37) (.t 38)),
⟨none, none, .store 1 (.t 51) (.t 46)⟩,
tq 52 (.idxAddr 1 (.t 39) (.t 41)),
⟨none, none, .store 1 (.t 52) (.t 50)⟩] [37, 38, 39, 40, 41, 42, 43, 44, 45, 46, 47, 48, 49, 50, 51, 52]))
(.reg false [
tq 35 (.mv (.t 9)),
tq 36 (.bin .sub (.t 35) (kq 1)),
tq 9 (.mv (.t 36))] [35, 36])))

def b_slices_insertionSortCmpFunc_int_2 : C :=
  (.seq (.seq (.reg false [
tq 12 (.mv (.t 8)),
tq 13 (.mv (.t 2)),
tq 14 (.bin .lss (.t 12) (.t 13))] [12, 13])
(.cond (.t 14) .skip
 (.exit 0)))
(.seq (.block 1 (.seq (.reg false [
tq 17 (.mv (.t 8)),
tq 9 (.mv (.t 17))] [17])
(.block 2 (.loop [0, 1, 2, 3, 8, 9] b_slices_insertionSortCmpFunc_int_1))))
(.reg false [
tq 15 (.mv (.t 8)),
tq 16 (.bin .add (.t 15) (kq 1)),
tq 8 (.mv (.t 16))] [15, 16])))

def c_slices_insertionSortCmpFunc_int : CF := ⟨[],
  (.seq (.reg false [
tq 10 (.mv (.t 1)),
tq 11 (.bin .add (.t 10) (kq 1)),
tq 8 (.mv (.t 11))] [10, 11])
(.block 0 (.loop [0, 1, 2, 3, 8] b_slices_insertionSortCmpFunc_int_2)))⟩

def c_math_bits_Len32 : CF := ⟨[.tmp 2],
  (.seq (.reg false [
tq 2 (.mv (kq 0))] [])
(.seq (.seq (.reg false [
tq 3 (.mv (.t 0)),
tq 4 (.bin .geq (.t 3) (.k (.d (.int .u32 65536))))] [3])
(.cond (.t 4) (.seq (.reg false [
tq 5 (.mv (.t 0)),
tq 6 (.bin .shr (.t 5) (.k (.d (.int .u64 16)))),
tq 0 (.mv (.t 6))] [5, 6])
(.reg false [
tq 2 (.mv (kq 16))] []))
 .skip))
(.seq (.seq (.reg false [
tq 7 (.mv (.t 0)),
tq 8 (.bin .geq (.t 7) (.k (.d (.int .u32 256))))] [7])
(.cond (.t 8) (.seq (.reg false [
tq 9 (.mv (.t 0)),
tq 10 (.bin .shr (.t 9) (.k (.d (.int .u64 8)))),
tq 0 (.mv (.t 10))] [9, 10])
(.reg false [
tq 11 (.mv (.t 2)),
tq 12 (.bin .add (.t 11) (kq 8)),
tq 2 (.mv (.t 12))] [11, 12]))
 .skip))
(.seq (.reg false [
tq 13 (.mv (.t 2)),
tq 14 (.mv (.t 0)),
tq 15 (.conv .u8 (.t 14)),
tq 16 (.idxS (.k (.d (.str [0, 1, 2, 2, 3, 3, 3, 3, 4, 4, 4, 4, 4, 4, 4, 4, 5, 5, 5, 5, 5, 5, 5, 5, 5, 5, 5, 5, 5, 5, 5, 5, 6, 6, 6, 6, 6, 6, 6, 6, 6, 6, 6, 6, 6, 6, 6, 6, 6, 6, 6, 6, 6, 6, 6, 6, 6, 6, 6, 6, 6, 6, 6, 6, 7, 7, 7, 7, 7, 7, 7, 7, 7, 7, 7, 7, 7, 7, 7, 7, 7, 7, 7, 7, 7, 7, 7, 7, 7, 7, 7, 7, 7, 7, 7, 7, 7, 7, 7, 7, 7, 7, 7, 7, 7, 7, 7, 7, 7, 7, 7, 7, 7, 7, 7, 7, 7, 7, 7, 7, 7, 7, 7, 7, 7, 7, 7, 7, 8, 8, 8, 8, 8, 8, 8, 8, 8, 8, 8, 8, 8, 8, 8, 8, 8, 8, 8, 8, 8, 8, 8, 8, 8, 8, 8, 8, 8, 8, 8, 8, 8, 8, 8, 8, 8, 8, 8, 8, 8, 8, 8, 8, 8, 8, 8, 8, 8, 8, 8, 8, 8, 8, 8, 8, 8, 8, 8, 8, 8, 8, 8, 8, 8, 8, 8, 8, 8, 8, 8, 8, 8, 8, 8, 8, 8, 8, 8, 8, 8, 8, 8, 8, 8, 8, 8, 8, 8, 8, 8, 8, 8, 8, 8, 8, 8, 8, 8, 8, 8, 8, 8, 8, 8, 8, 8, 8, 8, 8, 8, 8, 8, 8, 8, 8, 8, 8, 8, 8, 8, 8, 8, 8, 8, 8, 8, 8]))) (.t 15)),
tq 17 (.conv .i64 (.t 16)),
tq 18 (.bin .add (.t 13) (.t 17)),
tq 2 (.mv (.t 18))] [0, 13, 14, 15, 16, 17, 18])
.ret))))⟩

def c_math_bits_Len64 : CF := ⟨[.tmp 2],
  (.seq (.reg false [
tq 2 (.mv (kq 0))] [])
(.seq (.seq (.reg false [
tq 3 (.mv (.t 0)),
tq 4 (.bin .geq (.t 3) (.k (.d (.int .u64 4294967296))))] [3])
(.cond (.t 4) (.seq (.reg false [
tq 5 (.mv (.t 0)),
tq 6 (.bin .shr (.t 5) (.k (.d (.int .u64 32)))),
tq 0 (.mv (.t 6))] [5, 6])
(.reg false [
tq 2 (.mv (kq 32))] []))
 .skip))
(.seq (.seq (.reg false [
tq 7 (.mv (.t 0)),
tq 8 (.bin .geq (.t 7) (.k (.d (.int .u64 65536))))] [7])
(.cond (.t 8) (.seq (.reg false [
tq 9 (.mv (.t 0)),
tq 10 (.bin .shr (.t 9) (.k (.d (.int .u64 16)))),
tq 0 (.mv (.t 10))] [9, 10])
(.reg false [
tq 11 (.mv (.t 2)),
tq 12 (.bin .add (.t 11) (kq 16)),
tq 2 (.mv (.t 12))] [11, 12]))
 .skip))
(.seq (.seq (.reg false [
tq 13 (.mv (.t 0)),
tq 14 (.bin .geq (.t 13) (.k (.d (.int .u64 256))))] [13])
(.cond (.t 14) (.seq (.reg false [
tq 15 (.mv (.t 0)),
tq 16 (.bin .shr (.t 15) (.k (.d (.int .u64 8)))),
tq 0 (.mv (.t 16))] [15, 16])
(.reg false [
tq 17 (.mv (.t 2)),
tq 18 (.bin .add (.t 17) (kq 8)),
tq 2 (.mv (.t 18))] [17, 18]))
 .skip))
(.seq (.reg false [
tq 19 (.mv (.t 2)),
tq 20 (.mv (.t 0)),
tq 21 (.conv .u8 (.t 20)),
tq 22 (.idxS (.k (.d (.str [0, 1, 2, 2, 3, 3, 3, 3, 4, 4, 4, 4, 4, 4, 4, 4, 5, 5, 5, 5, 5, 5, 5, 5, 5, 5, 5, 5, 5, 5, 5, 5, 6, 6, 6, 6, 6, 6, 6, 6, 6, 6, 6, 6, 6, 6, 6, 6, 6, 6, 6, 6, 6, 6, 6, 6, 6, 6, 6, 6, 6, 6, 6, 6, 7, 7, 7, 7, 7, 7, 7, 7, 7, 7, 7, 7, 7, 7, 7, 7, 7, 7, 7, 7, 7, 7, 7, 7, 7, 7, 7, 7, 7, 7, 7, 7, 7, 7, 7, 7, 7, 7, 7, 7, 7, 7, 7, 7, 7, 7, 7, 7, 7, 7, 7, 7, 7, 7, 7, 7, 7, 7, 7, 7, 7, 7, 7, 7, 8, 8, 8, 8, 8, 8, 8, 8, 8, 8, 8, 8, 8, 8, 8, 8, 8, 8, 8, 8, 8, 8, 8, 8, 8, 8, 8, 8, 8, 8, 8, 8, 8, 8, 8, 8, 8, 8, 8, 8, 8, 8, 8, 8, 8, 8, 8, 8, 8, 8, 8, 8, 8, 8, 8, 8, 8, 8, 8, 8, 8, 8, 8, 8, 8, 8, 8, 8, 8, 8, 8, 8, 8, 8, 8, 8, 8, 8, 8, 8, 8, 8, 8, 8, 8, 8, 8, 8, 8, 8, 8, 8, 8, 8, 8, 8, 8, 8, 8, 8, 8, 8, 8, 8, 8, 8, 8, 8, 8, 8, 8, 8, 8, 8, 8, 8, 8, 8, 8, 8, 8, 8, 8, 8, 8, 8, 8, 8]))) (.t 21)),
tq 23 (.conv .i64 (.t 22)),
tq 24 (.bin .add (.t 19) (.t 23)),
tq 2 (.mv (.t 24))] [0, 19, 20, 21, 22, 23, 24])
.ret)))))⟩

def b_slices_IndexFunc_Lpriority_Class_priority_Class_1 : C :=
  (.seq (.reg false [
tq 9 (.bin .lss (.t 8) (.t 7))] [])
(.seq (.cond (.t 9) .skip
 (.exit 0))
(.seq (.block 1 (.seq (.reg false [
tq 10 (.mv (.t 8)),
tq 5 (.mv (.t 10))] [10])
(.seq (.reg false [
tq 11 (.mv (.t 1)),
tq 12 (.mv (.t 0)),
tq 13 (.mv (.t 5)),
tq 14 (.idxAddr 3 (.t 12) (.t 13)),
tq 15 (.load (some 3) (.t 14)),
tq 16 (.call true true (.t 11) [.t 15])] [11, 12, 13, 14, 15])
(.cond (.t 16) (.seq (.reg false [
tq 17 (.mv (.t 5)),
tq 4 (.mv (.t 17))] [5, 17])
.ret)
 .skip))))
(.reg false [
tq 18 (.bin .add (.t 8) (kq 1)),
tq 8 (.mv (.t 18))] [18]))))

def c_slices_IndexFunc_Lpriority_Class_priority_Class : CF := ⟨[.tmp 4],
  (.seq (.reg false [
tq 4 (.mv (kq 0))] [4])
(.seq (.seq (.reg false [
tq 6 (.mv (.t 0)),
tq 7 (.len .slc (.t 6)),
tq 8 (.mv (kq 0))] [6])
(.block 0 (.loop [0, 1, 7, 8] b_slices_IndexFunc_Lpriority_Class_priority_Class_1)))
(.seq (.reg false [
tq 4 (.mv (kq (-1)))] [])
.ret)))⟩

def b_priority_each_priority_Test_1 : C :=
  (.seq (.reg false [
tq 11 (.bin .lss (.t 10) (.t 9))] [])
(.seq (.cond (.t 11) .skip
 (.exit 0))
(.seq (.block 1 (.seq (.reg false [
tq 12 (.mv (.t 10)),
tq 13 (.idxAddr 3 (.t 8) (.t 10)),
tq 14 (.load (some 3) (.t 13)),
tq 6 (.alloc ty_priority_Test [.z (.str []), .z (.str []), .z (.int .i64 0)]),
tq 5 (.mv (.t 12)),
⟨none, none, .store 3 (.t 6) (.t 14)⟩] [12, 13, 14])
(.seq (.reg true [
tq 15 (.mv (.t 1)),
tq 16 (.mv (.t 0)),
tq 17 (.mv (.t 5)),
tq 18 (.slice 3 (.t 16) none (some (.t 17)) none),
tq 19 (.load (some 3) (.t 6)),
tq 20 (.call false true (.t 15) [.t 18, .t 19]),
tq 7 (.mv (.t 20))] [5, 6, 15, 16, 17, 18, 19, 20])
(.seq (.reg false [
tq 21 (.mv (.t 7)),
tq 22 (.bin .neq (.t 21) (kq 0))] [21])
(.cond (.t 22) (.seq (.reg false [
tq 23 (.mv (.t 7)),
tq 4 (.mv (.t 23))] [7, 23])
.ret)
 .skip)))))
(.reg false [
tq 24 (.bin .add (.t 10) (kq 1)),
tq 10 (.mv (.t 24))] [24]))))

def c_priority_each_priority_Test : CF := ⟨[.tmp 4],
  (.seq (.reg false [
tq 4 (.mv (kq 0))] [4])
(.seq (.seq (.reg false [
tq 8 (.mv (.t 0)),
tq 9 (.len .slc (.t 8)),
tq 10 (.mv (kq 0))] [])
(.block 0 (.loop [0, 1, 8, 9, 10] b_priority_each_priority_Test_1)))
(.seq (.reg false [
tq 4 (.mv (kq 0))] [])
.ret)))⟩

def c_priority_Class_check_1 : CF := ⟨[.tmp 4],
  (.seq (.reg false [
tq 3 (.box ty_priority_Test (.t 1)),
tq 4 (.mv (kq 0))] [1, 4])
(.seq (.reg false [
tq 5 (.load (some 3) (.t 3)),
tq 6 (.call false true (.k (.fn n_priority_Test_check [] [])) [.t 5]),
tq 4 (.mv (.t 6))] [3, 5, 6])
.ret))⟩

def c_priority_Test_check : CF := ⟨[.tmp 2],
  (.seq (.reg false [
tq 1 (.box ty_priority_Test (.t 0)),
tq 2 (.mv (kq 0))] [0, 2])
(.seq (.reg true [
tq 4 (.call false true (.k (.fn n_priority_Facts [] [])) []),
fa 5 0 1,
ld 6 5,
tq 7 (.call false true (.k (.fn n_slices_Contains_Lstring_string [] [])) [.t 4, .t 6]),
tq 3 (.mv (.t 7))] [4, 5, 6, 7])
(.seq (.reg true [
tq 8 (.mv (.t 3)),
tq 9 (.un .not (.t 8)),
tq 10 (.call false true (.k (.fn n_priority_when [] [])) [.t 9, kq 10]),
fa 11 1 1,
ld 12 11,
tq 13 (.bin .neq (.t 12) (.k (.d (.str [61])))),
tq 14 (.mv (.t 13)),
⟨some 15, (some (14, true)), .fieldAddr 1 (.t 1)⟩,
⟨some 16, (some (14, true)), .load none (.t 15)⟩,
⟨some 17, (some (14, true)), .bin .neq (.t 16) (.k (.d (.str [60])))⟩,
tq 18 (.pick (.t 14) (.t 17) (.k (.d (.bool false)))),
tq 19 (.mv (.t 18)),
⟨some 20, (some (19, true)), .fieldAddr 1 (.t 1)⟩,
⟨some 21, (some (19, true)), .load none (.t 20)⟩,
⟨some 22, (some (19, true)), .bin .neq (.t 21) (.k (.d (.str [62])))⟩,
tq 23 (.pick (.t 19) (.t 22) (.k (.d (.bool false)))),
tq 24 (.call false true (.k (.fn n_priority_when [] [])) [.t 23, kq 13]),
fa 25 2 1,
ld 26 25,
tq 27 (.call false true (.k (.fn n_priority_within [] [])) [.t 26, kq 0, kq 999999999]),
tq 28 (.mkList 1 3 [.t 10, .t 24, .t 27]),
tq 29 (.call false true (.k (.fn n_priority_first [] [])) [.t 28]),
tq 2 (.mv (.t 29))] [1, 3, 8, 9, 10, 11, 12, 13, 14, 15, 16, 17, 18, 19, 20, 21, 22, 23, 24, 25, 26, 27, 28, 29])
.ret)))⟩

def b_priority_each_priority_Key_1 : C :=
  (.seq (.reg false [
tq 11 (.bin .lss (.t 10) (.t 9))] [])
(.seq (.cond (.t 11) .skip
 (.exit 0))
(.seq (.block 1 (.seq (.reg false [
tq 12 (.mv (.t 10)),
tq 13 (.idxAddr 2 (.t 8) (.t 10)),
tq 14 (.load (some 2) (.t 13)),
tq 6 (.alloc ty_priority_Key [.z (.str []), .z (.bool false)]),
tq 5 (.mv (.t 12)),
⟨none, none, .store 2 (.t 6) (.t 14)⟩] [12, 13, 14])
(.seq (.reg true [
tq 15 (.mv (.t 1)),
tq 16 (.mv (.t 0)),
tq 17 (.mv (.t 5)),
tq 18 (.slice 2 (.t 16) none (some (.t 17)) none),
tq 19 (.load (some 2) (.t 6)),
tq 20 (.call false true (.t 15) [.t 18, .t 19]),
tq 7 (.mv (.t 20))] [5, 6, 15, 16, 17, 18, 19, 20])
(.seq (.reg false [
tq 21 (.mv (.t 7)),
tq 22 (.bin .neq (.t 21) (kq 0))] [21])
(.cond (.t 22) (.seq (.reg false [
tq 23 (.mv (.t 7)),
tq 4 (.mv (.t 23))] [7, 23])
.ret)
 .skip)))))
(.reg false [
tq 24 (.bin .add (.t 10) (kq 1)),
tq 10 (.mv (.t 24))] [24]))))

def c_priority_each_priority_Key : CF := ⟨[.tmp 4],
  (.seq (.reg false [
tq 4 (.mv (kq 0))] [4])
(.seq (.seq (.reg false [
tq 8 (.mv (.t 0)),
tq 9 (.len .slc (.t 8)),
tq 10 (.mv (kq 0))] [])
(.block 0 (.loop [0, 1, 8, 9, 10] b_priority_each_priority_Key_1)))
(.seq (.reg false [
tq 4 (.mv (kq 0))] [])
.ret)))⟩

def c_priority_Class_check_2 : CF := ⟨[.tmp 4],
  (.seq (.reg false [
tq 3 (.box ty_priority_Key (.t 1)),
tq 4 (.mv (kq 0))] [1, 4])
(.seq (.reg false [
tq 6 (.mv (.t 0)),
tq 7 (.mkFunc n_priority_Class_check_2_1 [] [.t 3]),
tq 8 (.call true true (.k (.fn n_slices_ContainsFunc_Lpriority_Key_priority_Key [] [])) [.t 6, .t 7]),
tq 5 (.mv (.t 8))] [0, 6, 7, 8])
(.seq (.reg true [
tq 9 (.call false true (.k (.fn n_priority_Facts [] [])) []),
fa 10 0 3,
ld 11 10,
tq 12 (.call false true (.k (.fn n_slices_Contains_Lstring_string [] [])) [.t 9, .t 11]),
tq 13 (.un .not (.t 12)),
tq 14 (.call false true (.k (.fn n_priority_when [] [])) [.t 13, kq 10]),
tq 15 (.mv (.t 5)),
tq 16 (.call false true (.k (.fn n_priority_when [] [])) [.t 15, kq 9]),
tq 17 (.mkList 1 2 [.t 14, .t 16]),
tq 18 (.call false true (.k (.fn n_priority_first [] [])) [.t 17]),
tq 4 (.mv (.t 18))] [3, 5, 9, 10, 11, 12, 13, 14, 15, 16, 17, 18])
.ret)))⟩

def c_slices_ContainsFunc_Lpriority_Key_priority_Key : CF := ⟨[.tmp 4],
  (.seq (.reg false [
tq 4 (.mv (.k (.d (.bool false))))] [4])
(.seq (.reg false [
tq 5 (.mv (.t 0)),
tq 6 (.mv (.t 1)),
tq 7 (.call true true (.k (.fn n_slices_IndexFunc_Lpriority_Key_priority_Key [] [])) [.t 5, .t 6]),
tq 8 (.bin .geq (.t 7) (kq 0)),
tq 4 (.mv (.t 8))] [0, 1, 5, 6, 7, 8])
.ret))⟩

def c_priority_Class_check_2_1 : CF := ⟨[.tmp 3],
  (.seq (.reg false [
tq 2 (.box ty_priority_Key (.t 0)),
tq 3 (.mv (.k (.d (.bool false))))] [0, 3])
(.seq (.reg false [
fa 4 0 2,
ld 5 4,
fa 6 0 1,
ld 7 6,
tq 8 (.bin .eql (.t 5) (.t 7)),
tq 3 (.mv (.t 8))] [1, 2, 4, 5, 6, 7, 8])
.ret))⟩

def b_priority_Facts_1 : C :=
  (.seq (.reg false [
tq 7 (.bin .lss (.t 6) (.t 5))] [])
(.seq (.cond (.t 7) .skip
 (.exit 0))
(.seq (.block 1 (.seq (.reg false [
tq 8 (.idxAddr 2 (.t 4) (.t 6)),
tq 9 (.load (some 2) (.t 8)),
tq 3 (.alloc ty_priority_fact [.z (.str []), .z (.nilf)]),
⟨none, none, .store 2 (.t 3) (.t 9)⟩] [8, 9])
(.reg false [
tq 10 (.mv (.t 1)),
fa 11 0 3,
ld 12 11,
tq 13 (.mkList 1 1 [.t 12]),
tq 14 (.append ⟨false, ty_string, 1, 16⟩ (.t 10) (.t 13)),
tq 1 (.mv (.t 14))] [3, 10, 11, 12, 13, 14])))
(.reg false [
tq 15 (.bin .add (.t 6) (kq 1)),
tq 6 (.mv (.t 15))] [15]))))

def c_priority_Facts : CF := ⟨[.tmp 0],
  (.seq (.reg false [
tq 0 (.ownNil ⟨false, ty_string, 1, 16⟩)] [0])
(.seq (.reg false [
tq 1 (.ownNil ⟨false, ty_string, 1, 16⟩)] [])
(.seq (.seq (.reg false [
tq 4 (.call false false (.k (.fn n_priority_facts [] [])) []),
tq 5 (.len .slc (.t 4)),
tq 6 (.mv (kq 0))] [])
(.block 0 (.loop [1, 4, 5, 6] b_priority_Facts_1)))
(.seq (.reg false [
tq 16 (.mv (.t 1)),
tq 0 (.mv (.t 16))] [1, 16])
.ret))))⟩

def c_calendar_DaysOf : CF := ⟨[.tmp 2, .tmp 3],
  (.seq (.reg false [
tq 1 (.box ty_api_Period (.t 0)),
tq 2 (.mv (.k (.d (.list 0 [])))),
tq 3 (.mv (kq 0))] [0, 2, 3])
(.seq (.seq (.reg false [
tq 5 (.load (some 3) (.t 1)),
tq 6 (.call false true (.k (.fn n_calendar_CheckPeriod [] [])) [.t 5]),
tq 4 (.mv (.t 6))] [5, 6])
(.seq (.reg false [
tq 7 (.mv (.t 4)),
tq 8 (.bin .neq (.t 7) (kq 0))] [7])
(.cond (.t 8) (.seq (.reg false [
tq 9 (.mv (.t 4)),
tq 2 (.mv (.k (.d (.list 0 [])))),
tq 3 (.mv (.t 9))] [4, 9])
.ret)
 .skip)))
(.seq (.reg false [
tq 10 (.load (some 3) (.t 1)),
tq 11 (.call false false (.k (.fn n_calendar_daysOf [] [])) [.t 10]),
tq 12 (.call true true (.k (.fn n_calendar_collected_int [] [])) [.t 11, .k (.fn n_calendar_DaysOf_1 [] [])]),
tq 2 (.mv (.t 12)),
tq 3 (.mv (kq 0))] [1, 10, 11, 12])
.ret)))⟩

def b_slices_IndexFunc_Lpriority_Key_priority_Key_1 : C :=
  (.seq (.reg false [
tq 9 (.bin .lss (.t 8) (.t 7))] [])
(.seq (.cond (.t 9) .skip
 (.exit 0))
(.seq (.block 1 (.seq (.reg false [
tq 10 (.mv (.t 8)),
tq 5 (.mv (.t 10))] [10])
(.seq (.reg false [
tq 11 (.mv (.t 1)),
tq 12 (.mv (.t 0)),
tq 13 (.mv (.t 5)),
tq 14 (.idxAddr 2 (.t 12) (.t 13)),
tq 15 (.load (some 2) (.t 14)),
tq 16 (.call true true (.t 11) [.t 15])] [11, 12, 13, 14, 15])
(.cond (.t 16) (.seq (.reg false [
tq 17 (.mv (.t 5)),
tq 4 (.mv (.t 17))] [5, 17])
.ret)
 .skip))))
(.reg false [
tq 18 (.bin .add (.t 8) (kq 1)),
tq 8 (.mv (.t 18))] [18]))))

def c_slices_IndexFunc_Lpriority_Key_priority_Key : CF := ⟨[.tmp 4],
  (.seq (.reg false [
tq 4 (.mv (kq 0))] [4])
(.seq (.seq (.reg false [
tq 6 (.mv (.t 0)),
tq 7 (.len .slc (.t 6)),
tq 8 (.mv (kq 0))] [6])
(.block 0 (.loop [0, 1, 7, 8] b_slices_IndexFunc_Lpriority_Key_priority_Key_1)))
(.seq (.reg false [
tq 4 (.mv (kq (-1)))] [])
.ret)))⟩

def b_calendar_collected_int_1 : C :=
  (.reg false [
tq 6 (.mv (.t 8))] [8])

def b_calendar_collected_int_2 : C :=
  (.block 1 (.seq (.reg false [
ld 9 3,
tq 10 (.mv (.t 6)),
tq 11 (.call true true (.t 9) [.t 10])] [3, 9, 10])
(.cond (.t 11) (.reg false [
ld 12 5,
tq 13 (.mv (.t 6)),
tq 14 (.mkList 1 1 [.t 13]),
tq 15 (.append ⟨false, ty_int, 1, 8⟩ (.t 12) (.t 14)),
⟨none, none, .store 1 (.t 5) (.t 15)⟩] [5, 6, 12, 13, 14, 15])
 .skip)))

def c_calendar_collected_int : CF := ⟨[.tmp 4],
  (.seq (.reg false [
tq 3 (.box ty_func_int_bool (.t 1)),
tq 4 (.ownNil ⟨false, ty_int, 1, 8⟩)] [1])
(.seq (.reg false [
tq 5 (.alloc ty_Lint [.own ⟨false, ty_int, 1, 8⟩])] [])
(.seq (.seq (.reg false [
tq 7 (.mv (.t 0))] [0])
(.block 0 (.rangeFn 18 (.t 7) [8] b_calendar_collected_int_1 b_calendar_collected_int_2)))
(.seq (.reg false [
ld 16 5,
tq 4 (.mv (.t 16))] [5, 16])
.ret))))⟩

def c_calendar_daysOf : CF := ⟨[.tmp 2],
  (.seq (.reg false [
tq 1 (.box ty_api_Period (.t 0)),
tq 2 (.mv (.k (.d (.nilf))))] [0, 2])
(.seq (.reg false [
tq 3 (.mkFunc n_calendar_daysOf_1 [] [.t 1]),
tq 2 (.mv (.t 3))] [1, 3])
.ret))⟩

def c_calendar_DaysOf_1 : CF := ⟨[.tmp 2],
  (.seq (.reg false [
tq 2 (.mv (.k (.d (.bool false))))] [2])
(.seq (.reg false [
tq 2 (.mv (.k (.d (.bool true))))] [])
.ret))⟩

def b_calendar_daysOf_1_1 : C :=
  (.seq (.seq (.reg false [
tq 6 (.mv (.t 3)),
fa 7 1 1,
ld 8 7,
tq 9 (.bin .leq (.t 6) (.t 8))] [6, 7, 8])
(.cond (.t 9) .skip
 (.exit 0)))
(.seq (.block 1 (.seq (.reg true [
fa 12 2 1,
ld 13 12,
tq 14 (.mv (.t 3)),
tq 15 (.call false true (.k (.fn n_calendar_weekday [] [])) [.t 14]),
tq 16 (.call false true (.k (.fn n_calendar_inMask [] [])) [.t 13, .t 15]),
tq 17 (.mv (.t 16)),
⟨some 18, (some (17, true)), .mv (.t 0)⟩,
⟨some 19, (some (17, true)), .mv (.t 3)⟩,
⟨some 20, (some (17, true)), .call true true (.t 18) [.t 19]⟩,
⟨some 21, (some (17, true)), .un .not (.t 20)⟩,
tq 22 (.pick (.t 17) (.t 21) (.k (.d (.bool false))))] [12, 13, 14, 15, 16, 17, 18, 19, 20, 21])
(.cond (.t 22) .ret
 .skip)))
(.reg false [
tq 10 (.mv (.t 3)),
tq 11 (.bin .add (.t 10) (kq 1)),
tq 3 (.mv (.t 11))] [10, 11])))

def c_calendar_daysOf_1 : CF := ⟨[],
  (.seq (.reg false [
fa 4 0 1,
ld 5 4,
tq 3 (.mv (.t 5))] [4, 5])
(.block 0 (.loop [0, 1, 3] b_calendar_daysOf_1_1)))⟩

def codes : List (Nat × CF) := [
  (n_law05_PriorityOrders, c_law05_PriorityOrders),
  (n_ref05_Short, c_ref05_Short),
  (n_ref05_ShortClaims, c_ref05_ShortClaims),
  (n_ref05_CheckProgram, c_ref05_CheckProgram),
  (n_ref05_CheckClaims, c_ref05_CheckClaims),
  (n_law05_awake, c_law05_awake),
  (n_priority_Rank, c_priority_Rank),
  (n_law05_program, c_law05_program),
  (n_law05_claims, c_law05_claims),
  (n_priority_Why, c_priority_Why),
  (n_ref01_IsOrder, c_ref01_IsOrder),
  (n_priority_CheckRank, c_priority_CheckRank),
  (n_priority_ClassOf, c_priority_ClassOf),
  (n_priority_Compare, c_priority_Compare),
  (n_priority_Parse, c_priority_Parse),
  (n_ref05_Same, c_ref05_Same),
  (n_law05_own, c_law05_own),
  (n_priority_Print, c_priority_Print),
  (n_ref02_Brief, c_ref02_Brief),
  (n_ref05_added, c_ref05_added),
  (n_ref05_CheckPool, c_ref05_CheckPool),
  (n_ref05_CheckClaim, c_ref05_CheckClaim),
  (n_priority_Default, c_priority_Default),
  (n_law05_sample, c_law05_sample),
  (n_ref01_SameInts, c_ref01_SameInts),
  (n_ref01_SameWords, c_ref01_SameWords),
  (n_priority_Interleave, c_priority_Interleave),
  (n_priority_Lots, c_priority_Lots),
  (n_priority_Fact, c_priority_Fact),
  (n_priority_Newcomer, c_priority_Newcomer),
  (n_ref01_DaysOf, c_ref01_DaysOf),
  (n_priority_checkRanking, c_priority_checkRanking),
  (n_priority_ranked, c_priority_ranked),
  (n_priority_ranking_order, c_priority_ranking_order),
  (n_priority_ranking_compare, c_priority_ranking_compare),
  (n_priority_first, c_priority_first),
  (n_priority_when, c_priority_when),
  (n_slices_Equal_Lint_int, c_slices_Equal_Lint_int),
  (n_priority_CheckProgram, c_priority_CheckProgram),
  (n_priority_CheckClaim, c_priority_CheckClaim),
  (n_priority_Program_classOf, c_priority_Program_classOf),
  (n_priority_Program_decide, c_priority_Program_decide),
  (n_strings_SplitAfter, c_strings_SplitAfter),
  (n_priority_Program_line, c_priority_Program_line),
  (n_priority_Print_1, c_priority_Print_1),
  (n_strings_Builder_WriteString, c_strings_Builder_WriteString),
  (n_priority_Key_sign, c_priority_Key_sign),
  (n_ref05_CheckClass, c_ref05_CheckClass),
  (n_ref01_First, c_ref01_First),
  (n_ref01_CheckRange, c_ref01_CheckRange),
  (n_ref02_CheckRequest, c_ref02_CheckRequest),
  (n_priority_within, c_priority_within),
  (n_priority_interleaved, c_priority_interleaved),
  (n_priority_checkKey, c_priority_checkKey),
  (n_priority_checkClaims, c_priority_checkClaims),
  (n_priority_lots, c_priority_lots),
  (n_priority_known, c_priority_known),
  (n_calendar_IsName, c_calendar_IsName),
  (n_priority_each_api_Request, c_priority_each_api_Request),
  (n_priority_Newcomer_1, c_priority_Newcomer_1),
  (n_slices_ContainsFunc_Lapi_Request_api_Request, c_slices_ContainsFunc_Lapi_Request_api_Request),
  (n_priority_Newcomer_1_1, c_priority_Newcomer_1_1),
  (n_message_CheckRequest, c_message_CheckRequest),
  (n_calendar_Has, c_calendar_Has),
  (n_priority_bit, c_priority_bit),
  (n_ref01_Has, c_ref01_Has),
  (n_priority_indices, c_priority_indices),
  (n_slices_SortFunc_Lint_int, c_slices_SortFunc_Lint_int),
  (n_priority_ranking_order_1, c_priority_ranking_order_1),
  (n_slices_IndexFunc_Lint_int, c_slices_IndexFunc_Lint_int),
  (n_priority_ranking_order_2, c_priority_ranking_order_2),
  (n_slices_Clone_Lint_int, c_slices_Clone_Lint_int),
  (n_cmp_Compare_int, c_cmp_Compare_int),
  (n_priority_each_priority_Class, c_priority_each_priority_Class),
  (n_priority_added, c_priority_added),
  (n_priority_Program_pool, c_priority_Program_pool),
  (n_priority_holds, c_priority_holds),
  (n_priority_Program_keys, c_priority_Program_keys),
  (n_strings_CutSuffix, c_strings_CutSuffix),
  (n_slices_Contains_Lstring_string, c_slices_Contains_Lstring_string),
  (n_priority_reader_next, c_priority_reader_next),
  (n_priority_reader_class, c_priority_reader_class),
  (n_priority_reader_pool, c_priority_reader_pool),
  (n_ref01_IsName, c_ref01_IsName),
  (n_ref05_CheckTest, c_ref05_CheckTest),
  (n_ref01_HasWord, c_ref01_HasWord),
  (n_ref05_Facts, c_ref05_Facts),
  (n_ref02_optional, c_ref02_optional),
  (n_ref01_CheckPeriod, c_ref01_CheckPeriod),
  (n_priority_each_priority_Claim, c_priority_each_priority_Claim),
  (n_priority_checkClaims_1, c_priority_checkClaims_1),
  (n_slices_ContainsFunc_Lpriority_Claim_priority_Claim, c_slices_ContainsFunc_Lpriority_Claim_priority_Claim),
  (n_priority_checkClaims_1_1, c_priority_checkClaims_1_1),
  (n_priority_lots_1, c_priority_lots_1),
  (n_cmp_Compare_string, c_cmp_Compare_string),
  (n_calendar_Draw, c_calendar_Draw),
  (n_priority_facts, c_priority_facts),
  (n_slices_IndexFunc_Lapi_Request_api_Request, c_slices_IndexFunc_Lapi_Request_api_Request),
  (n_message_first, c_message_first),
  (n_message_named, c_message_named),
  (n_message_optional, c_message_optional),
  (n_message_when, c_message_when),
  (n_message_isKind, c_message_isKind),
  (n_calendar_CheckPeriod, c_calendar_CheckPeriod),
  (n_message_within, c_message_within),
  (n_calendar_first, c_calendar_first),
  (n_calendar_checkDay, c_calendar_checkDay),
  (n_calendar_has, c_calendar_has),
  (n_ref01_InMask, c_ref01_InMask),
  (n_ref01_Weekday, c_ref01_Weekday),
  (n_slices_pdqsortCmpFunc_int, c_slices_pdqsortCmpFunc_int),
  (n_math_bits_Len, c_math_bits_Len),
  (n_cmp_isNaN_int, c_cmp_isNaN_int),
  (n_slices_ContainsFunc_Lpriority_Class_priority_Class, c_slices_ContainsFunc_Lpriority_Class_priority_Class),
  (n_priority_added_1, c_priority_added_1),
  (n_priority_Class_check, c_priority_Class_check),
  (n_priority_Program_keys_1, c_priority_Program_keys_1),
  (n_internal_stringslite_CutSuffix, c_internal_stringslite_CutSuffix),
  (n_slices_Index_Lstring_string, c_slices_Index_Lstring_string),
  (n_priority_all_priority_Test, c_priority_all_priority_Test),
  (n_priority_test, c_priority_test),
  (n_priority_all_priority_Key, c_priority_all_priority_Key),
  (n_priority_key, c_priority_key),
  (n_priority_integer, c_priority_integer),
  (n_ref01_CheckDay, c_ref01_CheckDay),
  (n_slices_IndexFunc_Lpriority_Claim_priority_Claim, c_slices_IndexFunc_Lpriority_Claim_priority_Claim),
  (n_cmp_isNaN_string, c_cmp_isNaN_string),
  (n_calendar_within, c_calendar_within),
  (n_priority_facts_1, c_priority_facts_1),
  (n_priority_facts_2, c_priority_facts_2),
  (n_priority_facts_3, c_priority_facts_3),
  (n_priority_facts_4, c_priority_facts_4),
  (n_priority_facts_5, c_priority_facts_5),
  (n_calendar_Count, c_calendar_Count),
  (n_priority_facts_6, c_priority_facts_6),
  (n_priority_facts_7, c_priority_facts_7),
  (n_priority_facts_8, c_priority_facts_8),
  (n_priority_facts_9, c_priority_facts_9),
  (n_priority_facts_10, c_priority_facts_10),
  (n_calendar_when, c_calendar_when),
  (n_calendar_inMask, c_calendar_inMask),
  (n_calendar_weekday, c_calendar_weekday),
  (n_slices_insertionSortCmpFunc_int, c_slices_insertionSortCmpFunc_int),
  (n_math_bits_Len32, c_math_bits_Len32),
  (n_math_bits_Len64, c_math_bits_Len64),
  (n_slices_IndexFunc_Lpriority_Class_priority_Class, c_slices_IndexFunc_Lpriority_Class_priority_Class),
  (n_priority_each_priority_Test, c_priority_each_priority_Test),
  (n_priority_Class_check_1, c_priority_Class_check_1),
  (n_priority_Test_check, c_priority_Test_check),
  (n_priority_each_priority_Key, c_priority_each_priority_Key),
  (n_priority_Class_check_2, c_priority_Class_check_2),
  (n_slices_ContainsFunc_Lpriority_Key_priority_Key, c_slices_ContainsFunc_Lpriority_Key_priority_Key),
  (n_priority_Class_check_2_1, c_priority_Class_check_2_1),
  (n_priority_Facts, c_priority_Facts),
  (n_calendar_DaysOf, c_calendar_DaysOf),
  (n_slices_IndexFunc_Lpriority_Key_priority_Key, c_slices_IndexFunc_Lpriority_Key_priority_Key),
  (n_calendar_collected_int, c_calendar_collected_int),
  (n_calendar_daysOf, c_calendar_daysOf),
  (n_calendar_DaysOf_1, c_calendar_DaysOf_1),
  (n_calendar_daysOf_1, c_calendar_daysOf_1)]

def code (f : Nat) : Option CF := findC f codes

theorem code_law05_PriorityOrders : code n_law05_PriorityOrders = some c_law05_PriorityOrders := rfl
theorem code_ref05_Short : code n_ref05_Short = some c_ref05_Short := rfl
theorem code_ref05_ShortClaims : code n_ref05_ShortClaims = some c_ref05_ShortClaims := rfl
theorem code_ref05_CheckProgram : code n_ref05_CheckProgram = some c_ref05_CheckProgram := rfl
theorem code_ref05_CheckClaims : code n_ref05_CheckClaims = some c_ref05_CheckClaims := rfl
theorem code_law05_awake : code n_law05_awake = some c_law05_awake := rfl
theorem code_priority_Rank : code n_priority_Rank = some c_priority_Rank := rfl
theorem code_law05_program : code n_law05_program = some c_law05_program := rfl
theorem code_law05_claims : code n_law05_claims = some c_law05_claims := rfl
theorem code_priority_Why : code n_priority_Why = some c_priority_Why := rfl
theorem code_ref01_IsOrder : code n_ref01_IsOrder = some c_ref01_IsOrder := rfl
theorem code_priority_CheckRank : code n_priority_CheckRank = some c_priority_CheckRank := rfl
theorem code_priority_ClassOf : code n_priority_ClassOf = some c_priority_ClassOf := rfl
theorem code_priority_Compare : code n_priority_Compare = some c_priority_Compare := rfl
theorem code_priority_Parse : code n_priority_Parse = some c_priority_Parse := rfl
theorem code_ref05_Same : code n_ref05_Same = some c_ref05_Same := rfl
theorem code_law05_own : code n_law05_own = some c_law05_own := rfl
theorem code_priority_Print : code n_priority_Print = some c_priority_Print := rfl
theorem code_ref02_Brief : code n_ref02_Brief = some c_ref02_Brief := rfl
theorem code_ref05_added : code n_ref05_added = some c_ref05_added := rfl
theorem code_ref05_CheckPool : code n_ref05_CheckPool = some c_ref05_CheckPool := rfl
theorem code_ref05_CheckClaim : code n_ref05_CheckClaim = some c_ref05_CheckClaim := rfl
theorem code_priority_Default : code n_priority_Default = some c_priority_Default := rfl
theorem code_law05_sample : code n_law05_sample = some c_law05_sample := rfl
theorem code_ref01_SameInts : code n_ref01_SameInts = some c_ref01_SameInts := rfl
theorem code_ref01_SameWords : code n_ref01_SameWords = some c_ref01_SameWords := rfl
theorem code_priority_Interleave : code n_priority_Interleave = some c_priority_Interleave := rfl
theorem code_priority_Lots : code n_priority_Lots = some c_priority_Lots := rfl
theorem code_priority_Fact : code n_priority_Fact = some c_priority_Fact := rfl
theorem code_priority_Newcomer : code n_priority_Newcomer = some c_priority_Newcomer := rfl
theorem code_ref01_DaysOf : code n_ref01_DaysOf = some c_ref01_DaysOf := rfl
theorem code_priority_checkRanking : code n_priority_checkRanking = some c_priority_checkRanking := rfl
theorem code_priority_ranked : code n_priority_ranked = some c_priority_ranked := rfl
theorem code_priority_ranking_order : code n_priority_ranking_order = some c_priority_ranking_order := rfl
theorem code_priority_ranking_compare : code n_priority_ranking_compare = some c_priority_ranking_compare := rfl
theorem code_priority_first : code n_priority_first = some c_priority_first := rfl
theorem code_priority_when : code n_priority_when = some c_priority_when := rfl
theorem code_slices_Equal_Lint_int : code n_slices_Equal_Lint_int = some c_slices_Equal_Lint_int := rfl
theorem code_priority_CheckProgram : code n_priority_CheckProgram = some c_priority_CheckProgram := rfl
theorem code_priority_CheckClaim : code n_priority_CheckClaim = some c_priority_CheckClaim := rfl
theorem code_priority_Program_classOf : code n_priority_Program_classOf = some c_priority_Program_classOf := rfl
theorem code_priority_Program_decide : code n_priority_Program_decide = some c_priority_Program_decide := rfl
theorem code_strings_SplitAfter : code n_strings_SplitAfter = some c_strings_SplitAfter := rfl
theorem code_priority_Program_line : code n_priority_Program_line = some c_priority_Program_line := rfl
theorem code_priority_Print_1 : code n_priority_Print_1 = some c_priority_Print_1 := rfl
theorem code_strings_Builder_WriteString : code n_strings_Builder_WriteString = some c_strings_Builder_WriteString := rfl
theorem code_priority_Key_sign : code n_priority_Key_sign = some c_priority_Key_sign := rfl
theorem code_ref05_CheckClass : code n_ref05_CheckClass = some c_ref05_CheckClass := rfl
theorem code_ref01_First : code n_ref01_First = some c_ref01_First := rfl
theorem code_ref01_CheckRange : code n_ref01_CheckRange = some c_ref01_CheckRange := rfl
theorem code_ref02_CheckRequest : code n_ref02_CheckRequest = some c_ref02_CheckRequest := rfl
theorem code_priority_within : code n_priority_within = some c_priority_within := rfl
theorem code_priority_interleaved : code n_priority_interleaved = some c_priority_interleaved := rfl
theorem code_priority_checkKey : code n_priority_checkKey = some c_priority_checkKey := rfl
theorem code_priority_checkClaims : code n_priority_checkClaims = some c_priority_checkClaims := rfl
theorem code_priority_lots : code n_priority_lots = some c_priority_lots := rfl
theorem code_priority_known : code n_priority_known = some c_priority_known := rfl
theorem code_calendar_IsName : code n_calendar_IsName = some c_calendar_IsName := rfl
theorem code_priority_each_api_Request : code n_priority_each_api_Request = some c_priority_each_api_Request := rfl
theorem code_priority_Newcomer_1 : code n_priority_Newcomer_1 = some c_priority_Newcomer_1 := rfl
theorem code_slices_ContainsFunc_Lapi_Request_api_Request : code n_slices_ContainsFunc_Lapi_Request_api_Request = some c_slices_ContainsFunc_Lapi_Request_api_Request := rfl
theorem code_priority_Newcomer_1_1 : code n_priority_Newcomer_1_1 = some c_priority_Newcomer_1_1 := rfl
theorem code_message_CheckRequest : code n_message_CheckRequest = some c_message_CheckRequest := rfl
theorem code_calendar_Has : code n_calendar_Has = some c_calendar_Has := rfl
theorem code_priority_bit : code n_priority_bit = some c_priority_bit := rfl
theorem code_ref01_Has : code n_ref01_Has = some c_ref01_Has := rfl
theorem code_priority_indices : code n_priority_indices = some c_priority_indices := rfl
theorem code_slices_SortFunc_Lint_int : code n_slices_SortFunc_Lint_int = some c_slices_SortFunc_Lint_int := rfl
theorem code_priority_ranking_order_1 : code n_priority_ranking_order_1 = some c_priority_ranking_order_1 := rfl
theorem code_slices_IndexFunc_Lint_int : code n_slices_IndexFunc_Lint_int = some c_slices_IndexFunc_Lint_int := rfl
theorem code_priority_ranking_order_2 : code n_priority_ranking_order_2 = some c_priority_ranking_order_2 := rfl
theorem code_slices_Clone_Lint_int : code n_slices_Clone_Lint_int = some c_slices_Clone_Lint_int := rfl
theorem code_cmp_Compare_int : code n_cmp_Compare_int = some c_cmp_Compare_int := rfl
theorem code_priority_each_priority_Class : code n_priority_each_priority_Class = some c_priority_each_priority_Class := rfl
theorem code_priority_added : code n_priority_added = some c_priority_added := rfl
theorem code_priority_Program_pool : code n_priority_Program_pool = some c_priority_Program_pool := rfl
theorem code_priority_holds : code n_priority_holds = some c_priority_holds := rfl
theorem code_priority_Program_keys : code n_priority_Program_keys = some c_priority_Program_keys := rfl
theorem code_strings_CutSuffix : code n_strings_CutSuffix = some c_strings_CutSuffix := rfl
theorem code_slices_Contains_Lstring_string : code n_slices_Contains_Lstring_string = some c_slices_Contains_Lstring_string := rfl
theorem code_priority_reader_next : code n_priority_reader_next = some c_priority_reader_next := rfl
theorem code_priority_reader_class : code n_priority_reader_class = some c_priority_reader_class := rfl
theorem code_priority_reader_pool : code n_priority_reader_pool = some c_priority_reader_pool := rfl
theorem code_ref01_IsName : code n_ref01_IsName = some c_ref01_IsName := rfl
theorem code_ref05_CheckTest : code n_ref05_CheckTest = some c_ref05_CheckTest := rfl
theorem code_ref01_HasWord : code n_ref01_HasWord = some c_ref01_HasWord := rfl
theorem code_ref05_Facts : code n_ref05_Facts = some c_ref05_Facts := rfl
theorem code_ref02_optional : code n_ref02_optional = some c_ref02_optional := rfl
theorem code_ref01_CheckPeriod : code n_ref01_CheckPeriod = some c_ref01_CheckPeriod := rfl
theorem code_priority_each_priority_Claim : code n_priority_each_priority_Claim = some c_priority_each_priority_Claim := rfl
theorem code_priority_checkClaims_1 : code n_priority_checkClaims_1 = some c_priority_checkClaims_1 := rfl
theorem code_slices_ContainsFunc_Lpriority_Claim_priority_Claim : code n_slices_ContainsFunc_Lpriority_Claim_priority_Claim = some c_slices_ContainsFunc_Lpriority_Claim_priority_Claim := rfl
theorem code_priority_checkClaims_1_1 : code n_priority_checkClaims_1_1 = some c_priority_checkClaims_1_1 := rfl
theorem code_priority_lots_1 : code n_priority_lots_1 = some c_priority_lots_1 := rfl
theorem code_cmp_Compare_string : code n_cmp_Compare_string = some c_cmp_Compare_string := rfl
theorem code_calendar_Draw : code n_calendar_Draw = some c_calendar_Draw := rfl
theorem code_priority_facts : code n_priority_facts = some c_priority_facts := rfl
theorem code_slices_IndexFunc_Lapi_Request_api_Request : code n_slices_IndexFunc_Lapi_Request_api_Request = some c_slices_IndexFunc_Lapi_Request_api_Request := rfl
theorem code_message_first : code n_message_first = some c_message_first := rfl
theorem code_message_named : code n_message_named = some c_message_named := rfl
theorem code_message_optional : code n_message_optional = some c_message_optional := rfl
theorem code_message_when : code n_message_when = some c_message_when := rfl
theorem code_message_isKind : code n_message_isKind = some c_message_isKind := rfl
theorem code_calendar_CheckPeriod : code n_calendar_CheckPeriod = some c_calendar_CheckPeriod := rfl
theorem code_message_within : code n_message_within = some c_message_within := rfl
theorem code_calendar_first : code n_calendar_first = some c_calendar_first := rfl
theorem code_calendar_checkDay : code n_calendar_checkDay = some c_calendar_checkDay := rfl
theorem code_calendar_has : code n_calendar_has = some c_calendar_has := rfl
theorem code_ref01_InMask : code n_ref01_InMask = some c_ref01_InMask := rfl
theorem code_ref01_Weekday : code n_ref01_Weekday = some c_ref01_Weekday := rfl
theorem code_slices_pdqsortCmpFunc_int : code n_slices_pdqsortCmpFunc_int = some c_slices_pdqsortCmpFunc_int := rfl
theorem code_math_bits_Len : code n_math_bits_Len = some c_math_bits_Len := rfl
theorem code_cmp_isNaN_int : code n_cmp_isNaN_int = some c_cmp_isNaN_int := rfl
theorem code_slices_ContainsFunc_Lpriority_Class_priority_Class : code n_slices_ContainsFunc_Lpriority_Class_priority_Class = some c_slices_ContainsFunc_Lpriority_Class_priority_Class := rfl
theorem code_priority_added_1 : code n_priority_added_1 = some c_priority_added_1 := rfl
theorem code_priority_Class_check : code n_priority_Class_check = some c_priority_Class_check := rfl
theorem code_priority_Program_keys_1 : code n_priority_Program_keys_1 = some c_priority_Program_keys_1 := rfl
theorem code_internal_stringslite_CutSuffix : code n_internal_stringslite_CutSuffix = some c_internal_stringslite_CutSuffix := rfl
theorem code_slices_Index_Lstring_string : code n_slices_Index_Lstring_string = some c_slices_Index_Lstring_string := rfl
theorem code_priority_all_priority_Test : code n_priority_all_priority_Test = some c_priority_all_priority_Test := rfl
theorem code_priority_test : code n_priority_test = some c_priority_test := rfl
theorem code_priority_all_priority_Key : code n_priority_all_priority_Key = some c_priority_all_priority_Key := rfl
theorem code_priority_key : code n_priority_key = some c_priority_key := rfl
theorem code_priority_integer : code n_priority_integer = some c_priority_integer := rfl
theorem code_ref01_CheckDay : code n_ref01_CheckDay = some c_ref01_CheckDay := rfl
theorem code_slices_IndexFunc_Lpriority_Claim_priority_Claim : code n_slices_IndexFunc_Lpriority_Claim_priority_Claim = some c_slices_IndexFunc_Lpriority_Claim_priority_Claim := rfl
theorem code_cmp_isNaN_string : code n_cmp_isNaN_string = some c_cmp_isNaN_string := rfl
theorem code_calendar_within : code n_calendar_within = some c_calendar_within := rfl
theorem code_priority_facts_1 : code n_priority_facts_1 = some c_priority_facts_1 := rfl
theorem code_priority_facts_2 : code n_priority_facts_2 = some c_priority_facts_2 := rfl
theorem code_priority_facts_3 : code n_priority_facts_3 = some c_priority_facts_3 := rfl
theorem code_priority_facts_4 : code n_priority_facts_4 = some c_priority_facts_4 := rfl
theorem code_priority_facts_5 : code n_priority_facts_5 = some c_priority_facts_5 := rfl
theorem code_calendar_Count : code n_calendar_Count = some c_calendar_Count := rfl
theorem code_priority_facts_6 : code n_priority_facts_6 = some c_priority_facts_6 := rfl
theorem code_priority_facts_7 : code n_priority_facts_7 = some c_priority_facts_7 := rfl
theorem code_priority_facts_8 : code n_priority_facts_8 = some c_priority_facts_8 := rfl
theorem code_priority_facts_9 : code n_priority_facts_9 = some c_priority_facts_9 := rfl
theorem code_priority_facts_10 : code n_priority_facts_10 = some c_priority_facts_10 := rfl
theorem code_calendar_when : code n_calendar_when = some c_calendar_when := rfl
theorem code_calendar_inMask : code n_calendar_inMask = some c_calendar_inMask := rfl
theorem code_calendar_weekday : code n_calendar_weekday = some c_calendar_weekday := rfl
theorem code_slices_insertionSortCmpFunc_int : code n_slices_insertionSortCmpFunc_int = some c_slices_insertionSortCmpFunc_int := rfl
theorem code_math_bits_Len32 : code n_math_bits_Len32 = some c_math_bits_Len32 := rfl
theorem code_math_bits_Len64 : code n_math_bits_Len64 = some c_math_bits_Len64 := rfl
theorem code_slices_IndexFunc_Lpriority_Class_priority_Class : code n_slices_IndexFunc_Lpriority_Class_priority_Class = some c_slices_IndexFunc_Lpriority_Class_priority_Class := rfl
theorem code_priority_each_priority_Test : code n_priority_each_priority_Test = some c_priority_each_priority_Test := rfl
theorem code_priority_Class_check_1 : code n_priority_Class_check_1 = some c_priority_Class_check_1 := rfl
theorem code_priority_Test_check : code n_priority_Test_check = some c_priority_Test_check := rfl
theorem code_priority_each_priority_Key : code n_priority_each_priority_Key = some c_priority_each_priority_Key := rfl
theorem code_priority_Class_check_2 : code n_priority_Class_check_2 = some c_priority_Class_check_2 := rfl
theorem code_slices_ContainsFunc_Lpriority_Key_priority_Key : code n_slices_ContainsFunc_Lpriority_Key_priority_Key = some c_slices_ContainsFunc_Lpriority_Key_priority_Key := rfl
theorem code_priority_Class_check_2_1 : code n_priority_Class_check_2_1 = some c_priority_Class_check_2_1 := rfl
theorem code_priority_Facts : code n_priority_Facts = some c_priority_Facts := rfl
theorem code_calendar_DaysOf : code n_calendar_DaysOf = some c_calendar_DaysOf := rfl
theorem code_slices_IndexFunc_Lpriority_Key_priority_Key : code n_slices_IndexFunc_Lpriority_Key_priority_Key = some c_slices_IndexFunc_Lpriority_Key_priority_Key := rfl
theorem code_calendar_collected_int : code n_calendar_collected_int = some c_calendar_collected_int := rfl
theorem code_calendar_daysOf : code n_calendar_daysOf = some c_calendar_daysOf := rfl
theorem code_calendar_DaysOf_1 : code n_calendar_DaysOf_1 = some c_calendar_DaysOf_1 := rfl
theorem code_calendar_daysOf_1 : code n_calendar_daysOf_1 = some c_calendar_daysOf_1 := rfl

def globs : Globs := [(1, [.int .u64 1, .int .u64 10, .int .u64 100, .int .u64 1000, .int .u64 10000, .int .u64 100000, .int .u64 1000000, .int .u64 10000000, .int .u64 100000000, .int .u64 1000000000, .int .u64 10000000000, .int .u64 100000000000, .int .u64 1000000000000, .int .u64 10000000000000, .int .u64 100000000000000, .int .u64 1000000000000000, .int .u64 10000000000000000, .int .u64 100000000000000000, .int .u64 1000000000000000000, .int .u64 10000000000000000000])]

end Go.Proofs.YtlnlcdnpgjhaaaaGreatDoor.Co
