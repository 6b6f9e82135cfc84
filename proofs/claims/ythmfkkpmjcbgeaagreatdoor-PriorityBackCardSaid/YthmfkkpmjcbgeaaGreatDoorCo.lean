/-
  The functions of the seat in the evaluator's syntax (printed by a program of mine; checked in a text that follows).
-/
import Derived.Test.YthmfkkpmjcbgeaaGreatDoorEvE
namespace Go.Proofs.YthmfkkpmjcbgeaaGreatDoor.Co
open Go.Evl

def n_law05_PriorityBack : Nat := 4
def n_law05_awake : Nat := 5
def n_priority_Parse : Nat := 6
def n_ref05_Same : Nat := 8
def n_law05_own : Nat := 9
def n_ref05_Short : Nat := 10
def n_priority_Print : Nat := 11
def n_ref05_CheckProgram : Nat := 12
def n_law05_program : Nat := 13
def n_priority_Default : Nat := 14
def n_law05_sample : Nat := 15
def n_priority_ClassOf : Nat := 16
def n_priority_Rank : Nat := 17
def n_priority_Why : Nat := 18
def n_ref01_SameInts : Nat := 19
def n_ref01_SameWords : Nat := 20
def n_priority_Interleave : Nat := 21
def n_priority_Lots : Nat := 22
def n_priority_Fact : Nat := 23
def n_priority_Newcomer : Nat := 24
def n_ref01_DaysOf : Nat := 25
def n_strings_SplitAfter : Nat := 26
def n_priority_Program_line : Nat := 27
def n_ref05_CheckPool : Nat := 31
def n_ref05_added : Nat := 33
def n_priority_CheckProgram : Nat := 34
def n_priority_Print_1 : Nat := 35
def n_strings_Builder_WriteString : Nat := 36
def n_priority_Key_sign : Nat := 39
def n_priority_first : Nat := 41
def n_priority_CheckClaim : Nat := 42
def n_priority_Program_classOf : Nat := 43
def n_priority_checkRanking : Nat := 44
def n_priority_ranked : Nat := 45
def n_priority_ranking_order : Nat := 46
def n_priority_ranking_compare : Nat := 47
def n_priority_within : Nat := 48
def n_priority_when : Nat := 49
def n_priority_interleaved : Nat := 50
def n_priority_checkKey : Nat := 51
def n_priority_checkClaims : Nat := 52
def n_priority_lots : Nat := 53
def n_priority_known : Nat := 54
def n_calendar_IsName : Nat := 55
def n_priority_each_api_Request : Nat := 56
def n_priority_Newcomer_1 : Nat := 57
def n_slices_ContainsFunc_Lapi_Request_api_Request : Nat := 58
def n_priority_Newcomer_1_1 : Nat := 59
def n_message_CheckRequest : Nat := 60
def n_calendar_Has : Nat := 61
def n_priority_bit : Nat := 62
def n_ref01_Has : Nat := 63
def n_strings_CutSuffix : Nat := 65
def n_slices_Contains_Lstring_string : Nat := 67
def n_priority_reader_next : Nat := 68
def n_priority_reader_class : Nat := 69
def n_priority_added : Nat := 70
def n_priority_reader_pool : Nat := 71
def n_priority_Program_pool : Nat := 72
def n_ref01_First : Nat := 75
def n_ref01_CheckRange : Nat := 76
def n_ref05_CheckClass : Nat := 79
def n_priority_each_priority_Class : Nat := 80
def n_priority_holds : Nat := 84
def n_priority_indices : Nat := 85
def n_slices_SortFunc_Lint_int : Nat := 86
def n_priority_ranking_order_1 : Nat := 87
def n_slices_IndexFunc_Lint_int : Nat := 88
def n_priority_ranking_order_2 : Nat := 89
def n_slices_Clone_Lint_int : Nat := 90
def n_priority_Program_decide : Nat := 91
def n_cmp_Compare_int : Nat := 92
def n_priority_each_priority_Claim : Nat := 93
def n_priority_checkClaims_1 : Nat := 94
def n_slices_ContainsFunc_Lpriority_Claim_priority_Claim : Nat := 95
def n_priority_checkClaims_1_1 : Nat := 96
def n_priority_lots_1 : Nat := 97
def n_cmp_Compare_string : Nat := 98
def n_calendar_Draw : Nat := 99
def n_priority_facts : Nat := 100
def n_slices_IndexFunc_Lapi_Request_api_Request : Nat := 101
def n_message_first : Nat := 102
def n_message_named : Nat := 103
def n_message_optional : Nat := 104
def n_message_when : Nat := 105
def n_message_isKind : Nat := 106
def n_calendar_CheckPeriod : Nat := 107
def n_message_within : Nat := 108
def n_calendar_first : Nat := 109
def n_calendar_checkDay : Nat := 110
def n_calendar_has : Nat := 111
def n_ref01_InMask : Nat := 112
def n_ref01_Weekday : Nat := 113
def n_internal_stringslite_CutSuffix : Nat := 117
def n_slices_Index_Lstring_string : Nat := 118
def n_priority_all_priority_Test : Nat := 119
def n_priority_test : Nat := 120
def n_priority_all_priority_Key : Nat := 121
def n_priority_key : Nat := 122
def n_slices_ContainsFunc_Lpriority_Class_priority_Class : Nat := 123
def n_priority_added_1 : Nat := 124
def n_priority_Class_check : Nat := 125
def n_priority_integer : Nat := 126
def n_ref01_IsName : Nat := 127
def n_ref05_CheckTest : Nat := 128
def n_ref01_HasWord : Nat := 129
def n_ref05_Facts : Nat := 130
def n_slices_pdqsortCmpFunc_int : Nat := 134
def n_math_bits_Len : Nat := 135
def n_priority_Program_keys : Nat := 136
def n_cmp_isNaN_int : Nat := 137
def n_slices_IndexFunc_Lpriority_Claim_priority_Claim : Nat := 138
def n_cmp_isNaN_string : Nat := 139
def n_calendar_within : Nat := 140
def n_priority_facts_1 : Nat := 141
def n_priority_facts_2 : Nat := 142
def n_priority_facts_3 : Nat := 143
def n_priority_facts_4 : Nat := 144
def n_priority_facts_5 : Nat := 145
def n_calendar_Count : Nat := 146
def n_priority_facts_6 : Nat := 147
def n_priority_facts_7 : Nat := 148
def n_priority_facts_8 : Nat := 149
def n_priority_facts_9 : Nat := 150
def n_priority_facts_10 : Nat := 151
def n_calendar_when : Nat := 152
def n_calendar_inMask : Nat := 153
def n_calendar_weekday : Nat := 154
def n_slices_IndexFunc_Lpriority_Class_priority_Class : Nat := 161
def n_priority_each_priority_Test : Nat := 162
def n_priority_Class_check_1 : Nat := 163
def n_priority_Test_check : Nat := 164
def n_priority_each_priority_Key : Nat := 165
def n_priority_Class_check_2 : Nat := 166
def n_slices_ContainsFunc_Lpriority_Key_priority_Key : Nat := 167
def n_priority_Class_check_2_1 : Nat := 168
def n_priority_Facts : Nat := 169
def n_slices_insertionSortCmpFunc_int : Nat := 176
def n_math_bits_Len32 : Nat := 184
def n_math_bits_Len64 : Nat := 185
def n_priority_Program_keys_1 : Nat := 186
def n_calendar_DaysOf : Nat := 187
def n_slices_IndexFunc_Lpriority_Key_priority_Key : Nat := 197
def n_calendar_collected_int : Nat := 209
def n_calendar_daysOf : Nat := 210
def n_calendar_DaysOf_1 : Nat := 211
def n_calendar_daysOf_1 : Nat := 224
def n_strings_Join : Nat := 37
def n_strconv_Itoa : Nat := 38
def n_strings_Builder_String : Nat := 40
def n_strings_genSplit : Nat := 64
def n_strings_Split : Nat := 66
def n_strings_Builder_copyCheck : Nat := 81
def n_internal_stringslite_HasSuffix : Nat := 159
def n_strings_IndexAny : Nat := 160
def n_strconv_Atoi : Nat := 170
def n_slices_heapSortCmpFunc_int : Nat := 177
def n_slices_breakPatternsCmpFunc_int : Nat := 178
def n_slices_choosePivotCmpFunc_int : Nat := 179
def n_slices_reverseRangeCmpFunc_int : Nat := 180
def n_slices_partialInsertionSortCmpFunc_int : Nat := 181
def n_slices_partitionEqualCmpFunc_int : Nat := 182
def n_slices_partitionCmpFunc_int : Nat := 183
def n_internal_stringslite_IndexByte : Nat := 189
def ty_int : Nat := 3
def ty_bool : Nat := 4
def ty_uint8 : Nat := 5
def ty_string : Nat := 9
def ty_priority_Program : Nat := 25
def ty_turnroundref05_Program : Nat := 31
def ty_api_Period : Nat := 46
def ty_api_Request : Nat := 48
def ty_priority_Claim : Nat := 50
def ty_Lpriority_Claim : Nat := 54
def ty_Lint : Nat := 55
def ty_turnroundref05_Class : Nat := 81
def ty_turnroundref05_Test : Nat := 86
def ty_turnroundref05_Key : Nat := 88
def ty_priority_Class : Nat := 92
def ty_priority_Test : Nat := 93
def ty_priority_Key : Nat := 94
def ty_strings_Builder : Nat := 99
def ty_priority_ranking : Nat := 113
def ty_priority_fact : Nat := 125
def ty_priority_reader : Nat := 143
def ty_func_int_bool : Nat := 168
def ty_2_Lint : Nat := 171
def ty_3_int : Nat := 195

def c_law05_PriorityBack : CF := ⟨[.tmp 6],
  (sr [
tq 3 (.box ty_turnroundref05_Program (.t 0)),
tq 6 (.mv (.k (.d (.bool false))))] [0, 6]
(.seq (sr [
lq 20 4 3,
tq 21 (cl n_ref05_Short [.t 20]),
tq 22 (.un .not (.t 21)),
mq 23 22,
gq 24 23 false (.mv (.t 1)),
gq 25 23 false (.len .str (.t 24)),
gq 26 23 false (.bin .gtr (.t 25) (kq 1500)),
tq 27 (.pick (.t 23) (.k (.d (.bool true))) (.t 26))] [20, 21, 22, 23, 24, 25, 26]
(.cond (.t 27) (sr [
tq 28 (cl n_law05_awake []),
mq 6 28] [28]
.ret)
 .skip))
(sr [
mq 30 1,
tq 31 (cl n_priority_Parse [.t 30]),
mq 29 31,
xq 32 29 0,
xq 33 29 1,
xq 34 29 2,
tq 7 (.alloc ty_priority_Program [.z (.list 0 []), .z (.int .i64 0), .z (.int .i64 0), .z (.int .i64 0)]),
⟨none, none, .store 4 (.t 7) (.t 32)⟩,
mq 8 33,
mq 9 34] [8, 29, 30, 31, 32, 33, 34]
(.seq (sr [
mq 35 9,
tq 36 (.bin .eql (.t 35) (kq 0))] [9, 35]
(.cond (.t 36) (sr [
lq 38 4 7,
tq 39 (cl n_priority_Print [.t 38]),
mq 37 39,
xq 40 37 0,
xq 41 37 1,
mq 10 40,
mq 11 41] [7, 37, 38, 39, 40, 41]
(sr [
mq 42 11,
tq 43 (.bin .neq (.t 42) (kq 0)),
mq 44 43,
gq 45 44 false (.mv (.t 10)),
gq 46 44 false (.mv (.t 1)),
gq 47 44 false (.bin .neq (.t 45) (.t 46)),
tq 48 (.pick (.t 44) (.k (.d (.bool true))) (.t 47))] [1, 10, 11, 42, 43, 44, 45, 46, 47]
(.cond (.t 48) (sr [
tq 6 (.mv (.k (.d (.bool false))))] []
.ret)
 .skip)))
 .skip))
(.seq (sr [
lq 49 4 3,
tq 50 (cl n_ref05_CheckProgram [.t 49]),
tq 51 (.bin .neq (.t 50) (kq 0))] [49, 50]
(.cond (.t 51) (sr [
tq 52 (cl n_law05_awake []),
mq 6 52] [52]
.ret)
 .skip))
(sr [
lq 54 4 3,
tq 55 (cl n_law05_program [.t 54]),
tq 56 (cl n_priority_Print [.t 55]),
mq 53 56,
xq 57 53 0,
xq 58 53 1,
mq 12 57,
mq 13 58] [53, 54, 55, 56, 57, 58]
(sr [
mq 60 12,
tq 61 (cl n_priority_Parse [.t 60]),
mq 59 61,
xq 62 59 0,
xq 63 59 1,
xq 64 59 2,
tq 14 (.alloc ty_priority_Program [.z (.list 0 []), .z (.int .i64 0), .z (.int .i64 0), .z (.int .i64 0)]),
⟨none, none, .store 4 (.t 14) (.t 62)⟩,
mq 15 63,
mq 16 64] [59, 60, 61, 62, 63, 64]
(.seq (.seq (.reg true [
mq 65 13,
tq 66 (.bin .neq (.t 65) (kq 0)),
mq 67 66,
gq 68 67 false (.mv (.t 16)),
gq 69 67 false (.bin .neq (.t 68) (kq 0)),
tq 70 (.pick (.t 67) (.k (.d (.bool true))) (.t 69)),
mq 71 70,
gq 72 71 false (.mv (.t 15)),
gq 73 71 false (.bin .neq (.t 72) (kq 0)),
tq 74 (.pick (.t 71) (.k (.d (.bool true))) (.t 73)),
mq 75 74,
gq 76 75 false (.load (some 4) (.t 14)),
gq 77 75 false (cl n_law05_own [.t 76]),
gq 78 75 false (.load (some 4) (.t 3)),
gq 79 75 false (cl n_ref05_Same [.t 77, .t 78]),
gq 80 75 false (.un .not (.t 79)),
tq 81 (.pick (.t 75) (.k (.d (.bool true))) (.t 80)),
mq 82 81,
gq 83 82 false (.mv (.t 12)),
gq 84 82 false (.len .str (.t 83)),
gq 85 82 false (.bin .lss (.t 84) (kq 10)),
tq 86 (.pick (.t 82) (.k (.d (.bool true))) (.t 85)),
mq 87 86,
gq 88 87 false (.mv (.t 12)),
gq 89 87 false (.len .str (.t 88)),
gq 90 87 false (.bin .gtr (.t 89) (kq 4096)),
tq 91 (.pick (.t 87) (.k (.d (.bool true))) (.t 90))] [3, 13, 14, 15, 16, 65, 66, 67, 68, 69, 70, 71, 72, 73, 74, 75, 76, 77, 78, 79, 80, 81, 82, 83, 84, 85, 86, 87, 88, 89, 90])
(.cond (.t 91) (sr [
tq 6 (.mv (.k (.d (.bool false))))] []
.ret)
 .skip))
(sr [
mq 93 12,
mq 94 2,
tq 95 (.conv .i64 (.t 94)),
mq 96 12,
tq 97 (.len .str (.t 96)),
tq 98 (.bin .rem (.t 95) (.t 97)),
tq 99 (.sliceS (.t 93) none (some (.t 98))),
tq 100 (cl n_priority_Parse [.t 99]),
mq 92 100,
xq 101 92 0,
xq 102 92 1,
xq 103 92 2,
tq 17 (.alloc ty_priority_Program [.z (.list 0 []), .z (.int .i64 0), .z (.int .i64 0), .z (.int .i64 0)]),
⟨none, none, .store 4 (.t 17) (.t 101)⟩,
mq 18 102,
mq 19 103] [2, 12, 17, 18, 92, 93, 94, 95, 96, 97, 98, 99, 100, 101, 102, 103]
(sr [
mq 104 19,
tq 105 (.bin .neq (.t 104) (kq 0)),
mq 106 105,
gq 107 106 true (cl n_law05_awake []),
tq 108 (.pick (.t 106) (.t 107) (.k (.d (.bool false)))),
mq 6 108] [19, 104, 105, 106, 107, 108]
.ret))))))))))⟩

def c_law05_awake : CF := ⟨[.tmp 0],
  (sr [
tq 0 (.mv (.k (.d (.bool false))))] [0]
(sr [
tq 38 (cl n_priority_Default []),
tq 1 (.alloc ty_priority_Program [.z (.list 0 []), .z (.int .i64 0), .z (.int .i64 0), .z (.int .i64 0)]),
⟨none, none, .store 4 (.t 1) (.t 38)⟩] [38]
(sr [
lq 40 4 1,
tq 41 (cl n_priority_Print [.t 40]),
mq 39 41,
xq 42 39 0,
xq 43 39 1,
mq 2 42,
mq 3 43] [39, 40, 41, 42, 43]
(sr [
tq 45 (cl n_priority_Parse [.k (.d (.str [99, 108, 97, 115, 115, 32, 104, 105, 115, 116, 111, 114, 105, 99, 32, 119, 104, 101, 110, 32, 104, 105, 115, 116, 111, 114, 105, 99, 61, 49, 32, 114, 101, 116, 105, 109, 101, 100, 61, 48, 32, 98, 121, 32, 100, 97, 121, 115, 45, 32, 115, 101, 97, 116, 115, 45, 10, 99, 108, 97, 115, 115, 32, 114, 101, 116, 105, 109, 101, 100, 32, 119, 104, 101, 110, 32, 104, 105, 115, 116, 111, 114, 105, 99, 61, 49, 32, 98, 121, 32, 100, 97, 121, 115, 45, 32, 115, 101, 97, 116, 115, 45, 10, 99, 108, 97, 115, 115, 32, 121, 101, 97, 114, 114, 111, 117, 110, 100, 32, 119, 104, 101, 110, 32, 121, 101, 97, 114, 114, 111, 117, 110, 100, 61, 49, 32, 98, 121, 32, 100, 97, 121, 115, 45, 32, 115, 101, 97, 116, 115, 45, 32, 100, 105, 115, 116, 97, 110, 99, 101, 45, 10, 99, 108, 97, 115, 115, 32, 111, 116, 104, 101, 114, 115, 32, 98, 121, 32, 100, 97, 121, 115, 45, 32, 115, 101, 97, 116, 115, 45, 32, 100, 105, 115, 116, 97, 110, 99, 101, 45, 10, 112, 111, 111, 108, 32, 50, 32, 115, 104, 97, 114, 101, 32, 49, 32, 111, 102, 32, 50, 10]))]),
mq 44 45,
xq 46 44 0,
xq 47 44 1,
xq 48 44 2,
tq 4 (.alloc ty_priority_Program [.z (.list 0 []), .z (.int .i64 0), .z (.int .i64 0), .z (.int .i64 0)]),
⟨none, none, .store 4 (.t 4) (.t 46)⟩,
mq 5 47,
mq 6 48] [5, 44, 45, 46, 47, 48]
(sr [
tq 49 (cl n_law05_sample [.k (.d (.str [104])), kq 90]),
tq 50 (cl n_law05_sample [.k (.d (.str [99])), kq 180]),
tq 51 (cl n_law05_sample [.k (.d (.str [100])), kq 150]),
tq 52 (cl n_law05_sample [.k (.d (.str [98])), kq 100]),
tq 53 (cl n_law05_sample [.k (.d (.str [101])), kq 90]),
tq 7 (.alloc ty_priority_Claim [.z (.str []), .z (.str []), .z (.str []), .z (.str []), .z (.str []), .z (.str []), .z (.int .i64 0), .z (.int .i64 0), .z (.int .i64 0), .z (.int .i64 0), .z (.int .i64 0), .z (.int .i64 0), .z (.int .i64 0), .z (.bool false), .z (.bool false), .z (.bool false), .z (.bool false), .z (.int .i64 0)]),
tq 8 (.alloc ty_priority_Claim [.z (.str []), .z (.str []), .z (.str []), .z (.str []), .z (.str []), .z (.str []), .z (.int .i64 0), .z (.int .i64 0), .z (.int .i64 0), .z (.int .i64 0), .z (.int .i64 0), .z (.int .i64 0), .z (.int .i64 0), .z (.bool false), .z (.bool false), .z (.bool false), .z (.bool false), .z (.int .i64 0)]),
tq 9 (.alloc ty_priority_Claim [.z (.str []), .z (.str []), .z (.str []), .z (.str []), .z (.str []), .z (.str []), .z (.int .i64 0), .z (.int .i64 0), .z (.int .i64 0), .z (.int .i64 0), .z (.int .i64 0), .z (.int .i64 0), .z (.int .i64 0), .z (.bool false), .z (.bool false), .z (.bool false), .z (.bool false), .z (.int .i64 0)]),
tq 10 (.alloc ty_priority_Claim [.z (.str []), .z (.str []), .z (.str []), .z (.str []), .z (.str []), .z (.str []), .z (.int .i64 0), .z (.int .i64 0), .z (.int .i64 0), .z (.int .i64 0), .z (.int .i64 0), .z (.int .i64 0), .z (.int .i64 0), .z (.bool false), .z (.bool false), .z (.bool false), .z (.bool false), .z (.int .i64 0)]),
tq 11 (.alloc ty_priority_Claim [.z (.str []), .z (.str []), .z (.str []), .z (.str []), .z (.str []), .z (.str []), .z (.int .i64 0), .z (.int .i64 0), .z (.int .i64 0), .z (.int .i64 0), .z (.int .i64 0), .z (.int .i64 0), .z (.int .i64 0), .z (.bool false), .z (.bool false), .z (.bool false), .z (.bool false), .z (.int .i64 0)]),
⟨none, none, .store 18 (.t 7) (.t 49)⟩,
⟨none, none, .store 18 (.t 8) (.t 50)⟩,
⟨none, none, .store 18 (.t 9) (.t 51)⟩,
⟨none, none, .store 18 (.t 10) (.t 52)⟩,
⟨none, none, .store 18 (.t 11) (.t 53)⟩] [49, 50, 51, 52, 53]
(sr [
fa 54 13 7,
⟨none, none, .store 1 (.t 54) (.k (.d (.bool true)))⟩,
fa 55 15 9,
⟨none, none, .store 1 (.t 55) (.k (.d (.bool true)))⟩,
fa 56 15 10,
⟨none, none, .store 1 (.t 56) (.k (.d (.bool true)))⟩] [54, 55, 56]
(sr [
lq 57 18 7,
tq 12 (.alloc ty_priority_Claim [.z (.str []), .z (.str []), .z (.str []), .z (.str []), .z (.str []), .z (.str []), .z (.int .i64 0), .z (.int .i64 0), .z (.int .i64 0), .z (.int .i64 0), .z (.int .i64 0), .z (.int .i64 0), .z (.int .i64 0), .z (.bool false), .z (.bool false), .z (.bool false), .z (.bool false), .z (.int .i64 0)]),
⟨none, none, .store 18 (.t 12) (.t 57)⟩] [57]
(sr [
fa 58 14 12,
⟨none, none, .store 1 (.t 58) (.k (.d (.bool true)))⟩] [58]
(sr [
lq 60 4 1,
lq 61 18 12,
tq 62 (cl n_priority_ClassOf [.t 60, .t 61]),
mq 59 62,
xq 63 59 0,
xq 64 59 1,
mq 13 63,
mq 14 64] [12, 59, 60, 61, 62, 63, 64]
(sr [
lq 66 4 1,
lq 67 18 8,
tq 68 (cl n_priority_ClassOf [.t 66, .t 67]),
mq 65 68,
xq 69 65 0,
xq 70 65 1,
mq 15 69,
mq 16 70] [65, 66, 67, 68, 69, 70]
(sr [
lq 71 18 7,
lq 72 18 8,
lq 73 18 9,
lq 74 18 10,
lq 75 18 11,
tq 76 (.mkList 18 5 [.t 71, .t 72, .t 73, .t 74, .t 75]),
mq 17 76] [7, 9, 10, 11, 71, 72, 73, 74, 75, 76]
(sr [
lq 78 4 1,
mq 79 17,
tq 80 (cl n_priority_Rank [.t 78, kq 5, .t 79]),
mq 77 80,
xq 81 77 0,
xq 82 77 1,
mq 18 81,
mq 19 82] [77, 78, 79, 80, 81, 82]
(sr [
lq 84 4 1,
mq 85 17,
tq 86 (cl n_priority_Why [.t 84, kq 5, .t 85]),
mq 83 86,
xq 87 83 0,
xq 88 83 1,
mq 20 87,
mq 21 88] [17, 83, 84, 85, 86, 87, 88]
(.seq (.seq (.reg true [
mq 89 3,
tq 90 (.bin .neq (.t 89) (kq 0)),
mq 91 90,
gq 92 91 false (.mv (.t 2)),
gq 93 91 false (.bin .neq (.t 92) (.k (.d (.str [99, 108, 97, 115, 115, 32, 104, 105, 115, 116, 111, 114, 105, 99, 32, 119, 104, 101, 110, 32, 104, 105, 115, 116, 111, 114, 105, 99, 61, 49, 32, 114, 101, 116, 105, 109, 101, 100, 61, 48, 32, 98, 121, 32, 100, 97, 121, 115, 45, 32, 115, 101, 97, 116, 115, 45, 10, 99, 108, 97, 115, 115, 32, 114, 101, 116, 105, 109, 101, 100, 32, 119, 104, 101, 110, 32, 104, 105, 115, 116, 111, 114, 105, 99, 61, 49, 32, 98, 121, 32, 100, 97, 121, 115, 45, 32, 115, 101, 97, 116, 115, 45, 10, 99, 108, 97, 115, 115, 32, 121, 101, 97, 114, 114, 111, 117, 110, 100, 32, 119, 104, 101, 110, 32, 121, 101, 97, 114, 114, 111, 117, 110, 100, 61, 49, 32, 98, 121, 32, 100, 97, 121, 115, 45, 32, 115, 101, 97, 116, 115, 45, 32, 100, 105, 115, 116, 97, 110, 99, 101, 45, 10, 99, 108, 97, 115, 115, 32, 111, 116, 104, 101, 114, 115, 32, 98, 121, 32, 100, 97, 121, 115, 45, 32, 115, 101, 97, 116, 115, 45, 32, 100, 105, 115, 116, 97, 110, 99, 101, 45, 10, 112, 111, 111, 108, 32, 50, 32, 115, 104, 97, 114, 101, 32, 49, 32, 111, 102, 32, 50, 10])))),
tq 94 (.pick (.t 91) (.k (.d (.bool true))) (.t 93)),
mq 95 94,
gq 96 95 false (.mv (.t 6)),
gq 97 95 false (.bin .neq (.t 96) (kq 0)),
tq 98 (.pick (.t 95) (.k (.d (.bool true))) (.t 97)),
mq 99 98,
gq 100 99 false (.load (some 4) (.t 4)),
gq 101 99 false (cl n_law05_own [.t 100]),
gq 102 99 false (.load (some 4) (.t 1)),
gq 103 99 false (cl n_law05_own [.t 102]),
gq 104 99 false (cl n_ref05_Same [.t 101, .t 103]),
gq 105 99 false (.un .not (.t 104)),
tq 106 (.pick (.t 99) (.k (.d (.bool true))) (.t 105)),
mq 107 106,
gq 108 107 false (.mv (.t 14)),
gq 109 107 false (.mv (.t 16)),
gq 110 107 false (.bin .add (.t 108) (.t 109)),
gq 111 107 false (.bin .neq (.t 110) (kq 0)),
tq 112 (.pick (.t 107) (.k (.d (.bool true))) (.t 111)),
mq 113 112,
gq 114 113 false (.mv (.t 13)),
gq 115 113 false (.bin .neq (.t 114) (kq 1)),
tq 116 (.pick (.t 113) (.k (.d (.bool true))) (.t 115)),
mq 117 116,
gq 118 117 false (.mv (.t 15)),
gq 119 117 false (.bin .neq (.t 118) (kq 3)),
tq 120 (.pick (.t 117) (.k (.d (.bool true))) (.t 119)),
mq 121 120,
gq 122 121 false (.mv (.t 19)),
gq 123 121 false (.bin .neq (.t 122) (kq 0)),
tq 124 (.pick (.t 121) (.k (.d (.bool true))) (.t 123)),
mq 125 124,
gq 126 125 false (.mv (.t 18)),
gq 127 125 false (.mkList 1 5 [kq 0, kq 2, kq 1, kq 3, kq 4]),
gq 128 125 false (cl n_ref01_SameInts [.t 126, .t 127]),
gq 129 125 false (.un .not (.t 128)),
tq 130 (.pick (.t 125) (.k (.d (.bool true))) (.t 129)),
mq 131 130,
gq 132 131 false (.mv (.t 21)),
gq 133 131 false (.bin .neq (.t 132) (kq 0)),
tq 134 (.pick (.t 131) (.k (.d (.bool true))) (.t 133)),
mq 135 134,
gq 136 135 false (.mv (.t 20)),
gq 137 135 false (.mkList 1 4 [.k (.d (.str [99, 108, 97, 115, 115])), .k (.d (.str [115, 104, 97, 114, 101])), .k (.d (.str [115, 101, 97, 116, 115])), .k (.d (.str [115, 101, 97, 116, 115]))]),
gq 138 135 false (cl n_ref01_SameWords [.t 136, .t 137]),
gq 139 135 false (.un .not (.t 138)),
tq 140 (.pick (.t 135) (.k (.d (.bool true))) (.t 139))] [1, 2, 3, 4, 6, 13, 14, 15, 16, 18, 19, 20, 21, 89, 90, 91, 92, 93, 94, 95, 96, 97, 98, 99, 100, 101, 102, 103, 104, 105, 106, 107, 108, 109, 110, 111, 112, 113, 114, 115, 116, 117, 118, 119, 120, 121, 122, 123, 124, 125, 126, 127, 128, 129, 130, 131, 132, 133, 134, 135, 136, 137, 138, 139])
(.cond (.t 140) (sr [
tq 0 (.mv (.k (.d (.bool false))))] []
.ret)
 .skip))
(sr [
tq 142 (.mkList 1 5 [.k (.d (.bool false)), .k (.d (.bool true)), .k (.d (.bool false)), .k (.d (.bool true)), .k (.d (.bool true))]),
tq 143 (cl n_priority_Interleave [kq 3, kq 2, .t 142]),
mq 141 143,
xq 144 141 0,
xq 145 141 1,
mq 22 144,
mq 23 145] [141, 142, 143, 144, 145]
(sr [
tq 146 (cl n_law05_sample [.k (.d (.str [120])), kq 1]),
tq 147 (cl n_law05_sample [.k (.d (.str [121])), kq 1]),
tq 24 (.alloc ty_priority_Claim [.z (.str []), .z (.str []), .z (.str []), .z (.str []), .z (.str []), .z (.str []), .z (.int .i64 0), .z (.int .i64 0), .z (.int .i64 0), .z (.int .i64 0), .z (.int .i64 0), .z (.int .i64 0), .z (.int .i64 0), .z (.bool false), .z (.bool false), .z (.bool false), .z (.bool false), .z (.int .i64 0)]),
tq 25 (.alloc ty_priority_Claim [.z (.str []), .z (.str []), .z (.str []), .z (.str []), .z (.str []), .z (.str []), .z (.int .i64 0), .z (.int .i64 0), .z (.int .i64 0), .z (.int .i64 0), .z (.int .i64 0), .z (.int .i64 0), .z (.int .i64 0), .z (.bool false), .z (.bool false), .z (.bool false), .z (.bool false), .z (.int .i64 0)]),
⟨none, none, .store 18 (.t 24) (.t 146)⟩,
⟨none, none, .store 18 (.t 25) (.t 147)⟩] [146, 147]
(sr [
lq 149 18 24,
lq 150 18 25,
tq 151 (.mkList 18 2 [.t 149, .t 150]),
tq 152 (cl n_priority_Lots [kq 2, .t 151]),
mq 148 152,
xq 153 148 0,
xq 154 148 1,
mq 26 153,
mq 27 154] [24, 25, 148, 149, 150, 151, 152, 153, 154]
(sr [
tq 156 (cl n_priority_Parse [.k (.d (.str [99, 108, 97, 115, 115, 32, 97, 32, 98, 121, 32, 115, 101, 97, 116, 115, 10]))]),
mq 155 156,
xq 157 155 0,
xq 158 155 1,
xq 159 155 2,
tq 28 (.alloc ty_priority_Program [.z (.list 0 []), .z (.int .i64 0), .z (.int .i64 0), .z (.int .i64 0)]),
⟨none, none, .store 4 (.t 28) (.t 157)⟩,
mq 29 158,
mq 30 159] [28, 155, 156, 157, 158, 159]
(sr [
tq 161 (cl n_priority_Parse [.k (.d (.str [99, 108, 97, 115, 115, 32, 97, 32, 98, 121, 32, 115, 101, 97, 116, 115, 45, 10]))]),
mq 160 161,
xq 162 160 0,
xq 163 160 1,
xq 164 160 2,
tq 31 (.alloc ty_priority_Program [.z (.list 0 []), .z (.int .i64 0), .z (.int .i64 0), .z (.int .i64 0)]),
⟨none, none, .store 4 (.t 31) (.t 162)⟩,
mq 32 163,
mq 33 164] [31, 160, 161, 162, 163, 164]
(sr [
lq 166 18 8,
tq 167 (cl n_priority_Fact [.t 166, .k (.d (.str [100, 97, 121, 115]))]),
mq 165 167,
xq 168 165 0,
xq 169 165 1,
mq 34 168,
mq 35 169] [165, 166, 167, 168, 169]
(sr [
tq 171 (cl n_priority_Newcomer [.k (.d (.str [97, 98])), kq 8900, .k (.d (.list 0 []))]),
mq 170 171,
xq 172 170 0,
xq 173 170 1,
mq 36 172,
mq 37 173] [170, 171, 172, 173]
(sr [
mq 174 23,
tq 175 (.bin .eql (.t 174) (kq 0)),
mq 176 175,
gq 177 176 true (.mv (.t 22)),
gq 178 176 true (.mkList 1 5 [kq 1, kq 3, kq 0, kq 4, kq 2]),
gq 179 176 true (cl n_ref01_SameInts [.t 177, .t 178]),
tq 180 (.pick (.t 176) (.t 179) (.k (.d (.bool false)))),
mq 181 180,
gq 182 181 true (.mv (.t 27)),
gq 183 181 true (.bin .eql (.t 182) (kq 0)),
tq 184 (.pick (.t 181) (.t 183) (.k (.d (.bool false)))),
mq 185 184,
gq 186 185 true (.mv (.t 26)),
gq 187 185 true (.mkList 1 2 [kq 1, kq 0]),
gq 188 185 true (cl n_ref01_SameInts [.t 186, .t 187]),
tq 189 (.pick (.t 185) (.t 188) (.k (.d (.bool false)))),
mq 190 189,
gq 191 190 true (.mv (.t 29)),
gq 192 190 true (.bin .eql (.t 191) (kq 0)),
tq 193 (.pick (.t 190) (.t 192) (.k (.d (.bool false)))),
mq 194 193,
gq 195 194 true (.mv (.t 30)),
gq 196 194 true (.bin .eql (.t 195) (kq 25)),
tq 197 (.pick (.t 194) (.t 196) (.k (.d (.bool false)))),
mq 198 197,
gq 199 198 true (.mv (.t 32)),
gq 200 198 true (.bin .eql (.t 199) (kq 1)),
tq 201 (.pick (.t 198) (.t 200) (.k (.d (.bool false)))),
mq 202 201,
gq 203 202 true (.mv (.t 33)),
gq 204 202 true (.bin .eql (.t 203) (kq 28)),
tq 205 (.pick (.t 202) (.t 204) (.k (.d (.bool false)))),
mq 206 205,
gq 207 206 true (.mv (.t 35)),
gq 208 206 true (.bin .eql (.t 207) (kq 0)),
tq 209 (.pick (.t 206) (.t 208) (.k (.d (.bool false)))),
mq 210 209,
gq 211 210 true (.mv (.t 34)),
gq 212 210 true (.fieldAddr 0 (.t 8)),
gq 213 210 true (.fieldAddr 6 (.t 212)),
gq 214 210 true (.load (some 3) (.t 213)),
gq 215 210 true (cl n_ref01_DaysOf [.t 214]),
gq 216 210 true (.len .slc (.t 215)),
gq 217 210 true (.bin .eql (.t 211) (.t 216)),
tq 218 (.pick (.t 210) (.t 217) (.k (.d (.bool false)))),
mq 219 218,
gq 220 219 true (.mv (.t 37)),
gq 221 219 true (.bin .eql (.t 220) (kq 0)),
tq 222 (.pick (.t 219) (.t 221) (.k (.d (.bool false)))),
mq 223 222,
gq 224 223 true (.mv (.t 36)),
tq 225 (.pick (.t 223) (.t 224) (.k (.d (.bool false)))),
mq 0 225] [8, 22, 23, 26, 27, 29, 30, 32, 33, 34, 35, 36, 37, 174, 175, 176, 177, 178, 179, 180, 181, 182, 183, 184, 185, 186, 187, 188, 189, 190, 191, 192, 193, 194, 195, 196, 197, 198, 199, 200, 201, 202, 203, 204, 205, 206, 207, 208, 209, 210, 211, 212, 213, 214, 215, 216, 217, 218, 219, 220, 221, 222, 223, 224, 225]
.ret))))))))))))))))))))))⟩

def b_priority_Parse_1 : C :=
  (sr [
tq 33 (.bin .lss (.t 32) (.t 31))] []
(.seq (.cond (.t 33) .skip
 (.exit 0))
(.seq (.block 1 (sr [
mq 34 32,
tq 35 (.idxAddr 1 (.t 30) (.t 32)),
ld 36 35,
mq 7 34,
mq 8 36] [34, 35, 36]
(sr [
lq 38 4 6,
mq 39 8,
tq 40 (.call true false (.k (.fn n_priority_Program_line [] [])) [.t 38, .t 39]),
mq 37 40,
xq 41 37 0,
xq 42 37 1,
xq 43 37 2,
tq 9 (.alloc ty_priority_Program [.own ⟨true, ty_priority_Class, 3, 64⟩, .z (.int .i64 0), .z (.int .i64 0), .z (.int .i64 0)]),
⟨none, none, .store 4 (.t 9) (.t 41)⟩,
mq 10 42,
mq 11 43] [8, 37, 38, 39, 40, 41, 42, 43]
(.seq (sr [
mq 44 11,
tq 45 (.bin .neq (.t 44) (kq 0))] [44]
(.cond (.t 45) (sr [
tq 46 (.build [.own ⟨true, ty_priority_Class, 3, 64⟩, .z (.int .i64 0), .z (.int .i64 0), .z (.int .i64 0)] []),
mq 47 7,
mq 48 11,
⟨none, none, .store 4 (.t 2) (.t 46)⟩,
mq 3 47,
mq 4 48] [7, 11, 46, 47, 48]
.ret)
 .skip))
(.seq (sr [
mq 49 10,
mq 50 49,
gq 51 50 true (.mv (.t 7)),
gq 52 50 true (.bin .add (.t 51) (kq 1)),
gq 53 50 true (.mv (.t 5)),
gq 54 50 true (.len .slc (.t 53)),
gq 55 50 true (.bin .lss (.t 52) (.t 54)),
tq 56 (.pick (.t 50) (.t 55) (.k (.d (.bool false))))] [49, 50, 51, 52, 53, 54, 55]
(.cond (.t 56) (sr [
tq 57 (.build [.own ⟨true, ty_priority_Class, 3, 64⟩, .z (.int .i64 0), .z (.int .i64 0), .z (.int .i64 0)] []),
mq 58 7,
tq 59 (.bin .add (.t 58) (kq 1)),
⟨none, none, .store 4 (.t 2) (.t 57)⟩,
mq 3 59,
tq 4 (.mv (kq 25))] [7, 57, 58, 59]
.ret)
 .skip))
(.seq (sr [
mq 60 10] [10]
(.cond (.t 60) (sr [
lq 61 4 9,
⟨none, none, .store 4 (.t 2) (.t 61)⟩,
tq 3 (.mv (kq 0)),
tq 4 (.mv (kq 0))] [9, 61]
.ret)
 .skip))
(rg [
lq 62 4 9,
⟨none, none, .store 4 (.t 6) (.t 62)⟩] [9, 62])))))))
(rg [
tq 63 (.bin .add (.t 32) (kq 1)),
mq 32 63] [63]))))

def c_priority_Parse : CF := ⟨[.cell 2 (some 4), .tmp 3, .tmp 4],
  (sr [
tq 2 (.alloc ty_priority_Program [.own ⟨true, ty_priority_Class, 3, 64⟩, .z (.int .i64 0), .z (.int .i64 0), .z (.int .i64 0)]),
tq 3 (.mv (kq 0)),
tq 4 (.mv (kq 0))] [3, 4]
(.seq (sr [
mq 12 0,
tq 13 (.len .str (.t 12)),
tq 14 (.bin .gtr (.t 13) (kq 4096))] [12, 13]
(.cond (.t 14) (sr [
tq 15 (.build [.own ⟨true, ty_priority_Class, 3, 64⟩, .z (.int .i64 0), .z (.int .i64 0), .z (.int .i64 0)] []),
⟨none, none, .store 4 (.t 2) (.t 15)⟩,
tq 3 (.mv (kq 0)),
tq 4 (.mv (kq 26))] [15]
.ret)
 .skip))
(sr [
mq 16 0,
tq 17 (cl n_strings_SplitAfter [.t 16, .k (.d (.str [10]))]),
mq 5 17] [0, 16, 17]
(.seq (sr [
mq 18 5,
mq 19 5,
tq 20 (.len .slc (.t 19)),
tq 21 (.bin .sub (.t 20) (kq 1)),
tq 22 (.idxAddr 1 (.t 18) (.t 21)),
ld 23 22,
tq 24 (.bin .eql (.t 23) (.k (.d (.str []))))] [18, 19, 20, 21, 22, 23]
(.cond (.t 24) (rg [
mq 25 5,
mq 26 5,
tq 27 (.len .slc (.t 26)),
tq 28 (.bin .sub (.t 27) (kq 1)),
tq 29 (.slice 1 (.t 25) none (some (.t 28)) none),
mq 5 29] [25, 26, 27, 28, 29])
 .skip))
(sr [
tq 6 (.alloc ty_priority_Program [.own ⟨true, ty_priority_Class, 3, 64⟩, .z (.int .i64 0), .z (.int .i64 0), .z (.int .i64 0)])] []
(.seq (sr [
mq 30 5,
tq 31 (.len .slc (.t 30)),
tq 32 (.mv (kq 0))] []
(.block 0 (.loop [2, 5, 6, 30, 31, 32] b_priority_Parse_1)))
(sr [
tq 64 (.build [.own ⟨true, ty_priority_Class, 3, 64⟩, .z (.int .i64 0), .z (.int .i64 0), .z (.int .i64 0)] []),
mq 65 5,
tq 66 (.len .slc (.t 65)),
⟨none, none, .store 4 (.t 2) (.t 64)⟩,
mq 3 66,
tq 4 (.mv (kq 28))] [5, 64, 65, 66]
.ret)))))))⟩

def b_ref05_Same_1 : C :=
  (.seq (sr [
mq 78 8,
fa 79 1 6,
ld 80 79,
tq 81 (.len .slc (.t 80)),
tq 82 (.bin .lss (.t 78) (.t 81))] [78, 79, 80, 81]
(.cond (.t 82) .skip
 (.exit 2)))
(.seq (.block 3 (.seq (.reg true [
fa 85 1 6,
ld 86 85,
mq 87 8,
tq 88 (.idxAddr 3 (.t 86) (.t 87)),
lq 89 3 88,
fa 90 1 7,
ld 91 90,
mq 92 8,
tq 93 (.idxAddr 3 (.t 91) (.t 92)),
lq 94 3 93,
tq 95 (.eqv (some [.str, .str, .int]) true (.t 89) (.t 94))] [85, 86, 87, 88, 89, 90, 91, 92, 93, 94])
(.cond (.t 95) (sr [
tq 4 (.mv (.k (.d (.bool false))))] []
.ret)
 .skip)))
(rg [
mq 83 8,
tq 84 (.bin .add (.t 83) (kq 1)),
mq 8 84] [83, 84])))

def b_ref05_Same_2 : C :=
  (.seq (sr [
mq 96 9,
fa 97 2 6,
ld 98 97,
tq 99 (.len .slc (.t 98)),
tq 100 (.bin .lss (.t 96) (.t 99))] [96, 97, 98, 99]
(.cond (.t 100) .skip
 (.exit 4)))
(.seq (.block 5 (.seq (.reg true [
fa 103 2 6,
ld 104 103,
mq 105 9,
tq 106 (.idxAddr 2 (.t 104) (.t 105)),
lq 107 2 106,
fa 108 2 7,
ld 109 108,
mq 110 9,
tq 111 (.idxAddr 2 (.t 109) (.t 110)),
lq 112 2 111,
tq 113 (.eqv (some [.str, .bool]) true (.t 107) (.t 112))] [103, 104, 105, 106, 107, 108, 109, 110, 111, 112])
(.cond (.t 113) (sr [
tq 4 (.mv (.k (.d (.bool false))))] []
.ret)
 .skip)))
(rg [
mq 101 9,
tq 102 (.bin .add (.t 101) (kq 1)),
mq 9 102] [101, 102])))

def b_ref05_Same_3 : C :=
  (.seq (sr [
mq 38 5,
fa 39 0 2,
ld 40 39,
tq 41 (.len .slc (.t 40)),
tq 42 (.bin .lss (.t 38) (.t 41))] [38, 39, 40, 41]
(.cond (.t 42) .skip
 (.exit 0)))
(.seq (.block 1 (.seq (.reg true [
fa 45 0 2,
ld 46 45,
mq 47 5,
tq 48 (.idxAddr 3 (.t 46) (.t 47)),
lq 49 3 48,
fa 50 0 3,
ld 51 50,
mq 52 5,
tq 53 (.idxAddrD 3 (.t 51) (.t 52)),
tq 54 (.loadD (some 3) (.t 53)),
tq 6 (.alloc ty_turnroundref05_Class [.z (.str []), .z (.list 0 []), .z (.list 0 [])]),
tq 7 (.alloc ty_turnroundref05_Class [.z (.str []), .z (.list 0 []), .z (.list 0 [])]),
⟨none, none, .storeR 3 (.t 6) (.t 49) [3]⟩,
⟨none, none, .store 3 (.t 7) (.t 54)⟩] [45, 46, 47, 48, 49, 50, 51, 52, 53, 54])
(.seq (sr [
fa 55 0 6,
ld 56 55,
fa 57 0 7,
ld 58 57,
tq 59 (.bin .neq (.t 56) (.t 58)),
mq 60 59,
gq 61 60 false (.fieldAddr 1 (.t 6)),
gq 62 60 false (.load none (.t 61)),
gq 63 60 false (.len .slc (.t 62)),
gq 64 60 false (.fieldAddr 1 (.t 7)),
gq 65 60 false (.load none (.t 64)),
gq 66 60 false (.len .slc (.t 65)),
gq 67 60 false (.bin .neq (.t 63) (.t 66)),
tq 68 (.pick (.t 60) (.k (.d (.bool true))) (.t 67)),
mq 69 68,
gq 70 69 false (.fieldAddr 2 (.t 6)),
gq 71 69 false (.load none (.t 70)),
gq 72 69 false (.len .slc (.t 71)),
gq 73 69 false (.fieldAddr 2 (.t 7)),
gq 74 69 false (.load none (.t 73)),
gq 75 69 false (.len .slc (.t 74)),
gq 76 69 false (.bin .neq (.t 72) (.t 75)),
tq 77 (.pick (.t 69) (.k (.d (.bool true))) (.t 76))] [55, 56, 57, 58, 59, 60, 61, 62, 63, 64, 65, 66, 67, 68, 69, 70, 71, 72, 73, 74, 75, 76]
(.cond (.t 77) (sr [
tq 4 (.mv (.k (.d (.bool false))))] []
.ret)
 .skip))
(.seq (sr [
tq 8 (.mv (kq 0))] []
(.block 2 (.loop [2, 3, 5, 6, 7, 8] b_ref05_Same_1)))
(sr [
tq 9 (.mv (kq 0))] []
(.block 4 (.loop [2, 3, 5, 6, 7, 9] b_ref05_Same_2)))))))
(rg [
mq 43 5,
tq 44 (.bin .add (.t 43) (kq 1)),
mq 5 44] [43, 44])))

def c_ref05_Same : CF := ⟨[.tmp 4],
  (sr [
tq 2 (.box ty_turnroundref05_Program (.t 0)),
tq 3 (.box ty_turnroundref05_Program (.t 1)),
tq 4 (.mv (.k (.d (.bool false))))] [0, 1, 4]
(.seq (sr [
fa 10 1 2,
ld 11 10,
fa 12 1 3,
ld 13 12,
tq 14 (.bin .neq (.t 11) (.t 13)),
mq 15 14,
gq 16 15 false (.fieldAddr 2 (.t 2)),
gq 17 15 false (.load none (.t 16)),
gq 18 15 false (.fieldAddr 2 (.t 3)),
gq 19 15 false (.load none (.t 18)),
gq 20 15 false (.bin .neq (.t 17) (.t 19)),
tq 21 (.pick (.t 15) (.k (.d (.bool true))) (.t 20)),
mq 22 21,
gq 23 22 false (.fieldAddr 3 (.t 2)),
gq 24 22 false (.load none (.t 23)),
gq 25 22 false (.fieldAddr 3 (.t 3)),
gq 26 22 false (.load none (.t 25)),
gq 27 22 false (.bin .neq (.t 24) (.t 26)),
tq 28 (.pick (.t 22) (.k (.d (.bool true))) (.t 27)),
mq 29 28,
gq 30 29 false (.fieldAddr 0 (.t 2)),
gq 31 29 false (.load none (.t 30)),
gq 32 29 false (.len .slc (.t 31)),
gq 33 29 false (.fieldAddr 0 (.t 3)),
gq 34 29 false (.load none (.t 33)),
gq 35 29 false (.len .slc (.t 34)),
gq 36 29 false (.bin .neq (.t 32) (.t 35)),
tq 37 (.pick (.t 29) (.k (.d (.bool true))) (.t 36))] [10, 11, 12, 13, 14, 15, 16, 17, 18, 19, 20, 21, 22, 23, 24, 25, 26, 27, 28, 29, 30, 31, 32, 33, 34, 35, 36]
(.cond (.t 37) (sr [
tq 4 (.mv (.k (.d (.bool false))))] []
.ret)
 .skip))
(.seq (sr [
tq 5 (.mv (kq 0))] []
(.block 0 (.loop [2, 3, 5] b_ref05_Same_3)))
(sr [
tq 4 (.mv (.k (.d (.bool true))))] []
.ret))))⟩

def b_law05_own_1 : C :=
  (sr [
tq 32 (.bin .lss (.t 31) (.t 30))] []
(.seq (.cond (.t 32) .skip
 (.exit 2))
(.seq (.block 3 (sr [
tq 33 (.idxAddr 3 (.t 29) (.t 31)),
lq 34 3 33,
tq 8 (.alloc ty_priority_Test [.z (.str []), .z (.str []), .z (.int .i64 0)]),
⟨none, none, .store 3 (.t 8) (.t 34)⟩] [33, 34]
(rg [
fa 35 1 6,
ld 36 35,
lq 37 3 8,
tq 38 (.mkList 3 1 [.t 37]),
tq 39 (.append ⟨false, ty_turnroundref05_Test, 3, 40⟩ (.t 36) (.t 38)),
fa 40 1 6,
⟨none, none, .store 1 (.t 40) (.t 39)⟩] [8, 35, 36, 37, 38, 39, 40])))
(rg [
tq 41 (.bin .add (.t 31) (kq 1)),
mq 31 41] [41]))))

def b_law05_own_2 : C :=
  (sr [
tq 46 (.bin .lss (.t 45) (.t 44))] []
(.seq (.cond (.t 46) .skip
 (.exit 4))
(.seq (.block 5 (sr [
tq 47 (.idxAddr 2 (.t 43) (.t 45)),
lq 48 2 47,
tq 10 (.alloc ty_priority_Key [.z (.str []), .z (.bool false)]),
⟨none, none, .store 2 (.t 10) (.t 48)⟩] [47, 48]
(rg [
fa 49 2 6,
ld 50 49,
lq 51 2 10,
tq 52 (.mkList 2 1 [.t 51]),
tq 53 (.append ⟨false, ty_turnroundref05_Key, 2, 24⟩ (.t 50) (.t 52)),
fa 54 2 6,
⟨none, none, .store 1 (.t 54) (.t 53)⟩] [10, 49, 50, 51, 52, 53, 54])))
(rg [
tq 55 (.bin .add (.t 45) (kq 1)),
mq 45 55] [55]))))

def b_law05_own_3 : C :=
  (sr [
tq 22 (.bin .lss (.t 21) (.t 20))] []
(.seq (.cond (.t 22) .skip
 (.exit 0))
(.seq (.block 1 (sr [
tq 23 (.idxAddr 3 (.t 19) (.t 21)),
lq 24 3 23,
tq 5 (.alloc ty_priority_Class [.z (.str []), .z (.list 0 []), .z (.list 0 [])]),
⟨none, none, .store 3 (.t 5) (.t 24)⟩] [23, 24]
(sr [
fa 25 0 5,
ld 26 25,
tq 27 (.build [.z (.str []), .own ⟨false, ty_turnroundref05_Test, 3, 40⟩, .own ⟨false, ty_turnroundref05_Key, 2, 24⟩] [(0, 1, .t 26)]),
tq 6 (.alloc ty_turnroundref05_Class [.z (.str []), .own ⟨false, ty_turnroundref05_Test, 3, 40⟩, .own ⟨false, ty_turnroundref05_Key, 2, 24⟩]),
⟨none, none, .store 3 (.t 6) (.t 27)⟩] [25, 26, 27]
(.seq (sr [
fa 28 1 5,
ld 29 28,
tq 30 (.len .slc (.t 29)),
tq 31 (.mv (kq 0))] [28]
(.block 2 (.loop [2, 3, 5, 6, 19, 20, 21, 29, 30, 31] b_law05_own_1)))
(.seq (sr [
fa 42 2 5,
ld 43 42,
tq 44 (.len .slc (.t 43)),
tq 45 (.mv (kq 0))] [5, 42]
(.block 4 (.loop [2, 3, 6, 19, 20, 21, 43, 44, 45] b_law05_own_2)))
(rg [
fa 56 0 3,
ld 57 56,
lq 58 3 6,
tq 59 (.mkList 3 1 [.t 58]),
tq 60 (.append ⟨false, ty_turnroundref05_Class, 3, 64⟩ (.t 57) (.t 59)),
fa 61 0 3,
⟨none, none, .store 1 (.t 61) (.t 60)⟩] [6, 56, 57, 58, 59, 60, 61]))))))
(rg [
tq 62 (.bin .add (.t 21) (kq 1)),
mq 21 62] [62]))))

def c_law05_own : CF := ⟨[.cell 2 (some 4)],
  (sr [
tq 1 (.box ty_priority_Program (.t 0)),
tq 2 (.alloc ty_turnroundref05_Program [.own ⟨false, ty_turnroundref05_Class, 3, 64⟩, .z (.int .i64 0), .z (.int .i64 0), .z (.int .i64 0)])] [0]
(sr [
fa 11 1 1,
ld 12 11,
fa 13 2 1,
ld 14 13,
fa 15 3 1,
ld 16 15,
tq 17 (.build [.own ⟨false, ty_turnroundref05_Class, 3, 64⟩, .z (.int .i64 0), .z (.int .i64 0), .z (.int .i64 0)] [(1, 1, .t 12), (2, 1, .t 14), (3, 1, .t 16)]),
tq 3 (.alloc ty_turnroundref05_Program [.own ⟨false, ty_turnroundref05_Class, 3, 64⟩, .z (.int .i64 0), .z (.int .i64 0), .z (.int .i64 0)]),
⟨none, none, .store 4 (.t 3) (.t 17)⟩] [11, 12, 13, 14, 15, 16, 17]
(.seq (sr [
fa 18 0 1,
ld 19 18,
tq 20 (.len .slc (.t 19)),
tq 21 (.mv (kq 0))] [1, 18]
(.block 0 (.loop [2, 3, 19, 20, 21] b_law05_own_3)))
(sr [
lq 63 4 3,
⟨none, none, .store 4 (.t 2) (.t 63)⟩] [3, 63]
.ret))))⟩

def b_ref05_Short_1 : C :=
  (.seq (sr [
mq 57 5,
fa 58 1 4,
ld 59 58,
tq 60 (.len .slc (.t 59)),
tq 61 (.bin .lss (.t 57) (.t 60))] [57, 58, 59, 60]
(.cond (.t 61) .skip
 (.exit 2)))
(.seq (.block 3 (sr [
fa 64 1 4,
ld 65 64,
mq 66 5,
tq 67 (.idxAddr 3 (.t 65) (.t 66)),
fa 68 0 67,
ld 69 68,
tq 70 (.len .str (.t 69)),
tq 71 (.bin .gtr (.t 70) (kq 40)),
mq 72 71,
gq 73 72 false (.fieldAddr 1 (.t 4)),
gq 74 72 false (.load none (.t 73)),
gq 75 72 false (.mv (.t 5)),
gq 76 72 false (.idxAddr 3 (.t 74) (.t 75)),
gq 77 72 false (.fieldAddr 1 (.t 76)),
gq 78 72 false (.load none (.t 77)),
gq 79 72 false (.len .str (.t 78)),
gq 80 72 false (.bin .gtr (.t 79) (kq 40)),
tq 81 (.pick (.t 72) (.k (.d (.bool true))) (.t 80))] [64, 65, 66, 67, 68, 69, 70, 71, 72, 73, 74, 75, 76, 77, 78, 79, 80]
(.cond (.t 81) (sr [
tq 2 (.mv (.k (.d (.bool false))))] []
.ret)
 .skip)))
(rg [
mq 62 5,
tq 63 (.bin .add (.t 62) (kq 1)),
mq 5 63] [62, 63])))

def b_ref05_Short_2 : C :=
  (.seq (sr [
mq 82 6,
fa 83 2 4,
ld 84 83,
tq 85 (.len .slc (.t 84)),
tq 86 (.bin .lss (.t 82) (.t 85))] [82, 83, 84, 85]
(.cond (.t 86) .skip
 (.exit 4)))
(.seq (.block 5 (sr [
fa 89 2 4,
ld 90 89,
mq 91 6,
tq 92 (.idxAddr 2 (.t 90) (.t 91)),
fa 93 0 92,
ld 94 93,
tq 95 (.len .str (.t 94)),
tq 96 (.bin .gtr (.t 95) (kq 40))] [89, 90, 91, 92, 93, 94, 95]
(.cond (.t 96) (sr [
tq 2 (.mv (.k (.d (.bool false))))] []
.ret)
 .skip)))
(rg [
mq 87 6,
tq 88 (.bin .add (.t 87) (kq 1)),
mq 6 88] [87, 88])))

def b_ref05_Short_3 : C :=
  (.seq (sr [
mq 17 3,
fa 18 0 1,
ld 19 18,
tq 20 (.len .slc (.t 19)),
tq 21 (.bin .lss (.t 17) (.t 20))] [17, 18, 19, 20]
(.cond (.t 21) .skip
 (.exit 0)))
(.seq (.block 1 (sr [
fa 24 0 1,
ld 25 24,
mq 26 3,
tq 27 (.idxAddr 3 (.t 25) (.t 26)),
lq 28 3 27,
tq 4 (.alloc ty_turnroundref05_Class [.z (.str []), .z (.list 0 []), .z (.list 0 [])]),
⟨none, none, .store 3 (.t 4) (.t 28)⟩] [24, 25, 26, 27, 28]
(.seq (sr [
fa 29 0 4,
ld 30 29,
tq 31 (.len .str (.t 30)),
tq 32 (.bin .gtr (.t 31) (kq 40)),
mq 33 32,
gq 34 33 false (.fieldAddr 1 (.t 4)),
gq 35 33 false (.load none (.t 34)),
gq 36 33 false (.len .slc (.t 35)),
gq 37 33 false (.bin .gtr (.t 36) (kq 4)),
gq 38 33 false (.mv (.t 37)),
gq 39 38 true (.fieldAddr 1 (.t 4)),
gq 40 38 true (.load none (.t 39)),
gq 41 38 true (.len .slc (.t 40)),
gq 42 38 true (.bin .neq (.t 41) (kq 9)),
gq 43 33 false (.pick (.t 38) (.t 42) (.k (.d (.bool false)))),
tq 44 (.pick (.t 33) (.k (.d (.bool true))) (.t 43)),
mq 45 44,
gq 46 45 false (.fieldAddr 2 (.t 4)),
gq 47 45 false (.load none (.t 46)),
gq 48 45 false (.len .slc (.t 47)),
gq 49 45 false (.bin .gtr (.t 48) (kq 4)),
gq 50 45 false (.mv (.t 49)),
gq 51 50 true (.fieldAddr 2 (.t 4)),
gq 52 50 true (.load none (.t 51)),
gq 53 50 true (.len .slc (.t 52)),
gq 54 50 true (.bin .neq (.t 53) (kq 9)),
gq 55 45 false (.pick (.t 50) (.t 54) (.k (.d (.bool false)))),
tq 56 (.pick (.t 45) (.k (.d (.bool true))) (.t 55))] [29, 30, 31, 32, 33, 34, 35, 36, 37, 38, 39, 40, 41, 42, 43, 44, 45, 46, 47, 48, 49, 50, 51, 52, 53, 54, 55]
(.cond (.t 56) (sr [
tq 2 (.mv (.k (.d (.bool false))))] []
.ret)
 .skip))
(.seq (sr [
tq 5 (.mv (kq 0))] []
(.block 2 (.loop [1, 3, 4, 5] b_ref05_Short_1)))
(sr [
tq 6 (.mv (kq 0))] []
(.block 4 (.loop [1, 3, 4, 6] b_ref05_Short_2)))))))
(rg [
mq 22 3,
tq 23 (.bin .add (.t 22) (kq 1)),
mq 3 23] [22, 23])))

def c_ref05_Short : CF := ⟨[.tmp 2],
  (sr [
tq 1 (.box ty_turnroundref05_Program (.t 0)),
tq 2 (.mv (.k (.d (.bool false))))] [0, 2]
(.seq (sr [
fa 7 0 1,
ld 8 7,
tq 9 (.len .slc (.t 8)),
tq 10 (.bin .gtr (.t 9) (kq 5)),
mq 11 10,
gq 12 11 true (.fieldAddr 0 (.t 1)),
gq 13 11 true (.load none (.t 12)),
gq 14 11 true (.len .slc (.t 13)),
gq 15 11 true (.bin .neq (.t 14) (kq 17)),
tq 16 (.pick (.t 11) (.t 15) (.k (.d (.bool false))))] [7, 8, 9, 10, 11, 12, 13, 14, 15]
(.cond (.t 16) (sr [
tq 2 (.mv (.k (.d (.bool false))))] []
.ret)
 .skip))
(.seq (sr [
tq 3 (.mv (kq 0))] []
(.block 0 (.loop [1, 3] b_ref05_Short_3)))
(sr [
tq 2 (.mv (.k (.d (.bool true))))] []
.ret))))⟩

def b_priority_Print_1 : C :=
  (sr [
tq 41 (.bin .lss (.t 40) (.t 39))] []
(.seq (.cond (.t 41) .skip
 (.exit 2))
(.seq (.block 3 (sr [
tq 42 (.idxAddr 3 (.t 38) (.t 40)),
lq 43 3 42,
tq 11 (.alloc ty_priority_Test [.z (.str []), .z (.str []), .z (.int .i64 0)]),
⟨none, none, .store 3 (.t 11) (.t 43)⟩] [42, 43]
(.reg true [
mq 44 9,
fa 45 0 11,
ld 46 45,
fa 47 1 11,
ld 48 47,
tq 49 (.bin .add (.t 46) (.t 48)),
fa 50 2 11,
ld 51 50,
tq 52 (cl n_strconv_Itoa [.t 51]),
tq 53 (.bin .add (.t 49) (.t 52)),
tq 54 (.mkList 1 1 [.t 53]),
tq 55 (.append ⟨false, ty_string, 1, 16⟩ (.t 44) (.t 54)),
mq 9 55] [11, 44, 45, 46, 47, 48, 49, 50, 51, 52, 53, 54, 55])))
(rg [
tq 56 (.bin .add (.t 40) (kq 1)),
mq 40 56] [56]))))

def b_priority_Print_2 : C :=
  (sr [
tq 68 (.bin .lss (.t 67) (.t 66))] []
(.seq (.cond (.t 68) .skip
 (.exit 4))
(.seq (.block 5 (sr [
tq 69 (.idxAddr 2 (.t 65) (.t 67)),
lq 70 2 69,
tq 13 (.alloc ty_priority_Key [.z (.str []), .z (.bool false)]),
⟨none, none, .store 2 (.t 13) (.t 70)⟩] [69, 70]
(.reg true [
mq 71 9,
fa 72 0 13,
ld 73 72,
lq 74 2 13,
tq 75 (cl n_priority_Key_sign [.t 74]),
tq 76 (.bin .add (.t 73) (.t 75)),
tq 77 (.mkList 1 1 [.t 76]),
tq 78 (.append ⟨false, ty_string, 1, 16⟩ (.t 71) (.t 77)),
mq 9 78] [13, 71, 72, 73, 74, 75, 76, 77, 78])))
(rg [
tq 79 (.bin .add (.t 67) (kq 1)),
mq 67 79] [79]))))

def b_priority_Print_3 : C :=
  (sr [
tq 24 (.bin .lss (.t 23) (.t 22))] []
(.seq (.cond (.t 24) .skip
 (.exit 0))
(.seq (.block 1 (sr [
tq 25 (.idxAddr 3 (.t 21) (.t 23)),
lq 26 3 25,
tq 8 (.alloc ty_priority_Class [.z (.str []), .z (.list 0 []), .z (.list 0 [])]),
⟨none, none, .store 3 (.t 8) (.t 26)⟩] [25, 26]
(sr [
fa 27 0 8,
ld 28 27,
tq 29 (.mkRow ⟨false, ty_string, 1, 16⟩ 2 [.k (.d (.str [99, 108, 97, 115, 115])), .t 28]),
mq 9 29] [27, 28, 29]
(.seq (sr [
fa 30 1 8,
ld 31 30,
tq 32 (.len .slc (.t 31)),
tq 33 (.bin .gtr (.t 32) (kq 0))] [30, 31, 32]
(.cond (.t 33) (rg [
mq 34 9,
tq 35 (.mkList 1 1 [.k (.d (.str [119, 104, 101, 110]))]),
tq 36 (.append ⟨false, ty_string, 1, 16⟩ (.t 34) (.t 35)),
mq 9 36] [34, 35, 36])
 .skip))
(.seq (sr [
fa 37 1 8,
ld 38 37,
tq 39 (.len .slc (.t 38)),
tq 40 (.mv (kq 0))] [37]
(.block 2 (.loop [1, 5, 6, 8, 9, 21, 22, 23, 38, 39, 40] b_priority_Print_1)))
(.seq (sr [
fa 57 2 8,
ld 58 57,
tq 59 (.len .slc (.t 58)),
tq 60 (.bin .gtr (.t 59) (kq 0))] [57, 58, 59]
(.cond (.t 60) (rg [
mq 61 9,
tq 62 (.mkList 1 1 [.k (.d (.str [98, 121]))]),
tq 63 (.append ⟨false, ty_string, 1, 16⟩ (.t 61) (.t 62)),
mq 9 63] [61, 62, 63])
 .skip))
(.seq (sr [
fa 64 2 8,
ld 65 64,
tq 66 (.len .slc (.t 65)),
tq 67 (.mv (kq 0))] [8, 64]
(.block 4 (.loop [1, 5, 6, 9, 21, 22, 23, 65, 66, 67] b_priority_Print_2)))
(rg [
mq 80 6,
mq 81 9,
tq 82 (.call true true (.t 80) [.t 81])] [9, 80, 81, 82]))))))))
(rg [
tq 83 (.bin .add (.t 23) (kq 1)),
mq 23 83] [83]))))

def c_priority_Print : CF := ⟨[.tmp 2, .tmp 3],
  (sr [
tq 1 (.box ty_priority_Program (.t 0)),
tq 2 (.mv (.k (.d (.str [])))),
tq 3 (.mv (kq 0))] [0, 2, 3]
(.seq (sr [
lq 14 4 1,
tq 15 (cl n_priority_CheckProgram [.t 14]),
mq 4 15] [14, 15]
(sr [
mq 16 4,
tq 17 (.bin .neq (.t 16) (kq 0))] [16]
(.cond (.t 17) (sr [
mq 18 4,
tq 2 (.mv (.k (.d (.str [])))),
mq 3 18] [4, 18]
.ret)
 .skip)))
(sr [
tq 5 (.alloc ty_strings_Builder [.z .nilp, .own ⟨false, ty_uint8, 1, 1⟩])] []
(sr [
tq 19 (.mkFunc n_priority_Print_1 [] [.t 5]),
mq 6 19] [19]
(.seq (sr [
fa 20 0 1,
ld 21 20,
tq 22 (.len .slc (.t 21)),
tq 23 (.mv (kq 0))] [20]
(.block 0 (.loop [1, 5, 6, 21, 22, 23] b_priority_Print_3)))
(.seq (.reg true [
mq 84 6,
fa 85 1 1,
ld 86 85,
tq 87 (cl n_strconv_Itoa [.t 86]),
fa 88 3 1,
ld 89 88,
tq 90 (cl n_strconv_Itoa [.t 89]),
fa 91 2 1,
ld 92 91,
tq 93 (cl n_strconv_Itoa [.t 92]),
tq 94 (.mkList 1 6 [.k (.d (.str [112, 111, 111, 108])), .t 87, .k (.d (.str [115, 104, 97, 114, 101])), .t 90, .k (.d (.str [111, 102])), .t 93]),
tq 95 (.call true true (.t 84) [.t 94])] [1, 6, 84, 85, 86, 87, 88, 89, 90, 91, 92, 93, 94, 95])
(sr [
tq 96 (.call true true (.k (.fn n_strings_Builder_String [] [])) [.t 5]),
mq 2 96,
tq 3 (.mv (kq 0))] [5, 96]
.ret)))))))⟩

def b_ref05_CheckProgram_1 : C :=
  (.seq (sr [
mq 13 3,
fa 14 0 1,
ld 15 14,
tq 16 (.len .slc (.t 15)),
tq 17 (.bin .lss (.t 13) (.t 16))] [13, 14, 15, 16]
(.cond (.t 17) .skip
 (.exit 0)))
(.seq (.block 1 (.seq (.reg true [
fa 20 0 1,
ld 21 20,
mq 22 3,
tq 23 (.slice 3 (.t 21) none (some (.t 22)) none),
fa 24 0 1,
ld 25 24,
mq 26 3,
tq 27 (.idxAddr 3 (.t 25) (.t 26)),
lq 28 3 27,
tq 29 (cl n_ref05_added [.t 23, .t 28]),
mq 4 29] [20, 21, 22, 23, 24, 25, 26, 27, 28, 29])
(sr [
mq 30 4,
tq 31 (.bin .neq (.t 30) (kq 0))] [30]
(.cond (.t 31) (sr [
mq 32 4,
mq 2 32] [4, 32]
.ret)
 .skip))))
(rg [
mq 18 3,
tq 19 (.bin .add (.t 18) (kq 1)),
mq 3 19] [18, 19])))

def c_ref05_CheckProgram : CF := ⟨[.tmp 2],
  (sr [
tq 1 (.box ty_turnroundref05_Program (.t 0)),
tq 2 (.mv (kq 0))] [0, 2]
(.seq (sr [
fa 5 0 1,
ld 6 5,
tq 7 (.len .slc (.t 6)),
tq 8 (.bin .eql (.t 7) (kq 0))] [5, 6, 7]
(.cond (.t 8) (sr [
tq 2 (.mv (kq 12))] []
.ret)
 .skip))
(.seq (sr [
fa 9 0 1,
ld 10 9,
tq 11 (.len .slc (.t 10)),
tq 12 (.bin .gtr (.t 11) (kq 16))] [9, 10, 11]
(.cond (.t 12) (sr [
tq 2 (.mv (kq 5))] []
.ret)
 .skip))
(.seq (sr [
tq 3 (.mv (kq 0))] []
(.block 0 (.loop [1, 3] b_ref05_CheckProgram_1)))
(sr [
lq 33 4 1,
tq 34 (cl n_ref05_CheckPool [.t 33]),
mq 2 34] [1, 33, 34]
.ret)))))⟩

def b_law05_program_1 : C :=
  (sr [
tq 32 (.bin .lss (.t 31) (.t 30))] []
(.seq (.cond (.t 32) .skip
 (.exit 2))
(.seq (.block 3 (sr [
tq 33 (.idxAddr 3 (.t 29) (.t 31)),
lq 34 3 33,
tq 8 (.alloc ty_turnroundref05_Test [.z (.str []), .z (.str []), .z (.int .i64 0)]),
⟨none, none, .store 3 (.t 8) (.t 34)⟩] [33, 34]
(rg [
fa 35 1 6,
ld 36 35,
lq 37 3 8,
tq 38 (.mkList 3 1 [.t 37]),
tq 39 (.append ⟨false, ty_priority_Test, 3, 40⟩ (.t 36) (.t 38)),
fa 40 1 6,
⟨none, none, .store 1 (.t 40) (.t 39)⟩] [8, 35, 36, 37, 38, 39, 40])))
(rg [
tq 41 (.bin .add (.t 31) (kq 1)),
mq 31 41] [41]))))

def b_law05_program_2 : C :=
  (sr [
tq 46 (.bin .lss (.t 45) (.t 44))] []
(.seq (.cond (.t 46) .skip
 (.exit 4))
(.seq (.block 5 (sr [
tq 47 (.idxAddr 2 (.t 43) (.t 45)),
lq 48 2 47,
tq 10 (.alloc ty_turnroundref05_Key [.z (.str []), .z (.bool false)]),
⟨none, none, .store 2 (.t 10) (.t 48)⟩] [47, 48]
(rg [
fa 49 2 6,
ld 50 49,
lq 51 2 10,
tq 52 (.mkList 2 1 [.t 51]),
tq 53 (.append ⟨false, ty_priority_Key, 2, 24⟩ (.t 50) (.t 52)),
fa 54 2 6,
⟨none, none, .store 1 (.t 54) (.t 53)⟩] [10, 49, 50, 51, 52, 53, 54])))
(rg [
tq 55 (.bin .add (.t 45) (kq 1)),
mq 45 55] [55]))))

def b_law05_program_3 : C :=
  (sr [
tq 22 (.bin .lss (.t 21) (.t 20))] []
(.seq (.cond (.t 22) .skip
 (.exit 0))
(.seq (.block 1 (sr [
tq 23 (.idxAddr 3 (.t 19) (.t 21)),
lq 24 3 23,
tq 5 (.alloc ty_turnroundref05_Class [.z (.str []), .z (.list 0 []), .z (.list 0 [])]),
⟨none, none, .store 3 (.t 5) (.t 24)⟩] [23, 24]
(sr [
fa 25 0 5,
ld 26 25,
tq 27 (.build [.z (.str []), .own ⟨false, ty_priority_Test, 3, 40⟩, .own ⟨false, ty_priority_Key, 2, 24⟩] [(0, 1, .t 26)]),
tq 6 (.alloc ty_priority_Class [.z (.str []), .own ⟨false, ty_priority_Test, 3, 40⟩, .own ⟨false, ty_priority_Key, 2, 24⟩]),
⟨none, none, .store 3 (.t 6) (.t 27)⟩] [25, 26, 27]
(.seq (sr [
fa 28 1 5,
ld 29 28,
tq 30 (.len .slc (.t 29)),
tq 31 (.mv (kq 0))] [28]
(.block 2 (.loop [2, 3, 5, 6, 19, 20, 21, 29, 30, 31] b_law05_program_1)))
(.seq (sr [
fa 42 2 5,
ld 43 42,
tq 44 (.len .slc (.t 43)),
tq 45 (.mv (kq 0))] [5, 42]
(.block 4 (.loop [2, 3, 6, 19, 20, 21, 43, 44, 45] b_law05_program_2)))
(rg [
fa 56 0 3,
ld 57 56,
lq 58 3 6,
tq 59 (.mkList 3 1 [.t 58]),
tq 60 (.append ⟨false, ty_priority_Class, 3, 64⟩ (.t 57) (.t 59)),
fa 61 0 3,
⟨none, none, .store 1 (.t 61) (.t 60)⟩] [6, 56, 57, 58, 59, 60, 61]))))))
(rg [
tq 62 (.bin .add (.t 21) (kq 1)),
mq 21 62] [62]))))

def c_law05_program : CF := ⟨[.cell 2 (some 4)],
  (sr [
tq 1 (.box ty_turnroundref05_Program (.t 0)),
tq 2 (.alloc ty_priority_Program [.own ⟨false, ty_priority_Class, 3, 64⟩, .z (.int .i64 0), .z (.int .i64 0), .z (.int .i64 0)])] [0]
(sr [
fa 11 1 1,
ld 12 11,
fa 13 2 1,
ld 14 13,
fa 15 3 1,
ld 16 15,
tq 17 (.build [.own ⟨false, ty_priority_Class, 3, 64⟩, .z (.int .i64 0), .z (.int .i64 0), .z (.int .i64 0)] [(1, 1, .t 12), (2, 1, .t 14), (3, 1, .t 16)]),
tq 3 (.alloc ty_priority_Program [.own ⟨false, ty_priority_Class, 3, 64⟩, .z (.int .i64 0), .z (.int .i64 0), .z (.int .i64 0)]),
⟨none, none, .store 4 (.t 3) (.t 17)⟩] [11, 12, 13, 14, 15, 16, 17]
(.seq (sr [
fa 18 0 1,
ld 19 18,
tq 20 (.len .slc (.t 19)),
tq 21 (.mv (kq 0))] [1, 18]
(.block 0 (.loop [2, 3, 19, 20, 21] b_law05_program_3)))
(sr [
lq 63 4 3,
⟨none, none, .store 4 (.t 2) (.t 63)⟩] [3, 63]
.ret))))⟩

def c_priority_Default : CF := ⟨[.cell 0 (some 4)],
  (sr [
tq 0 (.alloc ty_priority_Program [.z (.list 0 []), .z (.int .i64 0), .z (.int .i64 0), .z (.int .i64 0)])] []
(sr [
tq 4 (.build [.z (.str []), .z (.bool false)] [(0, 1, .k (.d (.str [100, 97, 121, 115]))), (1, 1, .k (.d (.bool true)))]),
tq 5 (.build [.z (.str []), .z (.bool false)] [(0, 1, .k (.d (.str [115, 101, 97, 116, 115]))), (1, 1, .k (.d (.bool true)))]),
tq 6 (.build [.z (.str []), .z (.bool false)] [(0, 1, .k (.d (.str [100, 105, 115, 116, 97, 110, 99, 101]))), (1, 1, .k (.d (.bool true)))]),
tq 1 (.alloc ty_priority_Key [.z (.str []), .z (.bool false)]),
tq 2 (.alloc ty_priority_Key [.z (.str []), .z (.bool false)]),
tq 3 (.alloc ty_priority_Key [.z (.str []), .z (.bool false)]),
⟨none, none, .store 2 (.t 1) (.t 4)⟩,
⟨none, none, .store 2 (.t 2) (.t 5)⟩,
⟨none, none, .store 2 (.t 3) (.t 6)⟩] [4, 5, 6]
(sr [
tq 7 (.build [.z (.str []), .z (.str []), .z (.int .i64 0)] [(0, 1, .k (.d (.str [104, 105, 115, 116, 111, 114, 105, 99]))), (1, 1, .k (.d (.str [61]))), (2, 1, kq 1)]),
tq 8 (.build [.z (.str []), .z (.str []), .z (.int .i64 0)] [(0, 1, .k (.d (.str [114, 101, 116, 105, 109, 101, 100]))), (1, 1, .k (.d (.str [61]))), (2, 1, kq 0)]),
tq 9 (.mkList 3 2 [.t 7, .t 8]),
lq 10 2 1,
lq 11 2 2,
tq 12 (.mkList 2 2 [.t 10, .t 11]),
tq 13 (.build [.z (.str []), .z (.list 0 []), .z (.list 0 [])] [(0, 1, .k (.d (.str [104, 105, 115, 116, 111, 114, 105, 99]))), (1, 1, .t 9), (2, 1, .t 12)]),
tq 14 (.build [.z (.str []), .z (.str []), .z (.int .i64 0)] [(0, 1, .k (.d (.str [104, 105, 115, 116, 111, 114, 105, 99]))), (1, 1, .k (.d (.str [61]))), (2, 1, kq 1)]),
tq 15 (.mkList 3 1 [.t 14]),
lq 16 2 1,
lq 17 2 2,
tq 18 (.mkList 2 2 [.t 16, .t 17]),
tq 19 (.build [.z (.str []), .z (.list 0 []), .z (.list 0 [])] [(0, 1, .k (.d (.str [114, 101, 116, 105, 109, 101, 100]))), (1, 1, .t 15), (2, 1, .t 18)]),
tq 20 (.build [.z (.str []), .z (.str []), .z (.int .i64 0)] [(0, 1, .k (.d (.str [121, 101, 97, 114, 114, 111, 117, 110, 100]))), (1, 1, .k (.d (.str [61]))), (2, 1, kq 1)]),
tq 21 (.mkList 3 1 [.t 20]),
lq 22 2 1,
lq 23 2 2,
lq 24 2 3,
tq 25 (.mkList 2 3 [.t 22, .t 23, .t 24]),
tq 26 (.build [.z (.str []), .z (.list 0 []), .z (.list 0 [])] [(0, 1, .k (.d (.str [121, 101, 97, 114, 114, 111, 117, 110, 100]))), (1, 1, .t 21), (2, 1, .t 25)]),
lq 27 2 1,
lq 28 2 2,
lq 29 2 3,
tq 30 (.mkList 2 3 [.t 27, .t 28, .t 29]),
tq 31 (.build [.z (.str []), .z (.list 0 []), .z (.list 0 [])] [(0, 1, .k (.d (.str [111, 116, 104, 101, 114, 115]))), (1, 1, .k (.d (.list 0 []))), (2, 1, .t 30)]),
tq 32 (.mkList 3 4 [.t 13, .t 19, .t 26, .t 31]),
tq 33 (.build [.z (.list 0 []), .z (.int .i64 0), .z (.int .i64 0), .z (.int .i64 0)] [(0, 1, .t 32), (1, 1, kq 2), (2, 1, kq 2), (3, 1, kq 1)]),
⟨none, none, .store 4 (.t 0) (.t 33)⟩] [1, 2, 3, 7, 8, 9, 10, 11, 12, 13, 14, 15, 16, 17, 18, 19, 20, 21, 22, 23, 24, 25, 26, 27, 28, 29, 30, 31, 32, 33]
.ret)))⟩

def c_law05_sample : CF := ⟨[.cell 4 (some 18)],
  (sr [
tq 4 (.alloc ty_priority_Claim [.z (.str []), .z (.str []), .z (.str []), .z (.str []), .z (.str []), .z (.str []), .z (.int .i64 0), .z (.int .i64 0), .z (.int .i64 0), .z (.int .i64 0), .z (.int .i64 0), .z (.int .i64 0), .z (.int .i64 0), .z (.bool false), .z (.bool false), .z (.bool false), .z (.bool false), .z (.int .i64 0)])] []
(sr [
mq 5 0,
tq 6 (.build [.z (.int .i64 0), .z (.int .i64 0), .z (.int .i64 0)] [(0, 1, kq 8900), (1, 1, kq 8920), (2, 1, kq 5)]),
mq 7 1,
tq 8 (.build [.z (.str []), .z (.str []), .z (.str []), .z (.str []), .z (.str []), .z (.str []), .z (.int .i64 0), .z (.int .i64 0), .z (.int .i64 0), .z (.int .i64 0), .z (.int .i64 0), .z (.int .i64 0), .z (.int .i64 0)] [(0, 1, .t 5), (1, 1, .k (.d (.str [97, 98]))), (2, 1, .k (.d (.str [65]))), (4, 1, .k (.d (.str [102, 97, 114]))), (6, 3, .t 6), (9, 1, kq 600), (10, 1, .t 7), (11, 1, kq 4)]),
tq 9 (.build [.z (.str []), .z (.str []), .z (.str []), .z (.str []), .z (.str []), .z (.str []), .z (.int .i64 0), .z (.int .i64 0), .z (.int .i64 0), .z (.int .i64 0), .z (.int .i64 0), .z (.int .i64 0), .z (.int .i64 0), .z (.bool false), .z (.bool false), .z (.bool false), .z (.bool false), .z (.int .i64 0)] [(0, 13, .t 8)]),
⟨none, none, .store 18 (.t 4) (.t 9)⟩] [0, 1, 5, 6, 7, 8, 9]
.ret))⟩

def c_priority_ClassOf : CF := ⟨[.tmp 4, .tmp 5],
  (sr [
tq 2 (.box ty_priority_Program (.t 0)),
tq 3 (.box ty_priority_Claim (.t 1)),
tq 4 (.mv (kq 0)),
tq 5 (.mv (kq 0))] [0, 1, 4, 5]
(.seq (.seq (.reg true [
lq 7 4 2,
tq 8 (cl n_priority_CheckProgram [.t 7]),
lq 9 18 3,
tq 10 (cl n_priority_CheckClaim [.t 9]),
tq 11 (.mkList 1 2 [.t 8, .t 10]),
tq 12 (cl n_priority_first [.t 11]),
mq 6 12] [7, 8, 9, 10, 11, 12])
(sr [
mq 13 6,
tq 14 (.bin .neq (.t 13) (kq 0))] [13]
(.cond (.t 14) (sr [
mq 15 6,
tq 4 (.mv (kq 0)),
mq 5 15] [6, 15]
.ret)
 .skip)))
(sr [
lq 16 4 2,
lq 17 18 3,
tq 18 (cl n_priority_Program_classOf [.t 16, .t 17]),
mq 4 18,
tq 5 (.mv (kq 0))] [2, 3, 16, 17, 18]
.ret)))⟩

def c_priority_Rank : CF := ⟨[.tmp 6, .tmp 7],
  (sr [
tq 3 (.box ty_priority_Program (.t 0)),
tq 6 (.mv (.k (.d (.list 0 [])))),
tq 7 (.mv (kq 0))] [0, 6, 7]
(.seq (sr [
lq 9 4 3,
mq 10 1,
mq 11 2,
tq 12 (cl n_priority_checkRanking [.t 9, .t 10, .t 11]),
mq 8 12] [9, 10, 11, 12]
(sr [
mq 13 8,
tq 14 (.bin .neq (.t 13) (kq 0))] [13]
(.cond (.t 14) (sr [
mq 15 8,
tq 6 (.mv (.k (.d (.list 0 [])))),
mq 7 15] [8, 15]
.ret)
 .skip)))
(sr [
lq 16 4 3,
mq 17 1,
mq 18 2,
tq 19 (cl n_priority_ranked [.t 16, .t 17, .t 18]),
tq 20 (cl n_priority_ranking_order [.t 19]),
mq 6 20,
tq 7 (.mv (kq 0))] [1, 2, 3, 16, 17, 18, 19, 20]
.ret)))⟩

def b_priority_Why_1 : C :=
  (.seq (sr [
mq 28 12,
mq 29 10,
tq 30 (.len .slc (.t 29)),
tq 31 (.bin .lss (.t 28) (.t 30))] [28, 29, 30]
(.cond (.t 31) .skip
 (.exit 0)))
(.seq (.block 1 (.seq (.reg true [
lq 35 6 9,
mq 36 10,
mq 37 12,
tq 38 (.bin .sub (.t 37) (kq 1)),
tq 39 (.idxAddr 1 (.t 36) (.t 38)),
ld 40 39,
mq 41 10,
mq 42 12,
tq 43 (.idxAddr 1 (.t 41) (.t 42)),
ld 44 43,
tq 45 (cl n_priority_ranking_compare [.t 35, .t 40, .t 44]),
mq 34 45,
xq 46 34 0,
xq 47 34 1,
mq 13 46,
mq 14 47] [34, 35, 36, 37, 38, 39, 40, 41, 42, 43, 44, 45, 46, 47])
(.seq (sr [
mq 48 13,
tq 49 (.bin .gtr (.t 48) (kq 0))] [13, 48]
(.cond (.t 49) (rg [
tq 14 (.mv (.k (.d (.str [115, 104, 97, 114, 101]))))] [])
 .skip))
(rg [
mq 50 11,
mq 51 14,
tq 52 (.mkList 1 1 [.t 51]),
tq 53 (.append ⟨false, ty_string, 1, 16⟩ (.t 50) (.t 52)),
mq 11 53] [14, 50, 51, 52, 53]))))
(rg [
mq 32 12,
tq 33 (.bin .add (.t 32) (kq 1)),
mq 12 33] [32, 33])))

def c_priority_Why : CF := ⟨[.tmp 6, .tmp 7],
  (sr [
tq 3 (.box ty_priority_Program (.t 0)),
tq 6 (.ownNil ⟨false, ty_string, 1, 16⟩),
tq 7 (.mv (kq 0))] [0, 6, 7]
(.seq (sr [
lq 15 4 3,
mq 16 1,
mq 17 2,
tq 18 (cl n_priority_checkRanking [.t 15, .t 16, .t 17]),
mq 8 18] [15, 16, 17, 18]
(sr [
mq 19 8,
tq 20 (.bin .neq (.t 19) (kq 0))] [19]
(.cond (.t 20) (sr [
mq 21 8,
tq 6 (.ownNil ⟨false, ty_string, 1, 16⟩),
mq 7 21] [8, 21]
.ret)
 .skip)))
(sr [
lq 22 4 3,
mq 23 1,
mq 24 2,
tq 25 (cl n_priority_ranked [.t 22, .t 23, .t 24]),
tq 9 (.alloc ty_priority_ranking [.z (.list 0 []), .z (.int .i64 0), .z (.int .i64 0), .z (.int .i64 0), .z (.list 0 []), .z (.list 0 [])]),
⟨none, none, .store 6 (.t 9) (.t 25)⟩] [1, 2, 3, 22, 23, 24, 25]
(sr [
lq 26 6 9,
tq 27 (cl n_priority_ranking_order [.t 26]),
mq 10 27] [26, 27]
(sr [
tq 11 (.ownNil ⟨false, ty_string, 1, 16⟩)] []
(.seq (sr [
tq 12 (.mv (kq 1))] []
(.block 0 (.loop [9, 10, 11, 12] b_priority_Why_1)))
(sr [
mq 54 11,
mq 6 54,
tq 7 (.mv (kq 0))] [11, 54]
.ret)))))))⟩

def b_ref01_SameInts_1 : C :=
  (.seq (sr [
mq 11 5,
mq 12 0,
tq 13 (.len .slc (.t 12)),
tq 14 (.bin .lss (.t 11) (.t 13))] [11, 12, 13]
(.cond (.t 14) .skip
 (.exit 0)))
(.seq (.block 1 (.seq (.reg true [
mq 17 0,
mq 18 5,
tq 19 (.idxAddr 1 (.t 17) (.t 18)),
ld 20 19,
mq 21 1,
mq 22 5,
tq 23 (.idxAddr 1 (.t 21) (.t 22)),
ld 24 23,
tq 25 (.bin .neq (.t 20) (.t 24))] [17, 18, 19, 20, 21, 22, 23, 24])
(.cond (.t 25) (sr [
tq 4 (.mv (.k (.d (.bool false))))] []
.ret)
 .skip)))
(rg [
mq 15 5,
tq 16 (.bin .add (.t 15) (kq 1)),
mq 5 16] [15, 16])))

def c_ref01_SameInts : CF := ⟨[.tmp 4],
  (sr [
tq 4 (.mv (.k (.d (.bool false))))] [4]
(.seq (sr [
mq 6 0,
tq 7 (.len .slc (.t 6)),
mq 8 1,
tq 9 (.len .slc (.t 8)),
tq 10 (.bin .neq (.t 7) (.t 9))] [6, 7, 8, 9]
(.cond (.t 10) (sr [
tq 4 (.mv (.k (.d (.bool false))))] []
.ret)
 .skip))
(.seq (sr [
tq 5 (.mv (kq 0))] []
(.block 0 (.loop [0, 1, 5] b_ref01_SameInts_1)))
(sr [
tq 4 (.mv (.k (.d (.bool true))))] []
.ret))))⟩

def b_ref01_SameWords_1 : C :=
  (.seq (sr [
mq 11 5,
mq 12 0,
tq 13 (.len .slc (.t 12)),
tq 14 (.bin .lss (.t 11) (.t 13))] [11, 12, 13]
(.cond (.t 14) .skip
 (.exit 0)))
(.seq (.block 1 (.seq (.reg true [
mq 17 0,
mq 18 5,
tq 19 (.idxAddr 1 (.t 17) (.t 18)),
ld 20 19,
mq 21 1,
mq 22 5,
tq 23 (.idxAddr 1 (.t 21) (.t 22)),
ld 24 23,
tq 25 (.bin .neq (.t 20) (.t 24))] [17, 18, 19, 20, 21, 22, 23, 24])
(.cond (.t 25) (sr [
tq 4 (.mv (.k (.d (.bool false))))] []
.ret)
 .skip)))
(rg [
mq 15 5,
tq 16 (.bin .add (.t 15) (kq 1)),
mq 5 16] [15, 16])))

def c_ref01_SameWords : CF := ⟨[.tmp 4],
  (sr [
tq 4 (.mv (.k (.d (.bool false))))] [4]
(.seq (sr [
mq 6 0,
tq 7 (.len .slc (.t 6)),
mq 8 1,
tq 9 (.len .slc (.t 8)),
tq 10 (.bin .neq (.t 7) (.t 9))] [6, 7, 8, 9]
(.cond (.t 10) (sr [
tq 4 (.mv (.k (.d (.bool false))))] []
.ret)
 .skip))
(.seq (sr [
tq 5 (.mv (kq 0))] []
(.block 0 (.loop [0, 1, 5] b_ref01_SameWords_1)))
(sr [
tq 4 (.mv (.k (.d (.bool true))))] []
.ret))))⟩

def c_priority_Interleave : CF := ⟨[.tmp 6, .tmp 7],
  (sr [
tq 6 (.mv (.k (.d (.list 0 [])))),
tq 7 (.mv (kq 0))] [6, 7]
(.seq (sr [
mq 9 0,
tq 10 (cl n_priority_within [.t 9, kq 1, kq 100]),
mq 11 1,
mq 12 0,
tq 13 (cl n_priority_within [.t 11, kq 0, .t 12]),
mq 14 2,
tq 15 (.len .slc (.t 14)),
tq 16 (.bin .gtr (.t 15) (kq 64)),
tq 17 (cl n_priority_when [.t 16, kq 5]),
tq 18 (.mkList 1 3 [.t 10, .t 13, .t 17]),
tq 19 (cl n_priority_first [.t 18]),
mq 8 19] [9, 10, 11, 12, 13, 14, 15, 16, 17, 18, 19]
(sr [
mq 20 8,
tq 21 (.bin .neq (.t 20) (kq 0))] [20]
(.cond (.t 21) (sr [
mq 22 8,
tq 6 (.mv (.k (.d (.list 0 [])))),
mq 7 22] [8, 22]
.ret)
 .skip)))
(sr [
mq 23 0,
mq 24 1,
mq 25 2,
tq 26 (cl n_priority_interleaved [.t 23, .t 24, .t 25]),
mq 6 26,
tq 7 (.mv (kq 0))] [0, 1, 2, 23, 24, 25, 26]
.ret)))⟩

def c_priority_Lots : CF := ⟨[.tmp 4, .tmp 5],
  (sr [
tq 4 (.mv (.k (.d (.list 0 [])))),
tq 5 (.mv (kq 0))] [4, 5]
(.seq (sr [
mq 7 0,
tq 8 (cl n_priority_checkKey [.t 7]),
mq 9 1,
tq 10 (cl n_priority_checkClaims [.t 9]),
tq 11 (.mkList 1 2 [.t 8, .t 10]),
tq 12 (cl n_priority_first [.t 11]),
mq 6 12] [7, 8, 9, 10, 11, 12]
(sr [
mq 13 6,
tq 14 (.bin .neq (.t 13) (kq 0))] [13]
(.cond (.t 14) (sr [
mq 15 6,
tq 4 (.mv (.k (.d (.list 0 [])))),
mq 5 15] [6, 15]
.ret)
 .skip)))
(sr [
mq 16 0,
mq 17 1,
tq 18 (cl n_priority_lots [.t 16, .t 17]),
mq 4 18,
tq 5 (.mv (kq 0))] [0, 1, 16, 17, 18]
.ret)))⟩

def c_priority_Fact : CF := ⟨[.tmp 4, .tmp 5],
  (sr [
tq 2 (.box ty_priority_Claim (.t 0)),
tq 4 (.mv (kq 0)),
tq 5 (.mv (kq 0))] [0, 4, 5]
(sr [
tq 10 (.call false false (.k (.fn n_priority_known [] [])) []),
mq 11 1,
tq 12 (.lookup .str (.agg [.str [], .nilf]) true (.t 10) (.t 11)),
mq 9 12,
xq 13 9 0,
xq 14 9 1,
tq 6 (.alloc ty_priority_fact [.z (.str []), .z (.nilf)]),
⟨none, none, .store 2 (.t 6) (.t 13)⟩,
mq 7 14] [1, 9, 10, 11, 12, 13, 14]
(.seq (sr [
lq 15 18 2,
tq 16 (cl n_priority_CheckClaim [.t 15]),
mq 17 7,
tq 18 (.un .not (.t 17)),
tq 19 (cl n_priority_when [.t 18, kq 10]),
tq 20 (.mkList 1 2 [.t 16, .t 19]),
tq 21 (cl n_priority_first [.t 20]),
mq 8 21] [7, 15, 16, 17, 18, 19, 20, 21]
(sr [
mq 22 8,
tq 23 (.bin .neq (.t 22) (kq 0))] [22]
(.cond (.t 23) (sr [
mq 24 8,
tq 4 (.mv (kq 0)),
mq 5 24] [8, 24]
.ret)
 .skip)))
(sr [
fa 25 1 6,
ld 26 25,
lq 27 18 2,
tq 28 (.call false true (.t 26) [.t 27]),
mq 4 28,
tq 5 (.mv (kq 0))] [2, 6, 25, 26, 27, 28]
.ret))))⟩

def b_priority_Newcomer_1 : C :=
  (sr [
tq 37 (.bin .lss (.t 36) (.t 35))] []
(.seq (.cond (.t 37) .skip
 (.exit 0))
(.seq (.block 1 (sr [
tq 38 (.idxAddr 13 (.t 34) (.t 36)),
lq 39 13 38,
tq 11 (.alloc ty_api_Request [.z (.str []), .z (.str []), .z (.str []), .z (.str []), .z (.str []), .z (.str []), .z (.int .i64 0), .z (.int .i64 0), .z (.int .i64 0), .z (.int .i64 0), .z (.int .i64 0), .z (.int .i64 0), .z (.int .i64 0)]),
⟨none, none, .store 13 (.t 11) (.t 39)⟩] [38, 39]
(sr [
fa 41 6 11,
lq 42 3 41,
mq 43 1,
tq 44 (cl n_calendar_Has [.t 42, .t 43]),
mq 40 44,
xq 45 40 0,
xq 46 40 1,
mq 12 45,
mq 13 46] [13, 40, 41, 42, 43, 44, 45, 46]
(rg [
mq 47 9,
mq 48 12,
mq 49 48,
gq 50 49 true (.fieldAddr 1 (.t 11)),
gq 51 49 true (.load none (.t 50)),
gq 52 49 true (.mv (.t 0)),
gq 53 49 true (.bin .eql (.t 51) (.t 52)),
tq 54 (.pick (.t 49) (.t 53) (.k (.d (.bool false)))),
tq 55 (cl n_priority_bit [.t 54]),
tq 56 (.bin .add (.t 47) (.t 55)),
mq 9 56] [11, 12, 47, 48, 49, 50, 51, 52, 53, 54, 55, 56]))))
(rg [
tq 57 (.bin .add (.t 36) (kq 1)),
mq 36 57] [57]))))

def c_priority_Newcomer : CF := ⟨[.tmp 6, .tmp 7],
  (sr [
tq 6 (.mv (.k (.d (.bool false)))),
tq 7 (.mv (kq 0))] [6, 7]
(sr [
mq 14 0,
tq 15 (cl n_calendar_IsName [.t 14]),
tq 16 (.un .not (.t 15)),
tq 17 (cl n_priority_when [.t 16, kq 8]),
mq 18 1,
tq 19 (cl n_priority_within [.t 18, kq 0, kq 99999]),
mq 20 2,
tq 21 (.len .slc (.t 20)),
tq 22 (.bin .gtr (.t 21) (kq 64)),
tq 23 (cl n_priority_when [.t 22, kq 5]),
tq 24 (.mkList 1 3 [.t 17, .t 19, .t 23]),
tq 25 (cl n_priority_first [.t 24]),
mq 8 25] [14, 15, 16, 17, 18, 19, 20, 21, 22, 23, 24, 25]
(.seq (sr [
mq 26 8,
tq 27 (.bin .neq (.t 26) (kq 0))] [26]
(.cond (.t 27) (sr [
mq 28 8,
tq 6 (.mv (.k (.d (.bool false)))),
mq 7 28] [8, 28]
.ret)
 .skip))
(sr [
mq 29 2,
tq 30 (cl n_priority_each_api_Request [.t 29, .k (.fn n_priority_Newcomer_1 [] [])]),
mq 8 30] [29, 30]
(.seq (sr [
mq 31 8,
tq 32 (.bin .neq (.t 31) (kq 0))] [31]
(.cond (.t 32) (sr [
mq 33 8,
tq 6 (.mv (.k (.d (.bool false)))),
mq 7 33] [8, 33]
.ret)
 .skip))
(sr [
tq 9 (.mv (kq 0))] []
(.seq (sr [
mq 34 2,
tq 35 (.len .slc (.t 34)),
tq 36 (.mv (kq 0))] [2]
(.block 0 (.loop [0, 1, 9, 34, 35, 36] b_priority_Newcomer_1)))
(sr [
mq 58 9,
tq 59 (.bin .lss (.t 58) (kq 5)),
mq 6 59,
tq 7 (.mv (kq 0))] [9, 58, 59]
.ret))))))))⟩

def b_ref01_DaysOf_1 : C :=
  (.seq (sr [
mq 7 4,
fa 8 1 1,
ld 9 8,
tq 10 (.bin .leq (.t 7) (.t 9))] [7, 8, 9]
(.cond (.t 10) .skip
 (.exit 0)))
(.seq (.block 1 (sr [
lq 13 3 1,
mq 14 4,
tq 15 (cl n_ref01_Has [.t 13, .t 14])] [13, 14]
(.cond (.t 15) (rg [
mq 16 3,
mq 17 4,
tq 18 (.mkList 1 1 [.t 17]),
tq 19 (.append ⟨false, ty_int, 1, 8⟩ (.t 16) (.t 18)),
mq 3 19] [16, 17, 18, 19])
 .skip)))
(rg [
mq 11 4,
tq 12 (.bin .add (.t 11) (kq 1)),
mq 4 12] [11, 12])))

def c_ref01_DaysOf : CF := ⟨[.tmp 2],
  (sr [
tq 1 (.box ty_api_Period (.t 0)),
tq 2 (.ownNil ⟨false, ty_int, 1, 8⟩)] [0, 2]
(sr [
tq 3 (.ownNil ⟨false, ty_int, 1, 8⟩)] []
(.seq (sr [
fa 5 0 1,
ld 6 5,
mq 4 6] [5, 6]
(.block 0 (.loop [1, 3, 4] b_ref01_DaysOf_1)))
(sr [
mq 20 3,
mq 2 20] [3, 20]
.ret))))⟩

def c_strings_SplitAfter : CF := ⟨[.tmp 4],
  (sr [
tq 4 (.mv (.k (.d (.list 0 []))))] [4]
(sr [
mq 5 0,
mq 6 1,
mq 7 1,
tq 8 (.len .str (.t 7)),
tq 9 (cl n_strings_genSplit [.t 5, .t 6, .t 8, kq (-1)]),
mq 4 9] [0, 1, 5, 6, 7, 8, 9]
.ret))⟩

def c_priority_Program_line : CF := ⟨[.cell 4 (some 4), .tmp 5, .tmp 6],
  (sr [
tq 2 (.box ty_priority_Program (.t 0)),
tq 4 (.alloc ty_priority_Program [.own ⟨true, ty_priority_Class, 3, 64⟩, .z (.int .i64 0), .z (.int .i64 0), .z (.int .i64 0)]),
tq 5 (.mv (.k (.d (.bool false)))),
tq 6 (.mv (kq 0))] [0, 5, 6]
(sr [
mq 17 1,
tq 18 (cl n_strings_CutSuffix [.t 17, .k (.d (.str [10]))]),
mq 16 18,
xq 19 16 0,
xq 20 16 1,
mq 7 19,
mq 8 20] [1, 16, 17, 18, 19, 20]
(sr [
mq 21 7,
tq 22 (cl n_strings_Split [.t 21, .k (.d (.str [32]))]),
tq 23 (.build [.z (.list 0 [])] [(0, 1, .t 22)]),
tq 24 (.box ty_priority_reader (.t 23)),
mq 9 24] [7, 21, 22, 23, 24]
(.seq (sr [
mq 25 8,
tq 26 (.un .not (.t 25)),
mq 27 26,
gq 28 27 false (.mv (.t 9)),
gq 29 27 false (.nilCheck (.t 28)),
gq 30 27 false (.fieldAddr 0 (.t 29)),
gq 31 27 false (.load none (.t 30)),
gq 32 27 false (cl n_slices_Contains_Lstring_string [.t 31, .k (.d (.str []))]),
tq 33 (.pick (.t 27) (.k (.d (.bool true))) (.t 32))] [8, 25, 26, 27, 28, 29, 30, 31, 32]
(.cond (.t 33) (sr [
tq 34 (.build [.own ⟨true, ty_priority_Class, 3, 64⟩, .z (.int .i64 0), .z (.int .i64 0), .z (.int .i64 0)] []),
⟨none, none, .store 4 (.t 4) (.t 34)⟩,
tq 5 (.mv (.k (.d (.bool false)))),
tq 6 (.mv (kq 25))] [34]
.ret)
 .skip))
(.seq (sr [
mq 35 9,
tq 36 (.call true true (.k (.fn n_priority_reader_next [] [])) [.t 35])] [35]
(.block 0 (sr [
tq 38 (.bin .eql (.t 36) (.k (.d (.str [99, 108, 97, 115, 115])))),
mq 37 38] [38]
(.cond (.t 37) (sr [
mq 40 9,
tq 41 (.call true true (.k (.fn n_priority_reader_class [] [])) [.t 40]),
mq 39 41,
xq 42 39 0,
xq 43 39 1,
tq 10 (.alloc ty_priority_Class [.z (.str []), .z (.list 0 []), .z (.list 0 [])]),
⟨none, none, .store 3 (.t 10) (.t 42)⟩,
mq 11 43] [9, 39, 40, 41, 42, 43]
(.seq (.seq (.reg true [
mq 44 11,
tq 45 (.un .not (.t 44)),
tq 46 (cl n_priority_when [.t 45, kq 25]),
fa 47 0 2,
ld 48 47,
tq 49 (.len .slc (.t 48)),
tq 50 (.bin .geq (.t 49) (kq 16)),
tq 51 (cl n_priority_when [.t 50, kq 5]),
tq 52 (.mkList 1 2 [.t 46, .t 51]),
tq 53 (cl n_priority_first [.t 52]),
mq 12 53] [11, 44, 45, 46, 47, 48, 49, 50, 51, 52, 53])
(sr [
mq 54 12,
tq 55 (.bin .neq (.t 54) (kq 0))] [54]
(.cond (.t 55) (sr [
tq 56 (.build [.own ⟨true, ty_priority_Class, 3, 64⟩, .z (.int .i64 0), .z (.int .i64 0), .z (.int .i64 0)] []),
mq 57 12,
⟨none, none, .store 4 (.t 4) (.t 56)⟩,
tq 5 (.mv (.k (.d (.bool false)))),
mq 6 57] [12, 56, 57]
.ret)
 .skip)))
(sr [
fa 58 0 2,
ld 59 58,
lq 60 3 10,
tq 61 (.call true true (.k (.fn n_priority_added [] [])) [.t 59, .t 60]),
mq 13 61] [58, 59, 60, 61]
(sr [
fa 62 0 2,
ld 63 62,
lq 64 3 10,
tq 65 (.mkList 3 1 [.t 64]),
tq 66 (.append ⟨true, ty_priority_Class, 3, 64⟩ (.t 63) (.t 65)),
fa 67 0 2,
⟨none, none, .store 1 (.t 67) (.t 66)⟩] [10, 62, 63, 64, 65, 66, 67]
(sr [
lq 68 4 2,
mq 69 13,
⟨none, none, .store 4 (.t 4) (.t 68)⟩,
tq 5 (.mv (.k (.d (.bool false)))),
mq 6 69] [2, 13, 68, 69]
.ret)))))
 (sr [
tq 71 (.bin .eql (.t 36) (.k (.d (.str [112, 111, 111, 108])))),
mq 70 71] [36, 71]
(.cond (.t 70) (sr [
mq 73 9,
lq 74 4 2,
tq 75 (.call true false (.k (.fn n_priority_reader_pool [] [])) [.t 73, .t 74]),
mq 72 75,
xq 76 72 0,
xq 77 72 1,
tq 14 (.alloc ty_priority_Program [.own ⟨true, ty_priority_Class, 3, 64⟩, .z (.int .i64 0), .z (.int .i64 0), .z (.int .i64 0)]),
⟨none, none, .store 4 (.t 14) (.t 76)⟩,
mq 15 77] [9, 72, 73, 74, 75, 76, 77]
(.seq (.reg true [
lq 78 4 14,
mq 79 15,
tq 80 (.un .not (.t 79)),
tq 81 (cl n_priority_when [.t 80, kq 25]),
fa 82 0 2,
ld 83 82,
tq 84 (.len .slc (.t 83)),
tq 85 (.bin .eql (.t 84) (kq 0)),
tq 86 (cl n_priority_when [.t 85, kq 12]),
lq 87 4 14,
tq 88 (.callR true (.k (.fn n_priority_Program_pool [] [])) [.t 87] [14]),
tq 89 (.mkList 1 3 [.t 81, .t 86, .t 88]),
tq 90 (cl n_priority_first [.t 89]),
⟨none, none, .store 4 (.t 4) (.t 78)⟩,
tq 5 (.mv (.k (.d (.bool true)))),
mq 6 90] [2, 14, 15, 78, 79, 80, 81, 82, 83, 84, 85, 86, 87, 88, 89, 90])
.ret))
 .skip))))))
(sr [
tq 91 (.build [.own ⟨true, ty_priority_Class, 3, 64⟩, .z (.int .i64 0), .z (.int .i64 0), .z (.int .i64 0)] []),
⟨none, none, .store 4 (.t 4) (.t 91)⟩,
tq 5 (.mv (.k (.d (.bool false)))),
tq 6 (.mv (kq 25))] [91]
.ret))))))⟩

def c_ref05_CheckPool : CF := ⟨[.tmp 2],
  (sr [
tq 1 (.box ty_turnroundref05_Program (.t 0)),
tq 2 (.mv (kq 0))] [0, 2]
(.seq (.reg true [
fa 3 1 1,
ld 4 3,
fa 5 0 1,
ld 6 5,
tq 7 (.len .slc (.t 6)),
tq 8 (cl n_ref01_CheckRange [.t 4, kq 0, .t 7]),
fa 9 2 1,
ld 10 9,
tq 11 (cl n_ref01_CheckRange [.t 10, kq 1, kq 100]),
fa 12 3 1,
ld 13 12,
fa 14 2 1,
ld 15 14,
tq 16 (cl n_ref01_CheckRange [.t 13, kq 0, .t 15]),
tq 17 (.mkList 1 3 [.t 8, .t 11, .t 16]),
tq 18 (cl n_ref01_First [.t 17]),
mq 2 18] [1, 3, 4, 5, 6, 7, 8, 9, 10, 11, 12, 13, 14, 15, 16, 17, 18])
.ret))⟩

def b_ref05_added_1 : C :=
  (.seq (sr [
mq 9 6,
mq 10 0,
tq 11 (.len .slc (.t 10)),
tq 12 (.bin .lss (.t 9) (.t 11)),
mq 13 12,
gq 14 13 true (.mv (.t 5)),
gq 15 13 true (.bin .eql (.t 14) (kq 0)),
tq 16 (.pick (.t 13) (.t 15) (.k (.d (.bool false))))] [9, 10, 11, 12, 13, 14, 15]
(.cond (.t 16) .skip
 (.exit 0)))
(.seq (.block 1 (.seq (.reg true [
mq 19 0,
mq 20 6,
tq 21 (.idxAddr 3 (.t 19) (.t 20)),
fa 22 0 21,
ld 23 22,
fa 24 0 3,
ld 25 24,
tq 26 (.bin .eql (.t 23) (.t 25))] [19, 20, 21, 22, 23, 24, 25])
(.cond (.t 26) (rg [
tq 5 (.mv (kq 9))] [])
 .skip)))
(rg [
mq 17 6,
tq 18 (.bin .add (.t 17) (kq 1)),
mq 6 18] [17, 18])))

def c_ref05_added : CF := ⟨[.tmp 4],
  (sr [
tq 3 (.box ty_turnroundref05_Class (.t 1)),
tq 4 (.mv (kq 0))] [1, 4]
(sr [
lq 7 3 3,
tq 8 (cl n_ref05_CheckClass [.t 7]),
mq 5 8] [7, 8]
(.seq (sr [
tq 6 (.mv (kq 0))] []
(.block 0 (.loop [0, 3, 5, 6] b_ref05_added_1)))
(sr [
mq 27 5,
mq 4 27] [5, 27]
.ret))))⟩

def c_priority_CheckProgram : CF := ⟨[.tmp 2],
  (sr [
tq 1 (.box ty_priority_Program (.t 0)),
tq 2 (.mv (kq 0))] [0, 2]
(.seq (.seq (.reg true [
fa 4 0 1,
ld 5 4,
tq 6 (.len .slc (.t 5)),
tq 7 (.bin .eql (.t 6) (kq 0)),
tq 8 (cl n_priority_when [.t 7, kq 12]),
fa 9 0 1,
ld 10 9,
tq 11 (.len .slc (.t 10)),
tq 12 (.bin .gtr (.t 11) (kq 16)),
tq 13 (cl n_priority_when [.t 12, kq 5]),
tq 14 (.mkList 1 2 [.t 8, .t 13]),
tq 15 (cl n_priority_first [.t 14]),
mq 3 15] [4, 5, 6, 7, 8, 9, 10, 11, 12, 13, 14, 15])
(sr [
mq 16 3,
tq 17 (.bin .neq (.t 16) (kq 0))] [16]
(.cond (.t 17) (sr [
mq 18 3,
mq 2 18] [3, 18]
.ret)
 .skip)))
(.seq (.reg true [
fa 19 0 1,
ld 20 19,
tq 21 (cl n_priority_each_priority_Class [.t 20, .k (.fn n_priority_added [] [])]),
lq 22 4 1,
tq 23 (cl n_priority_Program_pool [.t 22]),
tq 24 (.mkList 1 2 [.t 21, .t 23]),
tq 25 (cl n_priority_first [.t 24]),
mq 2 25] [1, 19, 20, 21, 22, 23, 24, 25])
.ret)))⟩

def c_priority_Print_1 : CF := ⟨[],
  (rg [
mq 3 0,
tq 4 (cl n_strings_Join [.t 3, .k (.d (.str [32]))]),
tq 5 (.bin .add (.t 4) (.k (.d (.str [10])))),
tq 6 (.call true false (.k (.fn n_strings_Builder_WriteString [] [])) [.t 1, .t 5])] [0, 1, 3, 4, 5, 6])⟩

def c_strings_Builder_WriteString : CF := ⟨[.tmp 4, .tmp 5],
  (sr [
tq 4 (.mv (kq 0)),
tq 5 (.mv (.k (.d (.nili))))] [4, 5]
(sr [
mq 6 0,
tq 7 (.call true true (.k (.fn n_strings_Builder_copyCheck [] [])) [.t 6])] [6, 7]
(sr [
mq 8 0,
mq 9 0,
tq 10 (.nilCheck (.t 9)),
fa 11 1 10,
ld 12 11,
mq 13 1,
tq 14 (.appendS ⟨false, ty_uint8, 1, 1⟩ (.t 12) (.t 13)),
tq 15 (.nilCheck (.t 8)),
fa 16 1 15,
⟨none, none, .store 1 (.t 16) (.t 14)⟩] [0, 8, 9, 10, 11, 12, 13, 14, 15, 16]
(sr [
mq 17 1,
tq 18 (.len .str (.t 17)),
mq 4 18,
tq 5 (.mv (.k (.d (.nili))))] [1, 17, 18]
.ret))))⟩

def c_priority_Key_sign : CF := ⟨[.tmp 2],
  (sr [
tq 1 (.box ty_priority_Key (.t 0)),
tq 2 (.mv (.k (.d (.str []))))] [0, 2]
(.seq (sr [
fa 3 1 1,
ld 4 3] [1, 3]
(.cond (.t 4) (sr [
tq 2 (.mv (.k (.d (.str [45]))))] []
.ret)
 .skip))
(sr [
tq 2 (.mv (.k (.d (.str [43]))))] []
.ret)))⟩

def b_priority_first_1 : C :=
  (sr [
tq 8 (.bin .lss (.t 7) (.t 6))] []
(.seq (.cond (.t 8) .skip
 (.exit 0))
(.seq (.block 1 (sr [
tq 9 (.idxAddr 1 (.t 5) (.t 7)),
ld 10 9,
mq 4 10] [9, 10]
(sr [
mq 11 4,
tq 12 (.bin .neq (.t 11) (kq 0))] [11]
(.cond (.t 12) (sr [
mq 13 4,
mq 2 13] [4, 13]
.ret)
 .skip))))
(rg [
tq 14 (.bin .add (.t 7) (kq 1)),
mq 7 14] [14]))))

def c_priority_first : CF := ⟨[.tmp 2],
  (sr [
tq 2 (.mv (kq 0))] [2]
(.seq (sr [
mq 5 0,
tq 6 (.len .slc (.t 5)),
tq 7 (.mv (kq 0))] [0]
(.block 0 (.loop [5, 6, 7] b_priority_first_1)))
(sr [
tq 2 (.mv (kq 0))] []
.ret)))⟩

def c_priority_CheckClaim : CF := ⟨[.tmp 2],
  (sr [
tq 1 (.box ty_priority_Claim (.t 0)),
tq 2 (.mv (kq 0))] [0, 2]
(.seq (.reg true [
fa 3 0 1,
lq 4 13 3,
tq 5 (cl n_message_CheckRequest [.t 4]),
fa 6 17 1,
ld 7 6,
tq 8 (cl n_priority_within [.t 7, kq 0, kq 20000]),
tq 9 (.mkList 1 2 [.t 5, .t 8]),
tq 10 (cl n_priority_first [.t 9]),
mq 2 10] [1, 3, 4, 5, 6, 7, 8, 9, 10])
.ret))⟩

def b_priority_Program_classOf_1 : C :=
  (sr [
tq 21 (.bin .lss (.t 20) (.t 19))] []
(.seq (.cond (.t 21) .skip
 (.exit 2))
(.seq (.block 3 (sr [
tq 22 (.idxAddr 3 (.t 18) (.t 20)),
lq 23 3 22,
tq 8 (.alloc ty_priority_Test [.z (.str []), .z (.str []), .z (.int .i64 0)]),
⟨none, none, .store 3 (.t 8) (.t 23)⟩] [22, 23]
(sr [
lq 24 18 3,
lq 25 3 8,
tq 26 (cl n_priority_holds [.t 24, .t 25]),
tq 27 (.un .not (.t 26))] [8, 24, 25, 26]
(.cond (.t 27) (.exit 1)
 .skip))))
(rg [
tq 28 (.bin .add (.t 20) (kq 1)),
mq 20 28] [28]))))

def b_priority_Program_classOf_2 : C :=
  (sr [
tq 13 (.bin .lss (.t 12) (.t 11))] []
(.seq (.cond (.t 13) .skip
 (.exit 0))
(.seq (.block 1 (sr [
mq 14 12,
tq 15 (.idxAddr 3 (.t 10) (.t 12)),
lq 16 3 15,
tq 6 (.alloc ty_priority_Class [.z (.str []), .z (.list 0 []), .z (.list 0 [])]),
mq 5 14,
⟨none, none, .store 3 (.t 6) (.t 16)⟩] [14, 15, 16]
(.seq (sr [
fa 17 1 6,
ld 18 17,
tq 19 (.len .slc (.t 18)),
tq 20 (.mv (kq 0))] [6, 17]
(.block 2 (.loop [2, 3, 5, 10, 11, 12, 18, 19, 20] b_priority_Program_classOf_1)))
(sr [
mq 29 5,
mq 4 29] [5, 29]
.ret))))
(rg [
tq 30 (.bin .add (.t 12) (kq 1)),
mq 12 30] [30]))))

def c_priority_Program_classOf : CF := ⟨[.tmp 4],
  (sr [
tq 2 (.box ty_priority_Program (.t 0)),
tq 3 (.box ty_priority_Claim (.t 1)),
tq 4 (.mv (kq 0))] [0, 1, 4]
(.scope (.seq .label
(.seq (sr [
fa 9 0 2,
ld 10 9,
tq 11 (.len .slc (.t 10)),
tq 12 (.mv (kq 0))] [9]
(.block 0 (.loop [2, 3, 10, 11, 12] b_priority_Program_classOf_2)))
(sr [
fa 31 0 2,
ld 32 31,
tq 33 (.len .slc (.t 32)),
mq 4 33] [2, 31, 32, 33]
.ret)))))⟩

def c_priority_checkRanking : CF := ⟨[.tmp 6],
  (sr [
tq 3 (.box ty_priority_Program (.t 0)),
tq 6 (.mv (kq 0))] [0, 6]
(sr [
lq 7 4 3,
tq 8 (cl n_priority_CheckProgram [.t 7]),
mq 9 1,
tq 10 (cl n_priority_checkKey [.t 9]),
mq 11 2,
tq 12 (cl n_priority_checkClaims [.t 11]),
tq 13 (.mkList 1 3 [.t 8, .t 10, .t 12]),
tq 14 (cl n_priority_first [.t 13]),
mq 6 14] [1, 2, 3, 7, 8, 9, 10, 11, 12, 13, 14]
.ret))⟩

def c_priority_ranked : CF := ⟨[.cell 6 (some 6)],
  (sr [
tq 3 (.box ty_priority_Program (.t 0)),
tq 6 (.alloc ty_priority_ranking [.z (.list 0 []), .z (.int .i64 0), .z (.int .i64 0), .z (.int .i64 0), .z (.list 0 []), .z (.list 0 [])])] [0]
(.seq (.reg true [
lq 7 4 3,
mq 8 2,
mq 9 1,
mq 10 2,
tq 11 (cl n_priority_lots [.t 9, .t 10]),
tq 12 (.build [.z (.list 0 []), .z (.int .i64 0), .z (.int .i64 0), .z (.int .i64 0), .z (.list 0 []), .z (.list 0 [])] [(0, 4, .t 7), (4, 1, .t 8), (5, 1, .t 11)]),
⟨none, none, .store 6 (.t 6) (.t 12)⟩] [1, 2, 3, 7, 8, 9, 10, 11, 12])
.ret))⟩

def b_priority_ranking_order_1 : C :=
  (sr [
tq 37 (.bin .lss (.t 36) (.t 35))] []
(.seq (.cond (.t 37) .skip
 (.exit 0))
(.seq (.block 1 (sr [
tq 38 (.idxAddr 1 (.t 34) (.t 36)),
ld 39 38,
mq 8 39] [38, 39]
(rg [
mq 40 6,
fa 41 4 1,
ld 42 41,
mq 43 8,
tq 44 (.idxAddr 18 (.t 42) (.t 43)),
fa 45 15 44,
ld 46 45,
tq 47 (.mkList 1 1 [.t 46]),
tq 48 (.append ⟨false, ty_bool, 1, 1⟩ (.t 40) (.t 47)),
mq 6 48] [8, 40, 41, 42, 43, 44, 45, 46, 47, 48])))
(rg [
tq 49 (.bin .add (.t 36) (kq 1)),
mq 36 49] [49]))))

def b_priority_ranking_order_2 : C :=
  (sr [
tq 60 (.bin .lss (.t 59) (.t 58))] []
(.seq (.cond (.t 60) .skip
 (.exit 2))
(.seq (.block 3 (sr [
mq 61 59,
tq 62 (.idxAddr 1 (.t 57) (.t 59)),
ld 63 62,
mq 9 61,
mq 10 63] [61, 62, 63]
(rg [
mq 64 3,
mq 65 4,
mq 66 9,
tq 67 (.bin .add (.t 65) (.t 66)),
mq 68 5,
mq 69 10,
tq 70 (.idxAddr 1 (.t 68) (.t 69)),
ld 71 70,
tq 72 (.idxAddr 1 (.t 64) (.t 67)),
⟨none, none, .store 1 (.t 72) (.t 71)⟩] [9, 10, 64, 65, 66, 67, 68, 69, 70, 71, 72])))
(rg [
tq 73 (.bin .add (.t 59) (kq 1)),
mq 59 73] [73]))))

def c_priority_ranking_order : CF := ⟨[.tmp 2],
  (sr [
tq 1 (.box ty_priority_ranking (.t 0)),
tq 2 (.ownNil ⟨true, ty_int, 1, 8⟩)] [0, 2]
(sr [
fa 11 4 1,
ld 12 11,
tq 13 (.len .slc (.t 12)),
tq 14 (.makeRow ⟨true, ty_int, 1, 8⟩ [.int .i64 0] (.t 13)),
mq 3 14] [11, 12, 13, 14]
(sr [
mq 15 3,
fa 16 4 1,
ld 17 16,
tq 18 (.len .slc (.t 17)),
tq 19 (cl n_priority_indices [.t 18]),
tq 20 (.copy 1 (.t 15) (.t 19))] [15, 16, 17, 18, 19, 20]
(sr [
mq 21 3,
tq 22 (.mkFunc n_priority_ranking_order_1 [] [.t 1]),
tq 23 (.call true true (.k (.fn n_slices_SortFunc_Lint_int [] [])) [.t 21, .t 22])] [21, 22, 23]
(sr [
mq 24 3,
tq 25 (.mkFunc n_priority_ranking_order_2 [] [.t 1]),
tq 26 (.call true true (.k (.fn n_slices_IndexFunc_Lint_int [] [])) [.t 24, .t 25]),
mq 4 26] [24, 25, 26]
(.seq (sr [
mq 27 4,
tq 28 (.bin .lss (.t 27) (kq 0))] [27]
(.cond (.t 28) (sr [
mq 29 3,
mq 2 29] [3, 29]
.ret)
 .skip))
(sr [
mq 30 3,
mq 31 4,
tq 32 (.slice 1 (.t 30) (some (.t 31)) none none),
tq 33 (.call true true (.k (.fn n_slices_Clone_Lint_int [] [])) [.t 32]),
mq 5 33] [30, 31, 32, 33]
(sr [
tq 6 (.ownNil ⟨false, ty_bool, 1, 1⟩)] []
(.seq (sr [
mq 34 5,
tq 35 (.len .slc (.t 34)),
tq 36 (.mv (kq 0))] []
(.block 0 (.loop [1, 3, 4, 5, 6, 34, 35, 36] b_priority_ranking_order_1)))
(.seq (sr [
fa 50 0 1,
fa 51 2 50,
ld 52 51,
fa 53 0 1,
fa 54 3 53,
ld 55 54,
mq 56 6,
tq 57 (cl n_priority_interleaved [.t 52, .t 55, .t 56]),
tq 58 (.len .slc (.t 57)),
tq 59 (.mv (kq 0))] [1, 6, 50, 51, 52, 53, 54, 55, 56]
(.block 2 (.loop [3, 4, 5, 57, 58, 59] b_priority_ranking_order_2)))
(sr [
mq 74 3,
mq 2 74] [3, 74]
.ret)))))))))))⟩

def c_priority_ranking_compare : CF := ⟨[.tmp 6, .tmp 7],
  (sr [
tq 3 (.box ty_priority_ranking (.t 0)),
tq 6 (.mv (kq 0)),
tq 7 (.mv (.k (.d (.str []))))] [0, 6, 7]
(.seq (.reg true [
fa 11 0 3,
lq 12 4 11,
fa 13 4 3,
ld 14 13,
mq 15 1,
tq 16 (.idxAddr 18 (.t 14) (.t 15)),
lq 17 18 16,
fa 18 4 3,
ld 19 18,
mq 20 2,
tq 21 (.idxAddr 18 (.t 19) (.t 20)),
lq 22 18 21,
tq 23 (cl n_priority_Program_decide [.t 12, .t 17, .t 22]),
mq 10 23,
xq 24 10 0,
xq 25 10 1,
mq 8 24,
mq 9 25] [10, 11, 12, 13, 14, 15, 16, 17, 18, 19, 20, 21, 22, 23, 24, 25])
(.seq (sr [
mq 26 8,
tq 27 (.bin .eql (.t 26) (kq 0))] [26]
(.cond (.t 27) (.seq (.reg true [
fa 28 5 3,
ld 29 28,
mq 30 1,
tq 31 (.idxAddr 1 (.t 29) (.t 30)),
ld 32 31,
fa 33 5 3,
ld 34 33,
mq 35 2,
tq 36 (.idxAddr 1 (.t 34) (.t 35)),
ld 37 36,
tq 38 (cl n_cmp_Compare_int [.t 32, .t 37]),
mq 6 38,
tq 7 (.mv (.k (.d (.str [108, 111, 116]))))] [1, 2, 3, 28, 29, 30, 31, 32, 33, 34, 35, 36, 37, 38])
.ret)
 .skip))
(sr [
mq 39 8,
mq 40 9,
mq 6 39,
mq 7 40] [8, 9, 39, 40]
.ret))))⟩

def c_priority_within : CF := ⟨[.tmp 6],
  (sr [
tq 6 (.mv (kq 0))] [6]
(sr [
mq 7 0,
mq 8 1,
tq 9 (.bin .lss (.t 7) (.t 8)),
mq 10 9,
gq 11 10 false (.mv (.t 0)),
gq 12 10 false (.mv (.t 2)),
gq 13 10 false (.bin .gtr (.t 11) (.t 12)),
tq 14 (.pick (.t 10) (.k (.d (.bool true))) (.t 13)),
tq 15 (cl n_priority_when [.t 14, kq 3]),
mq 6 15] [0, 1, 2, 7, 8, 9, 10, 11, 12, 13, 14, 15]
.ret))⟩

def c_priority_when : CF := ⟨[.tmp 4],
  (sr [
tq 4 (.mv (kq 0))] [4]
(.seq (sr [
mq 5 0] [0]
(.cond (.t 5) (sr [
mq 6 1,
mq 4 6] [1, 6]
.ret)
 .skip))
(sr [
tq 4 (.mv (kq 0))] []
.ret)))⟩

def b_priority_interleaved_1 : C :=
  (sr [
tq 16 (.bin .lss (.t 15) (.t 14))] []
(.seq (.cond (.t 16) .skip
 (.exit 0))
(.seq (.block 1 (sr [
mq 17 15,
tq 18 (.idxAddr 1 (.t 13) (.t 15)),
ld 19 18,
mq 8 17,
mq 9 19] [17, 18, 19]
(rg [
mq 20 9,
tq 21 (.un .not (.t 20)),
tq 22 (cl n_priority_bit [.t 21]),
mq 23 9,
tq 24 (.un .not (.t 23)),
tq 25 (cl n_priority_bit [.t 24]),
tq 26 (.idxAddrA 2 1 (.t 7) (.t 25)),
ld 27 26,
mq 28 8,
tq 29 (.mkList 1 1 [.t 28]),
tq 30 (.append ⟨false, ty_int, 1, 8⟩ (.t 27) (.t 29)),
tq 31 (.idxAddrA 2 1 (.t 7) (.t 22)),
⟨none, none, .store 1 (.t 31) (.t 30)⟩] [8, 9, 20, 21, 22, 23, 24, 25, 26, 27, 28, 29, 30, 31])))
(rg [
tq 32 (.bin .add (.t 15) (kq 1)),
mq 15 32] [32]))))

def b_priority_interleaved_2 : C :=
  (sr [
tq 36 (.bin .lss (.t 35) (.t 34))] []
(.seq (.cond (.t 36) .skip
 (.exit 2))
(.seq (.block 3 (sr [
mq 37 35,
mq 11 37] [37]
(sr [
mq 38 11,
mq 39 0,
tq 40 (.bin .rem (.t 38) (.t 39)),
mq 41 1,
tq 42 (.bin .geq (.t 40) (.t 41)),
tq 43 (cl n_priority_bit [.t 42]),
mq 12 43] [11, 38, 39, 40, 41, 42, 43]
(.seq (sr [
mq 44 12,
tq 45 (.idxAddrA 2 1 (.t 7) (.t 44)),
ld 46 45,
tq 47 (.len .slc (.t 46)),
tq 48 (.bin .eql (.t 47) (kq 0))] [44, 45, 46, 47]
(.cond (.t 48) (rg [
mq 49 12,
tq 50 (.bin .sub (kq 1) (.t 49)),
mq 12 50] [49, 50])
 .skip))
(.regC [
mq 51 12,
mq 52 10,
mq 53 12,
tq 54 (.idxAddrA 2 1 (.t 7) (.t 53)),
ld 55 54,
tq 56 (.idxAddr 1 (.t 55) (kq 0)),
ld 57 56,
tq 58 (.mkList 1 1 [.t 57]),
tq 59 (.append ⟨false, ty_int, 1, 8⟩ (.t 52) (.t 58)),
mq 60 12,
tq 61 (.idxAddrA 2 1 (.t 7) (.t 60)),
ld 62 61,
tq 63 (.slice 1 (.t 62) (some (kq 1)) none none),
mq 10 59,
tq 64 (.idxAddrA 2 1 (.t 7) (.t 51)),
⟨none, none, .store 1 (.t 64) (.t 63)⟩] [12, 51, 52, 53, 54, 55, 56, 57, 58, 59, 60, 61, 62, 63, 64] [(7, 59), (61, 59), (62, 59)])))))
(rg [
tq 65 (.bin .add (.t 35) (kq 1)),
mq 35 65] [65]))))

def c_priority_interleaved : CF := ⟨[.tmp 6],
  (sr [
tq 6 (.ownNil ⟨false, ty_int, 1, 8⟩)] [6]
(sr [
tq 7 (.alloc ty_2_Lint [.own ⟨false, ty_int, 1, 8⟩, .own ⟨false, ty_int, 1, 8⟩])] []
(.seq (sr [
mq 13 2,
tq 14 (.len .slc (.t 13)),
tq 15 (.mv (kq 0))] []
(.block 0 (.loop [0, 1, 2, 7, 13, 14, 15] b_priority_interleaved_1)))
(sr [
tq 10 (.ownNil ⟨false, ty_int, 1, 8⟩)] []
(.seq (sr [
mq 33 2,
tq 34 (.len .slc (.t 33)),
tq 35 (.mv (kq 0))] [2, 33]
(.block 2 (.loop [0, 1, 7, 10, 34, 35] b_priority_interleaved_2)))
(sr [
mq 66 10,
mq 6 66] [10, 66]
.ret))))))⟩

def c_priority_checkKey : CF := ⟨[.tmp 2],
  (sr [
tq 2 (.mv (kq 0))] [2]
(sr [
mq 3 0,
tq 4 (cl n_priority_within [.t 3, kq 1, kq 2147483646]),
mq 2 4] [0, 3, 4]
.ret))⟩

def c_priority_checkClaims : CF := ⟨[.tmp 2],
  (sr [
tq 2 (.mv (kq 0))] [2]
(.seq (sr [
mq 3 0,
tq 4 (.len .slc (.t 3)),
tq 5 (.bin .gtr (.t 4) (kq 64))] [3, 4]
(.cond (.t 5) (sr [
tq 2 (.mv (kq 5))] []
.ret)
 .skip))
(sr [
mq 6 0,
tq 7 (cl n_priority_each_priority_Claim [.t 6, .k (.fn n_priority_checkClaims_1 [] [])]),
mq 2 7] [0, 6, 7]
.ret)))⟩

def b_priority_lots_1 : C :=
  (sr [
tq 30 (.bin .lss (.t 29) (.t 28))] []
(.seq (.cond (.t 30) .skip
 (.exit 0))
(.seq (.block 1 (sr [
mq 31 29,
tq 32 (.idxAddr 1 (.t 27) (.t 29)),
ld 33 32,
mq 9 31,
mq 10 33] [31, 32, 33]
(rg [
mq 34 8,
mq 35 10,
mq 36 6,
mq 37 9,
tq 38 (.idxAddr 1 (.t 36) (.t 37)),
ld 39 38,
tq 40 (.idxAddr 1 (.t 34) (.t 35)),
⟨none, none, .store 1 (.t 40) (.t 39)⟩] [9, 10, 34, 35, 36, 37, 38, 39, 40])))
(rg [
tq 41 (.bin .add (.t 29) (kq 1)),
mq 29 41] [41]))))

def c_priority_lots : CF := ⟨[.tmp 4],
  (sr [
tq 3 (.box ty_Lpriority_Claim (.t 1)),
tq 4 (.ownNil ⟨true, ty_int, 1, 8⟩)] [1, 4]
(sr [
ld 11 3,
tq 12 (.len .slc (.t 11)),
tq 13 (.call false false (.k (.fn n_priority_indices [] [])) [.t 12]),
mq 5 13] [11, 12, 13]
(sr [
mq 14 5,
tq 15 (.mkFunc n_priority_lots_1 [] [.t 3]),
tq 16 (.call true true (.k (.fn n_slices_SortFunc_Lint_int [] [])) [.t 14, .t 15])] [14, 15, 16]
(sr [
mq 18 0,
ld 19 3,
tq 20 (.len .slc (.t 19)),
tq 21 (cl n_calendar_Draw [.t 18, .t 20]),
mq 17 21,
xq 22 17 0,
xq 23 17 1,
mq 6 22,
mq 7 23] [0, 7, 17, 18, 19, 20, 21, 22, 23]
(sr [
ld 24 3,
tq 25 (.len .slc (.t 24)),
tq 26 (.makeRow ⟨true, ty_int, 1, 8⟩ [.int .i64 0] (.t 25)),
mq 8 26] [3, 24, 25, 26]
(.seq (sr [
mq 27 5,
tq 28 (.len .slc (.t 27)),
tq 29 (.mv (kq 0))] [5]
(.block 0 (.loop [6, 8, 27, 28, 29] b_priority_lots_1)))
(sr [
mq 42 8,
mq 4 42] [8, 42]
.ret)))))))⟩

def b_priority_known_1 : C :=
  (sr [
tq 8 (.bin .lss (.t 7) (.t 6))] []
(.seq (.cond (.t 8) .skip
 (.exit 0))
(.seq (.block 1 (sr [
tq 9 (.idxAddr 2 (.t 5) (.t 7)),
lq 10 2 9,
tq 3 (.alloc ty_priority_fact [.z (.str []), .z (.nilf)]),
⟨none, none, .store 2 (.t 3) (.t 10)⟩] [9, 10]
(rg [
mq 11 1,
fa 12 0 3,
ld 13 12,
lq 14 2 3,
⟨none, none, .mapSet .str (.t 11) (.t 13) (.t 14)⟩] [3, 11, 12, 13, 14])))
(rg [
tq 15 (.bin .add (.t 7) (kq 1)),
mq 7 15] [15]))))

def c_priority_known : CF := ⟨[.tmp 0],
  (sr [
tq 0 (.mv (.k (.d (.nilm))))] [0]
(sr [
tq 4 (.mkMap),
mq 1 4] [4]
(.seq (sr [
tq 5 (.call false false (.k (.fn n_priority_facts [] [])) []),
tq 6 (.len .slc (.t 5)),
tq 7 (.mv (kq 0))] []
(.block 0 (.loop [1, 5, 6, 7] b_priority_known_1)))
(sr [
mq 16 1,
mq 0 16] [1, 16]
.ret))))⟩

def b_calendar_IsName_1 : C :=
  (sr [
tq 16 (.nextS (.t 15)),
xq 17 16 0] []
(.seq (.cond (.t 17) .skip
 (.exit 0))
(.block 1 (sr [
xq 18 16 1,
xq 19 16 2,
mq 3 18,
mq 4 19] [16, 18, 19]
(sr [
mq 20 4,
tq 21 (.bin .geq (.t 20) (.k (.d (.int .i32 65)))),
mq 22 21,
gq 23 22 true (.mv (.t 4)),
gq 24 22 true (.bin .leq (.t 23) (.k (.d (.int .i32 90)))),
tq 25 (.pick (.t 22) (.t 24) (.k (.d (.bool false)))),
mq 26 25,
gq 27 26 false (.mv (.t 4)),
gq 28 26 false (.bin .geq (.t 27) (.k (.d (.int .i32 97)))),
gq 29 26 false (.mv (.t 28)),
gq 30 29 true (.mv (.t 4)),
gq 31 29 true (.bin .leq (.t 30) (.k (.d (.int .i32 122)))),
gq 32 26 false (.pick (.t 29) (.t 31) (.k (.d (.bool false)))),
tq 33 (.pick (.t 26) (.k (.d (.bool true))) (.t 32)),
mq 5 33] [20, 21, 22, 23, 24, 25, 26, 27, 28, 29, 30, 31, 32, 33]
(sr [
mq 34 5,
tq 35 (.un .not (.t 34)),
mq 36 35,
gq 37 36 true (.mv (.t 3)),
gq 38 36 true (.bin .eql (.t 37) (kq 0)),
gq 39 36 true (.mv (.t 38)),
gq 40 39 false (.mv (.t 4)),
gq 41 39 false (.bin .neq (.t 40) (.k (.d (.int .i32 95)))),
gq 42 39 false (.mv (.t 41)),
gq 43 42 true (.mv (.t 4)),
gq 44 42 true (.bin .lss (.t 43) (.k (.d (.int .i32 48)))),
gq 45 42 true (.mv (.t 44)),
gq 46 45 false (.mv (.t 4)),
gq 47 45 false (.bin .gtr (.t 46) (.k (.d (.int .i32 57)))),
gq 48 42 true (.pick (.t 45) (.k (.d (.bool true))) (.t 47)),
gq 49 39 false (.pick (.t 42) (.t 48) (.k (.d (.bool false)))),
gq 50 36 true (.pick (.t 39) (.k (.d (.bool true))) (.t 49)),
tq 51 (.pick (.t 36) (.t 50) (.k (.d (.bool false))))] [3, 4, 5, 34, 35, 36, 37, 38, 39, 40, 41, 42, 43, 44, 45, 46, 47, 48, 49, 50]
(.cond (.t 51) (sr [
tq 2 (.mv (.k (.d (.bool false))))] []
.ret)
 .skip)))))))

def c_calendar_IsName : CF := ⟨[.tmp 2],
  (sr [
tq 2 (.mv (.k (.d (.bool false))))] [2]
(.seq (sr [
mq 6 0,
tq 7 (.len .str (.t 6)),
tq 8 (.bin .eql (.t 7) (kq 0)),
mq 9 8,
gq 10 9 false (.mv (.t 0)),
gq 11 9 false (.len .str (.t 10)),
gq 12 9 false (.bin .gtr (.t 11) (kq 24)),
tq 13 (.pick (.t 9) (.k (.d (.bool true))) (.t 12))] [6, 7, 8, 9, 10, 11, 12]
(.cond (.t 13) (sr [
tq 2 (.mv (.k (.d (.bool false))))] []
.ret)
 .skip))
(.seq (sr [
mq 14 0,
tq 15 (.rangeS (.t 14))] [0, 14]
(.block 0 (.loop [15] b_calendar_IsName_1)))
(sr [
tq 2 (.mv (.k (.d (.bool true))))] []
.ret))))⟩

def b_priority_each_api_Request_1 : C :=
  (sr [
tq 11 (.bin .lss (.t 10) (.t 9))] []
(.seq (.cond (.t 11) .skip
 (.exit 0))
(.seq (.block 1 (sr [
mq 12 10,
tq 13 (.idxAddr 13 (.t 8) (.t 10)),
lq 14 13 13,
tq 6 (.alloc ty_api_Request [.z (.str []), .z (.str []), .z (.str []), .z (.str []), .z (.str []), .z (.str []), .z (.int .i64 0), .z (.int .i64 0), .z (.int .i64 0), .z (.int .i64 0), .z (.int .i64 0), .z (.int .i64 0), .z (.int .i64 0)]),
mq 5 12,
⟨none, none, .store 13 (.t 6) (.t 14)⟩] [12, 13, 14]
(.seq (.reg true [
mq 15 1,
mq 16 0,
mq 17 5,
tq 18 (.slice 13 (.t 16) none (some (.t 17)) none),
lq 19 13 6,
tq 20 (.call false true (.t 15) [.t 18, .t 19]),
mq 7 20] [5, 6, 15, 16, 17, 18, 19, 20])
(sr [
mq 21 7,
tq 22 (.bin .neq (.t 21) (kq 0))] [21]
(.cond (.t 22) (sr [
mq 23 7,
mq 4 23] [7, 23]
.ret)
 .skip)))))
(rg [
tq 24 (.bin .add (.t 10) (kq 1)),
mq 10 24] [24]))))

def c_priority_each_api_Request : CF := ⟨[.tmp 4],
  (sr [
tq 4 (.mv (kq 0))] [4]
(.seq (sr [
mq 8 0,
tq 9 (.len .slc (.t 8)),
tq 10 (.mv (kq 0))] []
(.block 0 (.loop [0, 1, 8, 9, 10] b_priority_each_api_Request_1)))
(sr [
tq 4 (.mv (kq 0))] []
.ret)))⟩

def c_priority_Newcomer_1 : CF := ⟨[.tmp 4],
  (sr [
tq 3 (.box ty_api_Request (.t 1)),
tq 4 (.mv (kq 0))] [1, 4]
(sr [
mq 6 0,
tq 7 (.mkFunc n_priority_Newcomer_1_1 [] [.t 3]),
tq 8 (.call true true (.k (.fn n_slices_ContainsFunc_Lapi_Request_api_Request [] [])) [.t 6, .t 7]),
mq 5 8] [0, 6, 7, 8]
(sr [
lq 9 13 3,
tq 10 (cl n_message_CheckRequest [.t 9]),
mq 11 5,
tq 12 (cl n_priority_when [.t 11, kq 9]),
tq 13 (.mkList 1 2 [.t 10, .t 12]),
tq 14 (cl n_priority_first [.t 13]),
mq 4 14] [3, 5, 9, 10, 11, 12, 13, 14]
.ret)))⟩

def c_slices_ContainsFunc_Lapi_Request_api_Request : CF := ⟨[.tmp 4],
  (sr [
tq 4 (.mv (.k (.d (.bool false))))] [4]
(sr [
mq 5 0,
mq 6 1,
tq 7 (.call true true (.k (.fn n_slices_IndexFunc_Lapi_Request_api_Request [] [])) [.t 5, .t 6]),
tq 8 (.bin .geq (.t 7) (kq 0)),
mq 4 8] [0, 1, 5, 6, 7, 8]
.ret))⟩

def c_priority_Newcomer_1_1 : CF := ⟨[.tmp 3],
  (sr [
tq 2 (.box ty_api_Request (.t 0)),
tq 3 (.mv (.k (.d (.bool false))))] [0, 3]
(sr [
fa 4 0 2,
ld 5 4,
fa 6 0 1,
ld 7 6,
tq 8 (.bin .eql (.t 5) (.t 7)),
mq 3 8] [1, 2, 4, 5, 6, 7, 8]
.ret))⟩

def c_message_CheckRequest : CF := ⟨[.tmp 2],
  (sr [
tq 1 (.box ty_api_Request (.t 0)),
tq 2 (.mv (kq 0))] [0, 2]
(.seq (.reg true [
fa 3 0 1,
ld 4 3,
tq 5 (cl n_message_named [.t 4]),
fa 6 1 1,
ld 7 6,
tq 8 (cl n_message_named [.t 7]),
fa 9 4 1,
ld 10 9,
tq 11 (cl n_message_named [.t 10]),
fa 12 3 1,
ld 13 12,
tq 14 (cl n_message_optional [.t 13]),
fa 15 5 1,
ld 16 15,
tq 17 (cl n_message_optional [.t 16]),
fa 18 2 1,
ld 19 18,
tq 20 (cl n_message_isKind [.t 19]),
tq 21 (.un .not (.t 20)),
tq 22 (cl n_message_when [.t 21, kq 13]),
fa 23 5 1,
ld 24 23,
fa 25 0 1,
ld 26 25,
tq 27 (.bin .eql (.t 24) (.t 26)),
tq 28 (cl n_message_when [.t 27, kq 32]),
fa 29 6 1,
lq 30 3 29,
tq 31 (cl n_calendar_CheckPeriod [.t 30]),
fa 32 9 1,
ld 33 32,
tq 34 (cl n_message_within [.t 33, kq 0, kq 1439]),
fa 35 10 1,
ld 36 35,
tq 37 (cl n_message_within [.t 36, kq 0, kq 999]),
fa 38 11 1,
ld 39 38,
tq 40 (cl n_message_within [.t 39, kq 1, kq 9]),
fa 41 12 1,
ld 42 41,
tq 43 (cl n_message_within [.t 42, kq 0, kq 99]),
tq 44 (.mkList 1 12 [.t 5, .t 8, .t 11, .t 14, .t 17, .t 22, .t 28, .t 31, .t 34, .t 37, .t 40, .t 43]),
tq 45 (cl n_message_first [.t 44]),
mq 2 45] [1, 3, 4, 5, 6, 7, 8, 9, 10, 11, 12, 13, 14, 15, 16, 17, 18, 19, 20, 21, 22, 23, 24, 25, 26, 27, 28, 29, 30, 31, 32, 33, 34, 35, 36, 37, 38, 39, 40, 41, 42, 43, 44, 45])
.ret))⟩

def c_calendar_Has : CF := ⟨[.tmp 4, .tmp 5],
  (sr [
tq 2 (.box ty_api_Period (.t 0)),
tq 4 (.mv (.k (.d (.bool false)))),
tq 5 (.mv (kq 0))] [0, 4, 5]
(.seq (sr [
lq 7 3 2,
tq 8 (cl n_calendar_CheckPeriod [.t 7]),
mq 9 1,
tq 10 (cl n_calendar_checkDay [.t 9]),
tq 11 (.mkList 1 2 [.t 8, .t 10]),
tq 12 (cl n_calendar_first [.t 11]),
mq 6 12] [7, 8, 9, 10, 11, 12]
(sr [
mq 13 6,
tq 14 (.bin .neq (.t 13) (kq 0))] [13]
(.cond (.t 14) (sr [
mq 15 6,
tq 4 (.mv (.k (.d (.bool false)))),
mq 5 15] [6, 15]
.ret)
 .skip)))
(sr [
lq 16 3 2,
mq 17 1,
tq 18 (cl n_calendar_has [.t 16, .t 17]),
mq 4 18,
tq 5 (.mv (kq 0))] [1, 2, 16, 17, 18]
.ret)))⟩

def c_priority_bit : CF := ⟨[.tmp 2],
  (sr [
tq 2 (.mv (kq 0))] [2]
(.seq (sr [
mq 3 0] [0]
(.cond (.t 3) (sr [
tq 2 (.mv (kq 1))] []
.ret)
 .skip))
(sr [
tq 2 (.mv (kq 0))] []
.ret)))⟩

def c_ref01_Has : CF := ⟨[.tmp 4],
  (sr [
tq 2 (.box ty_api_Period (.t 0)),
tq 4 (.mv (.k (.d (.bool false))))] [0, 4]
(.seq (.reg true [
mq 5 1,
fa 6 0 2,
ld 7 6,
tq 8 (.bin .geq (.t 5) (.t 7)),
mq 9 8,
gq 10 9 true (.mv (.t 1)),
gq 11 9 true (.fieldAddr 1 (.t 2)),
gq 12 9 true (.load none (.t 11)),
gq 13 9 true (.bin .leq (.t 10) (.t 12)),
tq 14 (.pick (.t 9) (.t 13) (.k (.d (.bool false)))),
mq 15 14,
gq 16 15 true (.fieldAddr 2 (.t 2)),
gq 17 15 true (.load none (.t 16)),
gq 18 15 true (.mv (.t 1)),
gq 19 15 true (cl n_ref01_Weekday [.t 18]),
gq 20 15 true (cl n_ref01_InMask [.t 17, .t 19]),
tq 21 (.pick (.t 15) (.t 20) (.k (.d (.bool false)))),
mq 4 21] [1, 2, 5, 6, 7, 8, 9, 10, 11, 12, 13, 14, 15, 16, 17, 18, 19, 20, 21])
.ret))⟩

def c_strings_CutSuffix : CF := ⟨[.tmp 4, .tmp 5],
  (sr [
tq 4 (.mv (.k (.d (.str [])))),
tq 5 (.mv (.k (.d (.bool false))))] [4, 5]
(sr [
mq 6 0,
mq 7 1,
tq 8 (cl n_internal_stringslite_CutSuffix [.t 6, .t 7]),
xq 9 8 0,
xq 10 8 1,
mq 4 9,
mq 5 10] [0, 1, 6, 7, 8, 9, 10]
.ret))⟩

def c_slices_Contains_Lstring_string : CF := ⟨[.tmp 4],
  (sr [
tq 4 (.mv (.k (.d (.bool false))))] [4]
(sr [
mq 5 0,
mq 6 1,
tq 7 (cl n_slices_Index_Lstring_string [.t 5, .t 6]),
tq 8 (.bin .geq (.t 7) (kq 0)),
mq 4 8] [0, 1, 5, 6, 7, 8]
.ret))⟩

def c_priority_reader_next : CF := ⟨[.tmp 2],
  (sr [
tq 2 (.mv (.k (.d (.str []))))] [2]
(.seq (sr [
mq 4 0,
tq 5 (.nilCheck (.t 4)),
fa 6 0 5,
ld 7 6,
tq 8 (.len .slc (.t 7)),
tq 9 (.bin .eql (.t 8) (kq 0))] [4, 5, 6, 7, 8]
(.cond (.t 9) (sr [
tq 2 (.mv (.k (.d (.str []))))] []
.ret)
 .skip))
(sr [
mq 10 0,
tq 11 (.nilCheck (.t 10)),
fa 12 0 11,
ld 13 12,
tq 14 (.idxAddr 1 (.t 13) (kq 0)),
ld 15 14,
mq 3 15] [10, 11, 12, 13, 14, 15]
(sr [
mq 16 0,
mq 17 0,
tq 18 (.nilCheck (.t 17)),
fa 19 0 18,
ld 20 19,
tq 21 (.slice 1 (.t 20) (some (kq 1)) none none),
tq 22 (.nilCheck (.t 16)),
fa 23 0 22,
⟨none, none, .store 1 (.t 23) (.t 21)⟩] [0, 16, 17, 18, 19, 20, 21, 22, 23]
(sr [
mq 24 3,
mq 2 24] [3, 24]
.ret)))))⟩

def c_priority_reader_class : CF := ⟨[.cell 2 (some 3), .tmp 3],
  (sr [
tq 2 (.alloc ty_priority_Class [.z (.str []), .z (.list 0 []), .z (.list 0 [])]),
tq 3 (.mv (.k (.d (.bool false))))] [3]
(sr [
mq 7 0,
tq 8 (.mkFunc n_priority_reader_next [.t 7] []),
mq 4 8] [7, 8]
(sr [
mq 9 4,
tq 10 (.call true true (.t 9) []),
tq 11 (.build [.z (.str []), .z (.list 0 []), .z (.list 0 [])] [(0, 1, .t 10)]),
tq 5 (.alloc ty_priority_Class [.z (.str []), .z (.list 0 []), .z (.list 0 [])]),
⟨none, none, .store 3 (.t 5) (.t 11)⟩] [9, 10, 11]
(sr [
fa 12 0 5,
ld 13 12,
tq 14 (.bin .neq (.t 13) (.k (.d (.str [])))),
mq 6 14] [12, 13, 14]
(.seq (sr [
mq 15 6,
mq 16 15,
gq 17 16 true (.mv (.t 0)),
gq 18 16 true (.nilCheck (.t 17)),
gq 19 16 true (.fieldAddr 0 (.t 18)),
gq 20 16 true (.load none (.t 19)),
gq 21 16 true (.len .slc (.t 20)),
gq 22 16 true (.bin .gtr (.t 21) (kq 0)),
tq 23 (.pick (.t 16) (.t 22) (.k (.d (.bool false)))),
mq 24 23,
gq 25 24 true (.mv (.t 0)),
gq 26 24 true (.nilCheck (.t 25)),
gq 27 24 true (.fieldAddr 0 (.t 26)),
gq 28 24 true (.load none (.t 27)),
gq 29 24 true (.idxAddr 1 (.t 28) (kq 0)),
gq 30 24 true (.load none (.t 29)),
gq 31 24 true (.bin .eql (.t 30) (.k (.d (.str [119, 104, 101, 110])))),
tq 32 (.pick (.t 24) (.t 31) (.k (.d (.bool false))))] [15, 16, 17, 18, 19, 20, 21, 22, 23, 24, 25, 26, 27, 28, 29, 30, 31]
(.cond (.t 32) (sr [
mq 33 4,
tq 34 (.call true true (.t 33) [])] [33, 34]
(rg [
mq 36 0,
tq 37 (.call true true (.k (.fn n_priority_all_priority_Test [] [])) [.t 36, .k (.d (.str [98, 121])), .k (.fn n_priority_test [] [])]),
mq 35 37,
xq 38 35 0,
xq 39 35 1,
fa 40 1 5,
⟨none, none, .store 1 (.t 40) (.t 38)⟩,
mq 6 39] [35, 36, 37, 38, 39, 40]))
 .skip))
(.seq (sr [
mq 41 6,
tq 42 (.un .not (.t 41)),
mq 43 42,
gq 44 43 false (.mv (.t 0)),
gq 45 43 false (.nilCheck (.t 44)),
gq 46 43 false (.fieldAddr 0 (.t 45)),
gq 47 43 false (.load none (.t 46)),
gq 48 43 false (.len .slc (.t 47)),
gq 49 43 false (.bin .eql (.t 48) (kq 0)),
tq 50 (.pick (.t 43) (.k (.d (.bool true))) (.t 49))] [41, 42, 43, 44, 45, 46, 47, 48, 49]
(.cond (.t 50) (sr [
lq 51 3 5,
mq 52 6,
⟨none, none, .store 3 (.t 2) (.t 51)⟩,
mq 3 52] [5, 6, 51, 52]
.ret)
 .skip))
(.seq (sr [
mq 53 4,
tq 54 (.call true true (.t 53) []),
tq 55 (.bin .neq (.t 54) (.k (.d (.str [98, 121]))))] [4, 53, 54]
(.cond (.t 55) (sr [
tq 56 (.build [.z (.str []), .z (.list 0 []), .z (.list 0 [])] []),
⟨none, none, .store 3 (.t 2) (.t 56)⟩,
tq 3 (.mv (.k (.d (.bool false))))] [56]
.ret)
 .skip))
(sr [
mq 58 0,
tq 59 (.call true true (.k (.fn n_priority_all_priority_Key [] [])) [.t 58, .k (.d (.str [])), .k (.fn n_priority_key [] [])]),
mq 57 59,
xq 60 57 0,
xq 61 57 1,
fa 62 2 5,
⟨none, none, .store 1 (.t 62) (.t 60)⟩,
mq 6 61] [0, 57, 58, 59, 60, 61, 62]
(sr [
lq 63 3 5,
mq 64 6,
⟨none, none, .store 3 (.t 2) (.t 63)⟩,
mq 3 64] [5, 6, 63, 64]
.ret)))))))))⟩

def c_priority_added : CF := ⟨[.tmp 4],
  (sr [
tq 3 (.box ty_priority_Class (.t 1)),
tq 4 (.mv (kq 0))] [1, 4]
(sr [
mq 6 0,
tq 7 (.mkFunc n_priority_added_1 [] [.t 3]),
tq 8 (.call true true (.k (.fn n_slices_ContainsFunc_Lpriority_Class_priority_Class [] [])) [.t 6, .t 7]),
mq 5 8] [0, 6, 7, 8]
(sr [
lq 9 3 3,
tq 10 (cl n_priority_Class_check [.t 9]),
mq 11 5,
tq 12 (cl n_priority_when [.t 11, kq 9]),
tq 13 (.mkList 1 2 [.t 10, .t 12]),
tq 14 (cl n_priority_first [.t 13]),
mq 4 14] [3, 5, 9, 10, 11, 12, 13, 14]
.ret)))⟩

def b_priority_reader_pool_1 : C :=
  (sr [
tq 36 (.bin .lss (.t 35) (kq 3))] []
(.seq (.cond (.t 36) .skip
 (.exit 0))
(.seq (.block 1 (sr [
mq 37 35,
mq 7 37] [37]
(sr [
mq 39 0,
tq 40 (.nilCheck (.t 39)),
fa 41 0 40,
ld 42 41,
mq 43 7,
tq 44 (.bin .mul (kq 2) (.t 43)),
tq 45 (.idxAddr 1 (.t 42) (.t 44)),
ld 46 45,
tq 47 (cl n_priority_integer [.t 46]),
mq 38 47,
xq 48 38 0,
xq 49 38 1,
mq 8 48,
mq 9 49] [38, 39, 40, 41, 42, 43, 44, 45, 46, 47, 48, 49]
(.seq (sr [
mq 50 9,
tq 51 (.un .not (.t 50))] [9, 50]
(.cond (.t 51) (sr [
tq 52 (.build [.own ⟨true, ty_priority_Class, 3, 64⟩, .z (.int .i64 0), .z (.int .i64 0), .z (.int .i64 0)] []),
⟨none, none, .store 4 (.t 4) (.t 52)⟩,
tq 5 (.mv (.k (.d (.bool false))))] [52]
.ret)
 .skip))
(rg [
mq 53 7,
mq 54 8,
tq 55 (.idxAddrA 3 1 (.t 6) (.t 53)),
⟨none, none, .store 1 (.t 55) (.t 54)⟩] [7, 8, 53, 54, 55])))))
(rg [
tq 56 (.bin .add (.t 35) (kq 1)),
mq 35 56] [56]))))

def c_priority_reader_pool : CF := ⟨[.cell 4 (some 4), .tmp 5],
  (sr [
tq 3 (.box ty_priority_Program (.t 1)),
tq 4 (.alloc ty_priority_Program [.own ⟨true, ty_priority_Class, 3, 64⟩, .z (.int .i64 0), .z (.int .i64 0), .z (.int .i64 0)]),
tq 5 (.mv (.k (.d (.bool false))))] [1, 5]
(.seq (sr [
mq 10 0,
tq 11 (.nilCheck (.t 10)),
fa 12 0 11,
ld 13 12,
tq 14 (.len .slc (.t 13)),
tq 15 (.bin .neq (.t 14) (kq 5)),
mq 16 15,
gq 17 16 false (.mv (.t 0)),
gq 18 16 false (.nilCheck (.t 17)),
gq 19 16 false (.fieldAddr 0 (.t 18)),
gq 20 16 false (.load none (.t 19)),
gq 21 16 false (.idxAddr 1 (.t 20) (kq 1)),
gq 22 16 false (.load none (.t 21)),
gq 23 16 false (.bin .neq (.t 22) (.k (.d (.str [115, 104, 97, 114, 101])))),
tq 24 (.pick (.t 16) (.k (.d (.bool true))) (.t 23)),
mq 25 24,
gq 26 25 false (.mv (.t 0)),
gq 27 25 false (.nilCheck (.t 26)),
gq 28 25 false (.fieldAddr 0 (.t 27)),
gq 29 25 false (.load none (.t 28)),
gq 30 25 false (.idxAddr 1 (.t 29) (kq 3)),
gq 31 25 false (.load none (.t 30)),
gq 32 25 false (.bin .neq (.t 31) (.k (.d (.str [111, 102])))),
tq 33 (.pick (.t 25) (.k (.d (.bool true))) (.t 32))] [10, 11, 12, 13, 14, 15, 16, 17, 18, 19, 20, 21, 22, 23, 24, 25, 26, 27, 28, 29, 30, 31, 32]
(.cond (.t 33) (sr [
tq 34 (.build [.own ⟨true, ty_priority_Class, 3, 64⟩, .z (.int .i64 0), .z (.int .i64 0), .z (.int .i64 0)] []),
⟨none, none, .store 4 (.t 4) (.t 34)⟩,
tq 5 (.mv (.k (.d (.bool false))))] [34]
.ret)
 .skip))
(sr [
tq 6 (.alloc ty_3_int [.z (.int .i64 0), .z (.int .i64 0), .z (.int .i64 0)])] []
(.seq (sr [
tq 35 (.mv (kq 0))] []
(.block 0 (.loop [0, 3, 4, 6, 35] b_priority_reader_pool_1)))
(.seq (.reg true [
tq 57 (.idxAddrA 3 1 (.t 6) (kq 0)),
ld 58 57,
tq 59 (.idxAddrA 3 1 (.t 6) (kq 1)),
ld 60 59,
tq 61 (.idxAddrA 3 1 (.t 6) (kq 2)),
ld 62 61,
fa 63 1 3,
⟨none, none, .storeR 1 (.t 63) (.t 58) [6]⟩,
fa 64 3 3,
⟨none, none, .storeR 1 (.t 64) (.t 60) [6]⟩,
fa 65 2 3,
⟨none, none, .store 1 (.t 65) (.t 62)⟩] [6, 57, 58, 59, 60, 61, 62, 63, 64, 65])
(sr [
lq 66 4 3,
⟨none, none, .store 4 (.t 4) (.t 66)⟩,
tq 5 (.mv (.k (.d (.bool true))))] [3, 66]
.ret))))))⟩

def c_priority_Program_pool : CF := ⟨[.tmp 2],
  (sr [
tq 1 (.box ty_priority_Program (.t 0)),
tq 2 (.mv (kq 0))] [0, 2]
(.seq (.reg true [
fa 3 1 1,
ld 4 3,
fa 5 0 1,
ld 6 5,
tq 7 (.len .slc (.t 6)),
tq 8 (cl n_priority_within [.t 4, kq 0, .t 7]),
fa 9 2 1,
ld 10 9,
tq 11 (cl n_priority_within [.t 10, kq 1, kq 100]),
fa 12 3 1,
ld 13 12,
fa 14 2 1,
ld 15 14,
tq 16 (cl n_priority_within [.t 13, kq 0, .t 15]),
tq 17 (.mkList 1 3 [.t 8, .t 11, .t 16]),
tq 18 (cl n_priority_first [.t 17]),
mq 2 18] [1, 3, 4, 5, 6, 7, 8, 9, 10, 11, 12, 13, 14, 15, 16, 17, 18])
.ret))⟩

def b_ref01_First_1 : C :=
  (.seq (sr [
mq 4 3,
mq 5 0,
tq 6 (.len .slc (.t 5)),
tq 7 (.bin .lss (.t 4) (.t 6))] [4, 5, 6]
(.cond (.t 7) .skip
 (.exit 0)))
(.seq (.block 1 (sr [
mq 10 0,
mq 11 3,
tq 12 (.idxAddr 1 (.t 10) (.t 11)),
ld 13 12,
tq 14 (.bin .neq (.t 13) (kq 0))] [10, 11, 12, 13]
(.cond (.t 14) (sr [
mq 15 0,
mq 16 3,
tq 17 (.idxAddr 1 (.t 15) (.t 16)),
ld 18 17,
mq 2 18] [0, 3, 15, 16, 17, 18]
.ret)
 .skip)))
(rg [
mq 8 3,
tq 9 (.bin .add (.t 8) (kq 1)),
mq 3 9] [8, 9])))

def c_ref01_First : CF := ⟨[.tmp 2],
  (sr [
tq 2 (.mv (kq 0))] [2]
(.seq (sr [
tq 3 (.mv (kq 0))] []
(.block 0 (.loop [0, 3] b_ref01_First_1)))
(sr [
tq 2 (.mv (kq 0))] []
.ret)))⟩

def c_ref01_CheckRange : CF := ⟨[.tmp 6],
  (sr [
tq 6 (.mv (kq 0))] [6]
(.seq (sr [
mq 7 0,
mq 8 1,
tq 9 (.bin .lss (.t 7) (.t 8)),
mq 10 9,
gq 11 10 false (.mv (.t 0)),
gq 12 10 false (.mv (.t 2)),
gq 13 10 false (.bin .gtr (.t 11) (.t 12)),
tq 14 (.pick (.t 10) (.k (.d (.bool true))) (.t 13))] [0, 1, 2, 7, 8, 9, 10, 11, 12, 13]
(.cond (.t 14) (sr [
tq 6 (.mv (kq 3))] []
.ret)
 .skip))
(sr [
tq 6 (.mv (kq 0))] []
.ret)))⟩

def b_ref05_CheckClass_1 : C :=
  (.seq (sr [
mq 15 3,
fa 16 1 1,
ld 17 16,
tq 18 (.len .slc (.t 17)),
tq 19 (.bin .lss (.t 15) (.t 18))] [15, 16, 17, 18]
(.cond (.t 19) .skip
 (.exit 0)))
(.seq (.block 1 (sr [
fa 22 1 1,
ld 23 22,
mq 24 3,
tq 25 (.idxAddr 3 (.t 23) (.t 24)),
lq 26 3 25,
tq 27 (cl n_ref05_CheckTest [.t 26]),
mq 4 27] [22, 23, 24, 25, 26, 27]
(sr [
mq 28 4,
tq 29 (.bin .neq (.t 28) (kq 0))] [28]
(.cond (.t 29) (sr [
mq 30 4,
mq 2 30] [4, 30]
.ret)
 .skip))))
(rg [
mq 20 3,
tq 21 (.bin .add (.t 20) (kq 1)),
mq 3 21] [20, 21])))

def b_ref05_CheckClass_2 : C :=
  (.seq (sr [
mq 51 6,
mq 52 5,
tq 53 (.bin .lss (.t 51) (.t 52))] [51, 52]
(.cond (.t 53) .skip
 (.exit 4)))
(.seq (.block 5 (.seq (.reg true [
fa 56 2 1,
ld 57 56,
mq 58 6,
tq 59 (.idxAddr 2 (.t 57) (.t 58)),
fa 60 0 59,
ld 61 60,
fa 62 2 1,
ld 63 62,
mq 64 5,
tq 65 (.idxAddr 2 (.t 63) (.t 64)),
fa 66 0 65,
ld 67 66,
tq 68 (.bin .eql (.t 61) (.t 67))] [56, 57, 58, 59, 60, 61, 62, 63, 64, 65, 66, 67])
(.cond (.t 68) (sr [
tq 2 (.mv (kq 9))] []
.ret)
 .skip)))
(rg [
mq 54 6,
tq 55 (.bin .add (.t 54) (kq 1)),
mq 6 55] [54, 55])))

def b_ref05_CheckClass_3 : C :=
  (.seq (sr [
mq 35 5,
fa 36 2 1,
ld 37 36,
tq 38 (.len .slc (.t 37)),
tq 39 (.bin .lss (.t 35) (.t 38))] [35, 36, 37, 38]
(.cond (.t 39) .skip
 (.exit 2)))
(.seq (.block 3 (.seq (.seq (.reg true [
tq 42 (cl n_ref05_Facts []),
fa 43 2 1,
ld 44 43,
mq 45 5,
tq 46 (.idxAddr 2 (.t 44) (.t 45)),
fa 47 0 46,
ld 48 47,
tq 49 (cl n_ref01_HasWord [.t 42, .t 48]),
tq 50 (.un .not (.t 49))] [42, 43, 44, 45, 46, 47, 48, 49])
(.cond (.t 50) (sr [
tq 2 (.mv (kq 10))] []
.ret)
 .skip))
(sr [
tq 6 (.mv (kq 0))] []
(.block 4 (.loop [1, 5, 6] b_ref05_CheckClass_2)))))
(rg [
mq 40 5,
tq 41 (.bin .add (.t 40) (kq 1)),
mq 5 41] [40, 41])))

def c_ref05_CheckClass : CF := ⟨[.tmp 2],
  (sr [
tq 1 (.box ty_turnroundref05_Class (.t 0)),
tq 2 (.mv (kq 0))] [0, 2]
(.seq (sr [
fa 7 0 1,
ld 8 7,
tq 9 (cl n_ref01_IsName [.t 8]),
tq 10 (.un .not (.t 9))] [7, 8, 9]
(.cond (.t 10) (sr [
tq 2 (.mv (kq 8))] []
.ret)
 .skip))
(.seq (sr [
fa 11 1 1,
ld 12 11,
tq 13 (.len .slc (.t 12)),
tq 14 (.bin .gtr (.t 13) (kq 8))] [11, 12, 13]
(.cond (.t 14) (sr [
tq 2 (.mv (kq 5))] []
.ret)
 .skip))
(.seq (sr [
tq 3 (.mv (kq 0))] []
(.block 0 (.loop [1, 3] b_ref05_CheckClass_1)))
(.seq (sr [
fa 31 2 1,
ld 32 31,
tq 33 (.len .slc (.t 32)),
tq 34 (.bin .gtr (.t 33) (kq 8))] [31, 32, 33]
(.cond (.t 34) (sr [
tq 2 (.mv (kq 5))] []
.ret)
 .skip))
(.seq (sr [
tq 5 (.mv (kq 0))] []
(.block 2 (.loop [1, 5] b_ref05_CheckClass_3)))
(sr [
tq 2 (.mv (kq 0))] []
.ret)))))))⟩

def b_priority_each_priority_Class_1 : C :=
  (sr [
tq 11 (.bin .lss (.t 10) (.t 9))] []
(.seq (.cond (.t 11) .skip
 (.exit 0))
(.seq (.block 1 (sr [
mq 12 10,
tq 13 (.idxAddr 3 (.t 8) (.t 10)),
lq 14 3 13,
tq 6 (.alloc ty_priority_Class [.z (.str []), .z (.list 0 []), .z (.list 0 [])]),
mq 5 12,
⟨none, none, .store 3 (.t 6) (.t 14)⟩] [12, 13, 14]
(.seq (.reg true [
mq 15 1,
mq 16 0,
mq 17 5,
tq 18 (.slice 3 (.t 16) none (some (.t 17)) none),
lq 19 3 6,
tq 20 (.call false true (.t 15) [.t 18, .t 19]),
mq 7 20] [5, 6, 15, 16, 17, 18, 19, 20])
(sr [
mq 21 7,
tq 22 (.bin .neq (.t 21) (kq 0))] [21]
(.cond (.t 22) (sr [
mq 23 7,
mq 4 23] [7, 23]
.ret)
 .skip)))))
(rg [
tq 24 (.bin .add (.t 10) (kq 1)),
mq 10 24] [24]))))

def c_priority_each_priority_Class : CF := ⟨[.tmp 4],
  (sr [
tq 4 (.mv (kq 0))] [4]
(.seq (sr [
mq 8 0,
tq 9 (.len .slc (.t 8)),
tq 10 (.mv (kq 0))] []
(.block 0 (.loop [0, 1, 8, 9, 10] b_priority_each_priority_Class_1)))
(sr [
tq 4 (.mv (kq 0))] []
.ret)))⟩

def c_priority_holds : CF := ⟨[.tmp 4],
  (sr [
tq 2 (.box ty_priority_Claim (.t 0)),
tq 3 (.box ty_priority_Test (.t 1)),
tq 4 (.mv (.k (.d (.bool false))))] [0, 1, 4]
(.seq (.reg true [
tq 6 (.call false false (.k (.fn n_priority_known [] [])) []),
fa 7 0 3,
ld 8 7,
tq 9 (.lookup .str (.agg [.str [], .nilf]) false (.t 6) (.t 8)),
tq 10 (.field 1 none (.t 9)),
lq 11 18 2,
tq 12 (.call false true (.t 10) [.t 11]),
mq 5 12] [2, 6, 7, 8, 9, 10, 11, 12])
(sr [
mq 13 5,
fa 14 2 3,
ld 15 14,
tq 16 (.bin .eql (.t 13) (.t 15)),
mq 17 16,
gq 18 17 true (.fieldAddr 1 (.t 3)),
gq 19 17 true (.load none (.t 18)),
gq 20 17 true (.bin .eql (.t 19) (.k (.d (.str [61])))),
tq 21 (.pick (.t 17) (.t 20) (.k (.d (.bool false)))),
mq 22 21,
gq 23 22 false (.mv (.t 5)),
gq 24 22 false (.fieldAddr 2 (.t 3)),
gq 25 22 false (.load none (.t 24)),
gq 26 22 false (.bin .lss (.t 23) (.t 25)),
gq 27 22 false (.mv (.t 26)),
gq 28 27 true (.fieldAddr 1 (.t 3)),
gq 29 27 true (.load none (.t 28)),
gq 30 27 true (.bin .eql (.t 29) (.k (.d (.str [60])))),
gq 31 22 false (.pick (.t 27) (.t 30) (.k (.d (.bool false)))),
tq 32 (.pick (.t 22) (.k (.d (.bool true))) (.t 31)),
mq 33 32,
gq 34 33 false (.mv (.t 5)),
gq 35 33 false (.fieldAddr 2 (.t 3)),
gq 36 33 false (.load none (.t 35)),
gq 37 33 false (.bin .gtr (.t 34) (.t 36)),
gq 38 33 false (.mv (.t 37)),
gq 39 38 true (.fieldAddr 1 (.t 3)),
gq 40 38 true (.load none (.t 39)),
gq 41 38 true (.bin .eql (.t 40) (.k (.d (.str [62])))),
gq 42 33 false (.pick (.t 38) (.t 41) (.k (.d (.bool false)))),
tq 43 (.pick (.t 33) (.k (.d (.bool true))) (.t 42)),
mq 4 43] [3, 5, 13, 14, 15, 16, 17, 18, 19, 20, 21, 22, 23, 24, 25, 26, 27, 28, 29, 30, 31, 32, 33, 34, 35, 36, 37, 38, 39, 40, 41, 42, 43]
.ret)))⟩

def b_priority_indices_1 : C :=
  (sr [
tq 7 (.bin .lss (.t 6) (.t 5))] []
(.seq (.cond (.t 7) .skip
 (.exit 0))
(.seq (.block 1 (sr [
mq 8 6,
mq 4 8] [8]
(rg [
mq 9 3,
mq 10 4,
tq 11 (.mkList 1 1 [.t 10]),
tq 12 (.append ⟨true, ty_int, 1, 8⟩ (.t 9) (.t 11)),
mq 3 12] [4, 9, 10, 11, 12])))
(rg [
tq 13 (.bin .add (.t 6) (kq 1)),
mq 6 13] [13]))))

def c_priority_indices : CF := ⟨[.tmp 2],
  (sr [
tq 2 (.ownNil ⟨true, ty_int, 1, 8⟩)] [2]
(sr [
tq 3 (.ownNil ⟨true, ty_int, 1, 8⟩)] []
(.seq (sr [
mq 5 0,
tq 6 (.mv (kq 0))] [0]
(.block 0 (.loop [3, 5, 6] b_priority_indices_1)))
(sr [
mq 14 3,
mq 2 14] [3, 14]
.ret))))⟩

def c_slices_SortFunc_Lint_int : CF := ⟨[],
  (sr [
mq 5 0,
tq 6 (.len .slc (.t 5)),
mq 4 6] [5, 6]
(rg [
mq 7 0,
mq 8 4,
mq 9 4,
tq 10 (.conv .u64 (.t 9)),
tq 11 (cl n_math_bits_Len [.t 10]),
mq 12 1,
tq 13 (.call true true (.k (.fn n_slices_pdqsortCmpFunc_int [] [])) [.t 7, kq 0, .t 8, .t 11, .t 12])] [0, 1, 4, 7, 8, 9, 10, 11, 12, 13]))⟩

def c_priority_ranking_order_1 : CF := ⟨[.tmp 5],
  (sr [
tq 5 (.mv (kq 0))] [5]
(sr [
lq 9 6 2,
mq 10 0,
mq 11 1,
tq 12 (cl n_priority_ranking_compare [.t 9, .t 10, .t 11]),
mq 8 12,
xq 13 8 0,
xq 14 8 1,
mq 6 13,
mq 7 14] [0, 1, 2, 7, 8, 9, 10, 11, 12, 13, 14]
(sr [
mq 15 6,
mq 5 15] [6, 15]
.ret)))⟩

def b_slices_IndexFunc_Lint_int_1 : C :=
  (sr [
tq 9 (.bin .lss (.t 8) (.t 7))] []
(.seq (.cond (.t 9) .skip
 (.exit 0))
(.seq (.block 1 (sr [
mq 10 8,
mq 5 10] [10]
(sr [
mq 11 1,
mq 12 0,
mq 13 5,
tq 14 (.idxAddr 1 (.t 12) (.t 13)),
ld 15 14,
tq 16 (.call true true (.t 11) [.t 15])] [11, 12, 13, 14, 15]
(.cond (.t 16) (sr [
mq 17 5,
mq 4 17] [5, 17]
.ret)
 .skip))))
(rg [
tq 18 (.bin .add (.t 8) (kq 1)),
mq 8 18] [18]))))

def c_slices_IndexFunc_Lint_int : CF := ⟨[.tmp 4],
  (sr [
tq 4 (.mv (kq 0))] [4]
(.seq (sr [
mq 6 0,
tq 7 (.len .slc (.t 6)),
tq 8 (.mv (kq 0))] [6]
(.block 0 (.loop [0, 1, 7, 8] b_slices_IndexFunc_Lint_int_1)))
(sr [
tq 4 (.mv (kq (-1)))] []
.ret)))⟩

def c_priority_ranking_order_2 : CF := ⟨[.tmp 3],
  (sr [
tq 3 (.mv (.k (.d (.bool false))))] [3]
(.seq (.reg true [
fa 4 0 1,
lq 5 4 4,
fa 6 4 1,
ld 7 6,
mq 8 0,
tq 9 (.idxAddr 18 (.t 7) (.t 8)),
lq 10 18 9,
tq 11 (cl n_priority_Program_classOf [.t 5, .t 10]),
fa 12 0 1,
fa 13 1 12,
ld 14 13,
tq 15 (.bin .geq (.t 11) (.t 14)),
mq 3 15] [0, 1, 4, 5, 6, 7, 8, 9, 10, 11, 12, 13, 14, 15])
.ret))⟩

def c_slices_Clone_Lint_int : CF := ⟨[.tmp 2],
  (sr [
tq 2 (.ownNil ⟨false, ty_int, 1, 8⟩)] [2]
(.seq (sr [
mq 3 0,
tq 4 (.nilEq 2 false (.t 3))] [3]
(.cond (.t 4) (sr [
tq 2 (.ownNil ⟨false, ty_int, 1, 8⟩)] []
.ret)
 .skip))
(sr [
tq 5 (.mkRow ⟨false, ty_int, 1, 8⟩ 0 []),
mq 6 0,
tq 7 (.append ⟨false, ty_int, 1, 8⟩ (.t 5) (.t 6)),
mq 2 7] [0, 5, 6, 7]
.ret)))⟩

def b_priority_Program_decide_1 : C :=
  (sr [
tq 10 (.alloc ty_priority_Key [.z (.str []), .z (.bool false)]),
⟨none, none, .store 2 (.t 10) (.t 42)⟩] [42]
(rg [
tq 11 (.alloc ty_priority_fact [.z (.str []), .z (.nilf)]),
⟨none, none, .store 2 (.t 11) (.t 43)⟩] [43]))

def b_priority_Program_decide_2 : C :=
  (.block 1 (.seq (.reg true [
fa 44 1 11,
ld 45 44,
lq 46 18 4,
tq 47 (.call false true (.t 45) [.t 46]),
fa 48 1 11,
ld 49 48,
lq 50 18 5,
tq 51 (.call false true (.t 49) [.t 50]),
mq 12 47,
mq 13 51] [4, 5, 11, 44, 45, 46, 47, 48, 49, 50, 51])
(sr [
mq 52 12,
mq 53 13,
tq 54 (.bin .neq (.t 52) (.t 53))] [52, 53]
(.cond (.t 54) (.seq (.reg true [
mq 55 12,
mq 56 13,
tq 57 (.bin .gtr (.t 55) (.t 56)),
fa 58 1 10,
ld 59 58,
tq 60 (.eqv none true (.t 57) (.t 59)),
tq 61 (cl n_priority_bit [.t 60]),
tq 62 (.bin .mul (kq 2) (.t 61)),
tq 63 (.bin .sub (.t 62) (kq 1)),
fa 64 0 10,
ld 65 64,
⟨none, none, .storeR 1 (.t 6) (.t 63) [10]⟩,
⟨none, none, .store 1 (.t 7) (.t 65)⟩] [10, 12, 13, 55, 56, 57, 58, 59, 60, 61, 62, 63, 64, 65])
.ret)
 .skip))))

def c_priority_Program_decide : CF := ⟨[.cell 6 none, .cell 7 none],
  (sr [
tq 3 (.box ty_priority_Program (.t 0)),
tq 4 (.box ty_priority_Claim (.t 1)),
tq 5 (.box ty_priority_Claim (.t 2)),
tq 6 (.alloc ty_int [.z (.int .i64 0)]),
tq 7 (.alloc ty_string [.z (.str [])])] [0, 1, 2]
(.seq (.reg true [
lq 14 4 3,
lq 15 18 4,
tq 16 (cl n_priority_Program_classOf [.t 14, .t 15]),
lq 17 4 3,
lq 18 18 5,
tq 19 (cl n_priority_Program_classOf [.t 17, .t 18]),
mq 8 16,
mq 9 19] [14, 15, 16, 17, 18, 19])
(.seq (sr [
mq 20 8,
mq 21 9,
tq 22 (.bin .neq (.t 20) (.t 21))] [20, 21]
(.cond (.t 22) (sr [
mq 23 8,
mq 24 9,
tq 25 (.bin .gtr (.t 23) (.t 24)),
tq 26 (cl n_priority_bit [.t 25]),
tq 27 (.bin .mul (kq 2) (.t 26)),
tq 28 (.bin .sub (.t 27) (kq 1)),
⟨none, none, .store 1 (.t 6) (.t 28)⟩,
⟨none, none, .store 1 (.t 7) (.k (.d (.str [99, 108, 97, 115, 115])))⟩] [8, 9, 23, 24, 25, 26, 27, 28]
.ret)
 .skip))
(.seq (sr [
fa 29 0 4,
lq 30 13 29,
fa 31 0 5,
lq 32 13 31,
tq 33 (.eqv (some [.str, .str, .str, .str, .str, .str, .int, .int, .int, .int, .int, .int, .int]) false (.t 30) (.t 32)),
mq 34 33,
gq 35 34 true (.load (some 18) (.t 4)),
gq 36 34 true (.load (some 18) (.t 5)),
gq 37 34 true (.eqv (some [.str, .str, .str, .str, .str, .str, .int, .int, .int, .int, .int, .int, .int, .bool, .bool, .bool, .bool, .int]) false (.t 35) (.t 36)),
tq 38 (.pick (.t 34) (.t 37) (.k (.d (.bool false))))] [29, 30, 31, 32, 33, 34, 35, 36, 37]
(.cond (.t 38) (sr [
⟨none, none, .store 1 (.t 6) (kq 0)⟩,
⟨none, none, .store 1 (.t 7) (.k (.d (.str [])))⟩] []
.ret)
 .skip))
(.seq (sr [
lq 39 4 3,
mq 40 8,
tq 41 (.call false false (.k (.fn n_priority_Program_keys [] [])) [.t 39, .t 40])] [3, 8, 39, 40]
(.block 0 (.rangeFn 67 (.t 41) [42, 43] b_priority_Program_decide_1 b_priority_Program_decide_2)))
(sr [
⟨none, none, .store 1 (.t 6) (kq 0)⟩,
⟨none, none, .store 1 (.t 7) (.k (.d (.str [])))⟩] []
.ret))))))⟩

def c_cmp_Compare_int : CF := ⟨[.tmp 4],
  (sr [
tq 4 (.mv (kq 0))] [4]
(sr [
mq 7 0,
tq 8 (cl n_cmp_isNaN_int [.t 7]),
mq 5 8] [7, 8]
(sr [
mq 9 1,
tq 10 (cl n_cmp_isNaN_int [.t 9]),
mq 6 10] [9, 10]
(.seq (sr [
mq 11 5] [5]
(.cond (.t 11) (.seq (sr [
mq 12 6] [6]
(.cond (.t 12) (sr [
tq 4 (.mv (kq 0))] []
.ret)
 .skip))
(sr [
tq 4 (.mv (kq (-1)))] []
.ret))
 .skip))
(.seq (sr [
mq 13 6] [6]
(.cond (.t 13) (sr [
tq 4 (.mv (kq 1))] []
.ret)
 .skip))
(.seq (sr [
mq 14 0,
mq 15 1,
tq 16 (.bin .lss (.t 14) (.t 15))] [14, 15]
(.cond (.t 16) (sr [
tq 4 (.mv (kq (-1)))] []
.ret)
 .skip))
(.seq (sr [
mq 17 0,
mq 18 1,
tq 19 (.bin .gtr (.t 17) (.t 18))] [0, 1, 17, 18]
(.cond (.t 19) (sr [
tq 4 (.mv (kq 1))] []
.ret)
 .skip))
(sr [
tq 4 (.mv (kq 0))] []
.ret))))))))⟩

def b_priority_each_priority_Claim_1 : C :=
  (sr [
tq 11 (.bin .lss (.t 10) (.t 9))] []
(.seq (.cond (.t 11) .skip
 (.exit 0))
(.seq (.block 1 (sr [
mq 12 10,
tq 13 (.idxAddr 18 (.t 8) (.t 10)),
lq 14 18 13,
tq 6 (.alloc ty_priority_Claim [.z (.str []), .z (.str []), .z (.str []), .z (.str []), .z (.str []), .z (.str []), .z (.int .i64 0), .z (.int .i64 0), .z (.int .i64 0), .z (.int .i64 0), .z (.int .i64 0), .z (.int .i64 0), .z (.int .i64 0), .z (.bool false), .z (.bool false), .z (.bool false), .z (.bool false), .z (.int .i64 0)]),
mq 5 12,
⟨none, none, .store 18 (.t 6) (.t 14)⟩] [12, 13, 14]
(.seq (.reg true [
mq 15 1,
mq 16 0,
mq 17 5,
tq 18 (.slice 18 (.t 16) none (some (.t 17)) none),
lq 19 18 6,
tq 20 (.call false true (.t 15) [.t 18, .t 19]),
mq 7 20] [5, 6, 15, 16, 17, 18, 19, 20])
(sr [
mq 21 7,
tq 22 (.bin .neq (.t 21) (kq 0))] [21]
(.cond (.t 22) (sr [
mq 23 7,
mq 4 23] [7, 23]
.ret)
 .skip)))))
(rg [
tq 24 (.bin .add (.t 10) (kq 1)),
mq 10 24] [24]))))

def c_priority_each_priority_Claim : CF := ⟨[.tmp 4],
  (sr [
tq 4 (.mv (kq 0))] [4]
(.seq (sr [
mq 8 0,
tq 9 (.len .slc (.t 8)),
tq 10 (.mv (kq 0))] []
(.block 0 (.loop [0, 1, 8, 9, 10] b_priority_each_priority_Claim_1)))
(sr [
tq 4 (.mv (kq 0))] []
.ret)))⟩

def c_priority_checkClaims_1 : CF := ⟨[.tmp 4],
  (sr [
tq 3 (.box ty_priority_Claim (.t 1)),
tq 4 (.mv (kq 0))] [1, 4]
(sr [
mq 6 0,
tq 7 (.mkFunc n_priority_checkClaims_1_1 [] [.t 3]),
tq 8 (.call true true (.k (.fn n_slices_ContainsFunc_Lpriority_Claim_priority_Claim [] [])) [.t 6, .t 7]),
mq 5 8] [0, 6, 7, 8]
(sr [
lq 9 18 3,
tq 10 (cl n_priority_CheckClaim [.t 9]),
mq 11 5,
tq 12 (cl n_priority_when [.t 11, kq 9]),
tq 13 (.mkList 1 2 [.t 10, .t 12]),
tq 14 (cl n_priority_first [.t 13]),
mq 4 14] [3, 5, 9, 10, 11, 12, 13, 14]
.ret)))⟩

def c_slices_ContainsFunc_Lpriority_Claim_priority_Claim : CF := ⟨[.tmp 4],
  (sr [
tq 4 (.mv (.k (.d (.bool false))))] [4]
(sr [
mq 5 0,
mq 6 1,
tq 7 (.call true true (.k (.fn n_slices_IndexFunc_Lpriority_Claim_priority_Claim [] [])) [.t 5, .t 6]),
tq 8 (.bin .geq (.t 7) (kq 0)),
mq 4 8] [0, 1, 5, 6, 7, 8]
.ret))⟩

def c_priority_checkClaims_1_1 : CF := ⟨[.tmp 3],
  (sr [
tq 2 (.box ty_priority_Claim (.t 0)),
tq 3 (.mv (.k (.d (.bool false))))] [0, 3]
(sr [
fa 4 0 2,
fa 5 0 4,
ld 6 5,
fa 7 0 1,
fa 8 0 7,
ld 9 8,
tq 10 (.bin .eql (.t 6) (.t 9)),
mq 3 10] [1, 2, 4, 5, 6, 7, 8, 9, 10]
.ret))⟩

def c_priority_lots_1 : CF := ⟨[.tmp 5],
  (sr [
tq 5 (.mv (kq 0))] [5]
(.seq (.reg true [
ld 6 2,
mq 7 0,
tq 8 (.idxAddr 18 (.t 6) (.t 7)),
fa 9 0 8,
fa 10 0 9,
ld 11 10,
ld 12 2,
mq 13 1,
tq 14 (.idxAddr 18 (.t 12) (.t 13)),
fa 15 0 14,
fa 16 0 15,
ld 17 16,
tq 18 (cl n_cmp_Compare_string [.t 11, .t 17]),
mq 5 18] [0, 1, 2, 6, 7, 8, 9, 10, 11, 12, 13, 14, 15, 16, 17, 18])
.ret))⟩

def c_cmp_Compare_string : CF := ⟨[.tmp 4],
  (sr [
tq 4 (.mv (kq 0))] [4]
(sr [
mq 7 0,
tq 8 (cl n_cmp_isNaN_string [.t 7]),
mq 5 8] [7, 8]
(sr [
mq 9 1,
tq 10 (cl n_cmp_isNaN_string [.t 9]),
mq 6 10] [9, 10]
(.seq (sr [
mq 11 5] [5]
(.cond (.t 11) (.seq (sr [
mq 12 6] [6]
(.cond (.t 12) (sr [
tq 4 (.mv (kq 0))] []
.ret)
 .skip))
(sr [
tq 4 (.mv (kq (-1)))] []
.ret))
 .skip))
(.seq (sr [
mq 13 6] [6]
(.cond (.t 13) (sr [
tq 4 (.mv (kq 1))] []
.ret)
 .skip))
(.seq (sr [
mq 14 0,
mq 15 1,
tq 16 (.bin .lss (.t 14) (.t 15))] [14, 15]
(.cond (.t 16) (sr [
tq 4 (.mv (kq (-1)))] []
.ret)
 .skip))
(.seq (sr [
mq 17 0,
mq 18 1,
tq 19 (.bin .gtr (.t 17) (.t 18))] [0, 1, 17, 18]
(.cond (.t 19) (sr [
tq 4 (.mv (kq 1))] []
.ret)
 .skip))
(sr [
tq 4 (.mv (kq 0))] []
.ret))))))))⟩

def b_calendar_Draw_1 : C :=
  (sr [
tq 24 (.bin .lss (.t 23) (.t 22))] []
(.seq (.cond (.t 24) .skip
 (.exit 0))
(.seq (.block 1 (sr [
mq 25 23,
mq 8 25] [25]
(rg [
mq 26 7,
mq 27 8,
tq 28 (.mkList 1 1 [.t 27]),
tq 29 (.append ⟨false, ty_int, 1, 8⟩ (.t 26) (.t 28)),
mq 7 29] [8, 26, 27, 28, 29])))
(rg [
tq 30 (.bin .add (.t 23) (kq 1)),
mq 23 30] [30]))))

def b_calendar_Draw_2 : C :=
  (.seq (sr [
mq 39 11,
tq 40 (.bin .gtr (.t 39) (kq 0))] [39]
(.cond (.t 40) .skip
 (.exit 2)))
(.seq (.block 3 (sr [
mq 43 10,
tq 44 (.bin .mul (kq 48271) (.t 43)),
tq 45 (.bin .rem (.t 44) (kq 2147483647)),
mq 10 45] [43, 44, 45]
(sr [
mq 46 10,
mq 47 11,
tq 48 (.bin .add (.t 47) (kq 1)),
tq 49 (.bin .rem (.t 46) (.t 48)),
mq 12 49] [46, 47, 48, 49]
(.reg true [
mq 50 9,
mq 51 11,
mq 52 9,
mq 53 12,
mq 54 9,
mq 55 12,
tq 56 (.idxAddr 1 (.t 54) (.t 55)),
ld 57 56,
mq 58 9,
mq 59 11,
tq 60 (.idxAddr 1 (.t 58) (.t 59)),
ld 61 60,
tq 62 (.idxAddr 1 (.t 50) (.t 51)),
⟨none, none, .store 1 (.t 62) (.t 57)⟩,
tq 63 (.idxAddr 1 (.t 52) (.t 53)),
⟨none, none, .store 1 (.t 63) (.t 61)⟩] [12, 50, 51, 52, 53, 54, 55, 56, 57, 58, 59, 60, 61, 62, 63]))))
(rg [
mq 41 11,
tq 42 (.bin .sub (.t 41) (kq 1)),
mq 11 42] [41, 42])))

def c_calendar_Draw : CF := ⟨[.tmp 4, .tmp 5],
  (sr [
tq 4 (.ownNil ⟨true, ty_int, 1, 8⟩),
tq 5 (.mv (kq 0))] [4, 5]
(.seq (sr [
mq 13 0,
tq 14 (cl n_calendar_within [.t 13, kq 1, kq 2147483646]),
mq 15 1,
tq 16 (cl n_calendar_within [.t 15, kq 0, kq 256]),
tq 17 (.mkList 1 2 [.t 14, .t 16]),
tq 18 (cl n_calendar_first [.t 17]),
mq 6 18] [13, 14, 15, 16, 17, 18]
(sr [
mq 19 6,
tq 20 (.bin .neq (.t 19) (kq 0))] [19]
(.cond (.t 20) (sr [
mq 21 6,
tq 4 (.ownNil ⟨true, ty_int, 1, 8⟩),
mq 5 21] [6, 21]
.ret)
 .skip)))
(sr [
tq 7 (.ownNil ⟨false, ty_int, 1, 8⟩)] []
(.seq (sr [
mq 22 1,
tq 23 (.mv (kq 0))] []
(.block 0 (.loop [0, 1, 7, 22, 23] b_calendar_Draw_1)))
(sr [
mq 31 1,
tq 32 (.makeRow ⟨true, ty_int, 1, 8⟩ [.int .i64 0] (.t 31)),
mq 9 32] [31, 32]
(sr [
mq 33 9,
mq 34 7,
tq 35 (.copy 1 (.t 33) (.t 34))] [7, 33, 34, 35]
(sr [
mq 36 0,
mq 10 36] [0, 36]
(.seq (sr [
mq 37 1,
tq 38 (.bin .sub (.t 37) (kq 1)),
mq 11 38] [1, 37, 38]
(.block 2 (.loop [9, 10, 11] b_calendar_Draw_2)))
(sr [
mq 64 9,
mq 4 64,
tq 5 (.mv (kq 0))] [9, 64]
.ret)))))))))⟩

def c_priority_facts : CF := ⟨[.tmp 0],
  (sr [
tq 0 (.mv (.k (.d (.list 0 []))))] [0]
(sr [
tq 1 (.build [.z (.str []), .z (.nilf)] [(0, 1, .k (.d (.str [104, 105, 115, 116, 111, 114, 105, 99]))), (1, 1, .k (.fn n_priority_facts_1 [] []))]),
tq 2 (.build [.z (.str []), .z (.nilf)] [(0, 1, .k (.d (.str [114, 101, 116, 105, 109, 101, 100]))), (1, 1, .k (.fn n_priority_facts_2 [] []))]),
tq 3 (.build [.z (.str []), .z (.nilf)] [(0, 1, .k (.d (.str [110, 101, 119, 99, 111, 109, 101, 114]))), (1, 1, .k (.fn n_priority_facts_3 [] []))]),
tq 4 (.build [.z (.str []), .z (.nilf)] [(0, 1, .k (.d (.str [121, 101, 97, 114, 114, 111, 117, 110, 100]))), (1, 1, .k (.fn n_priority_facts_4 [] []))]),
tq 5 (.build [.z (.str []), .z (.nilf)] [(0, 1, .k (.d (.str [100, 97, 121, 115]))), (1, 1, .k (.fn n_priority_facts_5 [] []))]),
tq 6 (.build [.z (.str []), .z (.nilf)] [(0, 1, .k (.d (.str [115, 101, 97, 116, 115]))), (1, 1, .k (.fn n_priority_facts_6 [] []))]),
tq 7 (.build [.z (.str []), .z (.nilf)] [(0, 1, .k (.d (.str [115, 105, 122, 101]))), (1, 1, .k (.fn n_priority_facts_7 [] []))]),
tq 8 (.build [.z (.str []), .z (.nilf)] [(0, 1, .k (.d (.str [110, 111, 105, 115, 101]))), (1, 1, .k (.fn n_priority_facts_8 [] []))]),
tq 9 (.build [.z (.str []), .z (.nilf)] [(0, 1, .k (.d (.str [100, 105, 115, 116, 97, 110, 99, 101]))), (1, 1, .k (.fn n_priority_facts_9 [] []))]),
tq 10 (.build [.z (.str []), .z (.nilf)] [(0, 1, .k (.d (.str [109, 105, 110, 117, 116, 101]))), (1, 1, .k (.fn n_priority_facts_10 [] []))]),
tq 11 (.mkList 2 10 [.t 1, .t 2, .t 3, .t 4, .t 5, .t 6, .t 7, .t 8, .t 9, .t 10]),
mq 0 11] [1, 2, 3, 4, 5, 6, 7, 8, 9, 10, 11]
.ret))⟩

def b_slices_IndexFunc_Lapi_Request_api_Request_1 : C :=
  (sr [
tq 9 (.bin .lss (.t 8) (.t 7))] []
(.seq (.cond (.t 9) .skip
 (.exit 0))
(.seq (.block 1 (sr [
mq 10 8,
mq 5 10] [10]
(sr [
mq 11 1,
mq 12 0,
mq 13 5,
tq 14 (.idxAddr 13 (.t 12) (.t 13)),
lq 15 13 14,
tq 16 (.call true true (.t 11) [.t 15])] [11, 12, 13, 14, 15]
(.cond (.t 16) (sr [
mq 17 5,
mq 4 17] [5, 17]
.ret)
 .skip))))
(rg [
tq 18 (.bin .add (.t 8) (kq 1)),
mq 8 18] [18]))))

def c_slices_IndexFunc_Lapi_Request_api_Request : CF := ⟨[.tmp 4],
  (sr [
tq 4 (.mv (kq 0))] [4]
(.seq (sr [
mq 6 0,
tq 7 (.len .slc (.t 6)),
tq 8 (.mv (kq 0))] [6]
(.block 0 (.loop [0, 1, 7, 8] b_slices_IndexFunc_Lapi_Request_api_Request_1)))
(sr [
tq 4 (.mv (kq (-1)))] []
.ret)))⟩

def b_message_first_1 : C :=
  (sr [
tq 8 (.bin .lss (.t 7) (.t 6))] []
(.seq (.cond (.t 8) .skip
 (.exit 0))
(.seq (.block 1 (sr [
tq 9 (.idxAddr 1 (.t 5) (.t 7)),
ld 10 9,
mq 4 10] [9, 10]
(sr [
mq 11 4,
tq 12 (.bin .neq (.t 11) (kq 0))] [11]
(.cond (.t 12) (sr [
mq 13 4,
mq 2 13] [4, 13]
.ret)
 .skip))))
(rg [
tq 14 (.bin .add (.t 7) (kq 1)),
mq 7 14] [14]))))

def c_message_first : CF := ⟨[.tmp 2],
  (sr [
tq 2 (.mv (kq 0))] [2]
(.seq (sr [
mq 5 0,
tq 6 (.len .slc (.t 5)),
tq 7 (.mv (kq 0))] [0]
(.block 0 (.loop [5, 6, 7] b_message_first_1)))
(sr [
tq 2 (.mv (kq 0))] []
.ret)))⟩

def c_message_named : CF := ⟨[.tmp 2],
  (sr [
tq 2 (.mv (kq 0))] [2]
(sr [
mq 3 0,
tq 4 (cl n_calendar_IsName [.t 3]),
tq 5 (.un .not (.t 4)),
tq 6 (cl n_message_when [.t 5, kq 8]),
mq 2 6] [0, 3, 4, 5, 6]
.ret))⟩

def c_message_optional : CF := ⟨[.tmp 2],
  (sr [
tq 2 (.mv (kq 0))] [2]
(sr [
mq 3 0,
tq 4 (.bin .neq (.t 3) (.k (.d (.str [])))),
mq 5 4,
gq 6 5 true (.mv (.t 0)),
gq 7 5 true (cl n_calendar_IsName [.t 6]),
gq 8 5 true (.un .not (.t 7)),
tq 9 (.pick (.t 5) (.t 8) (.k (.d (.bool false)))),
tq 10 (cl n_message_when [.t 9, kq 8]),
mq 2 10] [0, 3, 4, 5, 6, 7, 8, 9, 10]
.ret))⟩

def c_message_when : CF := ⟨[.tmp 4],
  (sr [
tq 4 (.mv (kq 0))] [4]
(.seq (sr [
mq 5 0] [0]
(.cond (.t 5) (sr [
mq 6 1,
mq 4 6] [1, 6]
.ret)
 .skip))
(sr [
tq 4 (.mv (kq 0))] []
.ret)))⟩

def c_message_isKind : CF := ⟨[.tmp 2],
  (sr [
tq 2 (.mv (.k (.d (.bool false))))] [2]
(sr [
mq 3 0,
tq 4 (.bin .eql (.t 3) (.k (.d (.str [65])))),
mq 5 4,
gq 6 5 false (.mv (.t 0)),
gq 7 5 false (.bin .eql (.t 6) (.k (.d (.str [68])))),
tq 8 (.pick (.t 5) (.k (.d (.bool true))) (.t 7)),
mq 2 8] [0, 3, 4, 5, 6, 7, 8]
.ret))⟩

def c_calendar_CheckPeriod : CF := ⟨[.tmp 2],
  (sr [
tq 1 (.box ty_api_Period (.t 0)),
tq 2 (.mv (kq 0))] [0, 2]
(.seq (.seq (.reg true [
fa 4 0 1,
ld 5 4,
tq 6 (cl n_calendar_checkDay [.t 5]),
fa 7 1 1,
ld 8 7,
tq 9 (cl n_calendar_checkDay [.t 8]),
tq 10 (.mkList 1 2 [.t 6, .t 9]),
tq 11 (cl n_calendar_first [.t 10]),
mq 3 11] [4, 5, 6, 7, 8, 9, 10, 11])
(sr [
mq 12 3,
tq 13 (.bin .neq (.t 12) (kq 0))] [12]
(.cond (.t 13) (sr [
mq 14 3,
mq 2 14] [3, 14]
.ret)
 .skip)))
(.seq (.reg true [
fa 15 1 1,
ld 16 15,
fa 17 0 1,
ld 18 17,
tq 19 (.bin .lss (.t 16) (.t 18)),
tq 20 (cl n_calendar_when [.t 19, kq 11]),
fa 21 1 1,
ld 22 21,
fa 23 0 1,
ld 24 23,
tq 25 (.bin .sub (.t 22) (.t 24)),
tq 26 (.bin .gtr (.t 25) (kq 400)),
tq 27 (cl n_calendar_when [.t 26, kq 4]),
fa 28 2 1,
ld 29 28,
tq 30 (cl n_calendar_within [.t 29, kq 1, kq 127]),
tq 31 (.mkList 1 3 [.t 20, .t 27, .t 30]),
tq 32 (cl n_calendar_first [.t 31]),
mq 2 32] [1, 15, 16, 17, 18, 19, 20, 21, 22, 23, 24, 25, 26, 27, 28, 29, 30, 31, 32])
.ret)))⟩

def c_message_within : CF := ⟨[.tmp 6],
  (sr [
tq 6 (.mv (kq 0))] [6]
(sr [
mq 7 0,
mq 8 1,
tq 9 (.bin .lss (.t 7) (.t 8)),
mq 10 9,
gq 11 10 false (.mv (.t 0)),
gq 12 10 false (.mv (.t 2)),
gq 13 10 false (.bin .gtr (.t 11) (.t 12)),
tq 14 (.pick (.t 10) (.k (.d (.bool true))) (.t 13)),
tq 15 (cl n_message_when [.t 14, kq 3]),
mq 6 15] [0, 1, 2, 7, 8, 9, 10, 11, 12, 13, 14, 15]
.ret))⟩

def b_calendar_first_1 : C :=
  (sr [
tq 8 (.bin .lss (.t 7) (.t 6))] []
(.seq (.cond (.t 8) .skip
 (.exit 0))
(.seq (.block 1 (sr [
tq 9 (.idxAddr 1 (.t 5) (.t 7)),
ld 10 9,
mq 4 10] [9, 10]
(sr [
mq 11 4,
tq 12 (.bin .neq (.t 11) (kq 0))] [11]
(.cond (.t 12) (sr [
mq 13 4,
mq 2 13] [4, 13]
.ret)
 .skip))))
(rg [
tq 14 (.bin .add (.t 7) (kq 1)),
mq 7 14] [14]))))

def c_calendar_first : CF := ⟨[.tmp 2],
  (sr [
tq 2 (.mv (kq 0))] [2]
(.seq (sr [
mq 5 0,
tq 6 (.len .slc (.t 5)),
tq 7 (.mv (kq 0))] [0]
(.block 0 (.loop [5, 6, 7] b_calendar_first_1)))
(sr [
tq 2 (.mv (kq 0))] []
.ret)))⟩

def c_calendar_checkDay : CF := ⟨[.tmp 2],
  (sr [
tq 2 (.mv (kq 0))] [2]
(sr [
mq 3 0,
tq 4 (cl n_calendar_within [.t 3, kq 0, kq 99999]),
mq 2 4] [0, 3, 4]
.ret))⟩

def c_calendar_has : CF := ⟨[.tmp 4],
  (sr [
tq 2 (.box ty_api_Period (.t 0)),
tq 4 (.mv (.k (.d (.bool false))))] [0, 4]
(.seq (.reg true [
mq 5 1,
fa 6 0 2,
ld 7 6,
tq 8 (.bin .geq (.t 5) (.t 7)),
mq 9 8,
gq 10 9 true (.mv (.t 1)),
gq 11 9 true (.fieldAddr 1 (.t 2)),
gq 12 9 true (.load none (.t 11)),
gq 13 9 true (.bin .leq (.t 10) (.t 12)),
tq 14 (.pick (.t 9) (.t 13) (.k (.d (.bool false)))),
mq 15 14,
gq 16 15 true (.fieldAddr 2 (.t 2)),
gq 17 15 true (.load none (.t 16)),
gq 18 15 true (.mv (.t 1)),
gq 19 15 true (cl n_calendar_weekday [.t 18]),
gq 20 15 true (cl n_calendar_inMask [.t 17, .t 19]),
tq 21 (.pick (.t 15) (.t 20) (.k (.d (.bool false)))),
mq 4 21] [1, 2, 5, 6, 7, 8, 9, 10, 11, 12, 13, 14, 15, 16, 17, 18, 19, 20, 21])
.ret))⟩

def b_ref01_InMask_1 : C :=
  (.seq (sr [
mq 6 5,
mq 7 1,
tq 8 (.bin .lss (.t 6) (.t 7))] [6, 7]
(.cond (.t 8) .skip
 (.exit 0)))
(.seq (.block 1 (rg [
mq 11 0,
tq 12 (.bin .quo (.t 11) (kq 2)),
mq 0 12] [11, 12]))
(rg [
mq 9 5,
tq 10 (.bin .add (.t 9) (kq 1)),
mq 5 10] [9, 10])))

def c_ref01_InMask : CF := ⟨[.tmp 4],
  (sr [
tq 4 (.mv (.k (.d (.bool false))))] [4]
(.seq (sr [
tq 5 (.mv (kq 0))] []
(.block 0 (.loop [0, 1, 5] b_ref01_InMask_1)))
(sr [
mq 13 0,
tq 14 (.bin .rem (.t 13) (kq 2)),
tq 15 (.bin .eql (.t 14) (kq 1)),
mq 4 15] [0, 13, 14, 15]
.ret)))⟩

def c_ref01_Weekday : CF := ⟨[.tmp 2],
  (sr [
tq 2 (.mv (kq 0))] [2]
(sr [
mq 3 0,
tq 4 (.bin .add (.t 3) (kq 5)),
tq 5 (.bin .rem (.t 4) (kq 7)),
mq 2 5] [0, 3, 4, 5]
.ret))⟩

def c_internal_stringslite_CutSuffix : CF := ⟨[.tmp 4, .tmp 5],
  (sr [
tq 4 (.mv (.k (.d (.str [])))),
tq 5 (.mv (.k (.d (.bool false))))] [4, 5]
(.seq (sr [
mq 6 0,
mq 7 1,
tq 8 (cl n_internal_stringslite_HasSuffix [.t 6, .t 7]),
tq 9 (.un .not (.t 8))] [6, 7, 8]
(.cond (.t 9) (sr [
mq 10 0,
mq 4 10,
tq 5 (.mv (.k (.d (.bool false))))] [0, 10]
.ret)
 .skip))
(sr [
mq 11 0,
mq 12 0,
tq 13 (.len .str (.t 12)),
mq 14 1,
tq 15 (.len .str (.t 14)),
tq 16 (.bin .sub (.t 13) (.t 15)),
tq 17 (.sliceS (.t 11) none (some (.t 16))),
mq 4 17,
tq 5 (.mv (.k (.d (.bool true))))] [0, 1, 11, 12, 13, 14, 15, 16, 17]
.ret)))⟩

def b_slices_Index_Lstring_string_1 : C :=
  (sr [
tq 9 (.bin .lss (.t 8) (.t 7))] []
(.seq (.cond (.t 9) .skip
 (.exit 0))
(.seq (.block 1 (sr [
mq 10 8,
mq 5 10] [10]
(sr [
mq 11 1,
mq 12 0,
mq 13 5,
tq 14 (.idxAddr 1 (.t 12) (.t 13)),
ld 15 14,
tq 16 (.bin .eql (.t 11) (.t 15))] [11, 12, 13, 14, 15]
(.cond (.t 16) (sr [
mq 17 5,
mq 4 17] [5, 17]
.ret)
 .skip))))
(rg [
tq 18 (.bin .add (.t 8) (kq 1)),
mq 8 18] [18]))))

def c_slices_Index_Lstring_string : CF := ⟨[.tmp 4],
  (sr [
tq 4 (.mv (kq 0))] [4]
(.seq (sr [
mq 6 0,
tq 7 (.len .slc (.t 6)),
tq 8 (.mv (kq 0))] [6]
(.block 0 (.loop [0, 1, 7, 8] b_slices_Index_Lstring_string_1)))
(sr [
tq 4 (.mv (kq (-1)))] []
.ret)))⟩

def b_priority_all_priority_Test_1 : C :=
  (.seq (sr [
mq 11 0,
tq 12 (.nilCheck (.t 11)),
fa 13 0 12,
ld 14 13,
tq 15 (.len .slc (.t 14)),
tq 16 (.bin .gtr (.t 15) (kq 0)),
mq 17 16,
gq 18 17 true (.mv (.t 0)),
gq 19 17 true (.nilCheck (.t 18)),
gq 20 17 true (.fieldAddr 0 (.t 19)),
gq 21 17 true (.load none (.t 20)),
gq 22 17 true (.idxAddr 1 (.t 21) (kq 0)),
gq 23 17 true (.load none (.t 22)),
gq 24 17 true (.mv (.t 1)),
gq 25 17 true (.bin .neq (.t 23) (.t 24)),
tq 26 (.pick (.t 17) (.t 25) (.k (.d (.bool false))))] [11, 12, 13, 14, 15, 16, 17, 18, 19, 20, 21, 22, 23, 24, 25]
(.cond (.t 26) .skip
 (.exit 0)))
(.block 1 (sr [
mq 28 2,
mq 29 0,
tq 30 (.call true true (.k (.fn n_priority_reader_next [] [])) [.t 29]),
tq 31 (.call false true (.t 28) [.t 30]),
mq 27 31,
xq 32 27 0,
xq 33 27 1,
tq 9 (.alloc ty_priority_Test [.z (.str []), .z (.str []), .z (.int .i64 0)]),
⟨none, none, .store 3 (.t 9) (.t 32)⟩,
mq 10 33] [27, 28, 29, 30, 31, 32, 33]
(.seq (sr [
mq 34 10,
tq 35 (.un .not (.t 34))] [10, 34]
(.cond (.t 35) (sr [
tq 6 (.ownNil ⟨false, ty_priority_Test, 3, 40⟩),
tq 7 (.mv (.k (.d (.bool false))))] []
.ret)
 .skip))
(rg [
mq 36 8,
lq 37 3 9,
tq 38 (.mkList 3 1 [.t 37]),
tq 39 (.append ⟨false, ty_priority_Test, 3, 40⟩ (.t 36) (.t 38)),
mq 8 39] [9, 36, 37, 38, 39])))))

def c_priority_all_priority_Test : CF := ⟨[.tmp 6, .tmp 7],
  (sr [
tq 6 (.ownNil ⟨false, ty_priority_Test, 3, 40⟩),
tq 7 (.mv (.k (.d (.bool false))))] [6, 7]
(sr [
tq 8 (.ownNil ⟨false, ty_priority_Test, 3, 40⟩)] []
(.seq (.block 0 (.loop [0, 1, 2, 8] b_priority_all_priority_Test_1))
(sr [
mq 40 8,
mq 41 8,
tq 42 (.len .slc (.t 41)),
tq 43 (.bin .gtr (.t 42) (kq 0)),
mq 6 40,
mq 7 43] [8, 40, 41, 42, 43]
.ret))))⟩

def c_priority_test : CF := ⟨[.cell 2 (some 3), .tmp 3],
  (sr [
tq 2 (.alloc ty_priority_Test [.z (.str []), .z (.str []), .z (.int .i64 0)]),
tq 3 (.mv (.k (.d (.bool false))))] [3]
(sr [
mq 7 0,
tq 8 (cl n_strings_IndexAny [.t 7, .k (.d (.str [61, 60, 62]))]),
mq 4 8] [7, 8]
(.seq (sr [
mq 9 4,
tq 10 (.bin .lss (.t 9) (kq 0))] [9]
(.cond (.t 10) (sr [
tq 11 (.build [.z (.str []), .z (.str []), .z (.int .i64 0)] []),
⟨none, none, .store 3 (.t 2) (.t 11)⟩,
tq 3 (.mv (.k (.d (.bool false))))] [11]
.ret)
 .skip))
(sr [
mq 13 0,
mq 14 4,
tq 15 (.bin .add (.t 14) (kq 1)),
tq 16 (.sliceS (.t 13) (some (.t 15)) none),
tq 17 (cl n_priority_integer [.t 16]),
mq 12 17,
xq 18 12 0,
xq 19 12 1,
mq 5 18,
mq 6 19] [12, 13, 14, 15, 16, 17, 18, 19]
(.seq (.reg true [
mq 20 0,
mq 21 4,
tq 22 (.sliceS (.t 20) none (some (.t 21))),
mq 23 0,
mq 24 4,
mq 25 4,
tq 26 (.bin .add (.t 25) (kq 1)),
tq 27 (.sliceS (.t 23) (some (.t 24)) (some (.t 26))),
mq 28 5,
tq 29 (.build [.z (.str []), .z (.str []), .z (.int .i64 0)] [(0, 1, .t 22), (1, 1, .t 27), (2, 1, .t 28)]),
mq 30 6,
⟨none, none, .store 3 (.t 2) (.t 29)⟩,
mq 3 30] [0, 4, 5, 6, 20, 21, 22, 23, 24, 25, 26, 27, 28, 29, 30])
.ret)))))⟩

def b_priority_all_priority_Key_1 : C :=
  (.seq (sr [
mq 11 0,
tq 12 (.nilCheck (.t 11)),
fa 13 0 12,
ld 14 13,
tq 15 (.len .slc (.t 14)),
tq 16 (.bin .gtr (.t 15) (kq 0)),
mq 17 16,
gq 18 17 true (.mv (.t 0)),
gq 19 17 true (.nilCheck (.t 18)),
gq 20 17 true (.fieldAddr 0 (.t 19)),
gq 21 17 true (.load none (.t 20)),
gq 22 17 true (.idxAddr 1 (.t 21) (kq 0)),
gq 23 17 true (.load none (.t 22)),
gq 24 17 true (.mv (.t 1)),
gq 25 17 true (.bin .neq (.t 23) (.t 24)),
tq 26 (.pick (.t 17) (.t 25) (.k (.d (.bool false))))] [11, 12, 13, 14, 15, 16, 17, 18, 19, 20, 21, 22, 23, 24, 25]
(.cond (.t 26) .skip
 (.exit 0)))
(.block 1 (sr [
mq 28 2,
mq 29 0,
tq 30 (.call true true (.k (.fn n_priority_reader_next [] [])) [.t 29]),
tq 31 (.call false true (.t 28) [.t 30]),
mq 27 31,
xq 32 27 0,
xq 33 27 1,
tq 9 (.alloc ty_priority_Key [.z (.str []), .z (.bool false)]),
⟨none, none, .store 2 (.t 9) (.t 32)⟩,
mq 10 33] [27, 28, 29, 30, 31, 32, 33]
(.seq (sr [
mq 34 10,
tq 35 (.un .not (.t 34))] [10, 34]
(.cond (.t 35) (sr [
tq 6 (.ownNil ⟨false, ty_priority_Key, 2, 24⟩),
tq 7 (.mv (.k (.d (.bool false))))] []
.ret)
 .skip))
(rg [
mq 36 8,
lq 37 2 9,
tq 38 (.mkList 2 1 [.t 37]),
tq 39 (.append ⟨false, ty_priority_Key, 2, 24⟩ (.t 36) (.t 38)),
mq 8 39] [9, 36, 37, 38, 39])))))

def c_priority_all_priority_Key : CF := ⟨[.tmp 6, .tmp 7],
  (sr [
tq 6 (.ownNil ⟨false, ty_priority_Key, 2, 24⟩),
tq 7 (.mv (.k (.d (.bool false))))] [6, 7]
(sr [
tq 8 (.ownNil ⟨false, ty_priority_Key, 2, 24⟩)] []
(.seq (.block 0 (.loop [0, 1, 2, 8] b_priority_all_priority_Key_1))
(sr [
mq 40 8,
mq 41 8,
tq 42 (.len .slc (.t 41)),
tq 43 (.bin .gtr (.t 42) (kq 0)),
mq 6 40,
mq 7 43] [8, 40, 41, 42, 43]
.ret))))⟩

def b_priority_key_1 : C :=
  (sr [
tq 9 (.nextS (.t 8)),
xq 10 9 0] []
(.seq (.cond (.t 10) .skip
 (.exit 0))
(.block 1 (sr [
xq 11 9 2,
mq 6 11] [9, 11]
(rg [
mq 12 6,
mq 4 12] [6, 12])))))

def c_priority_key : CF := ⟨[.cell 2 (some 2), .tmp 3],
  (sr [
tq 2 (.alloc ty_priority_Key [.z (.str []), .z (.bool false)]),
tq 3 (.mv (.k (.d (.bool false))))] [3]
(sr [
tq 4 (.mv (.k (.d (.int .i32 0))))] []
(.seq (sr [
mq 7 0,
tq 8 (.rangeS (.t 7))] [7]
(.block 0 (.loop [0, 2, 4, 8] b_priority_key_1)))
(.seq (sr [
mq 13 4,
tq 14 (.bin .neq (.t 13) (.k (.d (.int .i32 43)))),
mq 15 14,
gq 16 15 true (.mv (.t 4)),
gq 17 15 true (.bin .neq (.t 16) (.k (.d (.int .i32 45)))),
tq 18 (.pick (.t 15) (.t 17) (.k (.d (.bool false))))] [13, 14, 15, 16, 17]
(.cond (.t 18) (sr [
tq 19 (.build [.z (.str []), .z (.bool false)] []),
⟨none, none, .store 2 (.t 2) (.t 19)⟩,
tq 3 (.mv (.k (.d (.bool false))))] [19]
.ret)
 .skip))
(sr [
mq 20 0,
mq 21 0,
tq 22 (.len .str (.t 21)),
tq 23 (.bin .sub (.t 22) (kq 1)),
tq 24 (.sliceS (.t 20) none (some (.t 23))),
mq 25 4,
tq 26 (.bin .eql (.t 25) (.k (.d (.int .i32 45)))),
tq 27 (.build [.z (.str []), .z (.bool false)] [(0, 1, .t 24), (1, 1, .t 26)]),
⟨none, none, .store 2 (.t 2) (.t 27)⟩,
tq 3 (.mv (.k (.d (.bool true))))] [0, 4, 20, 21, 22, 23, 24, 25, 26, 27]
.ret)))))⟩

def c_slices_ContainsFunc_Lpriority_Class_priority_Class : CF := ⟨[.tmp 4],
  (sr [
tq 4 (.mv (.k (.d (.bool false))))] [4]
(sr [
mq 5 0,
mq 6 1,
tq 7 (.call true true (.k (.fn n_slices_IndexFunc_Lpriority_Class_priority_Class [] [])) [.t 5, .t 6]),
tq 8 (.bin .geq (.t 7) (kq 0)),
mq 4 8] [0, 1, 5, 6, 7, 8]
.ret))⟩

def c_priority_added_1 : CF := ⟨[.tmp 3],
  (sr [
tq 2 (.box ty_priority_Class (.t 0)),
tq 3 (.mv (.k (.d (.bool false))))] [0, 3]
(sr [
fa 4 0 2,
ld 5 4,
fa 6 0 1,
ld 7 6,
tq 8 (.bin .eql (.t 5) (.t 7)),
mq 3 8] [1, 2, 4, 5, 6, 7, 8]
.ret))⟩

def c_priority_Class_check : CF := ⟨[.tmp 2],
  (sr [
tq 1 (.box ty_priority_Class (.t 0)),
tq 2 (.mv (kq 0))] [0, 2]
(.seq (.seq (.reg true [
fa 5 0 1,
ld 6 5,
tq 7 (cl n_calendar_IsName [.t 6]),
tq 8 (.un .not (.t 7)),
tq 9 (cl n_priority_when [.t 8, kq 8]),
fa 10 1 1,
ld 11 10,
tq 12 (.len .slc (.t 11)),
tq 13 (.bin .gtr (.t 12) (kq 8)),
tq 14 (cl n_priority_when [.t 13, kq 5]),
tq 15 (.mkList 1 2 [.t 9, .t 14]),
tq 16 (cl n_priority_first [.t 15]),
mq 3 16] [5, 6, 7, 8, 9, 10, 11, 12, 13, 14, 15, 16])
(sr [
mq 17 3,
tq 18 (.bin .neq (.t 17) (kq 0))] [17]
(.cond (.t 18) (sr [
mq 19 3,
mq 2 19] [3, 19]
.ret)
 .skip)))
(sr [
fa 20 1 1,
ld 21 20,
tq 22 (cl n_priority_each_priority_Test [.t 21, .k (.fn n_priority_Class_check_1 [] [])]),
mq 4 22] [20, 21, 22]
(.seq (.reg true [
mq 23 4,
fa 24 2 1,
ld 25 24,
tq 26 (.len .slc (.t 25)),
tq 27 (.bin .gtr (.t 26) (kq 8)),
tq 28 (cl n_priority_when [.t 27, kq 5]),
fa 29 2 1,
ld 30 29,
tq 31 (cl n_priority_each_priority_Key [.t 30, .k (.fn n_priority_Class_check_2 [] [])]),
tq 32 (.mkList 1 3 [.t 23, .t 28, .t 31]),
tq 33 (cl n_priority_first [.t 32]),
mq 2 33] [1, 4, 23, 24, 25, 26, 27, 28, 29, 30, 31, 32, 33])
.ret))))⟩

def c_priority_integer : CF := ⟨[.tmp 2, .tmp 3],
  (sr [
tq 2 (.mv (kq 0)),
tq 3 (.mv (.k (.d (.bool false))))] [2, 3]
(sr [
mq 7 0,
tq 8 (.call false false (.k (.fn n_strconv_Atoi [] [])) [.t 7]),
mq 6 8,
xq 9 6 0,
xq 10 6 1,
mq 4 9,
mq 5 10] [6, 7, 8, 9, 10]
(sr [
mq 11 4,
mq 12 5,
tq 13 (.nilEq 1 false (.t 12)),
mq 14 13,
gq 15 14 true (.mv (.t 4)),
gq 16 14 true (.bin .geq (.t 15) (kq 0)),
tq 17 (.pick (.t 14) (.t 16) (.k (.d (.bool false)))),
mq 18 17,
gq 19 18 true (.mv (.t 4)),
gq 20 18 true (.bin .leq (.t 19) (kq 999999999)),
tq 21 (.pick (.t 18) (.t 20) (.k (.d (.bool false)))),
mq 22 21,
gq 23 22 true (.mv (.t 4)),
gq 24 22 true (cl n_strconv_Itoa [.t 23]),
gq 25 22 true (.mv (.t 0)),
gq 26 22 true (.bin .eql (.t 24) (.t 25)),
tq 27 (.pick (.t 22) (.t 26) (.k (.d (.bool false)))),
mq 2 11,
mq 3 27] [0, 4, 5, 11, 12, 13, 14, 15, 16, 17, 18, 19, 20, 21, 22, 23, 24, 25, 26, 27]
.ret)))⟩

def b_ref01_IsName_1 : C :=
  (.seq (sr [
mq 14 3,
mq 15 0,
tq 16 (.len .str (.t 15)),
tq 17 (.bin .lss (.t 14) (.t 16))] [14, 15, 16]
(.cond (.t 17) .skip
 (.exit 0)))
(.seq (.block 1 (sr [
mq 20 0,
mq 21 3,
tq 22 (.idxS (.t 20) (.t 21)),
mq 4 22] [20, 21, 22]
(sr [
mq 23 4,
tq 24 (.bin .geq (.t 23) (.k (.d (.int .u8 97)))),
mq 25 24,
gq 26 25 true (.mv (.t 4)),
gq 27 25 true (.bin .leq (.t 26) (.k (.d (.int .u8 122)))),
tq 28 (.pick (.t 25) (.t 27) (.k (.d (.bool false)))),
mq 29 28,
gq 30 29 false (.mv (.t 4)),
gq 31 29 false (.bin .geq (.t 30) (.k (.d (.int .u8 65)))),
gq 32 29 false (.mv (.t 31)),
gq 33 32 true (.mv (.t 4)),
gq 34 32 true (.bin .leq (.t 33) (.k (.d (.int .u8 90)))),
gq 35 29 false (.pick (.t 32) (.t 34) (.k (.d (.bool false)))),
tq 36 (.pick (.t 29) (.k (.d (.bool true))) (.t 35)),
mq 5 36] [23, 24, 25, 26, 27, 28, 29, 30, 31, 32, 33, 34, 35, 36]
(sr [
mq 37 5,
tq 38 (.un .not (.t 37)),
mq 39 38,
gq 40 39 true (.mv (.t 3)),
gq 41 39 true (.bin .eql (.t 40) (kq 0)),
gq 42 39 true (.mv (.t 41)),
gq 43 42 false (.mv (.t 4)),
gq 44 42 false (.bin .neq (.t 43) (.k (.d (.int .u8 95)))),
gq 45 42 false (.mv (.t 44)),
gq 46 45 true (.mv (.t 4)),
gq 47 45 true (.bin .lss (.t 46) (.k (.d (.int .u8 48)))),
gq 48 45 true (.mv (.t 47)),
gq 49 48 false (.mv (.t 4)),
gq 50 48 false (.bin .gtr (.t 49) (.k (.d (.int .u8 57)))),
gq 51 45 true (.pick (.t 48) (.k (.d (.bool true))) (.t 50)),
gq 52 42 false (.pick (.t 45) (.t 51) (.k (.d (.bool false)))),
gq 53 39 true (.pick (.t 42) (.k (.d (.bool true))) (.t 52)),
tq 54 (.pick (.t 39) (.t 53) (.k (.d (.bool false))))] [4, 5, 37, 38, 39, 40, 41, 42, 43, 44, 45, 46, 47, 48, 49, 50, 51, 52, 53]
(.cond (.t 54) (sr [
tq 2 (.mv (.k (.d (.bool false))))] []
.ret)
 .skip)))))
(rg [
mq 18 3,
tq 19 (.bin .add (.t 18) (kq 1)),
mq 3 19] [18, 19])))

def c_ref01_IsName : CF := ⟨[.tmp 2],
  (sr [
tq 2 (.mv (.k (.d (.bool false))))] [2]
(.seq (sr [
mq 6 0,
tq 7 (.len .str (.t 6)),
tq 8 (.bin .eql (.t 7) (kq 0)),
mq 9 8,
gq 10 9 false (.mv (.t 0)),
gq 11 9 false (.len .str (.t 10)),
gq 12 9 false (.bin .gtr (.t 11) (kq 24)),
tq 13 (.pick (.t 9) (.k (.d (.bool true))) (.t 12))] [6, 7, 8, 9, 10, 11, 12]
(.cond (.t 13) (sr [
tq 2 (.mv (.k (.d (.bool false))))] []
.ret)
 .skip))
(.seq (sr [
tq 3 (.mv (kq 0))] []
(.block 0 (.loop [0, 3] b_ref01_IsName_1)))
(sr [
tq 2 (.mv (.k (.d (.bool true))))] []
.ret))))⟩

def c_ref05_CheckTest : CF := ⟨[.tmp 2],
  (sr [
tq 1 (.box ty_turnroundref05_Test (.t 0)),
tq 2 (.mv (kq 0))] [0, 2]
(.seq (.seq (.reg true [
tq 3 (cl n_ref05_Facts []),
fa 4 0 1,
ld 5 4,
tq 6 (cl n_ref01_HasWord [.t 3, .t 5]),
tq 7 (.un .not (.t 6))] [3, 4, 5, 6])
(.cond (.t 7) (sr [
tq 2 (.mv (kq 10))] []
.ret)
 .skip))
(.seq (sr [
fa 8 1 1,
ld 9 8,
tq 10 (.bin .neq (.t 9) (.k (.d (.str [61])))),
mq 11 10,
gq 12 11 true (.fieldAddr 1 (.t 1)),
gq 13 11 true (.load none (.t 12)),
gq 14 11 true (.bin .neq (.t 13) (.k (.d (.str [60])))),
tq 15 (.pick (.t 11) (.t 14) (.k (.d (.bool false)))),
mq 16 15,
gq 17 16 true (.fieldAddr 1 (.t 1)),
gq 18 16 true (.load none (.t 17)),
gq 19 16 true (.bin .neq (.t 18) (.k (.d (.str [62])))),
tq 20 (.pick (.t 16) (.t 19) (.k (.d (.bool false))))] [8, 9, 10, 11, 12, 13, 14, 15, 16, 17, 18, 19]
(.cond (.t 20) (sr [
tq 2 (.mv (kq 13))] []
.ret)
 .skip))
(sr [
fa 21 2 1,
ld 22 21,
tq 23 (cl n_ref01_CheckRange [.t 22, kq 0, kq 999999999]),
mq 2 23] [1, 21, 22, 23]
.ret))))⟩

def b_ref01_HasWord_1 : C :=
  (.seq (sr [
mq 6 5,
mq 7 0,
tq 8 (.len .slc (.t 7)),
tq 9 (.bin .lss (.t 6) (.t 8))] [6, 7, 8]
(.cond (.t 9) .skip
 (.exit 0)))
(.seq (.block 1 (sr [
mq 12 0,
mq 13 5,
tq 14 (.idxAddr 1 (.t 12) (.t 13)),
ld 15 14,
mq 16 1,
tq 17 (.bin .eql (.t 15) (.t 16))] [12, 13, 14, 15, 16]
(.cond (.t 17) (sr [
tq 4 (.mv (.k (.d (.bool true))))] []
.ret)
 .skip)))
(rg [
mq 10 5,
tq 11 (.bin .add (.t 10) (kq 1)),
mq 5 11] [10, 11])))

def c_ref01_HasWord : CF := ⟨[.tmp 4],
  (sr [
tq 4 (.mv (.k (.d (.bool false))))] [4]
(.seq (sr [
tq 5 (.mv (kq 0))] []
(.block 0 (.loop [0, 1, 5] b_ref01_HasWord_1)))
(sr [
tq 4 (.mv (.k (.d (.bool false))))] []
.ret)))⟩

def c_ref05_Facts : CF := ⟨[.tmp 0],
  (sr [
tq 0 (.mv (.k (.d (.list 0 []))))] [0]
(sr [
tq 1 (.mkList 1 10 [.k (.d (.str [104, 105, 115, 116, 111, 114, 105, 99])), .k (.d (.str [114, 101, 116, 105, 109, 101, 100])), .k (.d (.str [110, 101, 119, 99, 111, 109, 101, 114])), .k (.d (.str [121, 101, 97, 114, 114, 111, 117, 110, 100])), .k (.d (.str [100, 97, 121, 115])), .k (.d (.str [115, 101, 97, 116, 115])), .k (.d (.str [115, 105, 122, 101])), .k (.d (.str [110, 111, 105, 115, 101])), .k (.d (.str [100, 105, 115, 116, 97, 110, 99, 101])), .k (.d (.str [109, 105, 110, 117, 116, 101]))]),
mq 0 1] [1]
.ret))⟩

def b_slices_pdqsortCmpFunc_int_1 : C :=
  (.block 1 (sr [
mq 21 2,
mq 22 1,
tq 23 (.bin .sub (.t 21) (.t 22)),
mq 12 23] [21, 22, 23]
(.seq (sr [
mq 24 12,
tq 25 (.bin .leq (.t 24) (kq 12))] [24]
(.cond (.t 25) (sr [
mq 26 0,
mq 27 1,
mq 28 2,
mq 29 4,
tq 30 (.call true true (.k (.fn n_slices_insertionSortCmpFunc_int [] [])) [.t 26, .t 27, .t 28, .t 29])] [0, 1, 2, 4, 26, 27, 28, 29, 30]
.ret)
 .skip))
(.seq (sr [
mq 31 3,
tq 32 (.bin .eql (.t 31) (kq 0))] [31]
(.cond (.t 32) (sr [
mq 33 0,
mq 34 1,
mq 35 2,
mq 36 4,
tq 37 (.call true true (.k (.fn n_slices_heapSortCmpFunc_int [] [])) [.t 33, .t 34, .t 35, .t 36])] [0, 1, 2, 4, 33, 34, 35, 36, 37]
.ret)
 .skip))
(.seq (sr [
mq 38 10,
tq 39 (.un .not (.t 38))] [38]
(.cond (.t 39) (sr [
mq 40 0,
mq 41 1,
mq 42 2,
mq 43 4,
tq 44 (.call true true (.k (.fn n_slices_breakPatternsCmpFunc_int [] [])) [.t 40, .t 41, .t 42, .t 43])] [40, 41, 42, 43, 44]
(rg [
mq 45 3,
tq 46 (.bin .sub (.t 45) (kq 1)),
mq 3 46] [45, 46]))
 .skip))
(sr [
mq 48 0,
mq 49 1,
mq 50 2,
mq 51 4,
tq 52 (.call true true (.k (.fn n_slices_choosePivotCmpFunc_int [] [])) [.t 48, .t 49, .t 50, .t 51]),
mq 47 52,
xq 53 47 0,
xq 54 47 1,
mq 13 53,
mq 14 54] [47, 48, 49, 50, 51, 52, 53, 54]
(.seq (sr [
mq 55 14,
tq 56 (.bin .eql (.t 55) (kq 2))] [55]
(.cond (.t 56) (sr [
mq 57 0,
mq 58 1,
mq 59 2,
mq 60 4,
tq 61 (.call true true (.k (.fn n_slices_reverseRangeCmpFunc_int [] [])) [.t 57, .t 58, .t 59, .t 60])] [57, 58, 59, 60, 61]
(sr [
mq 62 2,
tq 63 (.bin .sub (.t 62) (kq 1)),
mq 64 13,
mq 65 1,
tq 66 (.bin .sub (.t 64) (.t 65)),
tq 67 (.bin .sub (.t 63) (.t 66)),
mq 13 67] [62, 63, 64, 65, 66, 67]
(rg [
tq 14 (.mv (kq 1))] [])))
 .skip))
(.seq (sr [
mq 68 10,
mq 69 68,
gq 70 69 true (.mv (.t 11)),
tq 71 (.pick (.t 69) (.t 70) (.k (.d (.bool false)))),
mq 72 71,
gq 73 72 true (.mv (.t 14)),
gq 74 72 true (.bin .eql (.t 73) (kq 1)),
tq 75 (.pick (.t 72) (.t 74) (.k (.d (.bool false))))] [14, 68, 69, 70, 71, 72, 73, 74]
(.cond (.t 75) (sr [
mq 76 0,
mq 77 1,
mq 78 2,
mq 79 4,
tq 80 (.call true true (.k (.fn n_slices_partialInsertionSortCmpFunc_int [] [])) [.t 76, .t 77, .t 78, .t 79])] [76, 77, 78, 79]
(.cond (.t 80) .ret
 .skip))
 .skip))
(.seq (.seq (.reg true [
mq 81 1,
tq 82 (.bin .gtr (.t 81) (kq 0)),
mq 83 82,
gq 84 83 true (.mv (.t 4)),
gq 85 83 true (.mv (.t 0)),
gq 86 83 true (.mv (.t 1)),
gq 87 83 true (.bin .sub (.t 86) (kq 1)),
gq 88 83 true (.idxAddr 1 (.t 85) (.t 87)),
gq 89 83 true (.load none (.t 88)),
gq 90 83 true (.mv (.t 0)),
gq 91 83 true (.mv (.t 13)),
gq 92 83 true (.idxAddr 1 (.t 90) (.t 91)),
gq 93 83 true (.load none (.t 92)),
gq 94 83 true (.call true true (.t 84) [.t 89, .t 93]),
gq 95 83 true (.bin .lss (.t 94) (kq 0)),
gq 96 83 true (.un .not (.t 95)),
tq 97 (.pick (.t 83) (.t 96) (.k (.d (.bool false))))] [81, 82, 83, 84, 85, 86, 87, 88, 89, 90, 91, 92, 93, 94, 95, 96])
(.cond (.t 97) (sr [
mq 98 0,
mq 99 1,
mq 100 2,
mq 101 13,
mq 102 4,
tq 103 (.call true true (.k (.fn n_slices_partitionEqualCmpFunc_int [] [])) [.t 98, .t 99, .t 100, .t 101, .t 102]),
mq 15 103] [1, 13, 98, 99, 100, 101, 102, 103]
(sr [
mq 104 15,
mq 1 104] [15, 104]
(.exit 1)))
 .skip))
(sr [
mq 106 0,
mq 107 1,
mq 108 2,
mq 109 13,
mq 110 4,
tq 111 (.call true true (.k (.fn n_slices_partitionCmpFunc_int [] [])) [.t 106, .t 107, .t 108, .t 109, .t 110]),
mq 105 111,
xq 112 105 0,
xq 113 105 1,
mq 16 112,
mq 17 113] [13, 105, 106, 107, 108, 109, 110, 111, 112, 113]
(sr [
mq 114 17,
mq 11 114] [17, 114]
(sr [
mq 115 16,
mq 116 1,
tq 117 (.bin .sub (.t 115) (.t 116)),
mq 118 2,
mq 119 16,
tq 120 (.bin .sub (.t 118) (.t 119)),
mq 18 117,
mq 19 120] [115, 116, 117, 118, 119, 120]
(sr [
mq 121 12,
tq 122 (.bin .quo (.t 121) (kq 8)),
mq 20 122] [12, 121, 122]
(sr [
mq 123 18,
mq 124 19,
tq 125 (.bin .lss (.t 123) (.t 124))] [123, 124]
(.cond (.t 125) (sr [
mq 126 18,
mq 127 20,
tq 128 (.bin .geq (.t 126) (.t 127)),
mq 10 128] [18, 20, 126, 127, 128]
(sr [
mq 129 0,
mq 130 1,
mq 131 16,
mq 132 3,
mq 133 4,
tq 134 (.call true true (.k (.fn n_slices_pdqsortCmpFunc_int [] [])) [.t 129, .t 130, .t 131, .t 132, .t 133])] [1, 129, 130, 131, 132, 133, 134]
(rg [
mq 135 16,
tq 136 (.bin .add (.t 135) (kq 1)),
mq 1 136] [16, 135, 136])))
 (sr [
mq 137 19,
mq 138 20,
tq 139 (.bin .geq (.t 137) (.t 138)),
mq 10 139] [19, 20, 137, 138, 139]
(sr [
mq 140 0,
mq 141 16,
tq 142 (.bin .add (.t 141) (kq 1)),
mq 143 2,
mq 144 3,
mq 145 4,
tq 146 (.call true true (.k (.fn n_slices_pdqsortCmpFunc_int [] [])) [.t 140, .t 142, .t 143, .t 144, .t 145])] [2, 140, 141, 142, 143, 144, 145, 146]
(rg [
mq 147 16,
mq 2 147] [16, 147]))))))))))))))))))

def c_slices_pdqsortCmpFunc_int : CF := ⟨[],
  (sr [
tq 10 (.mv (.k (.d (.bool true))))] []
(sr [
tq 11 (.mv (.k (.d (.bool true))))] []
(.block 0 (.loop [0, 1, 2, 3, 4, 10, 11] b_slices_pdqsortCmpFunc_int_1))))⟩

def c_math_bits_Len : CF := ⟨[.tmp 2],
  (sr [
tq 2 (.mv (kq 0))] [2]
(.seq (.cond (.k (.d (.bool false))) (sr [
mq 3 0,
tq 4 (.conv .u32 (.t 3)),
tq 5 (cl n_math_bits_Len32 [.t 4]),
mq 2 5] [0, 3, 4, 5]
.ret)
 .skip)
(sr [
mq 6 0,
tq 7 (cl n_math_bits_Len64 [.t 6]),
mq 2 7] [0, 6, 7]
.ret)))⟩

def c_priority_Program_keys : CF := ⟨[.tmp 4],
  (sr [
tq 2 (.box ty_priority_Program (.t 0)),
tq 3 (.box ty_int (.t 1)),
tq 4 (.mv (.k (.d (.nilf))))] [0, 1, 4]
(sr [
tq 5 (.mkFunc n_priority_Program_keys_1 [] [.t 3, .t 2]),
mq 4 5] [2, 3, 5]
.ret))⟩

def c_cmp_isNaN_int : CF := ⟨[.tmp 2],
  (sr [
tq 2 (.mv (.k (.d (.bool false))))] [2]
(sr [
mq 3 0,
mq 4 0,
tq 5 (.bin .neq (.t 3) (.t 4)),
mq 2 5] [0, 3, 4, 5]
.ret))⟩

def b_slices_IndexFunc_Lpriority_Claim_priority_Claim_1 : C :=
  (sr [
tq 9 (.bin .lss (.t 8) (.t 7))] []
(.seq (.cond (.t 9) .skip
 (.exit 0))
(.seq (.block 1 (sr [
mq 10 8,
mq 5 10] [10]
(sr [
mq 11 1,
mq 12 0,
mq 13 5,
tq 14 (.idxAddr 18 (.t 12) (.t 13)),
lq 15 18 14,
tq 16 (.call true true (.t 11) [.t 15])] [11, 12, 13, 14, 15]
(.cond (.t 16) (sr [
mq 17 5,
mq 4 17] [5, 17]
.ret)
 .skip))))
(rg [
tq 18 (.bin .add (.t 8) (kq 1)),
mq 8 18] [18]))))

def c_slices_IndexFunc_Lpriority_Claim_priority_Claim : CF := ⟨[.tmp 4],
  (sr [
tq 4 (.mv (kq 0))] [4]
(.seq (sr [
mq 6 0,
tq 7 (.len .slc (.t 6)),
tq 8 (.mv (kq 0))] [6]
(.block 0 (.loop [0, 1, 7, 8] b_slices_IndexFunc_Lpriority_Claim_priority_Claim_1)))
(sr [
tq 4 (.mv (kq (-1)))] []
.ret)))⟩

def c_cmp_isNaN_string : CF := ⟨[.tmp 2],
  (sr [
tq 2 (.mv (.k (.d (.bool false))))] [2]
(sr [
mq 3 0,
mq 4 0,
tq 5 (.bin .neq (.t 3) (.t 4)),
mq 2 5] [0, 3, 4, 5]
.ret))⟩

def c_calendar_within : CF := ⟨[.tmp 6],
  (sr [
tq 6 (.mv (kq 0))] [6]
(sr [
mq 7 0,
mq 8 1,
tq 9 (.bin .lss (.t 7) (.t 8)),
mq 10 9,
gq 11 10 false (.mv (.t 0)),
gq 12 10 false (.mv (.t 2)),
gq 13 10 false (.bin .gtr (.t 11) (.t 12)),
tq 14 (.pick (.t 10) (.k (.d (.bool true))) (.t 13)),
tq 15 (cl n_calendar_when [.t 14, kq 3]),
mq 6 15] [0, 1, 2, 7, 8, 9, 10, 11, 12, 13, 14, 15]
.ret))⟩

def c_priority_facts_1 : CF := ⟨[.tmp 2],
  (sr [
tq 1 (.box ty_priority_Claim (.t 0)),
tq 2 (.mv (kq 0))] [0, 2]
(sr [
fa 3 13 1,
ld 4 3,
tq 5 (cl n_priority_bit [.t 4]),
mq 2 5] [1, 3, 4, 5]
.ret))⟩

def c_priority_facts_2 : CF := ⟨[.tmp 2],
  (sr [
tq 1 (.box ty_priority_Claim (.t 0)),
tq 2 (.mv (kq 0))] [0, 2]
(sr [
fa 3 14 1,
ld 4 3,
tq 5 (cl n_priority_bit [.t 4]),
mq 2 5] [1, 3, 4, 5]
.ret))⟩

def c_priority_facts_3 : CF := ⟨[.tmp 2],
  (sr [
tq 1 (.box ty_priority_Claim (.t 0)),
tq 2 (.mv (kq 0))] [0, 2]
(sr [
fa 3 15 1,
ld 4 3,
tq 5 (cl n_priority_bit [.t 4]),
mq 2 5] [1, 3, 4, 5]
.ret))⟩

def c_priority_facts_4 : CF := ⟨[.tmp 2],
  (sr [
tq 1 (.box ty_priority_Claim (.t 0)),
tq 2 (.mv (kq 0))] [0, 2]
(sr [
fa 3 16 1,
ld 4 3,
tq 5 (cl n_priority_bit [.t 4]),
mq 2 5] [1, 3, 4, 5]
.ret))⟩

def c_priority_facts_5 : CF := ⟨[.tmp 2],
  (sr [
tq 1 (.box ty_priority_Claim (.t 0)),
tq 2 (.mv (kq 0))] [0, 2]
(sr [
fa 6 0 1,
fa 7 6 6,
lq 8 3 7,
tq 9 (cl n_calendar_Count [.t 8]),
mq 5 9,
xq 10 5 0,
xq 11 5 1,
mq 3 10,
mq 4 11] [1, 4, 5, 6, 7, 8, 9, 10, 11]
(sr [
mq 12 3,
mq 2 12] [3, 12]
.ret)))⟩

def c_calendar_Count : CF := ⟨[.tmp 2, .tmp 3],
  (sr [
tq 1 (.box ty_api_Period (.t 0)),
tq 2 (.mv (kq 0)),
tq 3 (.mv (kq 0))] [0, 2, 3]
(sr [
lq 7 3 1,
tq 8 (cl n_calendar_DaysOf [.t 7]),
mq 6 8,
xq 9 6 0,
xq 10 6 1,
mq 4 9,
mq 5 10] [1, 6, 7, 8, 9, 10]
(sr [
mq 11 4,
tq 12 (.len .slc (.t 11)),
mq 13 5,
mq 2 12,
mq 3 13] [4, 5, 11, 12, 13]
.ret)))⟩

def c_priority_facts_6 : CF := ⟨[.tmp 2],
  (sr [
tq 1 (.box ty_priority_Claim (.t 0)),
tq 2 (.mv (kq 0))] [0, 2]
(sr [
fa 3 0 1,
fa 4 10 3,
ld 5 4,
mq 2 5] [1, 3, 4, 5]
.ret))⟩

def c_priority_facts_7 : CF := ⟨[.tmp 2],
  (sr [
tq 1 (.box ty_priority_Claim (.t 0)),
tq 2 (.mv (kq 0))] [0, 2]
(sr [
fa 3 0 1,
fa 4 11 3,
ld 5 4,
mq 2 5] [1, 3, 4, 5]
.ret))⟩

def c_priority_facts_8 : CF := ⟨[.tmp 2],
  (sr [
tq 1 (.box ty_priority_Claim (.t 0)),
tq 2 (.mv (kq 0))] [0, 2]
(sr [
fa 3 0 1,
fa 4 12 3,
ld 5 4,
mq 2 5] [1, 3, 4, 5]
.ret))⟩

def c_priority_facts_9 : CF := ⟨[.tmp 2],
  (sr [
tq 1 (.box ty_priority_Claim (.t 0)),
tq 2 (.mv (kq 0))] [0, 2]
(sr [
fa 3 17 1,
ld 4 3,
mq 2 4] [1, 3, 4]
.ret))⟩

def c_priority_facts_10 : CF := ⟨[.tmp 2],
  (sr [
tq 1 (.box ty_priority_Claim (.t 0)),
tq 2 (.mv (kq 0))] [0, 2]
(sr [
fa 3 0 1,
fa 4 9 3,
ld 5 4,
mq 2 5] [1, 3, 4, 5]
.ret))⟩

def c_calendar_when : CF := ⟨[.tmp 4],
  (sr [
tq 4 (.mv (kq 0))] [4]
(.seq (sr [
mq 5 0] [0]
(.cond (.t 5) (sr [
mq 6 1,
mq 4 6] [1, 6]
.ret)
 .skip))
(sr [
tq 4 (.mv (kq 0))] []
.ret)))⟩

def c_calendar_inMask : CF := ⟨[.tmp 4],
  (sr [
tq 4 (.mv (.k (.d (.bool false))))] [4]
(sr [
mq 5 0,
mq 6 1,
tq 7 (.bin .shr (.t 5) (.t 6)),
tq 8 (.bin .and (.t 7) (kq 1)),
tq 9 (.bin .eql (.t 8) (kq 1)),
mq 4 9] [0, 1, 5, 6, 7, 8, 9]
.ret))⟩

def c_calendar_weekday : CF := ⟨[.tmp 2],
  (sr [
tq 2 (.mv (kq 0))] [2]
(sr [
mq 3 0,
tq 4 (.bin .add (.t 3) (kq 5)),
tq 5 (.bin .rem (.t 4) (kq 7)),
mq 2 5] [0, 3, 4, 5]
.ret))⟩

def b_slices_IndexFunc_Lpriority_Class_priority_Class_1 : C :=
  (sr [
tq 9 (.bin .lss (.t 8) (.t 7))] []
(.seq (.cond (.t 9) .skip
 (.exit 0))
(.seq (.block 1 (sr [
mq 10 8,
mq 5 10] [10]
(sr [
mq 11 1,
mq 12 0,
mq 13 5,
tq 14 (.idxAddr 3 (.t 12) (.t 13)),
lq 15 3 14,
tq 16 (.call true true (.t 11) [.t 15])] [11, 12, 13, 14, 15]
(.cond (.t 16) (sr [
mq 17 5,
mq 4 17] [5, 17]
.ret)
 .skip))))
(rg [
tq 18 (.bin .add (.t 8) (kq 1)),
mq 8 18] [18]))))

def c_slices_IndexFunc_Lpriority_Class_priority_Class : CF := ⟨[.tmp 4],
  (sr [
tq 4 (.mv (kq 0))] [4]
(.seq (sr [
mq 6 0,
tq 7 (.len .slc (.t 6)),
tq 8 (.mv (kq 0))] [6]
(.block 0 (.loop [0, 1, 7, 8] b_slices_IndexFunc_Lpriority_Class_priority_Class_1)))
(sr [
tq 4 (.mv (kq (-1)))] []
.ret)))⟩

def b_priority_each_priority_Test_1 : C :=
  (sr [
tq 11 (.bin .lss (.t 10) (.t 9))] []
(.seq (.cond (.t 11) .skip
 (.exit 0))
(.seq (.block 1 (sr [
mq 12 10,
tq 13 (.idxAddr 3 (.t 8) (.t 10)),
lq 14 3 13,
tq 6 (.alloc ty_priority_Test [.z (.str []), .z (.str []), .z (.int .i64 0)]),
mq 5 12,
⟨none, none, .store 3 (.t 6) (.t 14)⟩] [12, 13, 14]
(.seq (.reg true [
mq 15 1,
mq 16 0,
mq 17 5,
tq 18 (.slice 3 (.t 16) none (some (.t 17)) none),
lq 19 3 6,
tq 20 (.call false true (.t 15) [.t 18, .t 19]),
mq 7 20] [5, 6, 15, 16, 17, 18, 19, 20])
(sr [
mq 21 7,
tq 22 (.bin .neq (.t 21) (kq 0))] [21]
(.cond (.t 22) (sr [
mq 23 7,
mq 4 23] [7, 23]
.ret)
 .skip)))))
(rg [
tq 24 (.bin .add (.t 10) (kq 1)),
mq 10 24] [24]))))

def c_priority_each_priority_Test : CF := ⟨[.tmp 4],
  (sr [
tq 4 (.mv (kq 0))] [4]
(.seq (sr [
mq 8 0,
tq 9 (.len .slc (.t 8)),
tq 10 (.mv (kq 0))] []
(.block 0 (.loop [0, 1, 8, 9, 10] b_priority_each_priority_Test_1)))
(sr [
tq 4 (.mv (kq 0))] []
.ret)))⟩

def c_priority_Class_check_1 : CF := ⟨[.tmp 4],
  (sr [
tq 3 (.box ty_priority_Test (.t 1)),
tq 4 (.mv (kq 0))] [1, 4]
(sr [
lq 5 3 3,
tq 6 (cl n_priority_Test_check [.t 5]),
mq 4 6] [3, 5, 6]
.ret))⟩

def c_priority_Test_check : CF := ⟨[.tmp 2],
  (sr [
tq 1 (.box ty_priority_Test (.t 0)),
tq 2 (.mv (kq 0))] [0, 2]
(.seq (.reg true [
tq 4 (cl n_priority_Facts []),
fa 5 0 1,
ld 6 5,
tq 7 (cl n_slices_Contains_Lstring_string [.t 4, .t 6]),
mq 3 7] [4, 5, 6, 7])
(.seq (.reg true [
mq 8 3,
tq 9 (.un .not (.t 8)),
tq 10 (cl n_priority_when [.t 9, kq 10]),
fa 11 1 1,
ld 12 11,
tq 13 (.bin .neq (.t 12) (.k (.d (.str [61])))),
mq 14 13,
gq 15 14 true (.fieldAddr 1 (.t 1)),
gq 16 14 true (.load none (.t 15)),
gq 17 14 true (.bin .neq (.t 16) (.k (.d (.str [60])))),
tq 18 (.pick (.t 14) (.t 17) (.k (.d (.bool false)))),
mq 19 18,
gq 20 19 true (.fieldAddr 1 (.t 1)),
gq 21 19 true (.load none (.t 20)),
gq 22 19 true (.bin .neq (.t 21) (.k (.d (.str [62])))),
tq 23 (.pick (.t 19) (.t 22) (.k (.d (.bool false)))),
tq 24 (cl n_priority_when [.t 23, kq 13]),
fa 25 2 1,
ld 26 25,
tq 27 (cl n_priority_within [.t 26, kq 0, kq 999999999]),
tq 28 (.mkList 1 3 [.t 10, .t 24, .t 27]),
tq 29 (cl n_priority_first [.t 28]),
mq 2 29] [1, 3, 8, 9, 10, 11, 12, 13, 14, 15, 16, 17, 18, 19, 20, 21, 22, 23, 24, 25, 26, 27, 28, 29])
.ret)))⟩

def b_priority_each_priority_Key_1 : C :=
  (sr [
tq 11 (.bin .lss (.t 10) (.t 9))] []
(.seq (.cond (.t 11) .skip
 (.exit 0))
(.seq (.block 1 (sr [
mq 12 10,
tq 13 (.idxAddr 2 (.t 8) (.t 10)),
lq 14 2 13,
tq 6 (.alloc ty_priority_Key [.z (.str []), .z (.bool false)]),
mq 5 12,
⟨none, none, .store 2 (.t 6) (.t 14)⟩] [12, 13, 14]
(.seq (.reg true [
mq 15 1,
mq 16 0,
mq 17 5,
tq 18 (.slice 2 (.t 16) none (some (.t 17)) none),
lq 19 2 6,
tq 20 (.call false true (.t 15) [.t 18, .t 19]),
mq 7 20] [5, 6, 15, 16, 17, 18, 19, 20])
(sr [
mq 21 7,
tq 22 (.bin .neq (.t 21) (kq 0))] [21]
(.cond (.t 22) (sr [
mq 23 7,
mq 4 23] [7, 23]
.ret)
 .skip)))))
(rg [
tq 24 (.bin .add (.t 10) (kq 1)),
mq 10 24] [24]))))

def c_priority_each_priority_Key : CF := ⟨[.tmp 4],
  (sr [
tq 4 (.mv (kq 0))] [4]
(.seq (sr [
mq 8 0,
tq 9 (.len .slc (.t 8)),
tq 10 (.mv (kq 0))] []
(.block 0 (.loop [0, 1, 8, 9, 10] b_priority_each_priority_Key_1)))
(sr [
tq 4 (.mv (kq 0))] []
.ret)))⟩

def c_priority_Class_check_2 : CF := ⟨[.tmp 4],
  (sr [
tq 3 (.box ty_priority_Key (.t 1)),
tq 4 (.mv (kq 0))] [1, 4]
(sr [
mq 6 0,
tq 7 (.mkFunc n_priority_Class_check_2_1 [] [.t 3]),
tq 8 (.call true true (.k (.fn n_slices_ContainsFunc_Lpriority_Key_priority_Key [] [])) [.t 6, .t 7]),
mq 5 8] [0, 6, 7, 8]
(.seq (.reg true [
tq 9 (cl n_priority_Facts []),
fa 10 0 3,
ld 11 10,
tq 12 (cl n_slices_Contains_Lstring_string [.t 9, .t 11]),
tq 13 (.un .not (.t 12)),
tq 14 (cl n_priority_when [.t 13, kq 10]),
mq 15 5,
tq 16 (cl n_priority_when [.t 15, kq 9]),
tq 17 (.mkList 1 2 [.t 14, .t 16]),
tq 18 (cl n_priority_first [.t 17]),
mq 4 18] [3, 5, 9, 10, 11, 12, 13, 14, 15, 16, 17, 18])
.ret)))⟩

def c_slices_ContainsFunc_Lpriority_Key_priority_Key : CF := ⟨[.tmp 4],
  (sr [
tq 4 (.mv (.k (.d (.bool false))))] [4]
(sr [
mq 5 0,
mq 6 1,
tq 7 (.call true true (.k (.fn n_slices_IndexFunc_Lpriority_Key_priority_Key [] [])) [.t 5, .t 6]),
tq 8 (.bin .geq (.t 7) (kq 0)),
mq 4 8] [0, 1, 5, 6, 7, 8]
.ret))⟩

def c_priority_Class_check_2_1 : CF := ⟨[.tmp 3],
  (sr [
tq 2 (.box ty_priority_Key (.t 0)),
tq 3 (.mv (.k (.d (.bool false))))] [0, 3]
(sr [
fa 4 0 2,
ld 5 4,
fa 6 0 1,
ld 7 6,
tq 8 (.bin .eql (.t 5) (.t 7)),
mq 3 8] [1, 2, 4, 5, 6, 7, 8]
.ret))⟩

def b_priority_Facts_1 : C :=
  (sr [
tq 7 (.bin .lss (.t 6) (.t 5))] []
(.seq (.cond (.t 7) .skip
 (.exit 0))
(.seq (.block 1 (sr [
tq 8 (.idxAddr 2 (.t 4) (.t 6)),
lq 9 2 8,
tq 3 (.alloc ty_priority_fact [.z (.str []), .z (.nilf)]),
⟨none, none, .store 2 (.t 3) (.t 9)⟩] [8, 9]
(rg [
mq 10 1,
fa 11 0 3,
ld 12 11,
tq 13 (.mkList 1 1 [.t 12]),
tq 14 (.append ⟨false, ty_string, 1, 16⟩ (.t 10) (.t 13)),
mq 1 14] [3, 10, 11, 12, 13, 14])))
(rg [
tq 15 (.bin .add (.t 6) (kq 1)),
mq 6 15] [15]))))

def c_priority_Facts : CF := ⟨[.tmp 0],
  (sr [
tq 0 (.ownNil ⟨false, ty_string, 1, 16⟩)] [0]
(sr [
tq 1 (.ownNil ⟨false, ty_string, 1, 16⟩)] []
(.seq (sr [
tq 4 (.call false false (.k (.fn n_priority_facts [] [])) []),
tq 5 (.len .slc (.t 4)),
tq 6 (.mv (kq 0))] []
(.block 0 (.loop [1, 4, 5, 6] b_priority_Facts_1)))
(sr [
mq 16 1,
mq 0 16] [1, 16]
.ret))))⟩

def b_slices_insertionSortCmpFunc_int_1 : C :=
  (.seq (.seq (.reg true [
mq 18 9,
mq 19 1,
tq 20 (.bin .gtr (.t 18) (.t 19)),
mq 21 20,
gq 22 21 true (.mv (.t 3)),
gq 23 21 true (.mv (.t 0)),
gq 24 21 true (.mv (.t 9)),
gq 25 21 true (.idxAddr 1 (.t 23) (.t 24)),
gq 26 21 true (.load none (.t 25)),
gq 27 21 true (.mv (.t 0)),
gq 28 21 true (.mv (.t 9)),
gq 29 21 true (.bin .sub (.t 28) (kq 1)),
gq 30 21 true (.idxAddr 1 (.t 27) (.t 29)),
gq 31 21 true (.load none (.t 30)),
gq 32 21 true (.call true true (.t 22) [.t 26, .t 31]),
gq 33 21 true (.bin .lss (.t 32) (kq 0)),
tq 34 (.pick (.t 21) (.t 33) (.k (.d (.bool false))))] [18, 19, 20, 21, 22, 23, 24, 25, 26, 27, 28, 29, 30, 31, 32, 33])
(.cond (.t 34) .skip
 (.exit 2)))
(.seq (.block 3 (.reg true [
mq 37 0,
mq 38 9,
mq 39 0,
mq 40 9,
tq 41 (.bin .sub (.t 40) (kq 1)),
mq 42 0,
mq 43 9,
tq 44 (.bin .sub (.t 43) (kq 1)),
tq 45 (.idxAddr 1 (.t 42) (.t 44)),
ld 46 45,
mq 47 0,
mq 48 9,
tq 49 (.idxAddr 1 (.t 47) (.t 48)),
ld 50 49,
tq 51 (.idxAddr 1 (.t 37) (.t 38)),
⟨none, none, .store 1 (.t 51) (.t 46)⟩,
tq 52 (.idxAddr 1 (.t 39) (.t 41)),
⟨none, none, .store 1 (.t 52) (.t 50)⟩] [37, 38, 39, 40, 41, 42, 43, 44, 45, 46, 47, 48, 49, 50, 51, 52]))
(rg [
mq 35 9,
tq 36 (.bin .sub (.t 35) (kq 1)),
mq 9 36] [35, 36])))

def b_slices_insertionSortCmpFunc_int_2 : C :=
  (.seq (sr [
mq 12 8,
mq 13 2,
tq 14 (.bin .lss (.t 12) (.t 13))] [12, 13]
(.cond (.t 14) .skip
 (.exit 0)))
(.seq (.block 1 (sr [
mq 17 8,
mq 9 17] [17]
(.block 2 (.loop [0, 1, 2, 3, 8, 9] b_slices_insertionSortCmpFunc_int_1))))
(rg [
mq 15 8,
tq 16 (.bin .add (.t 15) (kq 1)),
mq 8 16] [15, 16])))

def c_slices_insertionSortCmpFunc_int : CF := ⟨[],
  (sr [
mq 10 1,
tq 11 (.bin .add (.t 10) (kq 1)),
mq 8 11] [10, 11]
(.block 0 (.loop [0, 1, 2, 3, 8] b_slices_insertionSortCmpFunc_int_2)))⟩

def c_math_bits_Len32 : CF := ⟨[.tmp 2],
  (sr [
tq 2 (.mv (kq 0))] []
(.seq (sr [
mq 3 0,
tq 4 (.bin .geq (.t 3) (.k (.d (.int .u32 65536))))] [3]
(.cond (.t 4) (sr [
mq 5 0,
tq 6 (.bin .shr (.t 5) (.k (.d (.int .u64 16)))),
mq 0 6] [5, 6]
(rg [
tq 2 (.mv (kq 16))] []))
 .skip))
(.seq (sr [
mq 7 0,
tq 8 (.bin .geq (.t 7) (.k (.d (.int .u32 256))))] [7]
(.cond (.t 8) (sr [
mq 9 0,
tq 10 (.bin .shr (.t 9) (.k (.d (.int .u64 8)))),
mq 0 10] [9, 10]
(rg [
mq 11 2,
tq 12 (.bin .add (.t 11) (kq 8)),
mq 2 12] [11, 12]))
 .skip))
(sr [
mq 13 2,
mq 14 0,
tq 15 (.conv .u8 (.t 14)),
tq 16 (.idxS (.k (.d (.str [0, 1, 2, 2, 3, 3, 3, 3, 4, 4, 4, 4, 4, 4, 4, 4, 5, 5, 5, 5, 5, 5, 5, 5, 5, 5, 5, 5, 5, 5, 5, 5, 6, 6, 6, 6, 6, 6, 6, 6, 6, 6, 6, 6, 6, 6, 6, 6, 6, 6, 6, 6, 6, 6, 6, 6, 6, 6, 6, 6, 6, 6, 6, 6, 7, 7, 7, 7, 7, 7, 7, 7, 7, 7, 7, 7, 7, 7, 7, 7, 7, 7, 7, 7, 7, 7, 7, 7, 7, 7, 7, 7, 7, 7, 7, 7, 7, 7, 7, 7, 7, 7, 7, 7, 7, 7, 7, 7, 7, 7, 7, 7, 7, 7, 7, 7, 7, 7, 7, 7, 7, 7, 7, 7, 7, 7, 7, 7, 8, 8, 8, 8, 8, 8, 8, 8, 8, 8, 8, 8, 8, 8, 8, 8, 8, 8, 8, 8, 8, 8, 8, 8, 8, 8, 8, 8, 8, 8, 8, 8, 8, 8, 8, 8, 8, 8, 8, 8, 8, 8, 8, 8, 8, 8, 8, 8, 8, 8, 8, 8, 8, 8, 8, 8, 8, 8, 8, 8, 8, 8, 8, 8, 8, 8, 8, 8, 8, 8, 8, 8, 8, 8, 8, 8, 8, 8, 8, 8, 8, 8, 8, 8, 8, 8, 8, 8, 8, 8, 8, 8, 8, 8, 8, 8, 8, 8, 8, 8, 8, 8, 8, 8, 8, 8, 8, 8, 8, 8, 8, 8, 8, 8, 8, 8, 8, 8, 8, 8, 8, 8, 8, 8, 8, 8, 8, 8]))) (.t 15)),
tq 17 (.conv .i64 (.t 16)),
tq 18 (.bin .add (.t 13) (.t 17)),
mq 2 18] [0, 13, 14, 15, 16, 17, 18]
.ret))))⟩

def c_math_bits_Len64 : CF := ⟨[.tmp 2],
  (sr [
tq 2 (.mv (kq 0))] []
(.seq (sr [
mq 3 0,
tq 4 (.bin .geq (.t 3) (.k (.d (.int .u64 4294967296))))] [3]
(.cond (.t 4) (sr [
mq 5 0,
tq 6 (.bin .shr (.t 5) (.k (.d (.int .u64 32)))),
mq 0 6] [5, 6]
(rg [
tq 2 (.mv (kq 32))] []))
 .skip))
(.seq (sr [
mq 7 0,
tq 8 (.bin .geq (.t 7) (.k (.d (.int .u64 65536))))] [7]
(.cond (.t 8) (sr [
mq 9 0,
tq 10 (.bin .shr (.t 9) (.k (.d (.int .u64 16)))),
mq 0 10] [9, 10]
(rg [
mq 11 2,
tq 12 (.bin .add (.t 11) (kq 16)),
mq 2 12] [11, 12]))
 .skip))
(.seq (sr [
mq 13 0,
tq 14 (.bin .geq (.t 13) (.k (.d (.int .u64 256))))] [13]
(.cond (.t 14) (sr [
mq 15 0,
tq 16 (.bin .shr (.t 15) (.k (.d (.int .u64 8)))),
mq 0 16] [15, 16]
(rg [
mq 17 2,
tq 18 (.bin .add (.t 17) (kq 8)),
mq 2 18] [17, 18]))
 .skip))
(sr [
mq 19 2,
mq 20 0,
tq 21 (.conv .u8 (.t 20)),
tq 22 (.idxS (.k (.d (.str [0, 1, 2, 2, 3, 3, 3, 3, 4, 4, 4, 4, 4, 4, 4, 4, 5, 5, 5, 5, 5, 5, 5, 5, 5, 5, 5, 5, 5, 5, 5, 5, 6, 6, 6, 6, 6, 6, 6, 6, 6, 6, 6, 6, 6, 6, 6, 6, 6, 6, 6, 6, 6, 6, 6, 6, 6, 6, 6, 6, 6, 6, 6, 6, 7, 7, 7, 7, 7, 7, 7, 7, 7, 7, 7, 7, 7, 7, 7, 7, 7, 7, 7, 7, 7, 7, 7, 7, 7, 7, 7, 7, 7, 7, 7, 7, 7, 7, 7, 7, 7, 7, 7, 7, 7, 7, 7, 7, 7, 7, 7, 7, 7, 7, 7, 7, 7, 7, 7, 7, 7, 7, 7, 7, 7, 7, 7, 7, 8, 8, 8, 8, 8, 8, 8, 8, 8, 8, 8, 8, 8, 8, 8, 8, 8, 8, 8, 8, 8, 8, 8, 8, 8, 8, 8, 8, 8, 8, 8, 8, 8, 8, 8, 8, 8, 8, 8, 8, 8, 8, 8, 8, 8, 8, 8, 8, 8, 8, 8, 8, 8, 8, 8, 8, 8, 8, 8, 8, 8, 8, 8, 8, 8, 8, 8, 8, 8, 8, 8, 8, 8, 8, 8, 8, 8, 8, 8, 8, 8, 8, 8, 8, 8, 8, 8, 8, 8, 8, 8, 8, 8, 8, 8, 8, 8, 8, 8, 8, 8, 8, 8, 8, 8, 8, 8, 8, 8, 8, 8, 8, 8, 8, 8, 8, 8, 8, 8, 8, 8, 8, 8, 8, 8, 8, 8, 8]))) (.t 21)),
tq 23 (.conv .i64 (.t 22)),
tq 24 (.bin .add (.t 19) (.t 23)),
mq 2 24] [0, 19, 20, 21, 22, 23, 24]
.ret)))))⟩

def b_priority_Program_keys_1_1 : C :=
  (sr [
tq 19 (.bin .lss (.t 18) (.t 17))] []
(.seq (.cond (.t 19) .skip
 (.exit 0))
(.seq (.block 1 (sr [
tq 20 (.idxAddr 2 (.t 16) (.t 18)),
lq 21 2 20,
tq 5 (.alloc ty_priority_Key [.z (.str []), .z (.bool false)]),
⟨none, none, .store 2 (.t 5) (.t 21)⟩] [20, 21]
(.seq (.reg true [
mq 22 0,
lq 23 2 5,
tq 24 (.call false false (.k (.fn n_priority_known [] [])) []),
fa 25 0 5,
ld 26 25,
tq 27 (.lookup .str (.agg [.str [], .nilf]) false (.t 24) (.t 26)),
tq 28 (.call true true (.t 22) [.t 23, .t 27]),
tq 29 (.un .not (.t 28))] [5, 22, 23, 24, 25, 26, 27, 28])
(.cond (.t 29) .ret
 .skip))))
(rg [
tq 30 (.bin .add (.t 18) (kq 1)),
mq 18 30] [30]))))

def c_priority_Program_keys_1 : CF := ⟨[],
  (.seq (sr [
ld 6 1,
fa 7 0 2,
ld 8 7,
tq 9 (.len .slc (.t 8)),
tq 10 (.bin .geq (.t 6) (.t 9))] [6, 7, 8, 9]
(.cond (.t 10) .ret
 .skip))
(sr [
fa 11 0 2,
ld 12 11,
ld 13 1,
tq 14 (.idxAddr 3 (.t 12) (.t 13)),
fa 15 2 14,
ld 16 15,
tq 17 (.len .slc (.t 16)),
tq 18 (.mv (kq 0))] [1, 2, 11, 12, 13, 14, 15]
(.block 0 (.loop [0, 16, 17, 18] b_priority_Program_keys_1_1))))⟩

def c_calendar_DaysOf : CF := ⟨[.tmp 2, .tmp 3],
  (sr [
tq 1 (.box ty_api_Period (.t 0)),
tq 2 (.mv (.k (.d (.list 0 [])))),
tq 3 (.mv (kq 0))] [0, 2, 3]
(.seq (sr [
lq 5 3 1,
tq 6 (cl n_calendar_CheckPeriod [.t 5]),
mq 4 6] [5, 6]
(sr [
mq 7 4,
tq 8 (.bin .neq (.t 7) (kq 0))] [7]
(.cond (.t 8) (sr [
mq 9 4,
tq 2 (.mv (.k (.d (.list 0 [])))),
mq 3 9] [4, 9]
.ret)
 .skip)))
(sr [
lq 10 3 1,
tq 11 (.call false false (.k (.fn n_calendar_daysOf [] [])) [.t 10]),
tq 12 (.call true true (.k (.fn n_calendar_collected_int [] [])) [.t 11, .k (.fn n_calendar_DaysOf_1 [] [])]),
mq 2 12,
tq 3 (.mv (kq 0))] [1, 10, 11, 12]
.ret)))⟩

def b_slices_IndexFunc_Lpriority_Key_priority_Key_1 : C :=
  (sr [
tq 9 (.bin .lss (.t 8) (.t 7))] []
(.seq (.cond (.t 9) .skip
 (.exit 0))
(.seq (.block 1 (sr [
mq 10 8,
mq 5 10] [10]
(sr [
mq 11 1,
mq 12 0,
mq 13 5,
tq 14 (.idxAddr 2 (.t 12) (.t 13)),
lq 15 2 14,
tq 16 (.call true true (.t 11) [.t 15])] [11, 12, 13, 14, 15]
(.cond (.t 16) (sr [
mq 17 5,
mq 4 17] [5, 17]
.ret)
 .skip))))
(rg [
tq 18 (.bin .add (.t 8) (kq 1)),
mq 8 18] [18]))))

def c_slices_IndexFunc_Lpriority_Key_priority_Key : CF := ⟨[.tmp 4],
  (sr [
tq 4 (.mv (kq 0))] [4]
(.seq (sr [
mq 6 0,
tq 7 (.len .slc (.t 6)),
tq 8 (.mv (kq 0))] [6]
(.block 0 (.loop [0, 1, 7, 8] b_slices_IndexFunc_Lpriority_Key_priority_Key_1)))
(sr [
tq 4 (.mv (kq (-1)))] []
.ret)))⟩

def b_calendar_collected_int_1 : C :=
  (rg [
mq 6 8] [8])

def b_calendar_collected_int_2 : C :=
  (.block 1 (sr [
ld 9 3,
mq 10 6,
tq 11 (.call true true (.t 9) [.t 10])] [3, 9, 10]
(.cond (.t 11) (rg [
ld 12 5,
mq 13 6,
tq 14 (.mkList 1 1 [.t 13]),
tq 15 (.append ⟨false, ty_int, 1, 8⟩ (.t 12) (.t 14)),
⟨none, none, .store 1 (.t 5) (.t 15)⟩] [5, 6, 12, 13, 14, 15])
 .skip)))

def c_calendar_collected_int : CF := ⟨[.tmp 4],
  (sr [
tq 3 (.box ty_func_int_bool (.t 1)),
tq 4 (.ownNil ⟨false, ty_int, 1, 8⟩)] [1]
(sr [
tq 5 (.alloc ty_Lint [.own ⟨false, ty_int, 1, 8⟩])] []
(.seq (sr [
mq 7 0] [0]
(.block 0 (.rangeFn 18 (.t 7) [8] b_calendar_collected_int_1 b_calendar_collected_int_2)))
(sr [
ld 16 5,
mq 4 16] [5, 16]
.ret))))⟩

def c_calendar_daysOf : CF := ⟨[.tmp 2],
  (sr [
tq 1 (.box ty_api_Period (.t 0)),
tq 2 (.mv (.k (.d (.nilf))))] [0, 2]
(sr [
tq 3 (.mkFunc n_calendar_daysOf_1 [] [.t 1]),
mq 2 3] [1, 3]
.ret))⟩

def c_calendar_DaysOf_1 : CF := ⟨[.tmp 2],
  (sr [
tq 2 (.mv (.k (.d (.bool false))))] [2]
(sr [
tq 2 (.mv (.k (.d (.bool true))))] []
.ret))⟩

def b_calendar_daysOf_1_1 : C :=
  (.seq (sr [
mq 6 3,
fa 7 1 1,
ld 8 7,
tq 9 (.bin .leq (.t 6) (.t 8))] [6, 7, 8]
(.cond (.t 9) .skip
 (.exit 0)))
(.seq (.block 1 (.seq (.reg true [
fa 12 2 1,
ld 13 12,
mq 14 3,
tq 15 (cl n_calendar_weekday [.t 14]),
tq 16 (cl n_calendar_inMask [.t 13, .t 15]),
mq 17 16,
gq 18 17 true (.mv (.t 0)),
gq 19 17 true (.mv (.t 3)),
gq 20 17 true (.call true true (.t 18) [.t 19]),
gq 21 17 true (.un .not (.t 20)),
tq 22 (.pick (.t 17) (.t 21) (.k (.d (.bool false))))] [12, 13, 14, 15, 16, 17, 18, 19, 20, 21])
(.cond (.t 22) .ret
 .skip)))
(rg [
mq 10 3,
tq 11 (.bin .add (.t 10) (kq 1)),
mq 3 11] [10, 11])))

def c_calendar_daysOf_1 : CF := ⟨[],
  (sr [
fa 4 0 1,
ld 5 4,
mq 3 5] [4, 5]
(.block 0 (.loop [0, 1, 3] b_calendar_daysOf_1_1)))⟩

def codes : List (Nat × CF) := [
  (n_law05_PriorityBack, c_law05_PriorityBack),
  (n_law05_awake, c_law05_awake),
  (n_priority_Parse, c_priority_Parse),
  (n_ref05_Same, c_ref05_Same),
  (n_law05_own, c_law05_own),
  (n_ref05_Short, c_ref05_Short),
  (n_priority_Print, c_priority_Print),
  (n_ref05_CheckProgram, c_ref05_CheckProgram),
  (n_law05_program, c_law05_program),
  (n_priority_Default, c_priority_Default),
  (n_law05_sample, c_law05_sample),
  (n_priority_ClassOf, c_priority_ClassOf),
  (n_priority_Rank, c_priority_Rank),
  (n_priority_Why, c_priority_Why),
  (n_ref01_SameInts, c_ref01_SameInts),
  (n_ref01_SameWords, c_ref01_SameWords),
  (n_priority_Interleave, c_priority_Interleave),
  (n_priority_Lots, c_priority_Lots),
  (n_priority_Fact, c_priority_Fact),
  (n_priority_Newcomer, c_priority_Newcomer),
  (n_ref01_DaysOf, c_ref01_DaysOf),
  (n_strings_SplitAfter, c_strings_SplitAfter),
  (n_priority_Program_line, c_priority_Program_line),
  (n_ref05_CheckPool, c_ref05_CheckPool),
  (n_ref05_added, c_ref05_added),
  (n_priority_CheckProgram, c_priority_CheckProgram),
  (n_priority_Print_1, c_priority_Print_1),
  (n_strings_Builder_WriteString, c_strings_Builder_WriteString),
  (n_priority_Key_sign, c_priority_Key_sign),
  (n_priority_first, c_priority_first),
  (n_priority_CheckClaim, c_priority_CheckClaim),
  (n_priority_Program_classOf, c_priority_Program_classOf),
  (n_priority_checkRanking, c_priority_checkRanking),
  (n_priority_ranked, c_priority_ranked),
  (n_priority_ranking_order, c_priority_ranking_order),
  (n_priority_ranking_compare, c_priority_ranking_compare),
  (n_priority_within, c_priority_within),
  (n_priority_when, c_priority_when),
  (n_priority_interleaved, c_priority_interleaved),
  (n_priority_checkKey, c_priority_checkKey),
  (n_priority_checkClaims, c_priority_checkClaims),
  (n_priority_lots, c_priority_lots),
  (n_priority_known, c_priority_known),
  (n_calendar_IsName, c_calendar_IsName),
  (n_priority_each_api_Request, c_priority_each_api_Request),
  (n_priority_Newcomer_1, c_priority_Newcomer_1),
  (n_slices_ContainsFunc_Lapi_Request_api_Request, c_slices_ContainsFunc_Lapi_Request_api_Request),
  (n_priority_Newcomer_1_1, c_priority_Newcomer_1_1),
  (n_message_CheckRequest, c_message_CheckRequest),
  (n_calendar_Has, c_calendar_Has),
  (n_priority_bit, c_priority_bit),
  (n_ref01_Has, c_ref01_Has),
  (n_strings_CutSuffix, c_strings_CutSuffix),
  (n_slices_Contains_Lstring_string, c_slices_Contains_Lstring_string),
  (n_priority_reader_next, c_priority_reader_next),
  (n_priority_reader_class, c_priority_reader_class),
  (n_priority_added, c_priority_added),
  (n_priority_reader_pool, c_priority_reader_pool),
  (n_priority_Program_pool, c_priority_Program_pool),
  (n_ref01_First, c_ref01_First),
  (n_ref01_CheckRange, c_ref01_CheckRange),
  (n_ref05_CheckClass, c_ref05_CheckClass),
  (n_priority_each_priority_Class, c_priority_each_priority_Class),
  (n_priority_holds, c_priority_holds),
  (n_priority_indices, c_priority_indices),
  (n_slices_SortFunc_Lint_int, c_slices_SortFunc_Lint_int),
  (n_priority_ranking_order_1, c_priority_ranking_order_1),
  (n_slices_IndexFunc_Lint_int, c_slices_IndexFunc_Lint_int),
  (n_priority_ranking_order_2, c_priority_ranking_order_2),
  (n_slices_Clone_Lint_int, c_slices_Clone_Lint_int),
  (n_priority_Program_decide, c_priority_Program_decide),
  (n_cmp_Compare_int, c_cmp_Compare_int),
  (n_priority_each_priority_Claim, c_priority_each_priority_Claim),
  (n_priority_checkClaims_1, c_priority_checkClaims_1),
  (n_slices_ContainsFunc_Lpriority_Claim_priority_Claim, c_slices_ContainsFunc_Lpriority_Claim_priority_Claim),
  (n_priority_checkClaims_1_1, c_priority_checkClaims_1_1),
  (n_priority_lots_1, c_priority_lots_1),
  (n_cmp_Compare_string, c_cmp_Compare_string),
  (n_calendar_Draw, c_calendar_Draw),
  (n_priority_facts, c_priority_facts),
  (n_slices_IndexFunc_Lapi_Request_api_Request, c_slices_IndexFunc_Lapi_Request_api_Request),
  (n_message_first, c_message_first),
  (n_message_named, c_message_named),
  (n_message_optional, c_message_optional),
  (n_message_when, c_message_when),
  (n_message_isKind, c_message_isKind),
  (n_calendar_CheckPeriod, c_calendar_CheckPeriod),
  (n_message_within, c_message_within),
  (n_calendar_first, c_calendar_first),
  (n_calendar_checkDay, c_calendar_checkDay),
  (n_calendar_has, c_calendar_has),
  (n_ref01_InMask, c_ref01_InMask),
  (n_ref01_Weekday, c_ref01_Weekday),
  (n_internal_stringslite_CutSuffix, c_internal_stringslite_CutSuffix),
  (n_slices_Index_Lstring_string, c_slices_Index_Lstring_string),
  (n_priority_all_priority_Test, c_priority_all_priority_Test),
  (n_priority_test, c_priority_test),
  (n_priority_all_priority_Key, c_priority_all_priority_Key),
  (n_priority_key, c_priority_key),
  (n_slices_ContainsFunc_Lpriority_Class_priority_Class, c_slices_ContainsFunc_Lpriority_Class_priority_Class),
  (n_priority_added_1, c_priority_added_1),
  (n_priority_Class_check, c_priority_Class_check),
  (n_priority_integer, c_priority_integer),
  (n_ref01_IsName, c_ref01_IsName),
  (n_ref05_CheckTest, c_ref05_CheckTest),
  (n_ref01_HasWord, c_ref01_HasWord),
  (n_ref05_Facts, c_ref05_Facts),
  (n_slices_pdqsortCmpFunc_int, c_slices_pdqsortCmpFunc_int),
  (n_math_bits_Len, c_math_bits_Len),
  (n_priority_Program_keys, c_priority_Program_keys),
  (n_cmp_isNaN_int, c_cmp_isNaN_int),
  (n_slices_IndexFunc_Lpriority_Claim_priority_Claim, c_slices_IndexFunc_Lpriority_Claim_priority_Claim),
  (n_cmp_isNaN_string, c_cmp_isNaN_string),
  (n_calendar_within, c_calendar_within),
  (n_priority_facts_1, c_priority_facts_1),
  (n_priority_facts_2, c_priority_facts_2),
  (n_priority_facts_3, c_priority_facts_3),
  (n_priority_facts_4, c_priority_facts_4),
  (n_priority_facts_5, c_priority_facts_5),
  (n_calendar_Count, c_calendar_Count),
  (n_priority_facts_6, c_priority_facts_6),
  (n_priority_facts_7, c_priority_facts_7),
  (n_priority_facts_8, c_priority_facts_8),
  (n_priority_facts_9, c_priority_facts_9),
  (n_priority_facts_10, c_priority_facts_10),
  (n_calendar_when, c_calendar_when),
  (n_calendar_inMask, c_calendar_inMask),
  (n_calendar_weekday, c_calendar_weekday),
  (n_slices_IndexFunc_Lpriority_Class_priority_Class, c_slices_IndexFunc_Lpriority_Class_priority_Class),
  (n_priority_each_priority_Test, c_priority_each_priority_Test),
  (n_priority_Class_check_1, c_priority_Class_check_1),
  (n_priority_Test_check, c_priority_Test_check),
  (n_priority_each_priority_Key, c_priority_each_priority_Key),
  (n_priority_Class_check_2, c_priority_Class_check_2),
  (n_slices_ContainsFunc_Lpriority_Key_priority_Key, c_slices_ContainsFunc_Lpriority_Key_priority_Key),
  (n_priority_Class_check_2_1, c_priority_Class_check_2_1),
  (n_priority_Facts, c_priority_Facts),
  (n_slices_insertionSortCmpFunc_int, c_slices_insertionSortCmpFunc_int),
  (n_math_bits_Len32, c_math_bits_Len32),
  (n_math_bits_Len64, c_math_bits_Len64),
  (n_priority_Program_keys_1, c_priority_Program_keys_1),
  (n_calendar_DaysOf, c_calendar_DaysOf),
  (n_slices_IndexFunc_Lpriority_Key_priority_Key, c_slices_IndexFunc_Lpriority_Key_priority_Key),
  (n_calendar_collected_int, c_calendar_collected_int),
  (n_calendar_daysOf, c_calendar_daysOf),
  (n_calendar_DaysOf_1, c_calendar_DaysOf_1),
  (n_calendar_daysOf_1, c_calendar_daysOf_1)]

def code (f : Nat) : Option CF := findC f codes


def globs : Globs := [(1, [.int .u64 1, .int .u64 10, .int .u64 100, .int .u64 1000, .int .u64 10000, .int .u64 100000, .int .u64 1000000, .int .u64 10000000, .int .u64 100000000, .int .u64 1000000000, .int .u64 10000000000, .int .u64 100000000000, .int .u64 1000000000000, .int .u64 10000000000000, .int .u64 100000000000000, .int .u64 1000000000000000, .int .u64 10000000000000000, .int .u64 100000000000000000, .int .u64 1000000000000000000, .int .u64 10000000000000000000]), (4, [.ifc true]), (5, [.ifc true])]

end Go.Proofs.YthmfkkpmjcbgeaaGreatDoor.Co
