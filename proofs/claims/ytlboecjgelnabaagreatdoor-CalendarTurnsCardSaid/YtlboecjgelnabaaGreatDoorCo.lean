/-
  The functions of the seat in the evaluator's syntax (printed by a program of mine; checked in the next text).
-/
import Derived.Test.YtlboecjgelnabaaGreatDoorEvE
namespace Go.Proofs.YtlboecjgelnabaaGreatDoor.Co
open Go.Evl

def n_law01_CalendarClocks : Nat := 3
def n_law01_CalendarSummers : Nat := 4
def n_law01_CalendarDates : Nat := 5
def n_law01_CalendarPeriods : Nat := 6
def n_law01_CalendarSeasons : Nat := 7
def n_law01_CalendarTurns : Nat := 8
def n_law01_CalendarTexts : Nat := 9
def n_law01_zone : Nat := 10
def n_law01_awake : Nat := 11
def n_ref01_ShortZone : Nat := 12
def n_ref01_CheckZone : Nat := 13
def n_calendar_CheckZone : Nat := 14
def n_calendar_Local : Nat := 15
def n_calendar_Universal : Nat := 16
def n_law01_first : Nat := 17
def n_ref01_CheckMoment : Nat := 18
def n_law01_number : Nat := 19
def n_law01_list : Nat := 20
def n_ref01_Local : Nat := 21
def n_ref01_Universal : Nat := 22
def n_calendar_Summer : Nat := 23
def n_ref01_CheckSummer : Nat := 24
def n_ref01_Summer : Nat := 25
def n_ref01_SameZone : Nat := 26
def n_calendar_Draw : Nat := 27
def n_ref01_CheckDraw : Nat := 28
def n_ref01_Draw : Nat := 29
def n_calendar_Day : Nat := 30
def n_ref01_CheckDate : Nat := 31
def n_ref01_Day : Nat := 32
def n_calendar_Date : Nat := 33
def n_calendar_Weekday : Nat := 34
def n_calendar_PrintDate : Nat := 35
def n_ref01_CheckDay : Nat := 36
def n_law01_text : Nat := 37
def n_ref01_Date : Nat := 38
def n_ref01_Weekday : Nat := 39
def n_ref01_PrintDate : Nat := 40
def n_ref01_CheckPeriod : Nat := 41
def n_calendar_CheckPeriod : Nat := 42
def n_calendar_Has : Nat := 43
def n_calendar_DaysOf : Nat := 44
def n_calendar_Count : Nat := 45
def n_calendar_Meet : Nat := 46
def n_ref01_DaysOf : Nat := 47
def n_ref01_Has : Nat := 48
def n_ref01_Meet : Nat := 49
def n_ref01_CheckSeason : Nat := 50
def n_calendar_CheckSeason : Nat := 51
def n_calendar_Span : Nat := 52
def n_calendar_Next : Nat := 53
def n_calendar_Previous : Nat := 54
def n_calendar_SeasonOf : Nat := 55
def n_calendar_Equivalent : Nat := 56
def n_ref01_Span : Nat := 57
def n_ref01_Next : Nat := 58
def n_ref01_Previous : Nat := 59
def n_ref01_SeasonOf : Nat := 60
def n_calendar_ParseDate : Nat := 61
def n_ref01_ParseDate : Nat := 62
def n_calendar_ParseMask : Nat := 63
def n_ref01_ParseMask : Nat := 64
def n_calendar_PrintMask : Nat := 65
def n_ref01_CheckRange : Nat := 66
def n_ref01_PrintMask : Nat := 67
def n_calendar_IsName : Nat := 68
def n_ref01_IsName : Nat := 69
def n_calendar_Shift : Nat := 70
def n_calendar_Join : Nat := 71
def n_ref01_SameInts : Nat := 72
def n_ref01_SamePeriods : Nat := 73
def n_calendar_first : Nat := 74
def n_calendar_within : Nat := 75
def n_calendar_when : Nat := 76
def n_calendar_checkMoment : Nat := 77
def n_calendar_Zone_at : Nat := 78
def n_slices_Compact_Lint_int : Nat := 80
def n_ref01_First : Nat := 81
def n_ref01_Offset : Nat := 82
def n_calendar_lastSunday : Nat := 83
def n_ref01_LastSunday : Nat := 84
def n_calendar_number : Nat := 85
def n_calendar_length : Nat := 86
def n_ref01_Length : Nat := 87
def n_ref01_yearLength : Nat := 88
def n_calendar_checkDay : Nat := 89
def n_calendar_date : Nat := 90
def n_calendar_weekday : Nat := 91
def n_calendar_two : Nat := 93
def n_ref01_wide : Nat := 94
def n_calendar_has : Nat := 95
def n_calendar_collected_int : Nat := 96
def n_calendar_daysOf : Nat := 97
def n_calendar_DaysOf_1 : Nat := 98
def n_calendar_Meet_1 : Nat := 99
def n_ref01_InMask : Nat := 100
def n_calendar_Season_begin : Nat := 101
def n_calendar_Season_next : Nat := 102
def n_calendar_latest : Nat := 103
def n_calendar_earliest : Nat := 104
def n_calendar_digits : Nat := 105
def n_calendar_printMask : Nat := 107
def n_ref01_digit : Nat := 108
def n_calendar_weekOf : Nat := 109
def n_slices_Clip_Lapi_Period_api_Period : Nat := 110
def n_calendar_span : Nat := 113
def n_calendar_leap : Nat := 114
def n_ref01_leap : Nat := 115
def n_calendar_inMask : Nat := 117
def n_calendar_daysOf_1 : Nat := 118
def n_strings_Builder_WriteString : Nat := 122
def n_strings_Builder_WriteByte : Nat := 123
def n_cmp_Less_int : Nat := 131
def n_cmp_isNaN_int : Nat := 155
def n_slices_Sort_Lint_int : Nat := 79
def n_strconv_Itoa : Nat := 92
def n_strconv_Atoi : Nat := 106
def n_strings_Trim : Nat := 119
def n_strings_Builder_String : Nat := 124
def n_strings_Builder_copyCheck : Nat := 149
def ty_int : Nat := 3
def ty_uint8 : Nat := 5
def ty_calendar_Zone : Nat := 24
def ty_turnroundref01_Zone : Nat := 27
def ty_Lint : Nat := 36
def ty_2_int : Nat := 46
def ty_3_int : Nat := 56
def ty_api_Period : Nat := 68
def ty_calendar_Season : Nat := 81
def ty_turnroundref01_Season : Nat := 82
def ty_func_int_bool : Nat := 97
def ty_calendar_Change : Nat := 103
def ty_turnroundref01_Change : Nat := 104
def ty_strings_Builder : Nat := 142

/-- "turnround/turnroundlaw01.CalendarClocks" -/
def c_law01_CalendarClocks : CF := ⟨[.tmp 4],
  (.seq (.reg false [
⟨some 2, none, .box ty_calendar_Zone (.t 0)⟩,
⟨some 4, none, .mv (.k (.d (.bool false)))⟩] [0, 4])
(.seq (.reg false [
⟨some 13, none, .load (some 2) (.t 2)⟩,
⟨some 14, none, .call false true (.k (.fn n_law01_zone [] [])) [.t 13]⟩,
⟨some 5, none, .alloc ty_turnroundref01_Zone [.z (.int .i64 0), .z (.list 0 [])]⟩,
⟨none, none, .store 2 (.t 5) (.t 14)⟩] [13, 14])
(.seq (.seq (.reg false [
⟨some 15, none, .call false true (.k (.fn n_law01_awake [] [])) []⟩,
⟨some 16, none, .un .not (.t 15)⟩,
⟨some 17, none, .mv (.t 16)⟩,
⟨some 18, (some (17, false)), .load (some 2) (.t 5)⟩,
⟨some 19, (some (17, false)), .call false true (.k (.fn n_ref01_ShortZone [] [])) [.t 18, .k (.d (.int .i64 6))]⟩,
⟨some 20, (some (17, false)), .un .not (.t 19)⟩,
⟨some 21, none, .pick (.t 17) (.k (.d (.bool true))) (.t 20)⟩] [15, 16, 17, 18, 19, 20])
(.cond (.t 21) (.seq (.reg false [
⟨some 22, none, .call false true (.k (.fn n_law01_awake [] [])) []⟩,
⟨some 4, none, .mv (.t 22)⟩] [22])
.ret)
 .skip))
(.seq (.reg false [
⟨some 23, none, .load (some 2) (.t 5)⟩,
⟨some 24, none, .call false true (.k (.fn n_ref01_CheckZone [] [])) [.t 23]⟩,
⟨some 6, none, .mv (.t 24)⟩] [23, 24])
(.seq (.seq (.reg false [
⟨some 25, none, .load (some 2) (.t 2)⟩,
⟨some 26, none, .call false true (.k (.fn n_calendar_CheckZone [] [])) [.t 25]⟩,
⟨some 27, none, .mv (.t 6)⟩,
⟨some 28, none, .bin .neq (.t 26) (.t 27)⟩] [25, 26, 27])
(.cond (.t 28) (.seq (.reg false [
⟨some 4, none, .mv (.k (.d (.bool false)))⟩] [])
.ret)
 .skip))
(.seq (.reg false [
⟨some 30, none, .load (some 2) (.t 2)⟩,
⟨some 31, none, .mv (.t 1)⟩,
⟨some 32, none, .call false true (.k (.fn n_calendar_Local [] [])) [.t 30, .t 31]⟩,
⟨some 29, none, .mv (.t 32)⟩,
⟨some 33, none, .extract (.t 29) 0⟩,
⟨some 34, none, .extract (.t 29) 1⟩,
⟨some 7, none, .mv (.t 33)⟩,
⟨some 8, none, .mv (.t 34)⟩] [29, 30, 31, 32, 33, 34])
(.seq (.reg false [
⟨some 36, none, .load (some 2) (.t 2)⟩,
⟨some 37, none, .mv (.t 1)⟩,
⟨some 38, none, .call false true (.k (.fn n_calendar_Universal [] [])) [.t 36, .t 37]⟩,
⟨some 35, none, .mv (.t 38)⟩,
⟨some 39, none, .extract (.t 35) 0⟩,
⟨some 40, none, .extract (.t 35) 1⟩,
⟨some 9, none, .mv (.t 39)⟩,
⟨some 10, none, .mv (.t 40)⟩] [2, 35, 36, 37, 38, 39, 40])
(.seq (.reg false [
⟨some 41, none, .mv (.t 6)⟩,
⟨some 42, none, .mv (.t 1)⟩,
⟨some 43, none, .call false true (.k (.fn n_ref01_CheckMoment [] [])) [.t 42]⟩,
⟨some 44, none, .mkList 1 2 [.t 41, .t 43]⟩,
⟨some 45, none, .call false true (.k (.fn n_law01_first [] [])) [.t 44]⟩,
⟨some 6, none, .mv (.t 45)⟩] [41, 42, 43, 44, 45])
(.seq (.seq (.reg false [
⟨some 46, none, .mv (.t 6)⟩,
⟨some 47, none, .bin .neq (.t 46) (.k (.d (.int .i64 0)))⟩] [46])
(.cond (.t 47) (.seq (.reg false [
⟨some 48, none, .mv (.t 7)⟩,
⟨some 49, none, .mv (.t 8)⟩,
⟨some 50, none, .mv (.t 6)⟩,
⟨some 51, none, .call false true (.k (.fn n_law01_number [] [])) [.t 48, .t 49, .t 50, .k (.d (.int .i64 0))]⟩,
⟨some 52, none, .mv (.t 51)⟩,
⟨some 53, (some (52, true)), .mv (.t 9)⟩,
⟨some 54, (some (52, true)), .mv (.t 10)⟩,
⟨some 55, (some (52, true)), .mv (.t 6)⟩,
⟨some 56, (some (52, true)), .call false true (.k (.fn n_law01_list [] [])) [.t 53, .t 54, .t 55, .k (.d (.list 0 []))]⟩,
⟨some 57, none, .pick (.t 52) (.t 56) (.k (.d (.bool false)))⟩,
⟨some 4, none, .mv (.t 57)⟩] [6, 7, 8, 9, 10, 48, 49, 50, 51, 52, 53, 54, 55, 56, 57])
.ret)
 .skip))
(.seq (.reg false [
⟨some 58, none, .load (some 2) (.t 5)⟩,
⟨some 59, none, .mv (.t 1)⟩,
⟨some 60, none, .call false true (.k (.fn n_ref01_Local [] [])) [.t 58, .t 59]⟩,
⟨some 11, none, .mv (.t 60)⟩] [58, 59, 60])
(.seq (.seq (.reg false [
⟨some 61, none, .mv (.t 11)⟩,
⟨some 62, none, .call false true (.k (.fn n_ref01_CheckMoment [] [])) [.t 61]⟩,
⟨some 63, none, .bin .neq (.t 62) (.k (.d (.int .i64 0)))⟩,
⟨some 64, none, .mv (.t 63)⟩,
⟨some 65, (some (64, true)), .mv (.t 7)⟩,
⟨some 66, (some (64, true)), .mv (.t 8)⟩,
⟨some 67, (some (64, true)), .call false true (.k (.fn n_law01_number [] [])) [.t 65, .t 66, .k (.d (.int .i64 30)), .k (.d (.int .i64 0))]⟩,
⟨some 68, (some (64, true)), .un .not (.t 67)⟩,
⟨some 69, none, .pick (.t 64) (.t 68) (.k (.d (.bool false)))⟩,
⟨some 70, none, .mv (.t 69)⟩,
⟨some 71, (some (70, false)), .mv (.t 11)⟩,
⟨some 72, (some (70, false)), .call false true (.k (.fn n_ref01_CheckMoment [] [])) [.t 71]⟩,
⟨some 73, (some (70, false)), .bin .eql (.t 72) (.k (.d (.int .i64 0)))⟩,
⟨some 74, (some (70, false)), .mv (.t 73)⟩,
⟨some 75, (some (74, true)), .mv (.t 7)⟩,
⟨some 76, (some (74, true)), .mv (.t 8)⟩,
⟨some 77, (some (74, true)), .mv (.t 11)⟩,
⟨some 78, (some (74, true)), .call false true (.k (.fn n_law01_number [] [])) [.t 75, .t 76, .k (.d (.int .i64 0)), .t 77]⟩,
⟨some 79, (some (74, true)), .un .not (.t 78)⟩,
⟨some 80, (some (70, false)), .pick (.t 74) (.t 79) (.k (.d (.bool false)))⟩,
⟨some 81, none, .pick (.t 70) (.k (.d (.bool true))) (.t 80)⟩] [7, 8, 11, 61, 62, 63, 64, 65, 66, 67, 68, 69, 70, 71, 72, 73, 74, 75, 76, 77, 78, 79, 80])
(.cond (.t 81) (.seq (.reg false [
⟨some 4, none, .mv (.k (.d (.bool false)))⟩] [])
.ret)
 .skip))
(.seq (.reg false [
⟨some 82, none, .load (some 2) (.t 5)⟩,
⟨some 83, none, .mv (.t 1)⟩,
⟨some 84, none, .call false true (.k (.fn n_ref01_Universal [] [])) [.t 82, .t 83]⟩,
⟨some 12, none, .mv (.t 84)⟩] [1, 5, 82, 83, 84])
(.seq (.seq (.reg false [
⟨some 85, none, .mv (.t 12)⟩,
⟨some 86, none, .len .slc (.t 85)⟩,
⟨some 87, none, .bin .eql (.t 86) (.k (.d (.int .i64 0)))⟩] [85, 86])
(.cond (.t 87) (.seq (.reg false [
⟨some 88, none, .mv (.t 9)⟩,
⟨some 89, none, .mv (.t 10)⟩,
⟨some 90, none, .call false true (.k (.fn n_law01_list [] [])) [.t 88, .t 89, .k (.d (.int .i64 7)), .k (.d (.list 0 []))]⟩,
⟨some 4, none, .mv (.t 90)⟩] [9, 10, 88, 89, 90])
.ret)
 .skip))
(.seq (.reg false [
⟨some 91, none, .mv (.t 9)⟩,
⟨some 92, none, .mv (.t 10)⟩,
⟨some 93, none, .mv (.t 12)⟩,
⟨some 94, none, .call false true (.k (.fn n_law01_list [] [])) [.t 91, .t 92, .k (.d (.int .i64 0)), .t 93]⟩,
⟨some 4, none, .mv (.t 94)⟩] [9, 10, 12, 91, 92, 93, 94])
.ret))))))))))))))⟩

/-- "turnround/turnroundlaw01.CalendarSummers" -/
def c_law01_CalendarSummers : CF := ⟨[.tmp 6],
  (.seq (.reg false [
⟨some 4, none, .box ty_2_int (.t 1)⟩,
⟨some 5, none, .box ty_2_int (.t 2)⟩,
⟨some 6, none, .mv (.k (.d (.bool false)))⟩] [1, 2, 6])
(.seq (.seq (.reg false [
⟨some 13, none, .call false true (.k (.fn n_law01_awake [] [])) []⟩,
⟨some 14, none, .un .not (.t 13)⟩] [13])
(.cond (.t 14) (.seq (.reg false [
⟨some 6, none, .mv (.k (.d (.bool false)))⟩] [])
.ret)
 .skip))
(.seq (.reg false [
⟨some 16, none, .mv (.t 0)⟩,
⟨some 17, none, .idxAddrA 2 1 (.t 4) (.k (.d (.int .i64 0)))⟩,
⟨some 18, none, .load none (.t 17)⟩,
⟨some 19, none, .idxAddrA 2 1 (.t 4) (.k (.d (.int .i64 1)))⟩,
⟨some 20, none, .load none (.t 19)⟩,
⟨some 21, none, .call false true (.k (.fn n_calendar_Summer [] [])) [.t 16, .t 18, .t 20]⟩,
⟨some 15, none, .mv (.t 21)⟩,
⟨some 22, none, .extract (.t 15) 0⟩,
⟨some 23, none, .extract (.t 15) 1⟩,
⟨some 7, none, .alloc ty_calendar_Zone [.z (.int .i64 0), .z (.list 0 [])]⟩,
⟨none, none, .store 2 (.t 7) (.t 22)⟩,
⟨some 8, none, .mv (.t 23)⟩] [15, 16, 17, 18, 19, 20, 21, 22, 23])
(.seq (.reg false [
⟨some 24, none, .mv (.t 0)⟩,
⟨some 25, none, .idxAddrA 2 1 (.t 4) (.k (.d (.int .i64 0)))⟩,
⟨some 26, none, .load none (.t 25)⟩,
⟨some 27, none, .idxAddrA 2 1 (.t 4) (.k (.d (.int .i64 1)))⟩,
⟨some 28, none, .load none (.t 27)⟩,
⟨some 29, none, .call false true (.k (.fn n_ref01_CheckSummer [] [])) [.t 24, .t 26, .t 28]⟩,
⟨some 9, none, .mv (.t 29)⟩] [24, 25, 26, 27, 28, 29])
(.seq (.reg false [
⟨some 10, none, .alloc ty_turnroundref01_Zone [.z (.int .i64 0), .z (.list 0 [])]⟩] [])
(.seq (.seq (.reg false [
⟨some 30, none, .mv (.t 9)⟩,
⟨some 31, none, .bin .eql (.t 30) (.k (.d (.int .i64 0)))⟩] [30])
(.cond (.t 31) (.reg false [
⟨some 32, none, .mv (.t 0)⟩,
⟨some 33, none, .idxAddrA 2 1 (.t 4) (.k (.d (.int .i64 0)))⟩,
⟨some 34, none, .load none (.t 33)⟩,
⟨some 35, none, .idxAddrA 2 1 (.t 4) (.k (.d (.int .i64 1)))⟩,
⟨some 36, none, .load none (.t 35)⟩,
⟨some 37, none, .call false true (.k (.fn n_ref01_Summer [] [])) [.t 32, .t 34, .t 36]⟩,
⟨none, none, .store 2 (.t 10) (.t 37)⟩] [0, 4, 32, 33, 34, 35, 36, 37])
 .skip))
(.seq (.seq (.reg true [
⟨some 38, none, .load (some 2) (.t 7)⟩,
⟨some 39, none, .call false true (.k (.fn n_law01_zone [] [])) [.t 38]⟩,
⟨some 40, none, .load (some 2) (.t 10)⟩,
⟨some 41, none, .call false true (.k (.fn n_ref01_SameZone [] [])) [.t 39, .t 40]⟩,
⟨some 42, none, .un .not (.t 41)⟩,
⟨some 43, none, .mv (.t 42)⟩,
⟨some 44, (some (43, false)), .mv (.t 8)⟩,
⟨some 45, (some (43, false)), .mv (.t 9)⟩,
⟨some 46, (some (43, false)), .bin .neq (.t 44) (.t 45)⟩,
⟨some 47, none, .pick (.t 43) (.k (.d (.bool true))) (.t 46)⟩] [7, 8, 9, 10, 38, 39, 40, 41, 42, 43, 44, 45, 46])
(.cond (.t 47) (.seq (.reg false [
⟨some 6, none, .mv (.k (.d (.bool false)))⟩] [])
.ret)
 .skip))
(.seq (.reg false [
⟨some 49, none, .idxAddrA 2 1 (.t 5) (.k (.d (.int .i64 0)))⟩,
⟨some 50, none, .load none (.t 49)⟩,
⟨some 51, none, .idxAddrA 2 1 (.t 5) (.k (.d (.int .i64 1)))⟩,
⟨some 52, none, .load none (.t 51)⟩,
⟨some 53, none, .call false true (.k (.fn n_calendar_Draw [] [])) [.t 50, .t 52]⟩,
⟨some 48, none, .mv (.t 53)⟩,
⟨some 54, none, .extract (.t 48) 0⟩,
⟨some 55, none, .extract (.t 48) 1⟩,
⟨some 11, none, .mv (.t 54)⟩,
⟨some 12, none, .mv (.t 55)⟩] [48, 49, 50, 51, 52, 53, 54, 55])
(.seq (.reg false [
⟨some 56, none, .idxAddrA 2 1 (.t 5) (.k (.d (.int .i64 0)))⟩,
⟨some 57, none, .load none (.t 56)⟩,
⟨some 58, none, .idxAddrA 2 1 (.t 5) (.k (.d (.int .i64 1)))⟩,
⟨some 59, none, .load none (.t 58)⟩,
⟨some 60, none, .call false true (.k (.fn n_ref01_CheckDraw [] [])) [.t 57, .t 59]⟩,
⟨some 9, none, .mv (.t 60)⟩] [56, 57, 58, 59, 60])
(.seq (.seq (.reg false [
⟨some 61, none, .mv (.t 9)⟩,
⟨some 62, none, .bin .neq (.t 61) (.k (.d (.int .i64 0)))⟩] [61])
(.cond (.t 62) (.seq (.reg false [
⟨some 63, none, .mv (.t 11)⟩,
⟨some 64, none, .mv (.t 12)⟩,
⟨some 65, none, .mv (.t 9)⟩,
⟨some 66, none, .call false true (.k (.fn n_law01_list [] [])) [.t 63, .t 64, .t 65, .k (.d (.list 0 []))]⟩,
⟨some 6, none, .mv (.t 66)⟩] [9, 11, 12, 63, 64, 65, 66])
.ret)
 .skip))
(.seq (.reg false [
⟨some 67, none, .mv (.t 11)⟩,
⟨some 68, none, .mv (.t 12)⟩,
⟨some 69, none, .idxAddrA 2 1 (.t 5) (.k (.d (.int .i64 0)))⟩,
⟨some 70, none, .load none (.t 69)⟩,
⟨some 71, none, .idxAddrA 2 1 (.t 5) (.k (.d (.int .i64 1)))⟩,
⟨some 72, none, .load none (.t 71)⟩,
⟨some 73, none, .call false true (.k (.fn n_ref01_Draw [] [])) [.t 70, .t 72]⟩,
⟨some 74, none, .call false true (.k (.fn n_law01_list [] [])) [.t 67, .t 68, .k (.d (.int .i64 0)), .t 73]⟩,
⟨some 6, none, .mv (.t 74)⟩] [5, 11, 12, 67, 68, 69, 70, 71, 72, 73, 74])
.ret)))))))))))⟩

/-- "turnround/turnroundlaw01.CalendarDates" -/
def c_law01_CalendarDates : CF := ⟨[.tmp 4],
  (.seq (.reg false [
⟨some 2, none, .box ty_3_int (.t 0)⟩,
⟨some 4, none, .mv (.k (.d (.bool false)))⟩] [0, 4])
(.seq (.seq (.reg false [
⟨some 14, none, .call false true (.k (.fn n_law01_awake [] [])) []⟩,
⟨some 15, none, .un .not (.t 14)⟩] [14])
(.cond (.t 15) (.seq (.reg false [
⟨some 4, none, .mv (.k (.d (.bool false)))⟩] [])
.ret)
 .skip))
(.seq (.reg false [
⟨some 17, none, .idxAddrA 3 1 (.t 2) (.k (.d (.int .i64 0)))⟩,
⟨some 18, none, .load none (.t 17)⟩,
⟨some 19, none, .idxAddrA 3 1 (.t 2) (.k (.d (.int .i64 1)))⟩,
⟨some 20, none, .load none (.t 19)⟩,
⟨some 21, none, .idxAddrA 3 1 (.t 2) (.k (.d (.int .i64 2)))⟩,
⟨some 22, none, .load none (.t 21)⟩,
⟨some 23, none, .call false true (.k (.fn n_calendar_Day [] [])) [.t 18, .t 20, .t 22]⟩,
⟨some 16, none, .mv (.t 23)⟩,
⟨some 24, none, .extract (.t 16) 0⟩,
⟨some 25, none, .extract (.t 16) 1⟩,
⟨some 5, none, .mv (.t 24)⟩,
⟨some 6, none, .mv (.t 25)⟩] [16, 17, 18, 19, 20, 21, 22, 23, 24, 25])
(.seq (.reg false [
⟨some 26, none, .idxAddrA 3 1 (.t 2) (.k (.d (.int .i64 0)))⟩,
⟨some 27, none, .load none (.t 26)⟩,
⟨some 28, none, .idxAddrA 3 1 (.t 2) (.k (.d (.int .i64 1)))⟩,
⟨some 29, none, .load none (.t 28)⟩,
⟨some 30, none, .idxAddrA 3 1 (.t 2) (.k (.d (.int .i64 2)))⟩,
⟨some 31, none, .load none (.t 30)⟩,
⟨some 32, none, .call false true (.k (.fn n_ref01_CheckDate [] [])) [.t 27, .t 29, .t 31]⟩,
⟨some 7, none, .mv (.t 32)⟩] [26, 27, 28, 29, 30, 31, 32])
(.seq (.seq (.reg false [
⟨some 33, none, .mv (.t 7)⟩,
⟨some 34, none, .bin .neq (.t 33) (.k (.d (.int .i64 0)))⟩,
⟨some 35, none, .mv (.t 34)⟩,
⟨some 36, (some (35, true)), .mv (.t 5)⟩,
⟨some 37, (some (35, true)), .mv (.t 6)⟩,
⟨some 38, (some (35, true)), .mv (.t 7)⟩,
⟨some 39, (some (35, true)), .call false true (.k (.fn n_law01_number [] [])) [.t 36, .t 37, .t 38, .k (.d (.int .i64 0))]⟩,
⟨some 40, (some (35, true)), .un .not (.t 39)⟩,
⟨some 41, none, .pick (.t 35) (.t 40) (.k (.d (.bool false)))⟩,
⟨some 42, none, .mv (.t 41)⟩,
⟨some 43, (some (42, false)), .mv (.t 7)⟩,
⟨some 44, (some (42, false)), .bin .eql (.t 43) (.k (.d (.int .i64 0)))⟩,
⟨some 45, (some (42, false)), .mv (.t 44)⟩,
⟨some 46, (some (45, true)), .mv (.t 5)⟩,
⟨some 47, (some (45, true)), .mv (.t 6)⟩,
⟨some 48, (some (45, true)), .idxAddrA 3 1 (.t 2) (.k (.d (.int .i64 0)))⟩,
⟨some 49, (some (45, true)), .load none (.t 48)⟩,
⟨some 50, (some (45, true)), .idxAddrA 3 1 (.t 2) (.k (.d (.int .i64 1)))⟩,
⟨some 51, (some (45, true)), .load none (.t 50)⟩,
⟨some 52, (some (45, true)), .idxAddrA 3 1 (.t 2) (.k (.d (.int .i64 2)))⟩,
⟨some 53, (some (45, true)), .load none (.t 52)⟩,
⟨some 54, (some (45, true)), .call false true (.k (.fn n_ref01_Day [] [])) [.t 49, .t 51, .t 53]⟩,
⟨some 55, (some (45, true)), .call false true (.k (.fn n_law01_number [] [])) [.t 46, .t 47, .k (.d (.int .i64 0)), .t 54]⟩,
⟨some 56, (some (45, true)), .un .not (.t 55)⟩,
⟨some 57, (some (42, false)), .pick (.t 45) (.t 56) (.k (.d (.bool false)))⟩,
⟨some 58, none, .pick (.t 42) (.k (.d (.bool true))) (.t 57)⟩] [2, 5, 6, 7, 33, 34, 35, 36, 37, 38, 39, 40, 41, 42, 43, 44, 45, 46, 47, 48, 49, 50, 51, 52, 53, 54, 55, 56, 57])
(.cond (.t 58) (.seq (.reg false [
⟨some 4, none, .mv (.k (.d (.bool false)))⟩] [])
.ret)
 .skip))
(.seq (.reg false [
⟨some 60, none, .mv (.t 1)⟩,
⟨some 61, none, .call false true (.k (.fn n_calendar_Date [] [])) [.t 60]⟩,
⟨some 59, none, .mv (.t 61)⟩,
⟨some 62, none, .extract (.t 59) 0⟩,
⟨some 63, none, .extract (.t 59) 1⟩,
⟨some 8, none, .alloc ty_3_int [.z (.int .i64 0), .z (.int .i64 0), .z (.int .i64 0)]⟩,
⟨none, none, .store 3 (.t 8) (.t 62)⟩,
⟨some 9, none, .mv (.t 63)⟩] [59, 60, 61, 62, 63])
(.seq (.reg false [
⟨some 65, none, .mv (.t 1)⟩,
⟨some 66, none, .call false true (.k (.fn n_calendar_Weekday [] [])) [.t 65]⟩,
⟨some 64, none, .mv (.t 66)⟩,
⟨some 67, none, .extract (.t 64) 0⟩,
⟨some 68, none, .extract (.t 64) 1⟩,
⟨some 10, none, .mv (.t 67)⟩,
⟨some 11, none, .mv (.t 68)⟩] [64, 65, 66, 67, 68])
(.seq (.reg false [
⟨some 70, none, .mv (.t 1)⟩,
⟨some 71, none, .call false true (.k (.fn n_calendar_PrintDate [] [])) [.t 70]⟩,
⟨some 69, none, .mv (.t 71)⟩,
⟨some 72, none, .extract (.t 69) 0⟩,
⟨some 73, none, .extract (.t 69) 1⟩,
⟨some 12, none, .mv (.t 72)⟩,
⟨some 13, none, .mv (.t 73)⟩] [69, 70, 71, 72, 73])
(.seq (.reg false [
⟨some 74, none, .mv (.t 1)⟩,
⟨some 75, none, .call false true (.k (.fn n_ref01_CheckDay [] [])) [.t 74]⟩,
⟨some 7, none, .mv (.t 75)⟩] [74, 75])
(.seq (.seq (.reg false [
⟨some 76, none, .mv (.t 7)⟩,
⟨some 77, none, .bin .neq (.t 76) (.k (.d (.int .i64 0)))⟩] [76])
(.cond (.t 77) (.seq (.reg false [
⟨some 78, none, .load (some 3) (.t 8)⟩,
⟨some 79, none, .build [.z (.int .i64 0), .z (.int .i64 0), .z (.int .i64 0)] []⟩,
⟨some 80, none, .eqv (some [.int, .int, .int]) false (.t 78) (.t 79)⟩,
⟨some 81, none, .mv (.t 80)⟩,
⟨some 82, (some (81, true)), .mv (.t 9)⟩,
⟨some 83, (some (81, true)), .mv (.t 7)⟩,
⟨some 84, (some (81, true)), .bin .eql (.t 82) (.t 83)⟩,
⟨some 85, none, .pick (.t 81) (.t 84) (.k (.d (.bool false)))⟩,
⟨some 86, none, .mv (.t 85)⟩,
⟨some 87, (some (86, true)), .mv (.t 10)⟩,
⟨some 88, (some (86, true)), .mv (.t 11)⟩,
⟨some 89, (some (86, true)), .mv (.t 7)⟩,
⟨some 90, (some (86, true)), .call false true (.k (.fn n_law01_number [] [])) [.t 87, .t 88, .t 89, .k (.d (.int .i64 0))]⟩,
⟨some 91, none, .pick (.t 86) (.t 90) (.k (.d (.bool false)))⟩,
⟨some 92, none, .mv (.t 91)⟩,
⟨some 93, (some (92, true)), .mv (.t 12)⟩,
⟨some 94, (some (92, true)), .mv (.t 13)⟩,
⟨some 95, (some (92, true)), .mv (.t 7)⟩,
⟨some 96, (some (92, true)), .call false true (.k (.fn n_law01_text [] [])) [.t 93, .t 94, .t 95, .k (.d (.str []))]⟩,
⟨some 97, none, .pick (.t 92) (.t 96) (.k (.d (.bool false)))⟩,
⟨some 4, none, .mv (.t 97)⟩] [7, 8, 9, 10, 11, 12, 13, 78, 79, 80, 81, 82, 83, 84, 85, 86, 87, 88, 89, 90, 91, 92, 93, 94, 95, 96, 97])
.ret)
 .skip))
(.seq (.reg true [
⟨some 98, none, .mv (.t 9)⟩,
⟨some 99, none, .bin .eql (.t 98) (.k (.d (.int .i64 0)))⟩,
⟨some 100, none, .mv (.t 99)⟩,
⟨some 101, (some (100, true)), .load (some 3) (.t 8)⟩,
⟨some 102, (some (100, true)), .mv (.t 1)⟩,
⟨some 103, (some (100, true)), .call false true (.k (.fn n_ref01_Date [] [])) [.t 102]⟩,
⟨some 104, (some (100, true)), .eqv (some [.int, .int, .int]) false (.t 101) (.t 103)⟩,
⟨some 105, none, .pick (.t 100) (.t 104) (.k (.d (.bool false)))⟩,
⟨some 106, none, .mv (.t 105)⟩,
⟨some 107, (some (106, true)), .mv (.t 10)⟩,
⟨some 108, (some (106, true)), .mv (.t 11)⟩,
⟨some 109, (some (106, true)), .mv (.t 1)⟩,
⟨some 110, (some (106, true)), .call false true (.k (.fn n_ref01_Weekday [] [])) [.t 109]⟩,
⟨some 111, (some (106, true)), .call false true (.k (.fn n_law01_number [] [])) [.t 107, .t 108, .k (.d (.int .i64 0)), .t 110]⟩,
⟨some 112, none, .pick (.t 106) (.t 111) (.k (.d (.bool false)))⟩,
⟨some 113, none, .mv (.t 112)⟩,
⟨some 114, (some (113, true)), .mv (.t 12)⟩,
⟨some 115, (some (113, true)), .mv (.t 13)⟩,
⟨some 116, (some (113, true)), .mv (.t 1)⟩,
⟨some 117, (some (113, true)), .call false true (.k (.fn n_ref01_PrintDate [] [])) [.t 116]⟩,
⟨some 118, (some (113, true)), .call false true (.k (.fn n_law01_text [] [])) [.t 114, .t 115, .k (.d (.int .i64 0)), .t 117]⟩,
⟨some 119, none, .pick (.t 113) (.t 118) (.k (.d (.bool false)))⟩,
⟨some 4, none, .mv (.t 119)⟩] [1, 8, 9, 10, 11, 12, 13, 98, 99, 100, 101, 102, 103, 104, 105, 106, 107, 108, 109, 110, 111, 112, 113, 114, 115, 116, 117, 118, 119])
.ret)))))))))))⟩

/-- "turnround/turnroundlaw01.CalendarPeriods" -/
def c_law01_CalendarPeriods : CF := ⟨[.tmp 6],
  (.seq (.reg false [
⟨some 3, none, .box ty_api_Period (.t 0)⟩,
⟨some 4, none, .box ty_api_Period (.t 1)⟩,
⟨some 6, none, .mv (.k (.d (.bool false)))⟩] [0, 1, 6])
(.seq (.seq (.reg false [
⟨some 18, none, .call false true (.k (.fn n_law01_awake [] [])) []⟩,
⟨some 19, none, .un .not (.t 18)⟩] [18])
(.cond (.t 19) (.seq (.reg false [
⟨some 6, none, .mv (.k (.d (.bool false)))⟩] [])
.ret)
 .skip))
(.seq (.reg false [
⟨some 20, none, .load (some 3) (.t 3)⟩,
⟨some 21, none, .call false true (.k (.fn n_ref01_CheckPeriod [] [])) [.t 20]⟩,
⟨some 7, none, .mv (.t 21)⟩] [20, 21])
(.seq (.seq (.reg false [
⟨some 22, none, .load (some 3) (.t 3)⟩,
⟨some 23, none, .call false true (.k (.fn n_calendar_CheckPeriod [] [])) [.t 22]⟩,
⟨some 24, none, .mv (.t 7)⟩,
⟨some 25, none, .bin .neq (.t 23) (.t 24)⟩] [22, 23, 24])
(.cond (.t 25) (.seq (.reg false [
⟨some 6, none, .mv (.k (.d (.bool false)))⟩] [])
.ret)
 .skip))
(.seq (.reg false [
⟨some 27, none, .load (some 3) (.t 3)⟩,
⟨some 28, none, .mv (.t 2)⟩,
⟨some 29, none, .call false true (.k (.fn n_calendar_Has [] [])) [.t 27, .t 28]⟩,
⟨some 26, none, .mv (.t 29)⟩,
⟨some 30, none, .extract (.t 26) 0⟩,
⟨some 31, none, .extract (.t 26) 1⟩,
⟨some 8, none, .mv (.t 30)⟩,
⟨some 9, none, .mv (.t 31)⟩] [26, 27, 28, 29, 30, 31])
(.seq (.reg false [
⟨some 33, none, .load (some 3) (.t 3)⟩,
⟨some 34, none, .call false true (.k (.fn n_calendar_DaysOf [] [])) [.t 33]⟩,
⟨some 32, none, .mv (.t 34)⟩,
⟨some 35, none, .extract (.t 32) 0⟩,
⟨some 36, none, .extract (.t 32) 1⟩,
⟨some 10, none, .mv (.t 35)⟩,
⟨some 11, none, .mv (.t 36)⟩] [32, 33, 34, 35, 36])
(.seq (.reg false [
⟨some 38, none, .load (some 3) (.t 3)⟩,
⟨some 39, none, .call false true (.k (.fn n_calendar_Count [] [])) [.t 38]⟩,
⟨some 37, none, .mv (.t 39)⟩,
⟨some 40, none, .extract (.t 37) 0⟩,
⟨some 41, none, .extract (.t 37) 1⟩,
⟨some 12, none, .mv (.t 40)⟩,
⟨some 13, none, .mv (.t 41)⟩] [37, 38, 39, 40, 41])
(.seq (.reg false [
⟨some 43, none, .load (some 3) (.t 3)⟩,
⟨some 44, none, .load (some 3) (.t 4)⟩,
⟨some 45, none, .call false true (.k (.fn n_calendar_Meet [] [])) [.t 43, .t 44]⟩,
⟨some 42, none, .mv (.t 45)⟩,
⟨some 46, none, .extract (.t 42) 0⟩,
⟨some 47, none, .extract (.t 42) 1⟩,
⟨some 14, none, .mv (.t 46)⟩,
⟨some 15, none, .mv (.t 47)⟩] [42, 43, 44, 45, 46, 47])
(.seq (.seq (.reg false [
⟨some 48, none, .mv (.t 7)⟩,
⟨some 49, none, .bin .neq (.t 48) (.k (.d (.int .i64 0)))⟩] [48])
(.cond (.t 49) (.seq (.reg false [
⟨some 50, none, .mv (.t 8)⟩,
⟨some 51, none, .un .not (.t 50)⟩,
⟨some 52, none, .mv (.t 51)⟩,
⟨some 53, (some (52, true)), .mv (.t 9)⟩,
⟨some 54, (some (52, true)), .mv (.t 7)⟩,
⟨some 55, (some (52, true)), .bin .eql (.t 53) (.t 54)⟩,
⟨some 56, none, .pick (.t 52) (.t 55) (.k (.d (.bool false)))⟩,
⟨some 57, none, .mv (.t 56)⟩,
⟨some 58, (some (57, true)), .mv (.t 10)⟩,
⟨some 59, (some (57, true)), .mv (.t 11)⟩,
⟨some 60, (some (57, true)), .mv (.t 7)⟩,
⟨some 61, (some (57, true)), .call false true (.k (.fn n_law01_list [] [])) [.t 58, .t 59, .t 60, .k (.d (.list 0 []))]⟩,
⟨some 62, none, .pick (.t 57) (.t 61) (.k (.d (.bool false)))⟩,
⟨some 63, none, .mv (.t 62)⟩,
⟨some 64, (some (63, true)), .mv (.t 12)⟩,
⟨some 65, (some (63, true)), .mv (.t 13)⟩,
⟨some 66, (some (63, true)), .mv (.t 7)⟩,
⟨some 67, (some (63, true)), .call false true (.k (.fn n_law01_number [] [])) [.t 64, .t 65, .t 66, .k (.d (.int .i64 0))]⟩,
⟨some 68, none, .pick (.t 63) (.t 67) (.k (.d (.bool false)))⟩,
⟨some 69, none, .mv (.t 68)⟩,
⟨some 70, (some (69, true)), .mv (.t 14)⟩,
⟨some 71, (some (69, true)), .mv (.t 15)⟩,
⟨some 72, (some (69, true)), .mv (.t 7)⟩,
⟨some 73, (some (69, true)), .call false true (.k (.fn n_law01_list [] [])) [.t 70, .t 71, .t 72, .k (.d (.list 0 []))]⟩,
⟨some 74, none, .pick (.t 69) (.t 73) (.k (.d (.bool false)))⟩,
⟨some 6, none, .mv (.t 74)⟩] [7, 8, 9, 10, 11, 12, 13, 14, 15, 50, 51, 52, 53, 54, 55, 56, 57, 58, 59, 60, 61, 62, 63, 64, 65, 66, 67, 68, 69, 70, 71, 72, 73, 74])
.ret)
 .skip))
(.seq (.reg false [
⟨some 75, none, .load (some 3) (.t 3)⟩,
⟨some 76, none, .call false true (.k (.fn n_ref01_DaysOf [] [])) [.t 75]⟩,
⟨some 16, none, .mv (.t 76)⟩] [75, 76])
(.seq (.seq (.reg false [
⟨some 77, none, .mv (.t 10)⟩,
⟨some 78, none, .mv (.t 11)⟩,
⟨some 79, none, .mv (.t 16)⟩,
⟨some 80, none, .call false true (.k (.fn n_law01_list [] [])) [.t 77, .t 78, .k (.d (.int .i64 0)), .t 79]⟩,
⟨some 81, none, .un .not (.t 80)⟩,
⟨some 82, none, .mv (.t 81)⟩,
⟨some 83, (some (82, false)), .mv (.t 12)⟩,
⟨some 84, (some (82, false)), .mv (.t 13)⟩,
⟨some 85, (some (82, false)), .mv (.t 16)⟩,
⟨some 86, (some (82, false)), .len .slc (.t 85)⟩,
⟨some 87, (some (82, false)), .call false true (.k (.fn n_law01_number [] [])) [.t 83, .t 84, .k (.d (.int .i64 0)), .t 86]⟩,
⟨some 88, (some (82, false)), .un .not (.t 87)⟩,
⟨some 89, none, .pick (.t 82) (.k (.d (.bool true))) (.t 88)⟩] [10, 11, 12, 13, 16, 77, 78, 79, 80, 81, 82, 83, 84, 85, 86, 87, 88])
(.cond (.t 89) (.seq (.reg false [
⟨some 6, none, .mv (.k (.d (.bool false)))⟩] [])
.ret)
 .skip))
(.seq (.reg false [
⟨some 90, none, .mv (.t 2)⟩,
⟨some 91, none, .call false true (.k (.fn n_ref01_CheckDay [] [])) [.t 90]⟩,
⟨some 17, none, .mv (.t 91)⟩] [90, 91])
(.seq (.seq (.reg false [
⟨some 92, none, .mv (.t 17)⟩,
⟨some 93, none, .bin .neq (.t 92) (.k (.d (.int .i64 0)))⟩,
⟨some 94, none, .mv (.t 93)⟩,
⟨some 95, (some (94, true)), .mv (.t 8)⟩,
⟨some 96, (some (94, true)), .mv (.t 95)⟩,
⟨some 97, (some (96, false)), .mv (.t 9)⟩,
⟨some 98, (some (96, false)), .mv (.t 17)⟩,
⟨some 99, (some (96, false)), .bin .neq (.t 97) (.t 98)⟩,
⟨some 100, (some (94, true)), .pick (.t 96) (.k (.d (.bool true))) (.t 99)⟩,
⟨some 101, none, .pick (.t 94) (.t 100) (.k (.d (.bool false)))⟩,
⟨some 102, none, .mv (.t 101)⟩,
⟨some 103, (some (102, false)), .mv (.t 17)⟩,
⟨some 104, (some (102, false)), .bin .eql (.t 103) (.k (.d (.int .i64 0)))⟩,
⟨some 105, (some (102, false)), .mv (.t 104)⟩,
⟨some 106, (some (105, true)), .mv (.t 9)⟩,
⟨some 107, (some (105, true)), .bin .neq (.t 106) (.k (.d (.int .i64 0)))⟩,
⟨some 108, (some (105, true)), .mv (.t 107)⟩,
⟨some 109, (some (108, false)), .mv (.t 8)⟩,
⟨some 110, (some (108, false)), .load (some 3) (.t 3)⟩,
⟨some 111, (some (108, false)), .mv (.t 2)⟩,
⟨some 112, (some (108, false)), .call false true (.k (.fn n_ref01_Has [] [])) [.t 110, .t 111]⟩,
⟨some 113, (some (108, false)), .eqv none true (.t 109) (.t 112)⟩,
⟨some 114, (some (105, true)), .pick (.t 108) (.k (.d (.bool true))) (.t 113)⟩,
⟨some 115, (some (102, false)), .pick (.t 105) (.t 114) (.k (.d (.bool false)))⟩,
⟨some 116, none, .pick (.t 102) (.k (.d (.bool true))) (.t 115)⟩] [2, 8, 9, 17, 92, 93, 94, 95, 96, 97, 98, 99, 100, 101, 102, 103, 104, 105, 106, 107, 108, 109, 110, 111, 112, 113, 114, 115])
(.cond (.t 116) (.seq (.reg false [
⟨some 6, none, .mv (.k (.d (.bool false)))⟩] [])
.ret)
 .skip))
(.seq (.reg false [
⟨some 117, none, .load (some 3) (.t 4)⟩,
⟨some 118, none, .call false true (.k (.fn n_ref01_CheckPeriod [] [])) [.t 117]⟩,
⟨some 7, none, .mv (.t 118)⟩] [117, 118])
(.seq (.seq (.reg false [
⟨some 119, none, .mv (.t 7)⟩,
⟨some 120, none, .bin .neq (.t 119) (.k (.d (.int .i64 0)))⟩] [119])
(.cond (.t 120) (.seq (.reg false [
⟨some 121, none, .mv (.t 14)⟩,
⟨some 122, none, .mv (.t 15)⟩,
⟨some 123, none, .mv (.t 7)⟩,
⟨some 124, none, .call false true (.k (.fn n_law01_list [] [])) [.t 121, .t 122, .t 123, .k (.d (.list 0 []))]⟩,
⟨some 6, none, .mv (.t 124)⟩] [7, 14, 15, 121, 122, 123, 124])
.ret)
 .skip))
(.seq (.reg false [
⟨some 125, none, .mv (.t 14)⟩,
⟨some 126, none, .mv (.t 15)⟩,
⟨some 127, none, .load (some 3) (.t 3)⟩,
⟨some 128, none, .load (some 3) (.t 4)⟩,
⟨some 129, none, .call false true (.k (.fn n_ref01_Meet [] [])) [.t 127, .t 128]⟩,
⟨some 130, none, .call false true (.k (.fn n_law01_list [] [])) [.t 125, .t 126, .k (.d (.int .i64 0)), .t 129]⟩,
⟨some 6, none, .mv (.t 130)⟩] [3, 4, 14, 15, 125, 126, 127, 128, 129, 130])
.ret))))))))))))))))⟩

/-- "turnround/turnroundlaw01.CalendarSeasons" -/
def c_law01_CalendarSeasons : CF := ⟨[.tmp 4],
  (.seq (.reg false [
⟨some 2, none, .box ty_calendar_Season (.t 0)⟩,
⟨some 4, none, .mv (.k (.d (.bool false)))⟩] [0, 4])
(.seq (.seq (.reg false [
⟨some 27, none, .call false true (.k (.fn n_law01_awake [] [])) []⟩,
⟨some 28, none, .un .not (.t 27)⟩] [27])
(.cond (.t 28) (.seq (.reg false [
⟨some 4, none, .mv (.k (.d (.bool false)))⟩] [])
.ret)
 .skip))
(.seq (.reg false [
⟨some 29, none, .load (some 2) (.t 2)⟩,
⟨some 5, none, .alloc ty_turnroundref01_Season [.z (.int .i64 0), .z (.str [])]⟩,
⟨none, none, .store 2 (.t 5) (.t 29)⟩] [29])
(.seq (.reg false [
⟨some 30, none, .load (some 2) (.t 5)⟩,
⟨some 31, none, .call false true (.k (.fn n_ref01_CheckSeason [] [])) [.t 30]⟩,
⟨some 6, none, .mv (.t 31)⟩] [30, 31])
(.seq (.seq (.reg false [
⟨some 32, none, .load (some 2) (.t 2)⟩,
⟨some 33, none, .call false true (.k (.fn n_calendar_CheckSeason [] [])) [.t 32]⟩,
⟨some 34, none, .mv (.t 6)⟩,
⟨some 35, none, .bin .neq (.t 33) (.t 34)⟩] [32, 33, 34])
(.cond (.t 35) (.seq (.reg false [
⟨some 4, none, .mv (.k (.d (.bool false)))⟩] [])
.ret)
 .skip))
(.seq (.reg false [
⟨some 37, none, .load (some 2) (.t 2)⟩,
⟨some 38, none, .call false true (.k (.fn n_calendar_Span [] [])) [.t 37]⟩,
⟨some 36, none, .mv (.t 38)⟩,
⟨some 39, none, .extract (.t 36) 0⟩,
⟨some 40, none, .extract (.t 36) 1⟩,
⟨some 7, none, .alloc ty_api_Period [.z (.int .i64 0), .z (.int .i64 0), .z (.int .i64 0)]⟩,
⟨none, none, .store 3 (.t 7) (.t 39)⟩,
⟨some 8, none, .mv (.t 40)⟩] [36, 37, 38, 39, 40])
(.seq (.reg false [
⟨some 42, none, .load (some 2) (.t 2)⟩,
⟨some 43, none, .call false true (.k (.fn n_calendar_Next [] [])) [.t 42]⟩,
⟨some 41, none, .mv (.t 43)⟩,
⟨some 44, none, .extract (.t 41) 0⟩,
⟨some 45, none, .extract (.t 41) 1⟩,
⟨some 9, none, .alloc ty_calendar_Season [.z (.int .i64 0), .z (.str [])]⟩,
⟨none, none, .store 2 (.t 9) (.t 44)⟩,
⟨some 10, none, .mv (.t 45)⟩] [41, 42, 43, 44, 45])
(.seq (.reg false [
⟨some 47, none, .load (some 2) (.t 2)⟩,
⟨some 48, none, .call false true (.k (.fn n_calendar_Previous [] [])) [.t 47]⟩,
⟨some 46, none, .mv (.t 48)⟩,
⟨some 49, none, .extract (.t 46) 0⟩,
⟨some 50, none, .extract (.t 46) 1⟩,
⟨some 11, none, .alloc ty_calendar_Season [.z (.int .i64 0), .z (.str [])]⟩,
⟨none, none, .store 2 (.t 11) (.t 49)⟩,
⟨some 12, none, .mv (.t 50)⟩] [46, 47, 48, 49, 50])
(.seq (.reg false [
⟨some 52, none, .mv (.t 1)⟩,
⟨some 53, none, .call false true (.k (.fn n_calendar_SeasonOf [] [])) [.t 52]⟩,
⟨some 51, none, .mv (.t 53)⟩,
⟨some 54, none, .extract (.t 51) 0⟩,
⟨some 55, none, .extract (.t 51) 1⟩,
⟨some 13, none, .alloc ty_calendar_Season [.z (.int .i64 0), .z (.str [])]⟩,
⟨none, none, .store 2 (.t 13) (.t 54)⟩,
⟨some 14, none, .mv (.t 55)⟩] [51, 52, 53, 54, 55])
(.seq (.reg false [
⟨some 57, none, .mv (.t 1)⟩,
⟨some 58, none, .load (some 2) (.t 2)⟩,
⟨some 59, none, .call false true (.k (.fn n_calendar_Equivalent [] [])) [.t 57, .t 58]⟩,
⟨some 56, none, .mv (.t 59)⟩,
⟨some 60, none, .extract (.t 56) 0⟩,
⟨some 61, none, .extract (.t 56) 1⟩,
⟨some 15, none, .mv (.t 60)⟩,
⟨some 16, none, .mv (.t 61)⟩] [2, 56, 57, 58, 59, 60, 61])
(.seq (.reg false [
⟨some 17, none, .alloc ty_api_Period [.z (.int .i64 0), .z (.int .i64 0), .z (.int .i64 0)]⟩] [])
(.seq (.reg false [
⟨some 18, none, .alloc ty_turnroundref01_Season [.z (.int .i64 0), .z (.str [])]⟩,
⟨some 19, none, .alloc ty_turnroundref01_Season [.z (.int .i64 0), .z (.str [])]⟩] [])
(.seq (.reg false [
⟨some 62, none, .mv (.t 6)⟩,
⟨some 63, none, .mv (.t 6)⟩,
⟨some 20, none, .mv (.t 62)⟩,
⟨some 21, none, .mv (.t 63)⟩] [62, 63])
(.seq (.seq (.reg false [
⟨some 64, none, .mv (.t 6)⟩,
⟨some 65, none, .bin .eql (.t 64) (.k (.d (.int .i64 0)))⟩] [64])
(.cond (.t 65) (.seq (.reg false [
⟨some 66, none, .load (some 2) (.t 5)⟩,
⟨some 67, none, .call false true (.k (.fn n_ref01_Span [] [])) [.t 66]⟩,
⟨none, none, .store 3 (.t 17) (.t 67)⟩] [66, 67])
(.seq (.reg false [
⟨some 22, none, .mv (.k (.d (.bool false)))⟩] [22])
(.seq (.seq (.reg false [
⟨some 69, none, .load (some 2) (.t 5)⟩,
⟨some 70, none, .call false true (.k (.fn n_ref01_Next [] [])) [.t 69]⟩,
⟨some 68, none, .mv (.t 70)⟩,
⟨some 71, none, .extract (.t 68) 0⟩,
⟨some 72, none, .extract (.t 68) 1⟩,
⟨none, none, .store 2 (.t 18) (.t 71)⟩,
⟨some 22, none, .mv (.t 72)⟩] [68, 69, 70, 71, 72])
(.seq (.reg false [
⟨some 73, none, .mv (.t 22)⟩,
⟨some 74, none, .un .not (.t 73)⟩] [22, 73])
(.cond (.t 74) (.reg false [
⟨some 20, none, .mv (.k (.d (.int .i64 7)))⟩] [])
 .skip)))
(.seq (.reg false [
⟨some 76, none, .load (some 2) (.t 5)⟩,
⟨some 77, none, .call false true (.k (.fn n_ref01_Previous [] [])) [.t 76]⟩,
⟨some 75, none, .mv (.t 77)⟩,
⟨some 78, none, .extract (.t 75) 0⟩,
⟨some 79, none, .extract (.t 75) 1⟩,
⟨none, none, .store 2 (.t 19) (.t 78)⟩,
⟨some 22, none, .mv (.t 79)⟩] [75, 76, 77, 78, 79])
(.seq (.reg false [
⟨some 80, none, .mv (.t 22)⟩,
⟨some 81, none, .un .not (.t 80)⟩] [22, 80])
(.cond (.t 81) (.reg false [
⟨some 21, none, .mv (.k (.d (.int .i64 7)))⟩] [])
 .skip))))))
 .skip))
(.seq (.seq (.reg false [
⟨some 82, none, .load (some 3) (.t 7)⟩,
⟨some 83, none, .load (some 3) (.t 17)⟩,
⟨some 84, none, .eqv (some [.int, .int, .int]) true (.t 82) (.t 83)⟩,
⟨some 85, none, .mv (.t 84)⟩,
⟨some 86, (some (85, false)), .mv (.t 8)⟩,
⟨some 87, (some (85, false)), .mv (.t 6)⟩,
⟨some 88, (some (85, false)), .bin .neq (.t 86) (.t 87)⟩,
⟨some 89, none, .pick (.t 85) (.k (.d (.bool true))) (.t 88)⟩,
⟨some 90, none, .mv (.t 89)⟩,
⟨some 91, (some (90, false)), .load (some 2) (.t 9)⟩,
⟨some 92, (some (90, false)), .load (some 2) (.t 18)⟩,
⟨some 93, (some (90, false)), .eqv (some [.int, .str]) true (.t 91) (.t 92)⟩,
⟨some 94, none, .pick (.t 90) (.k (.d (.bool true))) (.t 93)⟩,
⟨some 95, none, .mv (.t 94)⟩,
⟨some 96, (some (95, false)), .mv (.t 10)⟩,
⟨some 97, (some (95, false)), .mv (.t 20)⟩,
⟨some 98, (some (95, false)), .bin .neq (.t 96) (.t 97)⟩,
⟨some 99, none, .pick (.t 95) (.k (.d (.bool true))) (.t 98)⟩,
⟨some 100, none, .mv (.t 99)⟩,
⟨some 101, (some (100, false)), .load (some 2) (.t 11)⟩,
⟨some 102, (some (100, false)), .load (some 2) (.t 19)⟩,
⟨some 103, (some (100, false)), .eqv (some [.int, .str]) true (.t 101) (.t 102)⟩,
⟨some 104, none, .pick (.t 100) (.k (.d (.bool true))) (.t 103)⟩,
⟨some 105, none, .mv (.t 104)⟩,
⟨some 106, (some (105, false)), .mv (.t 12)⟩,
⟨some 107, (some (105, false)), .mv (.t 21)⟩,
⟨some 108, (some (105, false)), .bin .neq (.t 106) (.t 107)⟩,
⟨some 109, none, .pick (.t 105) (.k (.d (.bool true))) (.t 108)⟩] [7, 8, 9, 10, 11, 12, 18, 19, 20, 21, 82, 83, 84, 85, 86, 87, 88, 89, 90, 91, 92, 93, 94, 95, 96, 97, 98, 99, 100, 101, 102, 103, 104, 105, 106, 107, 108])
(.cond (.t 109) (.seq (.reg false [
⟨some 4, none, .mv (.k (.d (.bool false)))⟩] [])
.ret)
 .skip))
(.seq (.reg false [
⟨some 110, none, .mv (.t 1)⟩,
⟨some 111, none, .call false true (.k (.fn n_ref01_CheckDay [] [])) [.t 110]⟩,
⟨some 23, none, .mv (.t 111)⟩] [110, 111])
(.seq (.reg false [
⟨some 24, none, .alloc ty_turnroundref01_Season [.z (.int .i64 0), .z (.str [])]⟩] [])
(.seq (.seq (.reg false [
⟨some 112, none, .mv (.t 23)⟩,
⟨some 113, none, .bin .eql (.t 112) (.k (.d (.int .i64 0)))⟩] [112])
(.cond (.t 113) (.seq (.reg false [
⟨some 25, none, .mv (.k (.d (.bool false)))⟩] [25])
(.seq (.reg false [
⟨some 115, none, .mv (.t 1)⟩,
⟨some 116, none, .call false true (.k (.fn n_ref01_SeasonOf [] [])) [.t 115]⟩,
⟨some 114, none, .mv (.t 116)⟩,
⟨some 117, none, .extract (.t 114) 0⟩,
⟨some 118, none, .extract (.t 114) 1⟩,
⟨none, none, .store 2 (.t 24) (.t 117)⟩,
⟨some 25, none, .mv (.t 118)⟩] [114, 115, 116, 117, 118])
(.seq (.reg false [
⟨some 119, none, .mv (.t 25)⟩,
⟨some 120, none, .un .not (.t 119)⟩] [25, 119])
(.cond (.t 120) (.reg false [
⟨some 23, none, .mv (.k (.d (.int .i64 30)))⟩] [])
 .skip))))
 .skip))
(.seq (.seq (.reg false [
⟨some 121, none, .load (some 2) (.t 13)⟩,
⟨some 122, none, .load (some 2) (.t 24)⟩,
⟨some 123, none, .eqv (some [.int, .str]) true (.t 121) (.t 122)⟩,
⟨some 124, none, .mv (.t 123)⟩,
⟨some 125, (some (124, false)), .mv (.t 14)⟩,
⟨some 126, (some (124, false)), .mv (.t 23)⟩,
⟨some 127, (some (124, false)), .bin .neq (.t 125) (.t 126)⟩,
⟨some 128, none, .pick (.t 124) (.k (.d (.bool true))) (.t 127)⟩] [13, 14, 121, 122, 123, 124, 125, 126, 127])
(.cond (.t 128) (.seq (.reg false [
⟨some 4, none, .mv (.k (.d (.bool false)))⟩] [])
.ret)
 .skip))
(.seq (.reg false [
⟨some 129, none, .mv (.t 23)⟩,
⟨some 130, none, .mv (.t 6)⟩,
⟨some 131, none, .mkList 1 2 [.t 129, .t 130]⟩,
⟨some 132, none, .call false true (.k (.fn n_law01_first [] [])) [.t 131]⟩,
⟨some 6, none, .mv (.t 132)⟩] [23, 129, 130, 131, 132])
(.seq (.seq (.reg false [
⟨some 133, none, .mv (.t 6)⟩,
⟨some 134, none, .bin .eql (.t 133) (.k (.d (.int .i64 0)))⟩,
⟨some 135, none, .mv (.t 134)⟩,
⟨some 136, (some (135, true)), .fieldAddr 1 (.t 24)⟩,
⟨some 137, (some (135, true)), .load none (.t 136)⟩,
⟨some 138, (some (135, true)), .fieldAddr 1 (.t 5)⟩,
⟨some 139, (some (135, true)), .load none (.t 138)⟩,
⟨some 140, (some (135, true)), .bin .neq (.t 137) (.t 139)⟩,
⟨some 141, none, .pick (.t 135) (.t 140) (.k (.d (.bool false)))⟩] [5, 133, 134, 135, 136, 137, 138, 139, 140])
(.cond (.t 141) (.reg false [
⟨some 6, none, .mv (.k (.d (.int .i64 13)))⟩] [])
 .skip))
(.seq (.seq (.reg false [
⟨some 142, none, .mv (.t 6)⟩,
⟨some 143, none, .bin .neq (.t 142) (.k (.d (.int .i64 0)))⟩] [142])
(.cond (.t 143) (.seq (.reg false [
⟨some 144, none, .mv (.t 15)⟩,
⟨some 145, none, .mv (.t 16)⟩,
⟨some 146, none, .mv (.t 6)⟩,
⟨some 147, none, .call false true (.k (.fn n_law01_number [] [])) [.t 144, .t 145, .t 146, .k (.d (.int .i64 0))]⟩,
⟨some 4, none, .mv (.t 147)⟩] [6, 15, 16, 144, 145, 146, 147])
.ret)
 .skip))
(.seq (.reg true [
⟨some 148, none, .mv (.t 1)⟩,
⟨some 149, none, .load (some 2) (.t 24)⟩,
⟨some 150, none, .call false true (.k (.fn n_ref01_Span [] [])) [.t 149]⟩,
⟨some 151, none, .field 0 none (.t 150)⟩,
⟨some 152, none, .bin .sub (.t 148) (.t 151)⟩,
⟨some 153, none, .fieldAddr 0 (.t 17)⟩,
⟨some 154, none, .load none (.t 153)⟩,
⟨some 155, none, .bin .add (.t 152) (.t 154)⟩,
⟨some 26, none, .mv (.t 155)⟩] [1, 24, 148, 149, 150, 151, 152, 153, 154, 155])
(.seq (.seq (.reg false [
⟨some 156, none, .mv (.t 26)⟩,
⟨some 157, none, .fieldAddr 1 (.t 17)⟩,
⟨some 158, none, .load none (.t 157)⟩,
⟨some 159, none, .bin .gtr (.t 156) (.t 158)⟩] [17, 156, 157, 158])
(.cond (.t 159) (.seq (.reg false [
⟨some 160, none, .mv (.t 15)⟩,
⟨some 161, none, .mv (.t 16)⟩,
⟨some 162, none, .call false true (.k (.fn n_law01_number [] [])) [.t 160, .t 161, .k (.d (.int .i64 7)), .k (.d (.int .i64 0))]⟩,
⟨some 4, none, .mv (.t 162)⟩] [15, 16, 160, 161, 162])
.ret)
 .skip))
(.seq (.reg false [
⟨some 163, none, .mv (.t 15)⟩,
⟨some 164, none, .mv (.t 16)⟩,
⟨some 165, none, .mv (.t 26)⟩,
⟨some 166, none, .call false true (.k (.fn n_law01_number [] [])) [.t 163, .t 164, .k (.d (.int .i64 0)), .t 165]⟩,
⟨some 4, none, .mv (.t 166)⟩] [15, 16, 26, 163, 164, 165, 166])
.ret)))))))))))))))))))))))))⟩

/-- "turnround/turnroundlaw01.CalendarTurns" -/
def c_law01_CalendarTurns : CF := ⟨[.tmp 2],
  (.seq (.reg false [
⟨some 2, none, .mv (.k (.d (.bool false)))⟩] [2])
(.seq (.seq (.reg false [
⟨some 19, none, .call false true (.k (.fn n_law01_awake [] [])) []⟩,
⟨some 20, none, .un .not (.t 19)⟩,
⟨some 21, none, .mv (.t 20)⟩,
⟨some 22, (some (21, false)), .mv (.t 0)⟩,
⟨some 23, (some (21, false)), .call false true (.k (.fn n_ref01_CheckDay [] [])) [.t 22]⟩,
⟨some 24, (some (21, false)), .bin .neq (.t 23) (.k (.d (.int .i64 0)))⟩,
⟨some 25, none, .pick (.t 21) (.k (.d (.bool true))) (.t 24)⟩] [19, 20, 21, 22, 23, 24])
(.cond (.t 25) (.seq (.reg false [
⟨some 26, none, .call false true (.k (.fn n_law01_awake [] [])) []⟩,
⟨some 2, none, .mv (.t 26)⟩] [26])
.ret)
 .skip))
(.seq (.reg false [
⟨some 28, none, .mv (.t 0)⟩,
⟨some 29, none, .call false true (.k (.fn n_calendar_Date [] [])) [.t 28]⟩,
⟨some 27, none, .mv (.t 29)⟩,
⟨some 30, none, .extract (.t 27) 0⟩,
⟨some 31, none, .extract (.t 27) 1⟩,
⟨some 3, none, .alloc ty_3_int [.z (.int .i64 0), .z (.int .i64 0), .z (.int .i64 0)]⟩,
⟨none, none, .store 3 (.t 3) (.t 30)⟩,
⟨some 4, none, .mv (.t 31)⟩] [27, 28, 29, 30, 31])
(.seq (.reg false [
⟨some 33, none, .idxAddrA 3 1 (.t 3) (.k (.d (.int .i64 0)))⟩,
⟨some 34, none, .load none (.t 33)⟩,
⟨some 35, none, .idxAddrA 3 1 (.t 3) (.k (.d (.int .i64 1)))⟩,
⟨some 36, none, .load none (.t 35)⟩,
⟨some 37, none, .idxAddrA 3 1 (.t 3) (.k (.d (.int .i64 2)))⟩,
⟨some 38, none, .load none (.t 37)⟩,
⟨some 39, none, .call false true (.k (.fn n_calendar_Day [] [])) [.t 34, .t 36, .t 38]⟩,
⟨some 32, none, .mv (.t 39)⟩,
⟨some 40, none, .extract (.t 32) 0⟩,
⟨some 41, none, .extract (.t 32) 1⟩,
⟨some 5, none, .mv (.t 40)⟩,
⟨some 6, none, .mv (.t 41)⟩] [32, 33, 34, 35, 36, 37, 38, 39, 40, 41])
(.seq (.reg false [
⟨some 43, none, .mv (.t 0)⟩,
⟨some 44, none, .call false true (.k (.fn n_calendar_PrintDate [] [])) [.t 43]⟩,
⟨some 42, none, .mv (.t 44)⟩,
⟨some 45, none, .extract (.t 42) 0⟩,
⟨some 46, none, .extract (.t 42) 1⟩,
⟨some 7, none, .mv (.t 45)⟩,
⟨some 8, none, .mv (.t 46)⟩] [42, 43, 44, 45, 46])
(.seq (.reg false [
⟨some 48, none, .mv (.t 7)⟩,
⟨some 49, none, .call false true (.k (.fn n_calendar_ParseDate [] [])) [.t 48]⟩,
⟨some 47, none, .mv (.t 49)⟩,
⟨some 50, none, .extract (.t 47) 0⟩,
⟨some 51, none, .extract (.t 47) 1⟩,
⟨some 9, none, .mv (.t 50)⟩,
⟨some 10, none, .mv (.t 51)⟩] [7, 47, 48, 49, 50, 51])
(.seq (.reg false [
⟨some 53, none, .mv (.t 0)⟩,
⟨some 54, none, .call false true (.k (.fn n_calendar_Weekday [] [])) [.t 53]⟩,
⟨some 52, none, .mv (.t 54)⟩,
⟨some 55, none, .extract (.t 52) 0⟩,
⟨some 56, none, .extract (.t 52) 1⟩,
⟨some 11, none, .mv (.t 55)⟩,
⟨some 12, none, .mv (.t 56)⟩] [52, 53, 54, 55, 56])
(.seq (.seq (.reg false [
⟨some 57, none, .mv (.t 4)⟩,
⟨some 58, none, .mv (.t 6)⟩,
⟨some 59, none, .bin .add (.t 57) (.t 58)⟩,
⟨some 60, none, .mv (.t 8)⟩,
⟨some 61, none, .bin .add (.t 59) (.t 60)⟩,
⟨some 62, none, .mv (.t 10)⟩,
⟨some 63, none, .bin .add (.t 61) (.t 62)⟩,
⟨some 64, none, .mv (.t 12)⟩,
⟨some 65, none, .bin .add (.t 63) (.t 64)⟩,
⟨some 66, none, .bin .neq (.t 65) (.k (.d (.int .i64 0)))⟩,
⟨some 67, none, .mv (.t 66)⟩,
⟨some 68, (some (67, false)), .mv (.t 5)⟩,
⟨some 69, (some (67, false)), .mv (.t 0)⟩,
⟨some 70, (some (67, false)), .bin .neq (.t 68) (.t 69)⟩,
⟨some 71, none, .pick (.t 67) (.k (.d (.bool true))) (.t 70)⟩,
⟨some 72, none, .mv (.t 71)⟩,
⟨some 73, (some (72, false)), .mv (.t 9)⟩,
⟨some 74, (some (72, false)), .mv (.t 0)⟩,
⟨some 75, (some (72, false)), .bin .neq (.t 73) (.t 74)⟩,
⟨some 76, none, .pick (.t 72) (.k (.d (.bool true))) (.t 75)⟩,
⟨some 77, none, .mv (.t 76)⟩,
⟨some 78, (some (77, false)), .mv (.t 11)⟩,
⟨some 79, (some (77, false)), .bin .lss (.t 78) (.k (.d (.int .i64 0)))⟩,
⟨some 80, none, .pick (.t 77) (.k (.d (.bool true))) (.t 79)⟩,
⟨some 81, none, .mv (.t 80)⟩,
⟨some 82, (some (81, false)), .mv (.t 11)⟩,
⟨some 83, (some (81, false)), .bin .gtr (.t 82) (.k (.d (.int .i64 6)))⟩,
⟨some 84, none, .pick (.t 81) (.k (.d (.bool true))) (.t 83)⟩,
⟨some 85, none, .mv (.t 84)⟩,
⟨some 86, (some (85, false)), .idxAddrA 3 1 (.t 3) (.k (.d (.int .i64 0)))⟩,
⟨some 87, (some (85, false)), .load none (.t 86)⟩,
⟨some 88, (some (85, false)), .bin .lss (.t 87) (.k (.d (.int .i64 2000)))⟩,
⟨some 89, none, .pick (.t 85) (.k (.d (.bool true))) (.t 88)⟩,
⟨some 90, none, .mv (.t 89)⟩,
⟨some 91, (some (90, false)), .idxAddrA 3 1 (.t 3) (.k (.d (.int .i64 0)))⟩,
⟨some 92, (some (90, false)), .load none (.t 91)⟩,
⟨some 93, (some (90, false)), .bin .gtr (.t 92) (.k (.d (.int .i64 2273)))⟩,
⟨some 94, none, .pick (.t 90) (.k (.d (.bool true))) (.t 93)⟩,
⟨some 95, none, .mv (.t 94)⟩,
⟨some 96, (some (95, false)), .idxAddrA 3 1 (.t 3) (.k (.d (.int .i64 1)))⟩,
⟨some 97, (some (95, false)), .load none (.t 96)⟩,
⟨some 98, (some (95, false)), .bin .lss (.t 97) (.k (.d (.int .i64 1)))⟩,
⟨some 99, none, .pick (.t 95) (.k (.d (.bool true))) (.t 98)⟩,
⟨some 100, none, .mv (.t 99)⟩,
⟨some 101, (some (100, false)), .idxAddrA 3 1 (.t 3) (.k (.d (.int .i64 1)))⟩,
⟨some 102, (some (100, false)), .load none (.t 101)⟩,
⟨some 103, (some (100, false)), .bin .gtr (.t 102) (.k (.d (.int .i64 12)))⟩,
⟨some 104, none, .pick (.t 100) (.k (.d (.bool true))) (.t 103)⟩,
⟨some 105, none, .mv (.t 104)⟩,
⟨some 106, (some (105, false)), .idxAddrA 3 1 (.t 3) (.k (.d (.int .i64 2)))⟩,
⟨some 107, (some (105, false)), .load none (.t 106)⟩,
⟨some 108, (some (105, false)), .bin .lss (.t 107) (.k (.d (.int .i64 1)))⟩,
⟨some 109, none, .pick (.t 105) (.k (.d (.bool true))) (.t 108)⟩,
⟨some 110, none, .mv (.t 109)⟩,
⟨some 111, (some (110, false)), .idxAddrA 3 1 (.t 3) (.k (.d (.int .i64 2)))⟩,
⟨some 112, (some (110, false)), .load none (.t 111)⟩,
⟨some 113, (some (110, false)), .bin .gtr (.t 112) (.k (.d (.int .i64 31)))⟩,
⟨some 114, none, .pick (.t 110) (.k (.d (.bool true))) (.t 113)⟩] [4, 5, 6, 8, 9, 10, 12, 57, 58, 59, 60, 61, 62, 63, 64, 65, 66, 67, 68, 69, 70, 71, 72, 73, 74, 75, 76, 77, 78, 79, 80, 81, 82, 83, 84, 85, 86, 87, 88, 89, 90, 91, 92, 93, 94, 95, 96, 97, 98, 99, 100, 101, 102, 103, 104, 105, 106, 107, 108, 109, 110, 111, 112, 113])
(.cond (.t 114) (.seq (.reg false [
⟨some 2, none, .mv (.k (.d (.bool false)))⟩] [])
.ret)
 .skip))
(.seq (.reg true [
⟨some 115, none, .idxAddrA 3 1 (.t 3) (.k (.d (.int .i64 1)))⟩,
⟨some 116, none, .load none (.t 115)⟩,
⟨some 117, none, .idxAddrA 3 1 (.t 3) (.k (.d (.int .i64 0)))⟩,
⟨some 118, none, .load none (.t 117)⟩,
⟨some 13, none, .mv (.t 116)⟩,
⟨some 14, none, .mv (.t 118)⟩] [115, 116, 117, 118])
(.seq (.seq (.reg false [
⟨some 119, none, .mv (.t 13)⟩,
⟨some 120, none, .bin .lss (.t 119) (.k (.d (.int .i64 3)))⟩] [119])
(.cond (.t 120) (.reg false [
⟨some 121, none, .mv (.t 13)⟩,
⟨some 122, none, .bin .add (.t 121) (.k (.d (.int .i64 12)))⟩,
⟨some 123, none, .mv (.t 14)⟩,
⟨some 124, none, .bin .sub (.t 123) (.k (.d (.int .i64 1)))⟩,
⟨some 13, none, .mv (.t 122)⟩,
⟨some 14, none, .mv (.t 124)⟩] [121, 122, 123, 124])
 .skip))
(.seq (.seq (.reg false [
⟨some 125, none, .idxAddrA 3 1 (.t 3) (.k (.d (.int .i64 2)))⟩,
⟨some 126, none, .load none (.t 125)⟩,
⟨some 127, none, .mv (.t 13)⟩,
⟨some 128, none, .bin .add (.t 127) (.k (.d (.int .i64 1)))⟩,
⟨some 129, none, .bin .mul (.k (.d (.int .i64 13))) (.t 128)⟩,
⟨some 130, none, .bin .quo (.t 129) (.k (.d (.int .i64 5)))⟩,
⟨some 131, none, .bin .add (.t 126) (.t 130)⟩,
⟨some 132, none, .mv (.t 14)⟩,
⟨some 133, none, .bin .add (.t 131) (.t 132)⟩,
⟨some 134, none, .mv (.t 14)⟩,
⟨some 135, none, .bin .quo (.t 134) (.k (.d (.int .i64 4)))⟩,
⟨some 136, none, .bin .add (.t 133) (.t 135)⟩,
⟨some 137, none, .mv (.t 14)⟩,
⟨some 138, none, .bin .quo (.t 137) (.k (.d (.int .i64 100)))⟩,
⟨some 139, none, .bin .sub (.t 136) (.t 138)⟩,
⟨some 140, none, .mv (.t 14)⟩,
⟨some 141, none, .bin .quo (.t 140) (.k (.d (.int .i64 400)))⟩,
⟨some 142, none, .bin .add (.t 139) (.t 141)⟩,
⟨some 143, none, .bin .add (.t 142) (.k (.d (.int .i64 5)))⟩,
⟨some 144, none, .bin .rem (.t 143) (.k (.d (.int .i64 7)))⟩,
⟨some 145, none, .mv (.t 11)⟩,
⟨some 146, none, .bin .neq (.t 144) (.t 145)⟩] [13, 14, 125, 126, 127, 128, 129, 130, 131, 132, 133, 134, 135, 136, 137, 138, 139, 140, 141, 142, 143, 144, 145])
(.cond (.t 146) (.seq (.reg false [
⟨some 2, none, .mv (.k (.d (.bool false)))⟩] [])
.ret)
 .skip))
(.seq (.seq (.reg false [
⟨some 147, none, .mv (.t 0)⟩,
⟨some 148, none, .bin .eql (.t 147) (.k (.d (.int .i64 99999)))⟩] [147])
(.cond (.t 148) (.seq (.reg false [
⟨some 149, none, .load (some 3) (.t 3)⟩,
⟨some 150, none, .build [.z (.int .i64 0), .z (.int .i64 0), .z (.int .i64 0)] [(0, 1, .k (.d (.int .i64 2273))), (1, 1, .k (.d (.int .i64 10))), (2, 1, .k (.d (.int .i64 15)))]⟩,
⟨some 151, none, .eqv (some [.int, .int, .int]) false (.t 149) (.t 150)⟩,
⟨some 2, none, .mv (.t 151)⟩] [3, 149, 150, 151])
.ret)
 .skip))
(.seq (.reg false [
⟨some 153, none, .mv (.t 0)⟩,
⟨some 154, none, .bin .add (.t 153) (.k (.d (.int .i64 1)))⟩,
⟨some 155, none, .call false true (.k (.fn n_calendar_Date [] [])) [.t 154]⟩,
⟨some 152, none, .mv (.t 155)⟩,
⟨some 156, none, .extract (.t 152) 0⟩,
⟨some 157, none, .extract (.t 152) 1⟩,
⟨some 15, none, .alloc ty_3_int [.z (.int .i64 0), .z (.int .i64 0), .z (.int .i64 0)]⟩,
⟨none, none, .store 3 (.t 15) (.t 156)⟩,
⟨some 16, none, .mv (.t 157)⟩] [152, 153, 154, 155, 156, 157])
(.seq (.reg false [
⟨some 159, none, .mv (.t 0)⟩,
⟨some 160, none, .bin .add (.t 159) (.k (.d (.int .i64 1)))⟩,
⟨some 161, none, .call false true (.k (.fn n_calendar_Weekday [] [])) [.t 160]⟩,
⟨some 158, none, .mv (.t 161)⟩,
⟨some 162, none, .extract (.t 158) 0⟩,
⟨some 163, none, .extract (.t 158) 1⟩,
⟨some 17, none, .mv (.t 162)⟩,
⟨some 18, none, .mv (.t 163)⟩] [0, 158, 159, 160, 161, 162, 163])
(.seq (.seq (.reg false [
⟨some 164, none, .mv (.t 16)⟩,
⟨some 165, none, .mv (.t 18)⟩,
⟨some 166, none, .bin .add (.t 164) (.t 165)⟩,
⟨some 167, none, .bin .neq (.t 166) (.k (.d (.int .i64 0)))⟩,
⟨some 168, none, .mv (.t 167)⟩,
⟨some 169, (some (168, false)), .mv (.t 17)⟩,
⟨some 170, (some (168, false)), .mv (.t 11)⟩,
⟨some 171, (some (168, false)), .bin .add (.t 170) (.k (.d (.int .i64 1)))⟩,
⟨some 172, (some (168, false)), .bin .rem (.t 171) (.k (.d (.int .i64 7)))⟩,
⟨some 173, (some (168, false)), .bin .neq (.t 169) (.t 172)⟩,
⟨some 174, none, .pick (.t 168) (.k (.d (.bool true))) (.t 173)⟩] [11, 16, 17, 18, 164, 165, 166, 167, 168, 169, 170, 171, 172, 173])
(.cond (.t 174) (.seq (.reg false [
⟨some 2, none, .mv (.k (.d (.bool false)))⟩] [])
.ret)
 .skip))
(.seq (.seq (.reg false [
⟨some 175, none, .idxAddrA 3 1 (.t 15) (.k (.d (.int .i64 2)))⟩,
⟨some 176, none, .load none (.t 175)⟩,
⟨some 177, none, .bin .gtr (.t 176) (.k (.d (.int .i64 1)))⟩] [175, 176])
(.cond (.t 177) (.seq (.reg false [
⟨some 178, none, .load (some 3) (.t 15)⟩,
⟨some 179, none, .idxAddrA 3 1 (.t 3) (.k (.d (.int .i64 0)))⟩,
⟨some 180, none, .load none (.t 179)⟩,
⟨some 181, none, .idxAddrA 3 1 (.t 3) (.k (.d (.int .i64 1)))⟩,
⟨some 182, none, .load none (.t 181)⟩,
⟨some 183, none, .idxAddrA 3 1 (.t 3) (.k (.d (.int .i64 2)))⟩,
⟨some 184, none, .load none (.t 183)⟩,
⟨some 185, none, .bin .add (.t 184) (.k (.d (.int .i64 1)))⟩,
⟨some 186, none, .build [.z (.int .i64 0), .z (.int .i64 0), .z (.int .i64 0)] [(0, 1, .t 180), (1, 1, .t 182), (2, 1, .t 185)]⟩,
⟨some 187, none, .eqv (some [.int, .int, .int]) false (.t 178) (.t 186)⟩,
⟨some 2, none, .mv (.t 187)⟩] [3, 15, 178, 179, 180, 181, 182, 183, 184, 185, 186, 187])
.ret)
 .skip))
(.seq (.reg false [
⟨some 188, none, .idxAddrA 3 1 (.t 3) (.k (.d (.int .i64 2)))⟩,
⟨some 189, none, .load none (.t 188)⟩,
⟨some 190, none, .bin .geq (.t 189) (.k (.d (.int .i64 28)))⟩,
⟨some 191, none, .mv (.t 190)⟩,
⟨some 192, (some (191, true)), .load (some 3) (.t 15)⟩,
⟨some 193, (some (191, true)), .idxAddrA 3 1 (.t 3) (.k (.d (.int .i64 0)))⟩,
⟨some 194, (some (191, true)), .load none (.t 193)⟩,
⟨some 195, (some (191, true)), .idxAddrA 3 1 (.t 3) (.k (.d (.int .i64 1)))⟩,
⟨some 196, (some (191, true)), .load none (.t 195)⟩,
⟨some 197, (some (191, true)), .bin .add (.t 196) (.k (.d (.int .i64 1)))⟩,
⟨some 198, (some (191, true)), .build [.z (.int .i64 0), .z (.int .i64 0), .z (.int .i64 0)] [(0, 1, .t 194), (1, 1, .t 197), (2, 1, .k (.d (.int .i64 1)))]⟩,
⟨some 199, (some (191, true)), .eqv (some [.int, .int, .int]) false (.t 192) (.t 198)⟩,
⟨some 200, (some (191, true)), .mv (.t 199)⟩,
⟨some 201, (some (200, false)), .load (some 3) (.t 15)⟩,
⟨some 202, (some (200, false)), .idxAddrA 3 1 (.t 3) (.k (.d (.int .i64 0)))⟩,
⟨some 203, (some (200, false)), .load none (.t 202)⟩,
⟨some 204, (some (200, false)), .bin .add (.t 203) (.k (.d (.int .i64 1)))⟩,
⟨some 205, (some (200, false)), .build [.z (.int .i64 0), .z (.int .i64 0), .z (.int .i64 0)] [(0, 1, .t 204), (1, 1, .k (.d (.int .i64 1))), (2, 1, .k (.d (.int .i64 1)))]⟩,
⟨some 206, (some (200, false)), .eqv (some [.int, .int, .int]) false (.t 201) (.t 205)⟩,
⟨some 207, (some (200, false)), .mv (.t 206)⟩,
⟨some 208, (some (207, true)), .idxAddrA 3 1 (.t 3) (.k (.d (.int .i64 1)))⟩,
⟨some 209, (some (207, true)), .load none (.t 208)⟩,
⟨some 210, (some (207, true)), .bin .eql (.t 209) (.k (.d (.int .i64 12)))⟩,
⟨some 211, (some (200, false)), .pick (.t 207) (.t 210) (.k (.d (.bool false)))⟩,
⟨some 212, (some (200, false)), .mv (.t 211)⟩,
⟨some 213, (some (212, true)), .idxAddrA 3 1 (.t 3) (.k (.d (.int .i64 2)))⟩,
⟨some 214, (some (212, true)), .load none (.t 213)⟩,
⟨some 215, (some (212, true)), .bin .eql (.t 214) (.k (.d (.int .i64 31)))⟩,
⟨some 216, (some (200, false)), .pick (.t 212) (.t 215) (.k (.d (.bool false)))⟩,
⟨some 217, (some (191, true)), .pick (.t 200) (.k (.d (.bool true))) (.t 216)⟩,
⟨some 218, none, .pick (.t 191) (.t 217) (.k (.d (.bool false)))⟩,
⟨some 2, none, .mv (.t 218)⟩] [3, 15, 188, 189, 190, 191, 192, 193, 194, 195, 196, 197, 198, 199, 200, 201, 202, 203, 204, 205, 206, 207, 208, 209, 210, 211, 212, 213, 214, 215, 216, 217, 218])
.ret)))))))))))))))))⟩

/-- "turnround/turnroundlaw01.CalendarTexts" -/
def c_law01_CalendarTexts : CF := ⟨[.tmp 4],
  (.seq (.reg false [
⟨some 4, none, .mv (.k (.d (.bool false)))⟩] [4])
(.seq (.seq (.reg false [
⟨some 16, none, .call false true (.k (.fn n_law01_awake [] [])) []⟩,
⟨some 17, none, .un .not (.t 16)⟩,
⟨some 18, none, .mv (.t 17)⟩,
⟨some 19, (some (18, false)), .mv (.t 0)⟩,
⟨some 20, (some (18, false)), .len .str (.t 19)⟩,
⟨some 21, (some (18, false)), .bin .gtr (.t 20) (.k (.d (.int .i64 60)))⟩,
⟨some 22, none, .pick (.t 18) (.k (.d (.bool true))) (.t 21)⟩] [16, 17, 18, 19, 20, 21])
(.cond (.t 22) (.seq (.reg false [
⟨some 23, none, .call false true (.k (.fn n_law01_awake [] [])) []⟩,
⟨some 4, none, .mv (.t 23)⟩] [23])
.ret)
 .skip))
(.seq (.reg false [
⟨some 25, none, .mv (.t 0)⟩,
⟨some 26, none, .call false true (.k (.fn n_calendar_ParseDate [] [])) [.t 25]⟩,
⟨some 24, none, .mv (.t 26)⟩,
⟨some 27, none, .extract (.t 24) 0⟩,
⟨some 28, none, .extract (.t 24) 1⟩,
⟨some 5, none, .mv (.t 27)⟩,
⟨some 6, none, .mv (.t 28)⟩] [24, 25, 26, 27, 28])
(.seq (.reg false [
⟨some 30, none, .mv (.t 0)⟩,
⟨some 31, none, .call false true (.k (.fn n_ref01_ParseDate [] [])) [.t 30]⟩,
⟨some 29, none, .mv (.t 31)⟩,
⟨some 32, none, .extract (.t 29) 0⟩,
⟨some 33, none, .extract (.t 29) 1⟩,
⟨some 7, none, .mv (.t 32)⟩,
⟨some 8, none, .mv (.t 33)⟩] [29, 30, 31, 32, 33])
(.seq (.reg false [
⟨some 35, none, .mv (.t 0)⟩,
⟨some 36, none, .call false true (.k (.fn n_calendar_ParseMask [] [])) [.t 35]⟩,
⟨some 34, none, .mv (.t 36)⟩,
⟨some 37, none, .extract (.t 34) 0⟩,
⟨some 38, none, .extract (.t 34) 1⟩,
⟨some 9, none, .mv (.t 37)⟩,
⟨some 10, none, .mv (.t 38)⟩] [34, 35, 36, 37, 38])
(.seq (.reg false [
⟨some 40, none, .mv (.t 0)⟩,
⟨some 41, none, .call false true (.k (.fn n_ref01_ParseMask [] [])) [.t 40]⟩,
⟨some 39, none, .mv (.t 41)⟩,
⟨some 42, none, .extract (.t 39) 0⟩,
⟨some 43, none, .extract (.t 39) 1⟩,
⟨some 11, none, .mv (.t 42)⟩,
⟨some 12, none, .mv (.t 43)⟩] [39, 40, 41, 42, 43])
(.seq (.reg false [
⟨some 45, none, .mv (.t 1)⟩,
⟨some 46, none, .call false true (.k (.fn n_calendar_PrintMask [] [])) [.t 45]⟩,
⟨some 44, none, .mv (.t 46)⟩,
⟨some 47, none, .extract (.t 44) 0⟩,
⟨some 48, none, .extract (.t 44) 1⟩,
⟨some 13, none, .mv (.t 47)⟩,
⟨some 14, none, .mv (.t 48)⟩] [44, 45, 46, 47, 48])
(.seq (.reg false [
⟨some 49, none, .mv (.t 1)⟩,
⟨some 50, none, .call false true (.k (.fn n_ref01_CheckRange [] [])) [.t 49, .k (.d (.int .i64 1)), .k (.d (.int .i64 127))]⟩,
⟨some 15, none, .mv (.t 50)⟩] [49, 50])
(.seq (.seq (.reg false [
⟨some 51, none, .mv (.t 15)⟩,
⟨some 52, none, .bin .neq (.t 51) (.k (.d (.int .i64 0)))⟩,
⟨some 53, none, .mv (.t 52)⟩,
⟨some 54, (some (53, true)), .mv (.t 13)⟩,
⟨some 55, (some (53, true)), .mv (.t 14)⟩,
⟨some 56, (some (53, true)), .mv (.t 15)⟩,
⟨some 57, (some (53, true)), .call false true (.k (.fn n_law01_text [] [])) [.t 54, .t 55, .t 56, .k (.d (.str []))]⟩,
⟨some 58, (some (53, true)), .un .not (.t 57)⟩,
⟨some 59, none, .pick (.t 53) (.t 58) (.k (.d (.bool false)))⟩,
⟨some 60, none, .mv (.t 59)⟩,
⟨some 61, (some (60, false)), .mv (.t 15)⟩,
⟨some 62, (some (60, false)), .bin .eql (.t 61) (.k (.d (.int .i64 0)))⟩,
⟨some 63, (some (60, false)), .mv (.t 62)⟩,
⟨some 64, (some (63, true)), .mv (.t 13)⟩,
⟨some 65, (some (63, true)), .mv (.t 14)⟩,
⟨some 66, (some (63, true)), .mv (.t 1)⟩,
⟨some 67, (some (63, true)), .call false true (.k (.fn n_ref01_PrintMask [] [])) [.t 66]⟩,
⟨some 68, (some (63, true)), .call false true (.k (.fn n_law01_text [] [])) [.t 64, .t 65, .k (.d (.int .i64 0)), .t 67]⟩,
⟨some 69, (some (63, true)), .un .not (.t 68)⟩,
⟨some 70, (some (60, false)), .pick (.t 63) (.t 69) (.k (.d (.bool false)))⟩,
⟨some 71, none, .pick (.t 60) (.k (.d (.bool true))) (.t 70)⟩] [1, 13, 14, 15, 51, 52, 53, 54, 55, 56, 57, 58, 59, 60, 61, 62, 63, 64, 65, 66, 67, 68, 69, 70])
(.cond (.t 71) (.seq (.reg false [
⟨some 4, none, .mv (.k (.d (.bool false)))⟩] [])
.ret)
 .skip))
(.seq (.reg false [
⟨some 72, none, .mv (.t 0)⟩,
⟨some 73, none, .call false true (.k (.fn n_calendar_IsName [] [])) [.t 72]⟩,
⟨some 74, none, .mv (.t 0)⟩,
⟨some 75, none, .call false true (.k (.fn n_ref01_IsName [] [])) [.t 74]⟩,
⟨some 76, none, .eqv none false (.t 73) (.t 75)⟩,
⟨some 77, none, .mv (.t 76)⟩,
⟨some 78, (some (77, true)), .mv (.t 5)⟩,
⟨some 79, (some (77, true)), .mv (.t 6)⟩,
⟨some 80, (some (77, true)), .mv (.t 8)⟩,
⟨some 81, (some (77, true)), .mv (.t 7)⟩,
⟨some 82, (some (77, true)), .call false true (.k (.fn n_law01_number [] [])) [.t 78, .t 79, .t 80, .t 81]⟩,
⟨some 83, none, .pick (.t 77) (.t 82) (.k (.d (.bool false)))⟩,
⟨some 84, none, .mv (.t 83)⟩,
⟨some 85, (some (84, true)), .mv (.t 9)⟩,
⟨some 86, (some (84, true)), .mv (.t 10)⟩,
⟨some 87, (some (84, true)), .mv (.t 12)⟩,
⟨some 88, (some (84, true)), .mv (.t 11)⟩,
⟨some 89, (some (84, true)), .call false true (.k (.fn n_law01_number [] [])) [.t 85, .t 86, .t 87, .t 88]⟩,
⟨some 90, none, .pick (.t 84) (.t 89) (.k (.d (.bool false)))⟩,
⟨some 4, none, .mv (.t 90)⟩] [0, 5, 6, 7, 8, 9, 10, 11, 12, 72, 73, 74, 75, 76, 77, 78, 79, 80, 81, 82, 83, 84, 85, 86, 87, 88, 89, 90])
.ret))))))))))⟩

def b_law01_zone_1 : C :=
  (.seq (.reg false [
⟨some 13, none, .bin .lss (.t 12) (.t 11)⟩] [])
(.seq (.cond (.t 13) .skip
 (.exit 0))
(.seq (.block 1 (.seq (.reg false [
⟨some 14, none, .idxAddr 2 (.t 10) (.t 12)⟩,
⟨some 15, none, .load (some 2) (.t 14)⟩,
⟨some 5, none, .alloc ty_calendar_Change [.z (.int .i64 0), .z (.int .i64 0)]⟩,
⟨none, none, .store 2 (.t 5) (.t 15)⟩] [14, 15])
(.reg false [
⟨some 16, none, .fieldAddr 1 (.t 3)⟩,
⟨some 17, none, .load none (.t 16)⟩,
⟨some 18, none, .load (some 2) (.t 5)⟩,
⟨some 19, none, .mkList 2 1 [.t 18]⟩,
⟨some 20, none, .append ⟨false, ty_turnroundref01_Change, 2, 16⟩ (.t 17) (.t 19)⟩,
⟨some 21, none, .fieldAddr 1 (.t 3)⟩,
⟨none, none, .store 1 (.t 21) (.t 20)⟩] [5, 16, 17, 18, 19, 20, 21])))
(.reg false [
⟨some 22, none, .bin .add (.t 12) (.k (.d (.int .i64 1)))⟩,
⟨some 12, none, .mv (.t 22)⟩] [22]))))

/-- "turnround/turnroundlaw01.zone" -/
def c_law01_zone : CF := ⟨[.cell 2 (some 2)],
  (.seq (.reg false [
⟨some 1, none, .box ty_calendar_Zone (.t 0)⟩,
⟨some 2, none, .alloc ty_turnroundref01_Zone [.z (.int .i64 0), .own ⟨false, ty_turnroundref01_Change, 2, 16⟩]⟩] [0])
(.seq (.reg false [
⟨some 6, none, .fieldAddr 0 (.t 1)⟩,
⟨some 7, none, .load none (.t 6)⟩,
⟨some 8, none, .build [.z (.int .i64 0), .own ⟨false, ty_turnroundref01_Change, 2, 16⟩] [(0, 1, .t 7)]⟩,
⟨some 3, none, .alloc ty_turnroundref01_Zone [.z (.int .i64 0), .own ⟨false, ty_turnroundref01_Change, 2, 16⟩]⟩,
⟨none, none, .store 2 (.t 3) (.t 8)⟩] [6, 7, 8])
(.seq (.seq (.reg false [
⟨some 9, none, .fieldAddr 1 (.t 1)⟩,
⟨some 10, none, .load none (.t 9)⟩,
⟨some 11, none, .len .slc (.t 10)⟩,
⟨some 12, none, .mv (.k (.d (.int .i64 0)))⟩] [1, 9])
(.block 0 (.loop [2, 3, 10, 11, 12] b_law01_zone_1)))
(.seq (.reg false [
⟨some 23, none, .load (some 2) (.t 3)⟩,
⟨none, none, .store 2 (.t 2) (.t 23)⟩] [3, 23])
.ret))))⟩

/-- "turnround/turnroundlaw01.awake" -/
def c_law01_awake : CF := ⟨[.tmp 0],
  (.seq (.reg false [
⟨some 0, none, .mv (.k (.d (.bool false)))⟩] [0])
(.seq (.reg false [
⟨some 36, none, .call false true (.k (.fn n_calendar_Day [] [])) [.k (.d (.int .i64 2026)), .k (.d (.int .i64 3)), .k (.d (.int .i64 29))]⟩,
⟨some 35, none, .mv (.t 36)⟩,
⟨some 37, none, .extract (.t 35) 0⟩,
⟨some 38, none, .extract (.t 35) 1⟩,
⟨some 1, none, .mv (.t 37)⟩,
⟨some 2, none, .mv (.t 38)⟩] [35, 36, 37, 38])
(.seq (.reg false [
⟨some 40, none, .call false true (.k (.fn n_calendar_Weekday [] [])) [.k (.d (.int .i64 9584))]⟩,
⟨some 39, none, .mv (.t 40)⟩,
⟨some 41, none, .extract (.t 39) 0⟩,
⟨some 42, none, .extract (.t 39) 1⟩,
⟨some 3, none, .mv (.t 41)⟩,
⟨some 4, none, .mv (.t 42)⟩] [39, 40, 41, 42])
(.seq (.reg false [
⟨some 44, none, .call false true (.k (.fn n_calendar_PrintDate [] [])) [.k (.d (.int .i64 59))]⟩,
⟨some 43, none, .mv (.t 44)⟩,
⟨some 45, none, .extract (.t 43) 0⟩,
⟨some 46, none, .extract (.t 43) 1⟩,
⟨some 5, none, .mv (.t 45)⟩,
⟨some 6, none, .mv (.t 46)⟩] [43, 44, 45, 46])
(.seq (.reg false [
⟨some 48, none, .call false true (.k (.fn n_calendar_Day [] [])) [.k (.d (.int .i64 2026)), .k (.d (.int .i64 2)), .k (.d (.int .i64 30))]⟩,
⟨some 47, none, .mv (.t 48)⟩,
⟨some 49, none, .extract (.t 47) 0⟩,
⟨some 50, none, .extract (.t 47) 1⟩,
⟨some 7, none, .mv (.t 49)⟩,
⟨some 8, none, .mv (.t 50)⟩] [7, 47, 48, 49, 50])
(.seq (.reg false [
⟨some 52, none, .build [.z (.int .i64 0), .z (.int .i64 0), .z (.int .i64 0)] [(0, 1, .k (.d (.int .i64 0))), (1, 1, .k (.d (.int .i64 9))), (2, 1, .k (.d (.int .i64 96)))]⟩,
⟨some 53, none, .call false true (.k (.fn n_calendar_DaysOf [] [])) [.t 52]⟩,
⟨some 51, none, .mv (.t 53)⟩,
⟨some 54, none, .extract (.t 51) 0⟩,
⟨some 55, none, .extract (.t 51) 1⟩,
⟨some 9, none, .mv (.t 54)⟩,
⟨some 10, none, .mv (.t 55)⟩] [51, 52, 53, 54, 55])
(.seq (.reg false [
⟨some 57, none, .build [.z (.int .i64 0), .z (.int .i64 0), .z (.int .i64 0)] [(0, 1, .k (.d (.int .i64 0))), (1, 1, .k (.d (.int .i64 9))), (2, 1, .k (.d (.int .i64 96)))]⟩,
⟨some 58, none, .build [.z (.int .i64 0), .z (.int .i64 0), .z (.int .i64 0)] [(0, 1, .k (.d (.int .i64 1))), (1, 1, .k (.d (.int .i64 8))), (2, 1, .k (.d (.int .i64 64)))]⟩,
⟨some 59, none, .call false true (.k (.fn n_calendar_Meet [] [])) [.t 57, .t 58]⟩,
⟨some 56, none, .mv (.t 59)⟩,
⟨some 60, none, .extract (.t 56) 0⟩,
⟨some 61, none, .extract (.t 56) 1⟩,
⟨some 11, none, .mv (.t 60)⟩,
⟨some 12, none, .mv (.t 61)⟩] [56, 57, 58, 59, 60, 61])
(.seq (.reg false [
⟨some 63, none, .build [.z (.int .i64 0), .z (.int .i64 0), .z (.int .i64 0)] [(0, 1, .k (.d (.int .i64 0))), (1, 1, .k (.d (.int .i64 9))), (2, 1, .k (.d (.int .i64 96)))]⟩,
⟨some 64, none, .call false true (.k (.fn n_calendar_Shift [] [])) [.t 63, .k (.d (.int .i64 2))]⟩,
⟨some 62, none, .mv (.t 64)⟩,
⟨some 65, none, .extract (.t 62) 0⟩,
⟨some 66, none, .extract (.t 62) 1⟩,
⟨some 13, none, .alloc ty_api_Period [.z (.int .i64 0), .z (.int .i64 0), .z (.int .i64 0)]⟩,
⟨none, none, .store 3 (.t 13) (.t 65)⟩,
⟨some 14, none, .mv (.t 66)⟩] [62, 63, 64, 65, 66])
(.seq (.reg false [
⟨some 68, none, .mkList 1 4 [.k (.d (.int .i64 0)), .k (.d (.int .i64 1)), .k (.d (.int .i64 7)), .k (.d (.int .i64 8))]⟩,
⟨some 69, none, .call false true (.k (.fn n_calendar_Join [] [])) [.t 68]⟩,
⟨some 67, none, .mv (.t 69)⟩,
⟨some 70, none, .extract (.t 67) 0⟩,
⟨some 71, none, .extract (.t 67) 1⟩,
⟨some 15, none, .mv (.t 70)⟩,
⟨some 16, none, .mv (.t 71)⟩] [67, 68, 69, 70, 71])
(.seq (.reg false [
⟨some 73, none, .call false true (.k (.fn n_calendar_PrintMask [] [])) [.k (.d (.int .i64 96))]⟩,
⟨some 72, none, .mv (.t 73)⟩,
⟨some 74, none, .extract (.t 72) 0⟩,
⟨some 75, none, .extract (.t 72) 1⟩,
⟨some 17, none, .mv (.t 74)⟩,
⟨some 18, none, .mv (.t 75)⟩] [72, 73, 74, 75])
(.seq (.seq (.reg false [
⟨some 76, none, .mv (.t 2)⟩,
⟨some 77, none, .mv (.t 4)⟩,
⟨some 78, none, .bin .add (.t 76) (.t 77)⟩,
⟨some 79, none, .mv (.t 6)⟩,
⟨some 80, none, .bin .add (.t 78) (.t 79)⟩,
⟨some 81, none, .mv (.t 10)⟩,
⟨some 82, none, .bin .add (.t 80) (.t 81)⟩,
⟨some 83, none, .mv (.t 12)⟩,
⟨some 84, none, .bin .add (.t 82) (.t 83)⟩,
⟨some 85, none, .mv (.t 14)⟩,
⟨some 86, none, .bin .add (.t 84) (.t 85)⟩,
⟨some 87, none, .mv (.t 16)⟩,
⟨some 88, none, .bin .add (.t 86) (.t 87)⟩,
⟨some 89, none, .mv (.t 18)⟩,
⟨some 90, none, .bin .add (.t 88) (.t 89)⟩,
⟨some 91, none, .bin .neq (.t 90) (.k (.d (.int .i64 0)))⟩,
⟨some 92, none, .mv (.t 91)⟩,
⟨some 93, (some (92, false)), .mv (.t 1)⟩,
⟨some 94, (some (92, false)), .bin .neq (.t 93) (.k (.d (.int .i64 9584)))⟩,
⟨some 95, none, .pick (.t 92) (.k (.d (.bool true))) (.t 94)⟩,
⟨some 96, none, .mv (.t 95)⟩,
⟨some 97, (some (96, false)), .mv (.t 3)⟩,
⟨some 98, (some (96, false)), .bin .neq (.t 97) (.k (.d (.int .i64 6)))⟩,
⟨some 99, none, .pick (.t 96) (.k (.d (.bool true))) (.t 98)⟩,
⟨some 100, none, .mv (.t 99)⟩,
⟨some 101, (some (100, false)), .mv (.t 5)⟩,
⟨some 102, (some (100, false)), .bin .neq (.t 101) (.k (.d (.str [50, 48, 48, 48, 45, 48, 50, 45, 50, 57])))⟩,
⟨some 103, none, .pick (.t 100) (.k (.d (.bool true))) (.t 102)⟩,
⟨some 104, none, .mv (.t 103)⟩,
⟨some 105, (some (104, false)), .mv (.t 8)⟩,
⟨some 106, (some (104, false)), .bin .neq (.t 105) (.k (.d (.int .i64 7)))⟩,
⟨some 107, none, .pick (.t 104) (.k (.d (.bool true))) (.t 106)⟩,
⟨some 108, none, .mv (.t 107)⟩,
⟨some 109, (some (108, false)), .mv (.t 9)⟩,
⟨some 110, (some (108, false)), .mkList 1 4 [.k (.d (.int .i64 0)), .k (.d (.int .i64 1)), .k (.d (.int .i64 7)), .k (.d (.int .i64 8))]⟩,
⟨some 111, (some (108, false)), .call false true (.k (.fn n_ref01_SameInts [] [])) [.t 109, .t 110]⟩,
⟨some 112, (some (108, false)), .un .not (.t 111)⟩,
⟨some 113, none, .pick (.t 108) (.k (.d (.bool true))) (.t 112)⟩,
⟨some 114, none, .mv (.t 113)⟩,
⟨some 115, (some (114, false)), .mv (.t 11)⟩,
⟨some 116, (some (114, false)), .mkList 1 2 [.k (.d (.int .i64 1)), .k (.d (.int .i64 8))]⟩,
⟨some 117, (some (114, false)), .call false true (.k (.fn n_ref01_SameInts [] [])) [.t 115, .t 116]⟩,
⟨some 118, (some (114, false)), .un .not (.t 117)⟩,
⟨some 119, none, .pick (.t 114) (.k (.d (.bool true))) (.t 118)⟩,
⟨some 120, none, .mv (.t 119)⟩,
⟨some 121, (some (120, false)), .load (some 3) (.t 13)⟩,
⟨some 122, (some (120, false)), .build [.z (.int .i64 0), .z (.int .i64 0), .z (.int .i64 0)] [(0, 1, .k (.d (.int .i64 2))), (1, 1, .k (.d (.int .i64 11))), (2, 1, .k (.d (.int .i64 3)))]⟩,
⟨some 123, (some (120, false)), .eqv (some [.int, .int, .int]) true (.t 121) (.t 122)⟩,
⟨some 124, none, .pick (.t 120) (.k (.d (.bool true))) (.t 123)⟩,
⟨some 125, none, .mv (.t 124)⟩,
⟨some 126, (some (125, false)), .mv (.t 15)⟩,
⟨some 127, (some (125, false)), .build [.z (.int .i64 0), .z (.int .i64 0), .z (.int .i64 0)] [(0, 1, .k (.d (.int .i64 0))), (1, 1, .k (.d (.int .i64 8))), (2, 1, .k (.d (.int .i64 96)))]⟩,
⟨some 128, (some (125, false)), .mkList 3 1 [.t 127]⟩,
⟨some 129, (some (125, false)), .call false true (.k (.fn n_ref01_SamePeriods [] [])) [.t 126, .t 128]⟩,
⟨some 130, (some (125, false)), .un .not (.t 129)⟩,
⟨some 131, none, .pick (.t 125) (.k (.d (.bool true))) (.t 130)⟩,
⟨some 132, none, .mv (.t 131)⟩,
⟨some 133, (some (132, false)), .mv (.t 17)⟩,
⟨some 134, (some (132, false)), .bin .neq (.t 133) (.k (.d (.str [48, 48, 48, 48, 48, 54, 55])))⟩,
⟨some 135, none, .pick (.t 132) (.k (.d (.bool true))) (.t 134)⟩] [1, 2, 3, 4, 5, 6, 8, 9, 10, 11, 12, 13, 14, 15, 16, 17, 18, 76, 77, 78, 79, 80, 81, 82, 83, 84, 85, 86, 87, 88, 89, 90, 91, 92, 93, 94, 95, 96, 97, 98, 99, 100, 101, 102, 103, 104, 105, 106, 107, 108, 109, 110, 111, 112, 113, 114, 115, 116, 117, 118, 119, 120, 121, 122, 123, 124, 125, 126, 127, 128, 129, 130, 131, 132, 133, 134])
(.cond (.t 135) (.seq (.reg false [
⟨some 0, none, .mv (.k (.d (.bool false)))⟩] [])
.ret)
 .skip))
(.seq (.reg false [
⟨some 137, none, .build [.z (.int .i64 0), .z (.str [])] [(0, 1, .k (.d (.int .i64 2026))), (1, 1, .k (.d (.str [83])))]⟩,
⟨some 138, none, .call false true (.k (.fn n_calendar_Span [] [])) [.t 137]⟩,
⟨some 136, none, .mv (.t 138)⟩,
⟨some 139, none, .extract (.t 136) 0⟩,
⟨some 140, none, .extract (.t 136) 1⟩,
⟨some 19, none, .alloc ty_api_Period [.z (.int .i64 0), .z (.int .i64 0), .z (.int .i64 0)]⟩,
⟨none, none, .store 3 (.t 19) (.t 139)⟩,
⟨some 20, none, .mv (.t 140)⟩] [136, 137, 138, 139, 140])
(.seq (.reg false [
⟨some 142, none, .build [.z (.int .i64 0), .z (.str [])] [(0, 1, .k (.d (.int .i64 2025))), (1, 1, .k (.d (.str [83])))]⟩,
⟨some 143, none, .call false true (.k (.fn n_calendar_Equivalent [] [])) [.k (.d (.int .i64 9594)), .t 142]⟩,
⟨some 141, none, .mv (.t 143)⟩,
⟨some 144, none, .extract (.t 141) 0⟩,
⟨some 145, none, .extract (.t 141) 1⟩,
⟨some 21, none, .mv (.t 144)⟩,
⟨some 22, none, .mv (.t 145)⟩] [141, 142, 143, 144, 145])
(.seq (.reg false [
⟨some 147, none, .call false true (.k (.fn n_calendar_Summer [] [])) [.k (.d (.int .i64 60)), .k (.d (.int .i64 2026)), .k (.d (.int .i64 2026))]⟩,
⟨some 146, none, .mv (.t 147)⟩,
⟨some 148, none, .extract (.t 146) 0⟩,
⟨some 149, none, .extract (.t 146) 1⟩,
⟨some 23, none, .alloc ty_calendar_Zone [.z (.int .i64 0), .z (.list 0 [])]⟩,
⟨none, none, .store 2 (.t 23) (.t 148)⟩,
⟨some 24, none, .mv (.t 149)⟩] [146, 147, 148, 149])
(.seq (.reg false [
⟨some 151, none, .load (some 2) (.t 23)⟩,
⟨some 152, none, .call false true (.k (.fn n_calendar_Local [] [])) [.t 151, .k (.d (.int .i64 13801019))]⟩,
⟨some 150, none, .mv (.t 152)⟩,
⟨some 153, none, .extract (.t 150) 0⟩,
⟨some 154, none, .extract (.t 150) 1⟩,
⟨some 25, none, .mv (.t 153)⟩,
⟨some 26, none, .mv (.t 154)⟩] [150, 151, 152, 153, 154])
(.seq (.reg false [
⟨some 156, none, .load (some 2) (.t 23)⟩,
⟨some 157, none, .call false true (.k (.fn n_calendar_Local [] [])) [.t 156, .k (.d (.int .i64 13801020))]⟩,
⟨some 155, none, .mv (.t 157)⟩,
⟨some 158, none, .extract (.t 155) 0⟩,
⟨some 159, none, .extract (.t 155) 1⟩,
⟨some 27, none, .mv (.t 158)⟩,
⟨some 28, none, .mv (.t 159)⟩] [155, 156, 157, 158, 159])
(.seq (.reg false [
⟨some 161, none, .load (some 2) (.t 23)⟩,
⟨some 162, none, .call false true (.k (.fn n_calendar_Universal [] [])) [.t 161, .k (.d (.int .i64 13801100))]⟩,
⟨some 160, none, .mv (.t 162)⟩,
⟨some 163, none, .extract (.t 160) 0⟩,
⟨some 164, none, .extract (.t 160) 1⟩,
⟨some 29, none, .mv (.t 163)⟩,
⟨some 30, none, .mv (.t 164)⟩] [29, 160, 161, 162, 163, 164])
(.seq (.reg false [
⟨some 166, none, .load (some 2) (.t 23)⟩,
⟨some 167, none, .call false true (.k (.fn n_calendar_Universal [] [])) [.t 166, .k (.d (.int .i64 14103510))]⟩,
⟨some 165, none, .mv (.t 167)⟩,
⟨some 168, none, .extract (.t 165) 0⟩,
⟨some 169, none, .extract (.t 165) 1⟩,
⟨some 31, none, .mv (.t 168)⟩,
⟨some 32, none, .mv (.t 169)⟩] [165, 166, 167, 168, 169])
(.seq (.reg false [
⟨some 171, none, .call false true (.k (.fn n_calendar_Draw [] [])) [.k (.d (.int .i64 1)), .k (.d (.int .i64 3))]⟩,
⟨some 170, none, .mv (.t 171)⟩,
⟨some 172, none, .extract (.t 170) 0⟩,
⟨some 173, none, .extract (.t 170) 1⟩,
⟨some 33, none, .mv (.t 172)⟩,
⟨some 34, none, .mv (.t 173)⟩] [170, 171, 172, 173])
(.seq (.seq (.reg false [
⟨some 174, none, .mv (.t 20)⟩,
⟨some 175, none, .mv (.t 22)⟩,
⟨some 176, none, .bin .add (.t 174) (.t 175)⟩,
⟨some 177, none, .mv (.t 24)⟩,
⟨some 178, none, .bin .add (.t 176) (.t 177)⟩,
⟨some 179, none, .mv (.t 26)⟩,
⟨some 180, none, .bin .add (.t 178) (.t 179)⟩,
⟨some 181, none, .mv (.t 28)⟩,
⟨some 182, none, .bin .add (.t 180) (.t 181)⟩,
⟨some 183, none, .mv (.t 32)⟩,
⟨some 184, none, .bin .add (.t 182) (.t 183)⟩,
⟨some 185, none, .mv (.t 34)⟩,
⟨some 186, none, .bin .add (.t 184) (.t 185)⟩,
⟨some 187, none, .bin .neq (.t 186) (.k (.d (.int .i64 0)))⟩,
⟨some 188, none, .mv (.t 187)⟩,
⟨some 189, (some (188, false)), .fieldAddr 1 (.t 23)⟩,
⟨some 190, (some (188, false)), .load none (.t 189)⟩,
⟨some 191, (some (188, false)), .len .slc (.t 190)⟩,
⟨some 192, (some (188, false)), .bin .neq (.t 191) (.k (.d (.int .i64 2)))⟩,
⟨some 193, none, .pick (.t 188) (.k (.d (.bool true))) (.t 192)⟩,
⟨some 194, none, .mv (.t 193)⟩,
⟨some 195, (some (194, false)), .fieldAddr 1 (.t 23)⟩,
⟨some 196, (some (194, false)), .load none (.t 195)⟩,
⟨some 197, (some (194, false)), .idxAddr 2 (.t 196) (.k (.d (.int .i64 1)))⟩,
⟨some 198, (some (194, false)), .load (some 2) (.t 197)⟩,
⟨some 199, (some (194, false)), .build [.z (.int .i64 0), .z (.int .i64 0)] [(0, 1, .k (.d (.int .i64 14103420))), (1, 1, .k (.d (.int .i64 60)))]⟩,
⟨some 200, (some (194, false)), .eqv (some [.int, .int]) true (.t 198) (.t 199)⟩,
⟨some 201, none, .pick (.t 194) (.k (.d (.bool true))) (.t 200)⟩] [20, 22, 23, 24, 26, 28, 32, 34, 174, 175, 176, 177, 178, 179, 180, 181, 182, 183, 184, 185, 186, 187, 188, 189, 190, 191, 192, 193, 194, 195, 196, 197, 198, 199, 200])
(.cond (.t 201) (.seq (.reg false [
⟨some 0, none, .mv (.k (.d (.bool false)))⟩] [])
.ret)
 .skip))
(.seq (.reg false [
⟨some 202, none, .load (some 3) (.t 19)⟩,
⟨some 203, none, .build [.z (.int .i64 0), .z (.int .i64 0), .z (.int .i64 0)] [(0, 1, .k (.d (.int .i64 9584))), (1, 1, .k (.d (.int .i64 9793))), (2, 1, .k (.d (.int .i64 127)))]⟩,
⟨some 204, none, .eqv (some [.int, .int, .int]) false (.t 202) (.t 203)⟩,
⟨some 205, none, .mv (.t 204)⟩,
⟨some 206, (some (205, true)), .mv (.t 21)⟩,
⟨some 207, (some (205, true)), .bin .eql (.t 206) (.k (.d (.int .i64 9230)))⟩,
⟨some 208, none, .pick (.t 205) (.t 207) (.k (.d (.bool false)))⟩,
⟨some 209, none, .mv (.t 208)⟩,
⟨some 210, (some (209, true)), .mv (.t 25)⟩,
⟨some 211, (some (209, true)), .bin .eql (.t 210) (.k (.d (.int .i64 13801079)))⟩,
⟨some 212, none, .pick (.t 209) (.t 211) (.k (.d (.bool false)))⟩,
⟨some 213, none, .mv (.t 212)⟩,
⟨some 214, (some (213, true)), .mv (.t 27)⟩,
⟨some 215, (some (213, true)), .bin .eql (.t 214) (.k (.d (.int .i64 13801140)))⟩,
⟨some 216, none, .pick (.t 213) (.t 215) (.k (.d (.bool false)))⟩,
⟨some 217, none, .mv (.t 216)⟩,
⟨some 218, (some (217, true)), .mv (.t 30)⟩,
⟨some 219, (some (217, true)), .bin .eql (.t 218) (.k (.d (.int .i64 7)))⟩,
⟨some 220, none, .pick (.t 217) (.t 219) (.k (.d (.bool false)))⟩,
⟨some 221, none, .mv (.t 220)⟩,
⟨some 222, (some (221, true)), .mv (.t 31)⟩,
⟨some 223, (some (221, true)), .mkList 1 2 [.k (.d (.int .i64 14103390)), .k (.d (.int .i64 14103450))]⟩,
⟨some 224, (some (221, true)), .call false true (.k (.fn n_ref01_SameInts [] [])) [.t 222, .t 223]⟩,
⟨some 225, none, .pick (.t 221) (.t 224) (.k (.d (.bool false)))⟩,
⟨some 226, none, .mv (.t 225)⟩,
⟨some 227, (some (226, true)), .mv (.t 33)⟩,
⟨some 228, (some (226, true)), .mkList 1 3 [.k (.d (.int .i64 2)), .k (.d (.int .i64 0)), .k (.d (.int .i64 1))]⟩,
⟨some 229, (some (226, true)), .call false true (.k (.fn n_ref01_SameInts [] [])) [.t 227, .t 228]⟩,
⟨some 230, none, .pick (.t 226) (.t 229) (.k (.d (.bool false)))⟩,
⟨some 0, none, .mv (.t 230)⟩] [19, 21, 25, 27, 30, 31, 33, 202, 203, 204, 205, 206, 207, 208, 209, 210, 211, 212, 213, 214, 215, 216, 217, 218, 219, 220, 221, 222, 223, 224, 225, 226, 227, 228, 229, 230])
.ret)))))))))))))))))))))⟩

/-- "turnround/turnroundref01.ShortZone" -/
def c_ref01_ShortZone : CF := ⟨[.tmp 4],
  (.seq (.reg false [
⟨some 2, none, .box ty_turnroundref01_Zone (.t 0)⟩,
⟨some 4, none, .mv (.k (.d (.bool false)))⟩] [0, 4])
(.seq (.reg false [
⟨some 5, none, .fieldAddr 1 (.t 2)⟩,
⟨some 6, none, .load none (.t 5)⟩,
⟨some 7, none, .len .slc (.t 6)⟩,
⟨some 8, none, .mv (.t 1)⟩,
⟨some 9, none, .bin .leq (.t 7) (.t 8)⟩,
⟨some 10, none, .mv (.t 9)⟩,
⟨some 11, (some (10, false)), .fieldAddr 1 (.t 2)⟩,
⟨some 12, (some (10, false)), .load none (.t 11)⟩,
⟨some 13, (some (10, false)), .len .slc (.t 12)⟩,
⟨some 14, (some (10, false)), .bin .gtr (.t 13) (.k (.d (.int .i64 64)))⟩,
⟨some 15, (some (10, false)), .mv (.t 14)⟩,
⟨some 16, (some (15, true)), .fieldAddr 1 (.t 2)⟩,
⟨some 17, (some (15, true)), .load none (.t 16)⟩,
⟨some 18, (some (15, true)), .len .slc (.t 17)⟩,
⟨some 19, (some (15, true)), .bin .leq (.t 18) (.k (.d (.int .i64 66)))⟩,
⟨some 20, (some (10, false)), .pick (.t 15) (.t 19) (.k (.d (.bool false)))⟩,
⟨some 21, none, .pick (.t 10) (.k (.d (.bool true))) (.t 20)⟩,
⟨some 4, none, .mv (.t 21)⟩] [1, 2, 5, 6, 7, 8, 9, 10, 11, 12, 13, 14, 15, 16, 17, 18, 19, 20, 21])
.ret))⟩

def b_ref01_CheckZone_1 : C :=
  (.seq (.seq (.reg false [
⟨some 16, none, .mv (.t 4)⟩,
⟨some 17, none, .fieldAddr 1 (.t 1)⟩,
⟨some 18, none, .load none (.t 17)⟩,
⟨some 19, none, .len .slc (.t 18)⟩,
⟨some 20, none, .bin .lss (.t 16) (.t 19)⟩] [16, 17, 18, 19])
(.cond (.t 20) .skip
 (.exit 0)))
(.seq (.block 1 (.seq (.reg false [
⟨some 23, none, .fieldAddr 1 (.t 1)⟩,
⟨some 24, none, .load none (.t 23)⟩,
⟨some 25, none, .mv (.t 4)⟩,
⟨some 26, none, .idxAddr 2 (.t 24) (.t 25)⟩,
⟨some 27, none, .load (some 2) (.t 26)⟩,
⟨some 5, none, .alloc ty_turnroundref01_Change [.z (.int .i64 0), .z (.int .i64 0)]⟩,
⟨none, none, .store 2 (.t 5) (.t 27)⟩] [23, 24, 25, 26, 27])
(.seq (.seq (.reg false [
⟨some 28, none, .fieldAddr 0 (.t 5)⟩,
⟨some 29, none, .load none (.t 28)⟩,
⟨some 30, none, .call false true (.k (.fn n_ref01_CheckMoment [] [])) [.t 29]⟩,
⟨some 31, none, .bin .neq (.t 30) (.k (.d (.int .i64 0)))⟩,
⟨some 32, none, .mv (.t 31)⟩,
⟨some 33, (some (32, false)), .fieldAddr 1 (.t 5)⟩,
⟨some 34, (some (32, false)), .load none (.t 33)⟩,
⟨some 35, (some (32, false)), .call false true (.k (.fn n_ref01_CheckRange [] [])) [.t 34, .k (.d (.int .i64 (-720))), .k (.d (.int .i64 840))]⟩,
⟨some 36, (some (32, false)), .bin .neq (.t 35) (.k (.d (.int .i64 0)))⟩,
⟨some 37, none, .pick (.t 32) (.k (.d (.bool true))) (.t 36)⟩] [28, 29, 30, 31, 32, 33, 34, 35, 36])
(.cond (.t 37) (.seq (.reg false [
⟨some 2, none, .mv (.k (.d (.int .i64 3)))⟩] [])
.ret)
 .skip))
(.seq (.seq (.reg false [
⟨some 38, none, .fieldAddr 1 (.t 5)⟩,
⟨some 39, none, .load none (.t 38)⟩,
⟨some 40, none, .mv (.t 3)⟩,
⟨some 41, none, .bin .sub (.t 39) (.t 40)⟩,
⟨some 42, none, .bin .gtr (.t 41) (.k (.d (.int .i64 180)))⟩,
⟨some 43, none, .mv (.t 42)⟩,
⟨some 44, (some (43, false)), .mv (.t 3)⟩,
⟨some 45, (some (43, false)), .fieldAddr 1 (.t 5)⟩,
⟨some 46, (some (43, false)), .load none (.t 45)⟩,
⟨some 47, (some (43, false)), .bin .sub (.t 44) (.t 46)⟩,
⟨some 48, (some (43, false)), .bin .gtr (.t 47) (.k (.d (.int .i64 180)))⟩,
⟨some 49, none, .pick (.t 43) (.k (.d (.bool true))) (.t 48)⟩] [3, 38, 39, 40, 41, 42, 43, 44, 45, 46, 47, 48])
(.cond (.t 49) (.seq (.reg false [
⟨some 2, none, .mv (.k (.d (.int .i64 4)))⟩] [])
.ret)
 .skip))
(.seq (.seq (.reg true [
⟨some 50, none, .mv (.t 4)⟩,
⟨some 51, none, .bin .gtr (.t 50) (.k (.d (.int .i64 0)))⟩,
⟨some 52, none, .mv (.t 51)⟩,
⟨some 53, (some (52, true)), .fieldAddr 0 (.t 5)⟩,
⟨some 54, (some (52, true)), .load none (.t 53)⟩,
⟨some 55, (some (52, true)), .fieldAddr 1 (.t 1)⟩,
⟨some 56, (some (52, true)), .load none (.t 55)⟩,
⟨some 57, (some (52, true)), .mv (.t 4)⟩,
⟨some 58, (some (52, true)), .bin .sub (.t 57) (.k (.d (.int .i64 1)))⟩,
⟨some 59, (some (52, true)), .idxAddr 2 (.t 56) (.t 58)⟩,
⟨some 60, (some (52, true)), .fieldAddr 0 (.t 59)⟩,
⟨some 61, (some (52, true)), .load none (.t 60)⟩,
⟨some 62, (some (52, true)), .bin .sub (.t 54) (.t 61)⟩,
⟨some 63, (some (52, true)), .bin .lss (.t 62) (.k (.d (.int .i64 1440)))⟩,
⟨some 64, none, .pick (.t 52) (.t 63) (.k (.d (.bool false)))⟩] [50, 51, 52, 53, 54, 55, 56, 57, 58, 59, 60, 61, 62, 63])
(.cond (.t 64) (.seq (.reg false [
⟨some 2, none, .mv (.k (.d (.int .i64 11)))⟩] [])
.ret)
 .skip))
(.reg false [
⟨some 65, none, .fieldAddr 1 (.t 5)⟩,
⟨some 66, none, .load none (.t 65)⟩,
⟨some 3, none, .mv (.t 66)⟩] [5, 65, 66]))))))
(.reg false [
⟨some 21, none, .mv (.t 4)⟩,
⟨some 22, none, .bin .add (.t 21) (.k (.d (.int .i64 1)))⟩,
⟨some 4, none, .mv (.t 22)⟩] [21, 22])))

/-- "turnround/turnroundref01.CheckZone" -/
def c_ref01_CheckZone : CF := ⟨[.tmp 2],
  (.seq (.reg false [
⟨some 1, none, .box ty_turnroundref01_Zone (.t 0)⟩,
⟨some 2, none, .mv (.k (.d (.int .i64 0)))⟩] [0, 2])
(.seq (.seq (.reg false [
⟨some 6, none, .fieldAddr 0 (.t 1)⟩,
⟨some 7, none, .load none (.t 6)⟩,
⟨some 8, none, .call false true (.k (.fn n_ref01_CheckRange [] [])) [.t 7, .k (.d (.int .i64 (-720))), .k (.d (.int .i64 840))]⟩,
⟨some 9, none, .bin .neq (.t 8) (.k (.d (.int .i64 0)))⟩] [6, 7, 8])
(.cond (.t 9) (.seq (.reg false [
⟨some 2, none, .mv (.k (.d (.int .i64 3)))⟩] [])
.ret)
 .skip))
(.seq (.seq (.reg false [
⟨some 10, none, .fieldAddr 1 (.t 1)⟩,
⟨some 11, none, .load none (.t 10)⟩,
⟨some 12, none, .len .slc (.t 11)⟩,
⟨some 13, none, .bin .gtr (.t 12) (.k (.d (.int .i64 64)))⟩] [10, 11, 12])
(.cond (.t 13) (.seq (.reg false [
⟨some 2, none, .mv (.k (.d (.int .i64 5)))⟩] [])
.ret)
 .skip))
(.seq (.reg false [
⟨some 14, none, .fieldAddr 0 (.t 1)⟩,
⟨some 15, none, .load none (.t 14)⟩,
⟨some 3, none, .mv (.t 15)⟩] [14, 15])
(.seq (.seq (.reg false [
⟨some 4, none, .mv (.k (.d (.int .i64 0)))⟩] [])
(.block 0 (.loop [1, 3, 4] b_ref01_CheckZone_1)))
(.seq (.reg false [
⟨some 2, none, .mv (.k (.d (.int .i64 0)))⟩] [])
.ret))))))⟩

def b_calendar_CheckZone_1 : C :=
  (.seq (.reg false [
⟨some 29, none, .bin .lss (.t 28) (.t 27)⟩] [])
(.seq (.cond (.t 29) .skip
 (.exit 0))
(.seq (.block 1 (.seq (.reg false [
⟨some 30, none, .mv (.t 28)⟩,
⟨some 31, none, .idxAddr 2 (.t 26) (.t 28)⟩,
⟨some 32, none, .load (some 2) (.t 31)⟩,
⟨some 6, none, .alloc ty_calendar_Change [.z (.int .i64 0), .z (.int .i64 0)]⟩,
⟨some 5, none, .mv (.t 30)⟩,
⟨none, none, .store 2 (.t 6) (.t 32)⟩] [30, 31, 32])
(.seq (.seq (.reg true [
⟨some 33, none, .fieldAddr 0 (.t 6)⟩,
⟨some 34, none, .load none (.t 33)⟩,
⟨some 35, none, .call false true (.k (.fn n_calendar_checkMoment [] [])) [.t 34]⟩,
⟨some 36, none, .fieldAddr 1 (.t 6)⟩,
⟨some 37, none, .load none (.t 36)⟩,
⟨some 38, none, .call false true (.k (.fn n_calendar_within [] [])) [.t 37, .k (.d (.int .i64 (-720))), .k (.d (.int .i64 840))]⟩,
⟨some 39, none, .mkList 1 2 [.t 35, .t 38]⟩,
⟨some 40, none, .call false true (.k (.fn n_calendar_first [] [])) [.t 39]⟩,
⟨some 7, none, .mv (.t 40)⟩] [33, 34, 35, 36, 37, 38, 39, 40])
(.seq (.reg false [
⟨some 41, none, .mv (.t 7)⟩,
⟨some 42, none, .bin .neq (.t 41) (.k (.d (.int .i64 0)))⟩] [41])
(.cond (.t 42) (.seq (.reg false [
⟨some 43, none, .mv (.t 7)⟩,
⟨some 2, none, .mv (.t 43)⟩] [7, 43])
.ret)
 .skip)))
(.seq (.reg false [
⟨some 44, none, .fieldAddr 1 (.t 6)⟩,
⟨some 45, none, .load none (.t 44)⟩,
⟨some 46, none, .mv (.t 4)⟩,
⟨some 47, none, .bin .sub (.t 45) (.t 46)⟩,
⟨some 48, none, .mv (.t 4)⟩,
⟨some 49, none, .fieldAddr 1 (.t 6)⟩,
⟨some 50, none, .load none (.t 49)⟩,
⟨some 51, none, .bin .sub (.t 48) (.t 50)⟩,
⟨some 52, none, .minmax true [.t 47, .t 51]⟩,
⟨some 8, none, .mv (.t 52)⟩] [4, 44, 45, 46, 47, 48, 49, 50, 51, 52])
(.seq (.seq (.reg true [
⟨some 53, none, .mv (.t 8)⟩,
⟨some 54, none, .bin .gtr (.t 53) (.k (.d (.int .i64 180)))⟩,
⟨some 55, none, .call false true (.k (.fn n_calendar_when [] [])) [.t 54, .k (.d (.int .i64 4))]⟩,
⟨some 56, none, .mv (.t 5)⟩,
⟨some 57, none, .bin .gtr (.t 56) (.k (.d (.int .i64 0)))⟩,
⟨some 58, none, .mv (.t 57)⟩,
⟨some 59, (some (58, true)), .fieldAddr 0 (.t 6)⟩,
⟨some 60, (some (58, true)), .load none (.t 59)⟩,
⟨some 61, (some (58, true)), .fieldAddr 1 (.t 1)⟩,
⟨some 62, (some (58, true)), .load none (.t 61)⟩,
⟨some 63, (some (58, true)), .mv (.t 5)⟩,
⟨some 64, (some (58, true)), .bin .sub (.t 63) (.k (.d (.int .i64 1)))⟩,
⟨some 65, (some (58, true)), .minmax true [.k (.d (.int .i64 0)), .t 64]⟩,
⟨some 66, (some (58, true)), .idxAddr 2 (.t 62) (.t 65)⟩,
⟨some 67, (some (58, true)), .fieldAddr 0 (.t 66)⟩,
⟨some 68, (some (58, true)), .load none (.t 67)⟩,
⟨some 69, (some (58, true)), .bin .sub (.t 60) (.t 68)⟩,
⟨some 70, (some (58, true)), .bin .lss (.t 69) (.k (.d (.int .i64 1440)))⟩,
⟨some 71, none, .pick (.t 58) (.t 70) (.k (.d (.bool false)))⟩,
⟨some 72, none, .call false true (.k (.fn n_calendar_when [] [])) [.t 71, .k (.d (.int .i64 11))]⟩,
⟨some 73, none, .mkList 1 2 [.t 55, .t 72]⟩,
⟨some 74, none, .call false true (.k (.fn n_calendar_first [] [])) [.t 73]⟩,
⟨some 9, none, .mv (.t 74)⟩] [5, 8, 53, 54, 55, 56, 57, 58, 59, 60, 61, 62, 63, 64, 65, 66, 67, 68, 69, 70, 71, 72, 73, 74])
(.seq (.reg false [
⟨some 75, none, .mv (.t 9)⟩,
⟨some 76, none, .bin .neq (.t 75) (.k (.d (.int .i64 0)))⟩] [75])
(.cond (.t 76) (.seq (.reg false [
⟨some 77, none, .mv (.t 9)⟩,
⟨some 2, none, .mv (.t 77)⟩] [9, 77])
.ret)
 .skip)))
(.reg false [
⟨some 78, none, .fieldAddr 1 (.t 6)⟩,
⟨some 79, none, .load none (.t 78)⟩,
⟨some 4, none, .mv (.t 79)⟩] [6, 78, 79]))))))
(.reg false [
⟨some 80, none, .bin .add (.t 28) (.k (.d (.int .i64 1)))⟩,
⟨some 28, none, .mv (.t 80)⟩] [80]))))

/-- "turnround/calendar.CheckZone" -/
def c_calendar_CheckZone : CF := ⟨[.tmp 2],
  (.seq (.reg false [
⟨some 1, none, .box ty_calendar_Zone (.t 0)⟩,
⟨some 2, none, .mv (.k (.d (.int .i64 0)))⟩] [0, 2])
(.seq (.seq (.reg true [
⟨some 10, none, .fieldAddr 0 (.t 1)⟩,
⟨some 11, none, .load none (.t 10)⟩,
⟨some 12, none, .call false true (.k (.fn n_calendar_within [] [])) [.t 11, .k (.d (.int .i64 (-720))), .k (.d (.int .i64 840))]⟩,
⟨some 13, none, .fieldAddr 1 (.t 1)⟩,
⟨some 14, none, .load none (.t 13)⟩,
⟨some 15, none, .len .slc (.t 14)⟩,
⟨some 16, none, .bin .gtr (.t 15) (.k (.d (.int .i64 64)))⟩,
⟨some 17, none, .call false true (.k (.fn n_calendar_when [] [])) [.t 16, .k (.d (.int .i64 5))]⟩,
⟨some 18, none, .mkList 1 2 [.t 12, .t 17]⟩,
⟨some 19, none, .call false true (.k (.fn n_calendar_first [] [])) [.t 18]⟩,
⟨some 3, none, .mv (.t 19)⟩] [10, 11, 12, 13, 14, 15, 16, 17, 18, 19])
(.seq (.reg false [
⟨some 20, none, .mv (.t 3)⟩,
⟨some 21, none, .bin .neq (.t 20) (.k (.d (.int .i64 0)))⟩] [20])
(.cond (.t 21) (.seq (.reg false [
⟨some 22, none, .mv (.t 3)⟩,
⟨some 2, none, .mv (.t 22)⟩] [3, 22])
.ret)
 .skip)))
(.seq (.reg false [
⟨some 23, none, .fieldAddr 0 (.t 1)⟩,
⟨some 24, none, .load none (.t 23)⟩,
⟨some 4, none, .mv (.t 24)⟩] [23, 24])
(.seq (.seq (.reg false [
⟨some 25, none, .fieldAddr 1 (.t 1)⟩,
⟨some 26, none, .load none (.t 25)⟩,
⟨some 27, none, .len .slc (.t 26)⟩,
⟨some 28, none, .mv (.k (.d (.int .i64 0)))⟩] [25])
(.block 0 (.loop [1, 4, 26, 27, 28] b_calendar_CheckZone_1)))
(.seq (.reg false [
⟨some 2, none, .mv (.k (.d (.int .i64 0)))⟩] [])
.ret)))))⟩

/-- "turnround/calendar.Local" -/
def c_calendar_Local : CF := ⟨[.tmp 4, .tmp 5],
  (.seq (.reg false [
⟨some 2, none, .box ty_calendar_Zone (.t 0)⟩,
⟨some 4, none, .mv (.k (.d (.int .i64 0)))⟩,
⟨some 5, none, .mv (.k (.d (.int .i64 0)))⟩] [0, 4, 5])
(.seq (.seq (.reg false [
⟨some 8, none, .load (some 2) (.t 2)⟩,
⟨some 9, none, .call false true (.k (.fn n_calendar_CheckZone [] [])) [.t 8]⟩,
⟨some 10, none, .mv (.t 1)⟩,
⟨some 11, none, .call false true (.k (.fn n_calendar_checkMoment [] [])) [.t 10]⟩,
⟨some 12, none, .mkList 1 2 [.t 9, .t 11]⟩,
⟨some 13, none, .call false true (.k (.fn n_calendar_first [] [])) [.t 12]⟩,
⟨some 6, none, .mv (.t 13)⟩] [8, 9, 10, 11, 12, 13])
(.seq (.reg false [
⟨some 14, none, .mv (.t 6)⟩,
⟨some 15, none, .bin .neq (.t 14) (.k (.d (.int .i64 0)))⟩] [14])
(.cond (.t 15) (.seq (.reg false [
⟨some 16, none, .mv (.t 6)⟩,
⟨some 4, none, .mv (.k (.d (.int .i64 0)))⟩,
⟨some 5, none, .mv (.t 16)⟩] [6, 16])
.ret)
 .skip)))
(.seq (.reg false [
⟨some 17, none, .mv (.t 1)⟩,
⟨some 18, none, .load (some 2) (.t 2)⟩,
⟨some 19, none, .mv (.t 1)⟩,
⟨some 20, none, .call false true (.k (.fn n_calendar_Zone_at [] [])) [.t 18, .t 19]⟩,
⟨some 21, none, .bin .add (.t 17) (.t 20)⟩,
⟨some 7, none, .mv (.t 21)⟩] [1, 2, 17, 18, 19, 20, 21])
(.seq (.seq (.reg false [
⟨some 22, none, .mv (.t 7)⟩,
⟨some 23, none, .call false true (.k (.fn n_calendar_checkMoment [] [])) [.t 22]⟩,
⟨some 24, none, .bin .neq (.t 23) (.k (.d (.int .i64 0)))⟩] [22, 23])
(.cond (.t 24) (.seq (.reg false [
⟨some 4, none, .mv (.k (.d (.int .i64 0)))⟩,
⟨some 5, none, .mv (.k (.d (.int .i64 30)))⟩] [])
.ret)
 .skip))
(.seq (.reg false [
⟨some 25, none, .mv (.t 7)⟩,
⟨some 4, none, .mv (.t 25)⟩,
⟨some 5, none, .mv (.k (.d (.int .i64 0)))⟩] [7, 25])
.ret)))))⟩

def b_calendar_Universal_1 : C :=
  (.seq (.reg false [
⟨some 30, none, .bin .lss (.t 29) (.t 28)⟩] [])
(.seq (.cond (.t 30) .skip
 (.exit 0))
(.seq (.block 1 (.seq (.reg false [
⟨some 31, none, .idxAddr 2 (.t 27) (.t 29)⟩,
⟨some 32, none, .load (some 2) (.t 31)⟩,
⟨some 9, none, .alloc ty_calendar_Change [.z (.int .i64 0), .z (.int .i64 0)]⟩,
⟨none, none, .store 2 (.t 9) (.t 32)⟩] [31, 32])
(.reg false [
⟨some 33, none, .mv (.t 7)⟩,
⟨some 34, none, .fieldAddr 1 (.t 9)⟩,
⟨some 35, none, .load none (.t 34)⟩,
⟨some 36, none, .mkList 1 1 [.t 35]⟩,
⟨some 37, none, .append ⟨false, ty_int, 1, 8⟩ (.t 33) (.t 36)⟩,
⟨some 7, none, .mv (.t 37)⟩] [9, 33, 34, 35, 36, 37])))
(.reg false [
⟨some 38, none, .bin .add (.t 29) (.k (.d (.int .i64 1)))⟩,
⟨some 29, none, .mv (.t 38)⟩] [38]))))

def b_calendar_Universal_2 : C :=
  (.seq (.reg false [
⟨some 42, none, .bin .lss (.t 41) (.t 40)⟩] [])
(.seq (.cond (.t 42) .skip
 (.exit 2))
(.seq (.block 3 (.seq (.reg false [
⟨some 43, none, .idxAddr 1 (.t 39) (.t 41)⟩,
⟨some 44, none, .load none (.t 43)⟩,
⟨some 12, none, .mv (.t 44)⟩] [43, 44])
(.seq (.reg false [
⟨some 45, none, .mv (.t 1)⟩,
⟨some 46, none, .mv (.t 12)⟩,
⟨some 47, none, .bin .sub (.t 45) (.t 46)⟩,
⟨some 13, none, .mv (.t 47)⟩] [45, 46, 47])
(.seq (.reg false [
⟨some 48, none, .mv (.t 13)⟩,
⟨some 49, none, .call false true (.k (.fn n_calendar_checkMoment [] [])) [.t 48]⟩,
⟨some 50, none, .bin .eql (.t 49) (.k (.d (.int .i64 0)))⟩,
⟨some 51, none, .mv (.t 50)⟩,
⟨some 52, (some (51, true)), .load (some 2) (.t 2)⟩,
⟨some 53, (some (51, true)), .mv (.t 13)⟩,
⟨some 54, (some (51, true)), .call false true (.k (.fn n_calendar_Zone_at [] [])) [.t 52, .t 53]⟩,
⟨some 55, (some (51, true)), .mv (.t 12)⟩,
⟨some 56, (some (51, true)), .bin .eql (.t 54) (.t 55)⟩,
⟨some 57, none, .pick (.t 51) (.t 56) (.k (.d (.bool false)))⟩] [12, 48, 49, 50, 51, 52, 53, 54, 55, 56])
(.cond (.t 57) (.reg false [
⟨some 58, none, .mv (.t 10)⟩,
⟨some 59, none, .mv (.t 13)⟩,
⟨some 60, none, .mkList 1 1 [.t 59]⟩,
⟨some 61, none, .append ⟨true, ty_int, 1, 8⟩ (.t 58) (.t 60)⟩,
⟨some 10, none, .mv (.t 61)⟩] [13, 58, 59, 60, 61])
 .skip)))))
(.reg false [
⟨some 62, none, .bin .add (.t 41) (.k (.d (.int .i64 1)))⟩,
⟨some 41, none, .mv (.t 62)⟩] [62]))))

/-- "turnround/calendar.Universal" -/
def c_calendar_Universal : CF := ⟨[.tmp 4, .tmp 5],
  (.seq (.reg false [
⟨some 2, none, .box ty_calendar_Zone (.t 0)⟩,
⟨some 4, none, .ownNil ⟨true, ty_int, 1, 8⟩⟩,
⟨some 5, none, .mv (.k (.d (.int .i64 0)))⟩] [0, 4, 5])
(.seq (.seq (.reg false [
⟨some 14, none, .load (some 2) (.t 2)⟩,
⟨some 15, none, .call false true (.k (.fn n_calendar_CheckZone [] [])) [.t 14]⟩,
⟨some 16, none, .mv (.t 1)⟩,
⟨some 17, none, .call false true (.k (.fn n_calendar_checkMoment [] [])) [.t 16]⟩,
⟨some 18, none, .mkList 1 2 [.t 15, .t 17]⟩,
⟨some 19, none, .call false true (.k (.fn n_calendar_first [] [])) [.t 18]⟩,
⟨some 6, none, .mv (.t 19)⟩] [14, 15, 16, 17, 18, 19])
(.seq (.reg false [
⟨some 20, none, .mv (.t 6)⟩,
⟨some 21, none, .bin .neq (.t 20) (.k (.d (.int .i64 0)))⟩] [20])
(.cond (.t 21) (.seq (.reg false [
⟨some 22, none, .mv (.t 6)⟩,
⟨some 4, none, .ownNil ⟨true, ty_int, 1, 8⟩⟩,
⟨some 5, none, .mv (.t 22)⟩] [6, 22])
.ret)
 .skip)))
(.seq (.reg false [
⟨some 23, none, .fieldAddr 0 (.t 2)⟩,
⟨some 24, none, .load none (.t 23)⟩,
⟨some 25, none, .mkRow ⟨false, ty_int, 1, 8⟩ 1 [.t 24]⟩,
⟨some 7, none, .mv (.t 25)⟩] [23, 24, 25])
(.seq (.seq (.reg false [
⟨some 26, none, .fieldAddr 1 (.t 2)⟩,
⟨some 27, none, .load none (.t 26)⟩,
⟨some 28, none, .len .slc (.t 27)⟩,
⟨some 29, none, .mv (.k (.d (.int .i64 0)))⟩] [26])
(.block 0 (.loop [1, 2, 7, 27, 28, 29] b_calendar_Universal_1)))
(.seq (.reg false [
⟨some 10, none, .ownNil ⟨true, ty_int, 1, 8⟩⟩] [])
(.seq (.seq (.reg false [
⟨some 39, none, .mv (.t 7)⟩,
⟨some 40, none, .len .slc (.t 39)⟩,
⟨some 41, none, .mv (.k (.d (.int .i64 0)))⟩] [7])
(.block 2 (.loop [1, 2, 10, 39, 40, 41] b_calendar_Universal_2)))
(.seq (.reg false [
⟨some 63, none, .mv (.t 10)⟩,
⟨some 64, none, .call true true (.k (.fn n_slices_Sort_Lint_int [] [])) [.t 63]⟩] [63, 64])
(.seq (.reg false [
⟨some 65, none, .mv (.t 10)⟩,
⟨some 66, none, .call true false (.k (.fn n_slices_Compact_Lint_int [] [])) [.t 65]⟩,
⟨some 10, none, .mv (.t 66)⟩] [65, 66])
(.seq (.reg false [
⟨some 67, none, .mv (.t 10)⟩,
⟨some 68, none, .mv (.t 10)⟩,
⟨some 69, none, .len .slc (.t 68)⟩,
⟨some 70, none, .bin .eql (.t 69) (.k (.d (.int .i64 0)))⟩,
⟨some 71, none, .call false true (.k (.fn n_calendar_when [] [])) [.t 70, .k (.d (.int .i64 7))]⟩,
⟨some 4, none, .mv (.t 67)⟩,
⟨some 5, none, .mv (.t 71)⟩] [10, 67, 68, 69, 70, 71])
.ret)))))))))⟩

/-- "turnround/turnroundlaw01.first" -/
def c_law01_first : CF := ⟨[.tmp 2],
  (.seq (.reg false [
⟨some 2, none, .mv (.k (.d (.int .i64 0)))⟩] [2])
(.seq (.reg false [
⟨some 3, none, .mv (.t 0)⟩,
⟨some 4, none, .call false true (.k (.fn n_ref01_First [] [])) [.t 3]⟩,
⟨some 2, none, .mv (.t 4)⟩] [0, 3, 4])
.ret))⟩

/-- "turnround/turnroundref01.CheckMoment" -/
def c_ref01_CheckMoment : CF := ⟨[.tmp 2],
  (.seq (.reg false [
⟨some 2, none, .mv (.k (.d (.int .i64 0)))⟩] [2])
(.seq (.reg false [
⟨some 3, none, .mv (.t 0)⟩,
⟨some 4, none, .call false true (.k (.fn n_ref01_CheckRange [] [])) [.t 3, .k (.d (.int .i64 0)), .k (.d (.int .i64 143999999))]⟩,
⟨some 2, none, .mv (.t 4)⟩] [0, 3, 4])
.ret))⟩

/-- "turnround/turnroundlaw01.number" -/
def c_law01_number : CF := ⟨[.tmp 8],
  (.seq (.reg false [
⟨some 8, none, .mv (.k (.d (.bool false)))⟩] [8])
(.seq (.seq (.reg false [
⟨some 9, none, .mv (.t 2)⟩,
⟨some 10, none, .bin .neq (.t 9) (.k (.d (.int .i64 0)))⟩] [9])
(.cond (.t 10) (.seq (.reg false [
⟨some 11, none, .mv (.t 0)⟩,
⟨some 12, none, .bin .eql (.t 11) (.k (.d (.int .i64 0)))⟩,
⟨some 13, none, .mv (.t 12)⟩,
⟨some 14, (some (13, true)), .mv (.t 1)⟩,
⟨some 15, (some (13, true)), .mv (.t 2)⟩,
⟨some 16, (some (13, true)), .bin .eql (.t 14) (.t 15)⟩,
⟨some 17, none, .pick (.t 13) (.t 16) (.k (.d (.bool false)))⟩,
⟨some 8, none, .mv (.t 17)⟩] [0, 1, 2, 11, 12, 13, 14, 15, 16, 17])
.ret)
 .skip))
(.seq (.reg false [
⟨some 18, none, .mv (.t 1)⟩,
⟨some 19, none, .bin .eql (.t 18) (.k (.d (.int .i64 0)))⟩,
⟨some 20, none, .mv (.t 19)⟩,
⟨some 21, (some (20, true)), .mv (.t 0)⟩,
⟨some 22, (some (20, true)), .mv (.t 3)⟩,
⟨some 23, (some (20, true)), .bin .eql (.t 21) (.t 22)⟩,
⟨some 24, none, .pick (.t 20) (.t 23) (.k (.d (.bool false)))⟩,
⟨some 8, none, .mv (.t 24)⟩] [0, 1, 3, 18, 19, 20, 21, 22, 23, 24])
.ret)))⟩

/-- "turnround/turnroundlaw01.list" -/
def c_law01_list : CF := ⟨[.tmp 8],
  (.seq (.reg false [
⟨some 8, none, .mv (.k (.d (.bool false)))⟩] [8])
(.seq (.seq (.reg false [
⟨some 9, none, .mv (.t 2)⟩,
⟨some 10, none, .bin .neq (.t 9) (.k (.d (.int .i64 0)))⟩] [9])
(.cond (.t 10) (.seq (.reg false [
⟨some 11, none, .mv (.t 0)⟩,
⟨some 12, none, .len .slc (.t 11)⟩,
⟨some 13, none, .bin .eql (.t 12) (.k (.d (.int .i64 0)))⟩,
⟨some 14, none, .mv (.t 13)⟩,
⟨some 15, (some (14, true)), .mv (.t 1)⟩,
⟨some 16, (some (14, true)), .mv (.t 2)⟩,
⟨some 17, (some (14, true)), .bin .eql (.t 15) (.t 16)⟩,
⟨some 18, none, .pick (.t 14) (.t 17) (.k (.d (.bool false)))⟩,
⟨some 8, none, .mv (.t 18)⟩] [0, 1, 2, 11, 12, 13, 14, 15, 16, 17, 18])
.ret)
 .skip))
(.seq (.reg false [
⟨some 19, none, .mv (.t 1)⟩,
⟨some 20, none, .bin .eql (.t 19) (.k (.d (.int .i64 0)))⟩,
⟨some 21, none, .mv (.t 20)⟩,
⟨some 22, (some (21, true)), .mv (.t 0)⟩,
⟨some 23, (some (21, true)), .mv (.t 3)⟩,
⟨some 24, (some (21, true)), .call false true (.k (.fn n_ref01_SameInts [] [])) [.t 22, .t 23]⟩,
⟨some 25, none, .pick (.t 21) (.t 24) (.k (.d (.bool false)))⟩,
⟨some 8, none, .mv (.t 25)⟩] [0, 1, 3, 19, 20, 21, 22, 23, 24, 25])
.ret)))⟩

/-- "turnround/turnroundref01.Local" -/
def c_ref01_Local : CF := ⟨[.tmp 4],
  (.seq (.reg false [
⟨some 2, none, .box ty_turnroundref01_Zone (.t 0)⟩,
⟨some 4, none, .mv (.k (.d (.int .i64 0)))⟩] [0, 4])
(.seq (.reg false [
⟨some 5, none, .mv (.t 1)⟩,
⟨some 6, none, .load (some 2) (.t 2)⟩,
⟨some 7, none, .mv (.t 1)⟩,
⟨some 8, none, .call false true (.k (.fn n_ref01_Offset [] [])) [.t 6, .t 7]⟩,
⟨some 9, none, .bin .add (.t 5) (.t 8)⟩,
⟨some 4, none, .mv (.t 9)⟩] [1, 2, 5, 6, 7, 8, 9])
.ret))⟩

def b_ref01_Universal_1 : C :=
  (.seq (.seq (.reg false [
⟨some 10, none, .mv (.t 6)⟩,
⟨some 11, none, .mv (.t 1)⟩,
⟨some 12, none, .bin .sub (.t 11) (.k (.d (.int .i64 (-720))))⟩,
⟨some 13, none, .minmax false [.k (.d (.int .i64 143999999)), .t 12]⟩,
⟨some 14, none, .bin .leq (.t 10) (.t 13)⟩] [10, 11, 12, 13])
(.cond (.t 14) .skip
 (.exit 0)))
(.seq (.block 1 (.seq (.reg false [
⟨some 17, none, .load (some 2) (.t 2)⟩,
⟨some 18, none, .mv (.t 6)⟩,
⟨some 19, none, .call false true (.k (.fn n_ref01_Local [] [])) [.t 17, .t 18]⟩,
⟨some 20, none, .mv (.t 1)⟩,
⟨some 21, none, .bin .eql (.t 19) (.t 20)⟩] [17, 18, 19, 20])
(.cond (.t 21) (.reg false [
⟨some 22, none, .mv (.t 5)⟩,
⟨some 23, none, .mv (.t 6)⟩,
⟨some 24, none, .mkList 1 1 [.t 23]⟩,
⟨some 25, none, .append ⟨false, ty_int, 1, 8⟩ (.t 22) (.t 24)⟩,
⟨some 5, none, .mv (.t 25)⟩] [22, 23, 24, 25])
 .skip)))
(.reg false [
⟨some 15, none, .mv (.t 6)⟩,
⟨some 16, none, .bin .add (.t 15) (.k (.d (.int .i64 1)))⟩,
⟨some 6, none, .mv (.t 16)⟩] [15, 16])))

/-- "turnround/turnroundref01.Universal" -/
def c_ref01_Universal : CF := ⟨[.tmp 4],
  (.seq (.reg false [
⟨some 2, none, .box ty_turnroundref01_Zone (.t 0)⟩,
⟨some 4, none, .ownNil ⟨false, ty_int, 1, 8⟩⟩] [0, 4])
(.seq (.reg false [
⟨some 5, none, .ownNil ⟨false, ty_int, 1, 8⟩⟩] [])
(.seq (.seq (.reg false [
⟨some 7, none, .mv (.t 1)⟩,
⟨some 8, none, .bin .sub (.t 7) (.k (.d (.int .i64 840)))⟩,
⟨some 9, none, .minmax true [.k (.d (.int .i64 0)), .t 8]⟩,
⟨some 6, none, .mv (.t 9)⟩] [7, 8, 9])
(.block 0 (.loop [1, 2, 5, 6] b_ref01_Universal_1)))
(.seq (.reg false [
⟨some 26, none, .mv (.t 5)⟩,
⟨some 4, none, .mv (.t 26)⟩] [5, 26])
.ret))))⟩

def b_calendar_Summer_1 : C :=
  (.seq (.reg false [
⟨some 40, none, .bin .lss (.t 39) (.t 38)⟩] [])
(.seq (.cond (.t 40) .skip
 (.exit 0))
(.seq (.block 1 (.seq (.reg false [
⟨some 41, none, .mv (.t 39)⟩,
⟨some 10, none, .mv (.t 41)⟩] [41])
(.reg true [
⟨some 42, none, .fieldAddr 1 (.t 9)⟩,
⟨some 43, none, .load none (.t 42)⟩,
⟨some 44, none, .mv (.t 1)⟩,
⟨some 45, none, .mv (.t 10)⟩,
⟨some 46, none, .bin .add (.t 44) (.t 45)⟩,
⟨some 47, none, .call false true (.k (.fn n_calendar_lastSunday [] [])) [.t 46, .k (.d (.int .i64 3))]⟩,
⟨some 48, none, .bin .mul (.k (.d (.int .i64 1440))) (.t 47)⟩,
⟨some 49, none, .bin .add (.t 48) (.k (.d (.int .i64 60)))⟩,
⟨some 50, none, .mv (.t 0)⟩,
⟨some 51, none, .bin .add (.t 50) (.k (.d (.int .i64 60)))⟩,
⟨some 52, none, .build [.z (.int .i64 0), .z (.int .i64 0)] [(0, 1, .t 49), (1, 1, .t 51)]⟩,
⟨some 53, none, .mv (.t 1)⟩,
⟨some 54, none, .mv (.t 10)⟩,
⟨some 55, none, .bin .add (.t 53) (.t 54)⟩,
⟨some 56, none, .call false true (.k (.fn n_calendar_lastSunday [] [])) [.t 55, .k (.d (.int .i64 10))]⟩,
⟨some 57, none, .bin .mul (.k (.d (.int .i64 1440))) (.t 56)⟩,
⟨some 58, none, .bin .add (.t 57) (.k (.d (.int .i64 60)))⟩,
⟨some 59, none, .mv (.t 0)⟩,
⟨some 60, none, .build [.z (.int .i64 0), .z (.int .i64 0)] [(0, 1, .t 58), (1, 1, .t 59)]⟩,
⟨some 61, none, .mkList 2 2 [.t 52, .t 60]⟩,
⟨some 62, none, .append ⟨false, ty_calendar_Change, 2, 16⟩ (.t 43) (.t 61)⟩,
⟨some 63, none, .fieldAddr 1 (.t 9)⟩,
⟨none, none, .store 1 (.t 63) (.t 62)⟩] [10, 42, 43, 44, 45, 46, 47, 48, 49, 50, 51, 52, 53, 54, 55, 56, 57, 58, 59, 60, 61, 62, 63])))
(.reg false [
⟨some 64, none, .bin .add (.t 39) (.k (.d (.int .i64 1)))⟩,
⟨some 39, none, .mv (.t 64)⟩] [64]))))

/-- "turnround/calendar.Summer" -/
def c_calendar_Summer : CF := ⟨[.cell 6 (some 2), .tmp 7],
  (.seq (.reg false [
⟨some 6, none, .alloc ty_calendar_Zone [.z (.int .i64 0), .own ⟨false, ty_calendar_Change, 2, 16⟩]⟩,
⟨some 7, none, .mv (.k (.d (.int .i64 0)))⟩] [7])
(.seq (.seq (.reg false [
⟨some 11, none, .mv (.t 0)⟩,
⟨some 12, none, .call false true (.k (.fn n_calendar_within [] [])) [.t 11, .k (.d (.int .i64 (-720))), .k (.d (.int .i64 780))]⟩,
⟨some 13, none, .mv (.t 1)⟩,
⟨some 14, none, .call false true (.k (.fn n_calendar_within [] [])) [.t 13, .k (.d (.int .i64 2000)), .k (.d (.int .i64 2272))]⟩,
⟨some 15, none, .mv (.t 2)⟩,
⟨some 16, none, .call false true (.k (.fn n_calendar_within [] [])) [.t 15, .k (.d (.int .i64 2000)), .k (.d (.int .i64 2272))]⟩,
⟨some 17, none, .mv (.t 2)⟩,
⟨some 18, none, .mv (.t 1)⟩,
⟨some 19, none, .bin .lss (.t 17) (.t 18)⟩,
⟨some 20, none, .call false true (.k (.fn n_calendar_when [] [])) [.t 19, .k (.d (.int .i64 11))]⟩,
⟨some 21, none, .mkList 1 4 [.t 12, .t 14, .t 16, .t 20]⟩,
⟨some 22, none, .call false true (.k (.fn n_calendar_first [] [])) [.t 21]⟩,
⟨some 8, none, .mv (.t 22)⟩] [11, 12, 13, 14, 15, 16, 17, 18, 19, 20, 21, 22])
(.seq (.reg false [
⟨some 23, none, .mv (.t 8)⟩,
⟨some 24, none, .bin .neq (.t 23) (.k (.d (.int .i64 0)))⟩] [23])
(.cond (.t 24) (.seq (.reg false [
⟨some 25, none, .build [.z (.int .i64 0), .own ⟨false, ty_calendar_Change, 2, 16⟩] []⟩,
⟨some 26, none, .mv (.t 8)⟩,
⟨none, none, .store 2 (.t 6) (.t 25)⟩,
⟨some 7, none, .mv (.t 26)⟩] [8, 25, 26])
.ret)
 .skip)))
(.seq (.seq (.reg false [
⟨some 27, none, .mv (.t 2)⟩,
⟨some 28, none, .mv (.t 1)⟩,
⟨some 29, none, .bin .sub (.t 27) (.t 28)⟩,
⟨some 30, none, .bin .add (.t 29) (.k (.d (.int .i64 1)))⟩,
⟨some 31, none, .bin .gtr (.t 30) (.k (.d (.int .i64 32)))⟩] [27, 28, 29, 30])
(.cond (.t 31) (.seq (.reg false [
⟨some 32, none, .build [.z (.int .i64 0), .own ⟨false, ty_calendar_Change, 2, 16⟩] []⟩,
⟨none, none, .store 2 (.t 6) (.t 32)⟩,
⟨some 7, none, .mv (.k (.d (.int .i64 5)))⟩] [32])
.ret)
 .skip))
(.seq (.reg false [
⟨some 33, none, .mv (.t 0)⟩,
⟨some 34, none, .build [.z (.int .i64 0), .own ⟨false, ty_calendar_Change, 2, 16⟩] [(0, 1, .t 33)]⟩,
⟨some 9, none, .alloc ty_calendar_Zone [.z (.int .i64 0), .own ⟨false, ty_calendar_Change, 2, 16⟩]⟩,
⟨none, none, .store 2 (.t 9) (.t 34)⟩] [33, 34])
(.seq (.seq (.reg false [
⟨some 35, none, .mv (.t 2)⟩,
⟨some 36, none, .mv (.t 1)⟩,
⟨some 37, none, .bin .sub (.t 35) (.t 36)⟩,
⟨some 38, none, .bin .add (.t 37) (.k (.d (.int .i64 1)))⟩,
⟨some 39, none, .mv (.k (.d (.int .i64 0)))⟩] [2, 35, 36, 37])
(.block 0 (.loop [0, 1, 6, 9, 38, 39] b_calendar_Summer_1)))
(.seq (.reg false [
⟨some 65, none, .load (some 2) (.t 9)⟩,
⟨none, none, .store 2 (.t 6) (.t 65)⟩,
⟨some 7, none, .mv (.k (.d (.int .i64 0)))⟩] [9, 65])
.ret))))))⟩

/-- "turnround/turnroundref01.CheckSummer" -/
def c_ref01_CheckSummer : CF := ⟨[.tmp 6],
  (.seq (.reg false [
⟨some 6, none, .mv (.k (.d (.int .i64 0)))⟩] [6])
(.seq (.seq (.reg false [
⟨some 7, none, .mv (.t 0)⟩,
⟨some 8, none, .call false true (.k (.fn n_ref01_CheckRange [] [])) [.t 7, .k (.d (.int .i64 (-720))), .k (.d (.int .i64 780))]⟩,
⟨some 9, none, .bin .neq (.t 8) (.k (.d (.int .i64 0)))⟩,
⟨some 10, none, .mv (.t 9)⟩,
⟨some 11, (some (10, false)), .mv (.t 1)⟩,
⟨some 12, (some (10, false)), .call false true (.k (.fn n_ref01_CheckRange [] [])) [.t 11, .k (.d (.int .i64 2000)), .k (.d (.int .i64 2272))]⟩,
⟨some 13, (some (10, false)), .bin .neq (.t 12) (.k (.d (.int .i64 0)))⟩,
⟨some 14, none, .pick (.t 10) (.k (.d (.bool true))) (.t 13)⟩,
⟨some 15, none, .mv (.t 14)⟩,
⟨some 16, (some (15, false)), .mv (.t 2)⟩,
⟨some 17, (some (15, false)), .call false true (.k (.fn n_ref01_CheckRange [] [])) [.t 16, .k (.d (.int .i64 2000)), .k (.d (.int .i64 2272))]⟩,
⟨some 18, (some (15, false)), .bin .neq (.t 17) (.k (.d (.int .i64 0)))⟩,
⟨some 19, none, .pick (.t 15) (.k (.d (.bool true))) (.t 18)⟩] [0, 7, 8, 9, 10, 11, 12, 13, 14, 15, 16, 17, 18])
(.cond (.t 19) (.seq (.reg false [
⟨some 6, none, .mv (.k (.d (.int .i64 3)))⟩] [])
.ret)
 .skip))
(.seq (.seq (.reg false [
⟨some 20, none, .mv (.t 2)⟩,
⟨some 21, none, .mv (.t 1)⟩,
⟨some 22, none, .bin .lss (.t 20) (.t 21)⟩] [20, 21])
(.cond (.t 22) (.seq (.reg false [
⟨some 6, none, .mv (.k (.d (.int .i64 11)))⟩] [])
.ret)
 .skip))
(.seq (.seq (.reg false [
⟨some 23, none, .mv (.t 2)⟩,
⟨some 24, none, .mv (.t 1)⟩,
⟨some 25, none, .bin .sub (.t 23) (.t 24)⟩,
⟨some 26, none, .bin .add (.t 25) (.k (.d (.int .i64 1)))⟩,
⟨some 27, none, .bin .gtr (.t 26) (.k (.d (.int .i64 32)))⟩] [1, 2, 23, 24, 25, 26])
(.cond (.t 27) (.seq (.reg false [
⟨some 6, none, .mv (.k (.d (.int .i64 5)))⟩] [])
.ret)
 .skip))
(.seq (.reg false [
⟨some 6, none, .mv (.k (.d (.int .i64 0)))⟩] [])
.ret)))))⟩

def b_ref01_Summer_1 : C :=
  (.seq (.seq (.reg false [
⟨some 12, none, .mv (.t 8)⟩,
⟨some 13, none, .mv (.t 2)⟩,
⟨some 14, none, .bin .leq (.t 12) (.t 13)⟩] [12, 13])
(.cond (.t 14) .skip
 (.exit 0)))
(.seq (.block 1 (.seq (.reg true [
⟨some 17, none, .fieldAddr 1 (.t 7)⟩,
⟨some 18, none, .load none (.t 17)⟩,
⟨some 19, none, .mv (.t 8)⟩,
⟨some 20, none, .call false true (.k (.fn n_ref01_LastSunday [] [])) [.t 19, .k (.d (.int .i64 3))]⟩,
⟨some 21, none, .bin .mul (.k (.d (.int .i64 1440))) (.t 20)⟩,
⟨some 22, none, .bin .add (.t 21) (.k (.d (.int .i64 60)))⟩,
⟨some 23, none, .mv (.t 0)⟩,
⟨some 24, none, .bin .add (.t 23) (.k (.d (.int .i64 60)))⟩,
⟨some 25, none, .build [.z (.int .i64 0), .z (.int .i64 0)] [(0, 1, .t 22), (1, 1, .t 24)]⟩,
⟨some 26, none, .mkList 2 1 [.t 25]⟩,
⟨some 27, none, .append ⟨false, ty_turnroundref01_Change, 2, 16⟩ (.t 18) (.t 26)⟩,
⟨some 28, none, .fieldAddr 1 (.t 7)⟩,
⟨none, none, .store 1 (.t 28) (.t 27)⟩] [17, 18, 19, 20, 21, 22, 23, 24, 25, 26, 27, 28])
(.reg true [
⟨some 29, none, .fieldAddr 1 (.t 7)⟩,
⟨some 30, none, .load none (.t 29)⟩,
⟨some 31, none, .mv (.t 8)⟩,
⟨some 32, none, .call false true (.k (.fn n_ref01_LastSunday [] [])) [.t 31, .k (.d (.int .i64 10))]⟩,
⟨some 33, none, .bin .mul (.k (.d (.int .i64 1440))) (.t 32)⟩,
⟨some 34, none, .bin .add (.t 33) (.k (.d (.int .i64 60)))⟩,
⟨some 35, none, .mv (.t 0)⟩,
⟨some 36, none, .build [.z (.int .i64 0), .z (.int .i64 0)] [(0, 1, .t 34), (1, 1, .t 35)]⟩,
⟨some 37, none, .mkList 2 1 [.t 36]⟩,
⟨some 38, none, .append ⟨false, ty_turnroundref01_Change, 2, 16⟩ (.t 30) (.t 37)⟩,
⟨some 39, none, .fieldAddr 1 (.t 7)⟩,
⟨none, none, .store 1 (.t 39) (.t 38)⟩] [29, 30, 31, 32, 33, 34, 35, 36, 37, 38, 39])))
(.reg false [
⟨some 15, none, .mv (.t 8)⟩,
⟨some 16, none, .bin .add (.t 15) (.k (.d (.int .i64 1)))⟩,
⟨some 8, none, .mv (.t 16)⟩] [15, 16])))

/-- "turnround/turnroundref01.Summer" -/
def c_ref01_Summer : CF := ⟨[.cell 6 (some 2)],
  (.seq (.reg false [
⟨some 6, none, .alloc ty_turnroundref01_Zone [.z (.int .i64 0), .own ⟨false, ty_turnroundref01_Change, 2, 16⟩]⟩] [])
(.seq (.reg false [
⟨some 9, none, .mv (.t 0)⟩,
⟨some 10, none, .build [.z (.int .i64 0), .own ⟨false, ty_turnroundref01_Change, 2, 16⟩] [(0, 1, .t 9)]⟩,
⟨some 7, none, .alloc ty_turnroundref01_Zone [.z (.int .i64 0), .own ⟨false, ty_turnroundref01_Change, 2, 16⟩]⟩,
⟨none, none, .store 2 (.t 7) (.t 10)⟩] [9, 10])
(.seq (.seq (.reg false [
⟨some 11, none, .mv (.t 1)⟩,
⟨some 8, none, .mv (.t 11)⟩] [1, 11])
(.block 0 (.loop [0, 2, 6, 7, 8] b_ref01_Summer_1)))
(.seq (.reg false [
⟨some 40, none, .load (some 2) (.t 7)⟩,
⟨none, none, .store 2 (.t 6) (.t 40)⟩] [7, 40])
.ret))))⟩

def b_ref01_SameZone_1 : C :=
  (.seq (.seq (.reg false [
⟨some 20, none, .mv (.t 5)⟩,
⟨some 21, none, .fieldAddr 1 (.t 2)⟩,
⟨some 22, none, .load none (.t 21)⟩,
⟨some 23, none, .len .slc (.t 22)⟩,
⟨some 24, none, .bin .lss (.t 20) (.t 23)⟩] [20, 21, 22, 23])
(.cond (.t 24) .skip
 (.exit 0)))
(.seq (.block 1 (.seq (.reg true [
⟨some 27, none, .fieldAddr 1 (.t 2)⟩,
⟨some 28, none, .load none (.t 27)⟩,
⟨some 29, none, .mv (.t 5)⟩,
⟨some 30, none, .idxAddr 2 (.t 28) (.t 29)⟩,
⟨some 31, none, .load (some 2) (.t 30)⟩,
⟨some 32, none, .fieldAddr 1 (.t 3)⟩,
⟨some 33, none, .load none (.t 32)⟩,
⟨some 34, none, .mv (.t 5)⟩,
⟨some 35, none, .idxAddr 2 (.t 33) (.t 34)⟩,
⟨some 36, none, .load (some 2) (.t 35)⟩,
⟨some 37, none, .eqv (some [.int, .int]) true (.t 31) (.t 36)⟩] [27, 28, 29, 30, 31, 32, 33, 34, 35, 36])
(.cond (.t 37) (.seq (.reg false [
⟨some 4, none, .mv (.k (.d (.bool false)))⟩] [])
.ret)
 .skip)))
(.reg false [
⟨some 25, none, .mv (.t 5)⟩,
⟨some 26, none, .bin .add (.t 25) (.k (.d (.int .i64 1)))⟩,
⟨some 5, none, .mv (.t 26)⟩] [25, 26])))

/-- "turnround/turnroundref01.SameZone" -/
def c_ref01_SameZone : CF := ⟨[.tmp 4],
  (.seq (.reg false [
⟨some 2, none, .box ty_turnroundref01_Zone (.t 0)⟩,
⟨some 3, none, .box ty_turnroundref01_Zone (.t 1)⟩,
⟨some 4, none, .mv (.k (.d (.bool false)))⟩] [0, 1, 4])
(.seq (.seq (.reg false [
⟨some 6, none, .fieldAddr 0 (.t 2)⟩,
⟨some 7, none, .load none (.t 6)⟩,
⟨some 8, none, .fieldAddr 0 (.t 3)⟩,
⟨some 9, none, .load none (.t 8)⟩,
⟨some 10, none, .bin .neq (.t 7) (.t 9)⟩,
⟨some 11, none, .mv (.t 10)⟩,
⟨some 12, (some (11, false)), .fieldAddr 1 (.t 2)⟩,
⟨some 13, (some (11, false)), .load none (.t 12)⟩,
⟨some 14, (some (11, false)), .len .slc (.t 13)⟩,
⟨some 15, (some (11, false)), .fieldAddr 1 (.t 3)⟩,
⟨some 16, (some (11, false)), .load none (.t 15)⟩,
⟨some 17, (some (11, false)), .len .slc (.t 16)⟩,
⟨some 18, (some (11, false)), .bin .neq (.t 14) (.t 17)⟩,
⟨some 19, none, .pick (.t 11) (.k (.d (.bool true))) (.t 18)⟩] [6, 7, 8, 9, 10, 11, 12, 13, 14, 15, 16, 17, 18])
(.cond (.t 19) (.seq (.reg false [
⟨some 4, none, .mv (.k (.d (.bool false)))⟩] [])
.ret)
 .skip))
(.seq (.seq (.reg false [
⟨some 5, none, .mv (.k (.d (.int .i64 0)))⟩] [])
(.block 0 (.loop [2, 3, 5] b_ref01_SameZone_1)))
(.seq (.reg false [
⟨some 4, none, .mv (.k (.d (.bool true)))⟩] [])
.ret))))⟩

def b_calendar_Draw_1 : C :=
  (.seq (.reg false [
⟨some 24, none, .bin .lss (.t 23) (.t 22)⟩] [])
(.seq (.cond (.t 24) .skip
 (.exit 0))
(.seq (.block 1 (.seq (.reg false [
⟨some 25, none, .mv (.t 23)⟩,
⟨some 8, none, .mv (.t 25)⟩] [25])
(.reg false [
⟨some 26, none, .mv (.t 7)⟩,
⟨some 27, none, .mv (.t 8)⟩,
⟨some 28, none, .mkList 1 1 [.t 27]⟩,
⟨some 29, none, .append ⟨false, ty_int, 1, 8⟩ (.t 26) (.t 28)⟩,
⟨some 7, none, .mv (.t 29)⟩] [8, 26, 27, 28, 29])))
(.reg false [
⟨some 30, none, .bin .add (.t 23) (.k (.d (.int .i64 1)))⟩,
⟨some 23, none, .mv (.t 30)⟩] [30]))))

def b_calendar_Draw_2 : C :=
  (.seq (.seq (.reg false [
⟨some 39, none, .mv (.t 11)⟩,
⟨some 40, none, .bin .gtr (.t 39) (.k (.d (.int .i64 0)))⟩] [39])
(.cond (.t 40) .skip
 (.exit 2)))
(.seq (.block 3 (.seq (.reg false [
⟨some 43, none, .mv (.t 10)⟩,
⟨some 44, none, .bin .mul (.k (.d (.int .i64 48271))) (.t 43)⟩,
⟨some 45, none, .bin .rem (.t 44) (.k (.d (.int .i64 2147483647)))⟩,
⟨some 10, none, .mv (.t 45)⟩] [43, 44, 45])
(.seq (.reg false [
⟨some 46, none, .mv (.t 10)⟩,
⟨some 47, none, .mv (.t 11)⟩,
⟨some 48, none, .bin .add (.t 47) (.k (.d (.int .i64 1)))⟩,
⟨some 49, none, .bin .rem (.t 46) (.t 48)⟩,
⟨some 12, none, .mv (.t 49)⟩] [46, 47, 48, 49])
(.reg true [
⟨some 50, none, .mv (.t 9)⟩,
⟨some 51, none, .mv (.t 11)⟩,
⟨some 52, none, .mv (.t 9)⟩,
⟨some 53, none, .mv (.t 12)⟩,
⟨some 54, none, .mv (.t 9)⟩,
⟨some 55, none, .mv (.t 12)⟩,
⟨some 56, none, .idxAddr 1 (.t 54) (.t 55)⟩,
⟨some 57, none, .load none (.t 56)⟩,
⟨some 58, none, .mv (.t 9)⟩,
⟨some 59, none, .mv (.t 11)⟩,
⟨some 60, none, .idxAddr 1 (.t 58) (.t 59)⟩,
⟨some 61, none, .load none (.t 60)⟩,
⟨some 62, none, .idxAddr 1 (.t 50) (.t 51)⟩,
⟨none, none, .store 1 (.t 62) (.t 57)⟩,
⟨some 63, none, .idxAddr 1 (.t 52) (.t 53)⟩,
⟨none, none, .store 1 (.t 63) (.t 61)⟩] [12, 50, 51, 52, 53, 54, 55, 56, 57, 58, 59, 60, 61, 62, 63]))))
(.reg false [
⟨some 41, none, .mv (.t 11)⟩,
⟨some 42, none, .bin .sub (.t 41) (.k (.d (.int .i64 1)))⟩,
⟨some 11, none, .mv (.t 42)⟩] [41, 42])))

/-- "turnround/calendar.Draw" -/
def c_calendar_Draw : CF := ⟨[.tmp 4, .tmp 5],
  (.seq (.reg false [
⟨some 4, none, .ownNil ⟨true, ty_int, 1, 8⟩⟩,
⟨some 5, none, .mv (.k (.d (.int .i64 0)))⟩] [4, 5])
(.seq (.seq (.reg false [
⟨some 13, none, .mv (.t 0)⟩,
⟨some 14, none, .call false true (.k (.fn n_calendar_within [] [])) [.t 13, .k (.d (.int .i64 1)), .k (.d (.int .i64 2147483646))]⟩,
⟨some 15, none, .mv (.t 1)⟩,
⟨some 16, none, .call false true (.k (.fn n_calendar_within [] [])) [.t 15, .k (.d (.int .i64 0)), .k (.d (.int .i64 256))]⟩,
⟨some 17, none, .mkList 1 2 [.t 14, .t 16]⟩,
⟨some 18, none, .call false true (.k (.fn n_calendar_first [] [])) [.t 17]⟩,
⟨some 6, none, .mv (.t 18)⟩] [13, 14, 15, 16, 17, 18])
(.seq (.reg false [
⟨some 19, none, .mv (.t 6)⟩,
⟨some 20, none, .bin .neq (.t 19) (.k (.d (.int .i64 0)))⟩] [19])
(.cond (.t 20) (.seq (.reg false [
⟨some 21, none, .mv (.t 6)⟩,
⟨some 4, none, .ownNil ⟨true, ty_int, 1, 8⟩⟩,
⟨some 5, none, .mv (.t 21)⟩] [6, 21])
.ret)
 .skip)))
(.seq (.reg false [
⟨some 7, none, .ownNil ⟨false, ty_int, 1, 8⟩⟩] [])
(.seq (.seq (.reg false [
⟨some 22, none, .mv (.t 1)⟩,
⟨some 23, none, .mv (.k (.d (.int .i64 0)))⟩] [])
(.block 0 (.loop [0, 1, 7, 22, 23] b_calendar_Draw_1)))
(.seq (.reg false [
⟨some 31, none, .mv (.t 1)⟩,
⟨some 32, none, .makeRow ⟨true, ty_int, 1, 8⟩ [.int .i64 0] (.t 31)⟩,
⟨some 9, none, .mv (.t 32)⟩] [31, 32])
(.seq (.reg false [
⟨some 33, none, .mv (.t 9)⟩,
⟨some 34, none, .mv (.t 7)⟩,
⟨some 35, none, .copy 1 (.t 33) (.t 34)⟩] [7, 33, 34, 35])
(.seq (.reg false [
⟨some 36, none, .mv (.t 0)⟩,
⟨some 10, none, .mv (.t 36)⟩] [0, 36])
(.seq (.seq (.reg false [
⟨some 37, none, .mv (.t 1)⟩,
⟨some 38, none, .bin .sub (.t 37) (.k (.d (.int .i64 1)))⟩,
⟨some 11, none, .mv (.t 38)⟩] [1, 37, 38])
(.block 2 (.loop [9, 10, 11] b_calendar_Draw_2)))
(.seq (.reg false [
⟨some 64, none, .mv (.t 9)⟩,
⟨some 4, none, .mv (.t 64)⟩,
⟨some 5, none, .mv (.k (.d (.int .i64 0)))⟩] [9, 64])
.ret)))))))))⟩

/-- "turnround/turnroundref01.CheckDraw" -/
def c_ref01_CheckDraw : CF := ⟨[.tmp 4],
  (.seq (.reg false [
⟨some 4, none, .mv (.k (.d (.int .i64 0)))⟩] [4])
(.seq (.seq (.reg false [
⟨some 5, none, .mv (.t 0)⟩,
⟨some 6, none, .call false true (.k (.fn n_ref01_CheckRange [] [])) [.t 5, .k (.d (.int .i64 1)), .k (.d (.int .i64 2147483646))]⟩,
⟨some 7, none, .bin .neq (.t 6) (.k (.d (.int .i64 0)))⟩,
⟨some 8, none, .mv (.t 7)⟩,
⟨some 9, (some (8, false)), .mv (.t 1)⟩,
⟨some 10, (some (8, false)), .call false true (.k (.fn n_ref01_CheckRange [] [])) [.t 9, .k (.d (.int .i64 0)), .k (.d (.int .i64 256))]⟩,
⟨some 11, (some (8, false)), .bin .neq (.t 10) (.k (.d (.int .i64 0)))⟩,
⟨some 12, none, .pick (.t 8) (.k (.d (.bool true))) (.t 11)⟩] [0, 1, 5, 6, 7, 8, 9, 10, 11])
(.cond (.t 12) (.seq (.reg false [
⟨some 4, none, .mv (.k (.d (.int .i64 3)))⟩] [])
.ret)
 .skip))
(.seq (.reg false [
⟨some 4, none, .mv (.k (.d (.int .i64 0)))⟩] [])
.ret)))⟩

def b_ref01_Draw_1 : C :=
  (.seq (.seq (.reg false [
⟨some 9, none, .mv (.t 6)⟩,
⟨some 10, none, .mv (.t 1)⟩,
⟨some 11, none, .bin .lss (.t 9) (.t 10)⟩] [9, 10])
(.cond (.t 11) .skip
 (.exit 0)))
(.seq (.block 1 (.reg false [
⟨some 14, none, .mv (.t 5)⟩,
⟨some 15, none, .mv (.t 6)⟩,
⟨some 16, none, .mkList 1 1 [.t 15]⟩,
⟨some 17, none, .append ⟨true, ty_int, 1, 8⟩ (.t 14) (.t 16)⟩,
⟨some 5, none, .mv (.t 17)⟩] [14, 15, 16, 17]))
(.reg false [
⟨some 12, none, .mv (.t 6)⟩,
⟨some 13, none, .bin .add (.t 12) (.k (.d (.int .i64 1)))⟩,
⟨some 6, none, .mv (.t 13)⟩] [12, 13])))

def b_ref01_Draw_2 : C :=
  (.seq (.seq (.reg false [
⟨some 20, none, .mv (.t 7)⟩,
⟨some 21, none, .bin .gtr (.t 20) (.k (.d (.int .i64 0)))⟩] [20])
(.cond (.t 21) .skip
 (.exit 2)))
(.seq (.block 3 (.seq (.reg false [
⟨some 24, none, .mv (.t 0)⟩,
⟨some 25, none, .bin .mul (.k (.d (.int .i64 48271))) (.t 24)⟩,
⟨some 26, none, .bin .rem (.t 25) (.k (.d (.int .i64 2147483647)))⟩,
⟨some 0, none, .mv (.t 26)⟩] [24, 25, 26])
(.seq (.reg false [
⟨some 27, none, .mv (.t 0)⟩,
⟨some 28, none, .mv (.t 7)⟩,
⟨some 29, none, .bin .add (.t 28) (.k (.d (.int .i64 1)))⟩,
⟨some 30, none, .bin .rem (.t 27) (.t 29)⟩,
⟨some 8, none, .mv (.t 30)⟩] [27, 28, 29, 30])
(.reg true [
⟨some 31, none, .mv (.t 5)⟩,
⟨some 32, none, .mv (.t 7)⟩,
⟨some 33, none, .mv (.t 5)⟩,
⟨some 34, none, .mv (.t 8)⟩,
⟨some 35, none, .mv (.t 5)⟩,
⟨some 36, none, .mv (.t 8)⟩,
⟨some 37, none, .idxAddr 1 (.t 35) (.t 36)⟩,
⟨some 38, none, .load none (.t 37)⟩,
⟨some 39, none, .mv (.t 5)⟩,
⟨some 40, none, .mv (.t 7)⟩,
⟨some 41, none, .idxAddr 1 (.t 39) (.t 40)⟩,
⟨some 42, none, .load none (.t 41)⟩,
⟨some 43, none, .idxAddr 1 (.t 31) (.t 32)⟩,
⟨none, none, .store 1 (.t 43) (.t 38)⟩,
⟨some 44, none, .idxAddr 1 (.t 33) (.t 34)⟩,
⟨none, none, .store 1 (.t 44) (.t 42)⟩] [8, 31, 32, 33, 34, 35, 36, 37, 38, 39, 40, 41, 42, 43, 44]))))
(.reg false [
⟨some 22, none, .mv (.t 7)⟩,
⟨some 23, none, .bin .sub (.t 22) (.k (.d (.int .i64 1)))⟩,
⟨some 7, none, .mv (.t 23)⟩] [22, 23])))

/-- "turnround/turnroundref01.Draw" -/
def c_ref01_Draw : CF := ⟨[.tmp 4],
  (.seq (.reg false [
⟨some 4, none, .ownNil ⟨true, ty_int, 1, 8⟩⟩] [4])
(.seq (.reg false [
⟨some 5, none, .ownNil ⟨true, ty_int, 1, 8⟩⟩] [])
(.seq (.seq (.reg false [
⟨some 6, none, .mv (.k (.d (.int .i64 0)))⟩] [])
(.block 0 (.loop [0, 1, 5, 6] b_ref01_Draw_1)))
(.seq (.seq (.reg false [
⟨some 18, none, .mv (.t 1)⟩,
⟨some 19, none, .bin .sub (.t 18) (.k (.d (.int .i64 1)))⟩,
⟨some 7, none, .mv (.t 19)⟩] [1, 18, 19])
(.block 2 (.loop [0, 5, 7] b_ref01_Draw_2)))
(.seq (.reg false [
⟨some 45, none, .mv (.t 5)⟩,
⟨some 4, none, .mv (.t 45)⟩] [5, 45])
.ret)))))⟩

/-- "turnround/calendar.Day" -/
def c_calendar_Day : CF := ⟨[.tmp 6, .tmp 7],
  (.seq (.reg false [
⟨some 6, none, .mv (.k (.d (.int .i64 0)))⟩,
⟨some 7, none, .mv (.k (.d (.int .i64 0)))⟩] [6, 7])
(.seq (.seq (.reg false [
⟨some 10, none, .mv (.t 0)⟩,
⟨some 11, none, .call false true (.k (.fn n_calendar_within [] [])) [.t 10, .k (.d (.int .i64 2000)), .k (.d (.int .i64 2273))]⟩,
⟨some 12, none, .mv (.t 1)⟩,
⟨some 13, none, .call false true (.k (.fn n_calendar_within [] [])) [.t 12, .k (.d (.int .i64 1)), .k (.d (.int .i64 12))]⟩,
⟨some 14, none, .mv (.t 2)⟩,
⟨some 15, none, .call false true (.k (.fn n_calendar_within [] [])) [.t 14, .k (.d (.int .i64 1)), .k (.d (.int .i64 31))]⟩,
⟨some 16, none, .mkList 1 3 [.t 11, .t 13, .t 15]⟩,
⟨some 17, none, .call false true (.k (.fn n_calendar_first [] [])) [.t 16]⟩,
⟨some 8, none, .mv (.t 17)⟩] [10, 11, 12, 13, 14, 15, 16, 17])
(.seq (.reg false [
⟨some 18, none, .mv (.t 8)⟩,
⟨some 19, none, .bin .neq (.t 18) (.k (.d (.int .i64 0)))⟩] [18])
(.cond (.t 19) (.seq (.reg false [
⟨some 20, none, .mv (.t 8)⟩,
⟨some 6, none, .mv (.k (.d (.int .i64 0)))⟩,
⟨some 7, none, .mv (.t 20)⟩] [8, 20])
.ret)
 .skip)))
(.seq (.reg false [
⟨some 21, none, .mv (.t 0)⟩,
⟨some 22, none, .mv (.t 1)⟩,
⟨some 23, none, .mv (.t 2)⟩,
⟨some 24, none, .call false true (.k (.fn n_calendar_number [] [])) [.t 21, .t 22, .t 23]⟩,
⟨some 9, none, .mv (.t 24)⟩] [21, 22, 23, 24])
(.seq (.seq (.reg false [
⟨some 25, none, .mv (.t 2)⟩,
⟨some 26, none, .mv (.t 0)⟩,
⟨some 27, none, .mv (.t 1)⟩,
⟨some 28, none, .call false true (.k (.fn n_calendar_length [] [])) [.t 26, .t 27]⟩,
⟨some 29, none, .bin .gtr (.t 25) (.t 28)⟩,
⟨some 30, none, .mv (.t 29)⟩,
⟨some 31, (some (30, false)), .mv (.t 9)⟩,
⟨some 32, (some (30, false)), .bin .gtr (.t 31) (.k (.d (.int .i64 99999)))⟩,
⟨some 33, none, .pick (.t 30) (.k (.d (.bool true))) (.t 32)⟩] [0, 1, 2, 25, 26, 27, 28, 29, 30, 31, 32])
(.cond (.t 33) (.seq (.reg false [
⟨some 6, none, .mv (.k (.d (.int .i64 0)))⟩,
⟨some 7, none, .mv (.k (.d (.int .i64 7)))⟩] [])
.ret)
 .skip))
(.seq (.reg false [
⟨some 34, none, .mv (.t 9)⟩,
⟨some 6, none, .mv (.t 34)⟩,
⟨some 7, none, .mv (.k (.d (.int .i64 0)))⟩] [9, 34])
.ret)))))⟩

/-- "turnround/turnroundref01.CheckDate" -/
def c_ref01_CheckDate : CF := ⟨[.tmp 6],
  (.seq (.reg false [
⟨some 6, none, .mv (.k (.d (.int .i64 0)))⟩] [6])
(.seq (.seq (.reg false [
⟨some 7, none, .mv (.t 0)⟩,
⟨some 8, none, .call false true (.k (.fn n_ref01_CheckRange [] [])) [.t 7, .k (.d (.int .i64 2000)), .k (.d (.int .i64 2273))]⟩,
⟨some 9, none, .bin .neq (.t 8) (.k (.d (.int .i64 0)))⟩,
⟨some 10, none, .mv (.t 9)⟩,
⟨some 11, (some (10, false)), .mv (.t 1)⟩,
⟨some 12, (some (10, false)), .call false true (.k (.fn n_ref01_CheckRange [] [])) [.t 11, .k (.d (.int .i64 1)), .k (.d (.int .i64 12))]⟩,
⟨some 13, (some (10, false)), .bin .neq (.t 12) (.k (.d (.int .i64 0)))⟩,
⟨some 14, none, .pick (.t 10) (.k (.d (.bool true))) (.t 13)⟩,
⟨some 15, none, .mv (.t 14)⟩,
⟨some 16, (some (15, false)), .mv (.t 2)⟩,
⟨some 17, (some (15, false)), .call false true (.k (.fn n_ref01_CheckRange [] [])) [.t 16, .k (.d (.int .i64 1)), .k (.d (.int .i64 31))]⟩,
⟨some 18, (some (15, false)), .bin .neq (.t 17) (.k (.d (.int .i64 0)))⟩,
⟨some 19, none, .pick (.t 15) (.k (.d (.bool true))) (.t 18)⟩] [7, 8, 9, 10, 11, 12, 13, 14, 15, 16, 17, 18])
(.cond (.t 19) (.seq (.reg false [
⟨some 6, none, .mv (.k (.d (.int .i64 3)))⟩] [])
.ret)
 .skip))
(.seq (.seq (.reg false [
⟨some 20, none, .mv (.t 2)⟩,
⟨some 21, none, .mv (.t 0)⟩,
⟨some 22, none, .mv (.t 1)⟩,
⟨some 23, none, .call false true (.k (.fn n_ref01_Length [] [])) [.t 21, .t 22]⟩,
⟨some 24, none, .bin .gtr (.t 20) (.t 23)⟩,
⟨some 25, none, .mv (.t 24)⟩,
⟨some 26, (some (25, false)), .mv (.t 0)⟩,
⟨some 27, (some (25, false)), .mv (.t 1)⟩,
⟨some 28, (some (25, false)), .mv (.t 2)⟩,
⟨some 29, (some (25, false)), .call false true (.k (.fn n_ref01_Day [] [])) [.t 26, .t 27, .t 28]⟩,
⟨some 30, (some (25, false)), .bin .gtr (.t 29) (.k (.d (.int .i64 99999)))⟩,
⟨some 31, none, .pick (.t 25) (.k (.d (.bool true))) (.t 30)⟩] [0, 1, 2, 20, 21, 22, 23, 24, 25, 26, 27, 28, 29, 30])
(.cond (.t 31) (.seq (.reg false [
⟨some 6, none, .mv (.k (.d (.int .i64 7)))⟩] [])
.ret)
 .skip))
(.seq (.reg false [
⟨some 6, none, .mv (.k (.d (.int .i64 0)))⟩] [])
.ret))))⟩

def b_ref01_Day_1 : C :=
  (.seq (.seq (.reg false [
⟨some 12, none, .mv (.t 8)⟩,
⟨some 13, none, .mv (.t 1)⟩,
⟨some 14, none, .bin .lss (.t 12) (.t 13)⟩] [12, 13])
(.cond (.t 14) .skip
 (.exit 0)))
(.seq (.block 1 (.reg false [
⟨some 17, none, .mv (.t 7)⟩,
⟨some 18, none, .mv (.t 0)⟩,
⟨some 19, none, .mv (.t 8)⟩,
⟨some 20, none, .call false true (.k (.fn n_ref01_Length [] [])) [.t 18, .t 19]⟩,
⟨some 21, none, .bin .add (.t 17) (.t 20)⟩,
⟨some 7, none, .mv (.t 21)⟩] [17, 18, 19, 20, 21]))
(.reg false [
⟨some 15, none, .mv (.t 8)⟩,
⟨some 16, none, .bin .add (.t 15) (.k (.d (.int .i64 1)))⟩,
⟨some 8, none, .mv (.t 16)⟩] [15, 16])))

def b_ref01_Day_2 : C :=
  (.seq (.seq (.reg false [
⟨some 22, none, .mv (.t 9)⟩,
⟨some 23, none, .mv (.t 0)⟩,
⟨some 24, none, .bin .lss (.t 22) (.t 23)⟩] [22, 23])
(.cond (.t 24) .skip
 (.exit 2)))
(.seq (.block 3 (.reg false [
⟨some 27, none, .mv (.t 7)⟩,
⟨some 28, none, .mv (.t 9)⟩,
⟨some 29, none, .call false true (.k (.fn n_ref01_yearLength [] [])) [.t 28]⟩,
⟨some 30, none, .bin .add (.t 27) (.t 29)⟩,
⟨some 7, none, .mv (.t 30)⟩] [27, 28, 29, 30]))
(.reg false [
⟨some 25, none, .mv (.t 9)⟩,
⟨some 26, none, .bin .add (.t 25) (.k (.d (.int .i64 1)))⟩,
⟨some 9, none, .mv (.t 26)⟩] [25, 26])))

/-- "turnround/turnroundref01.Day" -/
def c_ref01_Day : CF := ⟨[.tmp 6],
  (.seq (.reg false [
⟨some 6, none, .mv (.k (.d (.int .i64 0)))⟩] [6])
(.seq (.reg false [
⟨some 10, none, .mv (.t 2)⟩,
⟨some 11, none, .bin .sub (.t 10) (.k (.d (.int .i64 1)))⟩,
⟨some 7, none, .mv (.t 11)⟩] [2, 10, 11])
(.seq (.seq (.reg false [
⟨some 8, none, .mv (.k (.d (.int .i64 1)))⟩] [])
(.block 0 (.loop [0, 1, 7, 8] b_ref01_Day_1)))
(.seq (.seq (.reg false [
⟨some 9, none, .mv (.k (.d (.int .i64 2000)))⟩] [])
(.block 2 (.loop [0, 7, 9] b_ref01_Day_2)))
(.seq (.reg false [
⟨some 31, none, .mv (.t 7)⟩,
⟨some 6, none, .mv (.t 31)⟩] [7, 31])
.ret)))))⟩

/-- "turnround/calendar.Date" -/
def c_calendar_Date : CF := ⟨[.cell 2 (some 3), .tmp 3],
  (.seq (.reg false [
⟨some 2, none, .alloc ty_3_int [.z (.int .i64 0), .z (.int .i64 0), .z (.int .i64 0)]⟩,
⟨some 3, none, .mv (.k (.d (.int .i64 0)))⟩] [3])
(.seq (.seq (.reg false [
⟨some 5, none, .mv (.t 0)⟩,
⟨some 6, none, .call false true (.k (.fn n_calendar_checkDay [] [])) [.t 5]⟩,
⟨some 4, none, .mv (.t 6)⟩] [5, 6])
(.seq (.reg false [
⟨some 7, none, .mv (.t 4)⟩,
⟨some 8, none, .bin .neq (.t 7) (.k (.d (.int .i64 0)))⟩] [7])
(.cond (.t 8) (.seq (.reg false [
⟨some 9, none, .build [.z (.int .i64 0), .z (.int .i64 0), .z (.int .i64 0)] []⟩,
⟨some 10, none, .mv (.t 4)⟩,
⟨none, none, .store 3 (.t 2) (.t 9)⟩,
⟨some 3, none, .mv (.t 10)⟩] [4, 9, 10])
.ret)
 .skip)))
(.seq (.reg false [
⟨some 11, none, .mv (.t 0)⟩,
⟨some 12, none, .call false true (.k (.fn n_calendar_date [] [])) [.t 11]⟩,
⟨none, none, .store 3 (.t 2) (.t 12)⟩,
⟨some 3, none, .mv (.k (.d (.int .i64 0)))⟩] [0, 11, 12])
.ret)))⟩

/-- "turnround/calendar.Weekday" -/
def c_calendar_Weekday : CF := ⟨[.tmp 2, .tmp 3],
  (.seq (.reg false [
⟨some 2, none, .mv (.k (.d (.int .i64 0)))⟩,
⟨some 3, none, .mv (.k (.d (.int .i64 0)))⟩] [2, 3])
(.seq (.seq (.reg false [
⟨some 5, none, .mv (.t 0)⟩,
⟨some 6, none, .call false true (.k (.fn n_calendar_checkDay [] [])) [.t 5]⟩,
⟨some 4, none, .mv (.t 6)⟩] [5, 6])
(.seq (.reg false [
⟨some 7, none, .mv (.t 4)⟩,
⟨some 8, none, .bin .neq (.t 7) (.k (.d (.int .i64 0)))⟩] [7])
(.cond (.t 8) (.seq (.reg false [
⟨some 9, none, .mv (.t 4)⟩,
⟨some 2, none, .mv (.k (.d (.int .i64 0)))⟩,
⟨some 3, none, .mv (.t 9)⟩] [4, 9])
.ret)
 .skip)))
(.seq (.reg false [
⟨some 10, none, .mv (.t 0)⟩,
⟨some 11, none, .call false true (.k (.fn n_calendar_weekday [] [])) [.t 10]⟩,
⟨some 2, none, .mv (.t 11)⟩,
⟨some 3, none, .mv (.k (.d (.int .i64 0)))⟩] [0, 10, 11])
.ret)))⟩

/-- "turnround/calendar.PrintDate" -/
def c_calendar_PrintDate : CF := ⟨[.tmp 2, .tmp 3],
  (.seq (.reg false [
⟨some 2, none, .mv (.k (.d (.str [])))⟩,
⟨some 3, none, .mv (.k (.d (.int .i64 0)))⟩] [2, 3])
(.seq (.seq (.reg false [
⟨some 6, none, .mv (.t 0)⟩,
⟨some 7, none, .call false true (.k (.fn n_calendar_checkDay [] [])) [.t 6]⟩,
⟨some 4, none, .mv (.t 7)⟩] [6, 7])
(.seq (.reg false [
⟨some 8, none, .mv (.t 4)⟩,
⟨some 9, none, .bin .neq (.t 8) (.k (.d (.int .i64 0)))⟩] [8])
(.cond (.t 9) (.seq (.reg false [
⟨some 10, none, .mv (.t 4)⟩,
⟨some 2, none, .mv (.k (.d (.str [])))⟩,
⟨some 3, none, .mv (.t 10)⟩] [4, 10])
.ret)
 .skip)))
(.seq (.reg false [
⟨some 11, none, .mv (.t 0)⟩,
⟨some 12, none, .call false true (.k (.fn n_calendar_date [] [])) [.t 11]⟩,
⟨some 5, none, .alloc ty_3_int [.z (.int .i64 0), .z (.int .i64 0), .z (.int .i64 0)]⟩,
⟨none, none, .store 3 (.t 5) (.t 12)⟩] [0, 11, 12])
(.seq (.reg true [
⟨some 13, none, .idxAddrA 3 1 (.t 5) (.k (.d (.int .i64 0)))⟩,
⟨some 14, none, .load none (.t 13)⟩,
⟨some 15, none, .call false true (.k (.fn n_strconv_Itoa [] [])) [.t 14]⟩,
⟨some 16, none, .bin .add (.t 15) (.k (.d (.str [45])))⟩,
⟨some 17, none, .idxAddrA 3 1 (.t 5) (.k (.d (.int .i64 1)))⟩,
⟨some 18, none, .load none (.t 17)⟩,
⟨some 19, none, .call false true (.k (.fn n_calendar_two [] [])) [.t 18]⟩,
⟨some 20, none, .bin .add (.t 16) (.t 19)⟩,
⟨some 21, none, .bin .add (.t 20) (.k (.d (.str [45])))⟩,
⟨some 22, none, .idxAddrA 3 1 (.t 5) (.k (.d (.int .i64 2)))⟩,
⟨some 23, none, .load none (.t 22)⟩,
⟨some 24, none, .call false true (.k (.fn n_calendar_two [] [])) [.t 23]⟩,
⟨some 25, none, .bin .add (.t 21) (.t 24)⟩,
⟨some 2, none, .mv (.t 25)⟩,
⟨some 3, none, .mv (.k (.d (.int .i64 0)))⟩] [5, 13, 14, 15, 16, 17, 18, 19, 20, 21, 22, 23, 24, 25])
.ret))))⟩

/-- "turnround/turnroundref01.CheckDay" -/
def c_ref01_CheckDay : CF := ⟨[.tmp 2],
  (.seq (.reg false [
⟨some 2, none, .mv (.k (.d (.int .i64 0)))⟩] [2])
(.seq (.reg false [
⟨some 3, none, .mv (.t 0)⟩,
⟨some 4, none, .call false true (.k (.fn n_ref01_CheckRange [] [])) [.t 3, .k (.d (.int .i64 0)), .k (.d (.int .i64 99999))]⟩,
⟨some 2, none, .mv (.t 4)⟩] [0, 3, 4])
.ret))⟩

/-- "turnround/turnroundlaw01.text" -/
def c_law01_text : CF := ⟨[.tmp 8],
  (.seq (.reg false [
⟨some 8, none, .mv (.k (.d (.bool false)))⟩] [8])
(.seq (.seq (.reg false [
⟨some 9, none, .mv (.t 2)⟩,
⟨some 10, none, .bin .neq (.t 9) (.k (.d (.int .i64 0)))⟩] [9])
(.cond (.t 10) (.seq (.reg false [
⟨some 11, none, .mv (.t 0)⟩,
⟨some 12, none, .bin .eql (.t 11) (.k (.d (.str [])))⟩,
⟨some 13, none, .mv (.t 12)⟩,
⟨some 14, (some (13, true)), .mv (.t 1)⟩,
⟨some 15, (some (13, true)), .mv (.t 2)⟩,
⟨some 16, (some (13, true)), .bin .eql (.t 14) (.t 15)⟩,
⟨some 17, none, .pick (.t 13) (.t 16) (.k (.d (.bool false)))⟩,
⟨some 8, none, .mv (.t 17)⟩] [0, 1, 2, 11, 12, 13, 14, 15, 16, 17])
.ret)
 .skip))
(.seq (.reg false [
⟨some 18, none, .mv (.t 1)⟩,
⟨some 19, none, .bin .eql (.t 18) (.k (.d (.int .i64 0)))⟩,
⟨some 20, none, .mv (.t 19)⟩,
⟨some 21, (some (20, true)), .mv (.t 0)⟩,
⟨some 22, (some (20, true)), .mv (.t 3)⟩,
⟨some 23, (some (20, true)), .bin .eql (.t 21) (.t 22)⟩,
⟨some 24, none, .pick (.t 20) (.t 23) (.k (.d (.bool false)))⟩,
⟨some 8, none, .mv (.t 24)⟩] [0, 1, 3, 18, 19, 20, 21, 22, 23, 24])
.ret)))⟩

def b_ref01_Date_1 : C :=
  (.seq (.seq (.reg false [
⟨some 5, none, .mv (.t 0)⟩,
⟨some 6, none, .mv (.t 3)⟩,
⟨some 7, none, .call false true (.k (.fn n_ref01_yearLength [] [])) [.t 6]⟩,
⟨some 8, none, .bin .geq (.t 5) (.t 7)⟩] [5, 6, 7])
(.cond (.t 8) .skip
 (.exit 0)))
(.block 1 (.seq (.reg false [
⟨some 9, none, .mv (.t 0)⟩,
⟨some 10, none, .mv (.t 3)⟩,
⟨some 11, none, .call false true (.k (.fn n_ref01_yearLength [] [])) [.t 10]⟩,
⟨some 12, none, .bin .sub (.t 9) (.t 11)⟩,
⟨some 0, none, .mv (.t 12)⟩] [9, 10, 11, 12])
(.reg false [
⟨some 13, none, .mv (.t 3)⟩,
⟨some 14, none, .bin .add (.t 13) (.k (.d (.int .i64 1)))⟩,
⟨some 3, none, .mv (.t 14)⟩] [13, 14]))))

def b_ref01_Date_2 : C :=
  (.seq (.seq (.reg false [
⟨some 15, none, .mv (.t 0)⟩,
⟨some 16, none, .mv (.t 3)⟩,
⟨some 17, none, .mv (.t 4)⟩,
⟨some 18, none, .call false true (.k (.fn n_ref01_Length [] [])) [.t 16, .t 17]⟩,
⟨some 19, none, .bin .geq (.t 15) (.t 18)⟩] [15, 16, 17, 18])
(.cond (.t 19) .skip
 (.exit 2)))
(.block 3 (.seq (.reg false [
⟨some 20, none, .mv (.t 0)⟩,
⟨some 21, none, .mv (.t 3)⟩,
⟨some 22, none, .mv (.t 4)⟩,
⟨some 23, none, .call false true (.k (.fn n_ref01_Length [] [])) [.t 21, .t 22]⟩,
⟨some 24, none, .bin .sub (.t 20) (.t 23)⟩,
⟨some 0, none, .mv (.t 24)⟩] [20, 21, 22, 23, 24])
(.reg false [
⟨some 25, none, .mv (.t 4)⟩,
⟨some 26, none, .bin .add (.t 25) (.k (.d (.int .i64 1)))⟩,
⟨some 4, none, .mv (.t 26)⟩] [25, 26]))))

/-- "turnround/turnroundref01.Date" -/
def c_ref01_Date : CF := ⟨[.cell 2 (some 3)],
  (.seq (.reg false [
⟨some 2, none, .alloc ty_3_int [.z (.int .i64 0), .z (.int .i64 0), .z (.int .i64 0)]⟩] [])
(.seq (.reg false [
⟨some 3, none, .mv (.k (.d (.int .i64 2000)))⟩,
⟨some 4, none, .mv (.k (.d (.int .i64 1)))⟩] [])
(.seq (.block 0 (.loop [0, 2, 3, 4] b_ref01_Date_1))
(.seq (.block 2 (.loop [0, 2, 3, 4] b_ref01_Date_2))
(.seq (.reg false [
⟨some 27, none, .mv (.t 3)⟩,
⟨some 28, none, .mv (.t 4)⟩,
⟨some 29, none, .mv (.t 0)⟩,
⟨some 30, none, .bin .add (.t 29) (.k (.d (.int .i64 1)))⟩,
⟨some 31, none, .build [.z (.int .i64 0), .z (.int .i64 0), .z (.int .i64 0)] [(0, 1, .t 27), (1, 1, .t 28), (2, 1, .t 30)]⟩,
⟨none, none, .store 3 (.t 2) (.t 31)⟩] [0, 3, 4, 27, 28, 29, 30, 31])
.ret)))))⟩

/-- "turnround/turnroundref01.Weekday" -/
def c_ref01_Weekday : CF := ⟨[.tmp 2],
  (.seq (.reg false [
⟨some 2, none, .mv (.k (.d (.int .i64 0)))⟩] [2])
(.seq (.reg false [
⟨some 3, none, .mv (.t 0)⟩,
⟨some 4, none, .bin .add (.t 3) (.k (.d (.int .i64 5)))⟩,
⟨some 5, none, .bin .rem (.t 4) (.k (.d (.int .i64 7)))⟩,
⟨some 2, none, .mv (.t 5)⟩] [0, 3, 4, 5])
.ret))⟩

/-- "turnround/turnroundref01.PrintDate" -/
def c_ref01_PrintDate : CF := ⟨[.tmp 2],
  (.seq (.reg false [
⟨some 2, none, .mv (.k (.d (.str [])))⟩] [2])
(.seq (.reg false [
⟨some 4, none, .mv (.t 0)⟩,
⟨some 5, none, .call false true (.k (.fn n_ref01_Date [] [])) [.t 4]⟩,
⟨some 3, none, .alloc ty_3_int [.z (.int .i64 0), .z (.int .i64 0), .z (.int .i64 0)]⟩,
⟨none, none, .store 3 (.t 3) (.t 5)⟩] [0, 4, 5])
(.seq (.reg true [
⟨some 6, none, .idxAddrA 3 1 (.t 3) (.k (.d (.int .i64 0)))⟩,
⟨some 7, none, .load none (.t 6)⟩,
⟨some 8, none, .call false true (.k (.fn n_ref01_wide [] [])) [.t 7, .k (.d (.int .i64 4))]⟩,
⟨some 9, none, .bin .add (.t 8) (.k (.d (.str [45])))⟩,
⟨some 10, none, .idxAddrA 3 1 (.t 3) (.k (.d (.int .i64 1)))⟩,
⟨some 11, none, .load none (.t 10)⟩,
⟨some 12, none, .call false true (.k (.fn n_ref01_wide [] [])) [.t 11, .k (.d (.int .i64 2))]⟩,
⟨some 13, none, .bin .add (.t 9) (.t 12)⟩,
⟨some 14, none, .bin .add (.t 13) (.k (.d (.str [45])))⟩,
⟨some 15, none, .idxAddrA 3 1 (.t 3) (.k (.d (.int .i64 2)))⟩,
⟨some 16, none, .load none (.t 15)⟩,
⟨some 17, none, .call false true (.k (.fn n_ref01_wide [] [])) [.t 16, .k (.d (.int .i64 2))]⟩,
⟨some 18, none, .bin .add (.t 14) (.t 17)⟩,
⟨some 2, none, .mv (.t 18)⟩] [3, 6, 7, 8, 9, 10, 11, 12, 13, 14, 15, 16, 17, 18])
.ret)))⟩

/-- "turnround/turnroundref01.CheckPeriod" -/
def c_ref01_CheckPeriod : CF := ⟨[.tmp 2],
  (.seq (.reg false [
⟨some 1, none, .box ty_api_Period (.t 0)⟩,
⟨some 2, none, .mv (.k (.d (.int .i64 0)))⟩] [0, 2])
(.seq (.seq (.reg false [
⟨some 3, none, .fieldAddr 0 (.t 1)⟩,
⟨some 4, none, .load none (.t 3)⟩,
⟨some 5, none, .call false true (.k (.fn n_ref01_CheckDay [] [])) [.t 4]⟩,
⟨some 6, none, .bin .neq (.t 5) (.k (.d (.int .i64 0)))⟩,
⟨some 7, none, .mv (.t 6)⟩,
⟨some 8, (some (7, false)), .fieldAddr 1 (.t 1)⟩,
⟨some 9, (some (7, false)), .load none (.t 8)⟩,
⟨some 10, (some (7, false)), .call false true (.k (.fn n_ref01_CheckDay [] [])) [.t 9]⟩,
⟨some 11, (some (7, false)), .bin .neq (.t 10) (.k (.d (.int .i64 0)))⟩,
⟨some 12, none, .pick (.t 7) (.k (.d (.bool true))) (.t 11)⟩] [3, 4, 5, 6, 7, 8, 9, 10, 11])
(.cond (.t 12) (.seq (.reg false [
⟨some 2, none, .mv (.k (.d (.int .i64 3)))⟩] [])
.ret)
 .skip))
(.seq (.seq (.reg false [
⟨some 13, none, .fieldAddr 1 (.t 1)⟩,
⟨some 14, none, .load none (.t 13)⟩,
⟨some 15, none, .fieldAddr 0 (.t 1)⟩,
⟨some 16, none, .load none (.t 15)⟩,
⟨some 17, none, .bin .lss (.t 14) (.t 16)⟩] [13, 14, 15, 16])
(.cond (.t 17) (.seq (.reg false [
⟨some 2, none, .mv (.k (.d (.int .i64 11)))⟩] [])
.ret)
 .skip))
(.seq (.seq (.reg false [
⟨some 18, none, .fieldAddr 1 (.t 1)⟩,
⟨some 19, none, .load none (.t 18)⟩,
⟨some 20, none, .fieldAddr 0 (.t 1)⟩,
⟨some 21, none, .load none (.t 20)⟩,
⟨some 22, none, .bin .sub (.t 19) (.t 21)⟩,
⟨some 23, none, .bin .gtr (.t 22) (.k (.d (.int .i64 400)))⟩] [18, 19, 20, 21, 22])
(.cond (.t 23) (.seq (.reg false [
⟨some 2, none, .mv (.k (.d (.int .i64 4)))⟩] [])
.ret)
 .skip))
(.seq (.reg false [
⟨some 24, none, .fieldAddr 2 (.t 1)⟩,
⟨some 25, none, .load none (.t 24)⟩,
⟨some 26, none, .call false true (.k (.fn n_ref01_CheckRange [] [])) [.t 25, .k (.d (.int .i64 1)), .k (.d (.int .i64 127))]⟩,
⟨some 2, none, .mv (.t 26)⟩] [1, 24, 25, 26])
.ret)))))⟩

/-- "turnround/calendar.CheckPeriod" -/
def c_calendar_CheckPeriod : CF := ⟨[.tmp 2],
  (.seq (.reg false [
⟨some 1, none, .box ty_api_Period (.t 0)⟩,
⟨some 2, none, .mv (.k (.d (.int .i64 0)))⟩] [0, 2])
(.seq (.seq (.reg true [
⟨some 4, none, .fieldAddr 0 (.t 1)⟩,
⟨some 5, none, .load none (.t 4)⟩,
⟨some 6, none, .call false true (.k (.fn n_calendar_checkDay [] [])) [.t 5]⟩,
⟨some 7, none, .fieldAddr 1 (.t 1)⟩,
⟨some 8, none, .load none (.t 7)⟩,
⟨some 9, none, .call false true (.k (.fn n_calendar_checkDay [] [])) [.t 8]⟩,
⟨some 10, none, .mkList 1 2 [.t 6, .t 9]⟩,
⟨some 11, none, .call false true (.k (.fn n_calendar_first [] [])) [.t 10]⟩,
⟨some 3, none, .mv (.t 11)⟩] [4, 5, 6, 7, 8, 9, 10, 11])
(.seq (.reg false [
⟨some 12, none, .mv (.t 3)⟩,
⟨some 13, none, .bin .neq (.t 12) (.k (.d (.int .i64 0)))⟩] [12])
(.cond (.t 13) (.seq (.reg false [
⟨some 14, none, .mv (.t 3)⟩,
⟨some 2, none, .mv (.t 14)⟩] [3, 14])
.ret)
 .skip)))
(.seq (.reg true [
⟨some 15, none, .fieldAddr 1 (.t 1)⟩,
⟨some 16, none, .load none (.t 15)⟩,
⟨some 17, none, .fieldAddr 0 (.t 1)⟩,
⟨some 18, none, .load none (.t 17)⟩,
⟨some 19, none, .bin .lss (.t 16) (.t 18)⟩,
⟨some 20, none, .call false true (.k (.fn n_calendar_when [] [])) [.t 19, .k (.d (.int .i64 11))]⟩,
⟨some 21, none, .fieldAddr 1 (.t 1)⟩,
⟨some 22, none, .load none (.t 21)⟩,
⟨some 23, none, .fieldAddr 0 (.t 1)⟩,
⟨some 24, none, .load none (.t 23)⟩,
⟨some 25, none, .bin .sub (.t 22) (.t 24)⟩,
⟨some 26, none, .bin .gtr (.t 25) (.k (.d (.int .i64 400)))⟩,
⟨some 27, none, .call false true (.k (.fn n_calendar_when [] [])) [.t 26, .k (.d (.int .i64 4))]⟩,
⟨some 28, none, .fieldAddr 2 (.t 1)⟩,
⟨some 29, none, .load none (.t 28)⟩,
⟨some 30, none, .call false true (.k (.fn n_calendar_within [] [])) [.t 29, .k (.d (.int .i64 1)), .k (.d (.int .i64 127))]⟩,
⟨some 31, none, .mkList 1 3 [.t 20, .t 27, .t 30]⟩,
⟨some 32, none, .call false true (.k (.fn n_calendar_first [] [])) [.t 31]⟩,
⟨some 2, none, .mv (.t 32)⟩] [1, 15, 16, 17, 18, 19, 20, 21, 22, 23, 24, 25, 26, 27, 28, 29, 30, 31, 32])
.ret)))⟩

/-- "turnround/calendar.Has" -/
def c_calendar_Has : CF := ⟨[.tmp 4, .tmp 5],
  (.seq (.reg false [
⟨some 2, none, .box ty_api_Period (.t 0)⟩,
⟨some 4, none, .mv (.k (.d (.bool false)))⟩,
⟨some 5, none, .mv (.k (.d (.int .i64 0)))⟩] [0, 4, 5])
(.seq (.seq (.reg false [
⟨some 7, none, .load (some 3) (.t 2)⟩,
⟨some 8, none, .call false true (.k (.fn n_calendar_CheckPeriod [] [])) [.t 7]⟩,
⟨some 9, none, .mv (.t 1)⟩,
⟨some 10, none, .call false true (.k (.fn n_calendar_checkDay [] [])) [.t 9]⟩,
⟨some 11, none, .mkList 1 2 [.t 8, .t 10]⟩,
⟨some 12, none, .call false true (.k (.fn n_calendar_first [] [])) [.t 11]⟩,
⟨some 6, none, .mv (.t 12)⟩] [7, 8, 9, 10, 11, 12])
(.seq (.reg false [
⟨some 13, none, .mv (.t 6)⟩,
⟨some 14, none, .bin .neq (.t 13) (.k (.d (.int .i64 0)))⟩] [13])
(.cond (.t 14) (.seq (.reg false [
⟨some 15, none, .mv (.t 6)⟩,
⟨some 4, none, .mv (.k (.d (.bool false)))⟩,
⟨some 5, none, .mv (.t 15)⟩] [6, 15])
.ret)
 .skip)))
(.seq (.reg false [
⟨some 16, none, .load (some 3) (.t 2)⟩,
⟨some 17, none, .mv (.t 1)⟩,
⟨some 18, none, .call false true (.k (.fn n_calendar_has [] [])) [.t 16, .t 17]⟩,
⟨some 4, none, .mv (.t 18)⟩,
⟨some 5, none, .mv (.k (.d (.int .i64 0)))⟩] [1, 2, 16, 17, 18])
.ret)))⟩

/-- "turnround/calendar.DaysOf" -/
def c_calendar_DaysOf : CF := ⟨[.tmp 2, .tmp 3],
  (.seq (.reg false [
⟨some 1, none, .box ty_api_Period (.t 0)⟩,
⟨some 2, none, .mv (.k (.d (.list 0 [])))⟩,
⟨some 3, none, .mv (.k (.d (.int .i64 0)))⟩] [0, 2, 3])
(.seq (.seq (.reg false [
⟨some 5, none, .load (some 3) (.t 1)⟩,
⟨some 6, none, .call false true (.k (.fn n_calendar_CheckPeriod [] [])) [.t 5]⟩,
⟨some 4, none, .mv (.t 6)⟩] [5, 6])
(.seq (.reg false [
⟨some 7, none, .mv (.t 4)⟩,
⟨some 8, none, .bin .neq (.t 7) (.k (.d (.int .i64 0)))⟩] [7])
(.cond (.t 8) (.seq (.reg false [
⟨some 9, none, .mv (.t 4)⟩,
⟨some 2, none, .mv (.k (.d (.list 0 [])))⟩,
⟨some 3, none, .mv (.t 9)⟩] [4, 9])
.ret)
 .skip)))
(.seq (.reg false [
⟨some 10, none, .load (some 3) (.t 1)⟩,
⟨some 11, none, .call false false (.k (.fn n_calendar_daysOf [] [])) [.t 10]⟩,
⟨some 12, none, .call true true (.k (.fn n_calendar_collected_int [] [])) [.t 11, .k (.fn n_calendar_DaysOf_1 [] [])]⟩,
⟨some 2, none, .mv (.t 12)⟩,
⟨some 3, none, .mv (.k (.d (.int .i64 0)))⟩] [1, 10, 11, 12])
.ret)))⟩

/-- "turnround/calendar.Count" -/
def c_calendar_Count : CF := ⟨[.tmp 2, .tmp 3],
  (.seq (.reg false [
⟨some 1, none, .box ty_api_Period (.t 0)⟩,
⟨some 2, none, .mv (.k (.d (.int .i64 0)))⟩,
⟨some 3, none, .mv (.k (.d (.int .i64 0)))⟩] [0, 2, 3])
(.seq (.reg false [
⟨some 7, none, .load (some 3) (.t 1)⟩,
⟨some 8, none, .call false true (.k (.fn n_calendar_DaysOf [] [])) [.t 7]⟩,
⟨some 6, none, .mv (.t 8)⟩,
⟨some 9, none, .extract (.t 6) 0⟩,
⟨some 10, none, .extract (.t 6) 1⟩,
⟨some 4, none, .mv (.t 9)⟩,
⟨some 5, none, .mv (.t 10)⟩] [1, 6, 7, 8, 9, 10])
(.seq (.reg false [
⟨some 11, none, .mv (.t 4)⟩,
⟨some 12, none, .len .slc (.t 11)⟩,
⟨some 13, none, .mv (.t 5)⟩,
⟨some 2, none, .mv (.t 12)⟩,
⟨some 3, none, .mv (.t 13)⟩] [4, 5, 11, 12, 13])
.ret)))⟩

/-- "turnround/calendar.Meet" -/
def c_calendar_Meet : CF := ⟨[.tmp 4, .tmp 5],
  (.seq (.reg false [
⟨some 2, none, .box ty_api_Period (.t 0)⟩,
⟨some 3, none, .box ty_api_Period (.t 1)⟩,
⟨some 4, none, .mv (.k (.d (.list 0 [])))⟩,
⟨some 5, none, .mv (.k (.d (.int .i64 0)))⟩] [0, 1, 4, 5])
(.seq (.seq (.reg true [
⟨some 7, none, .load (some 3) (.t 2)⟩,
⟨some 8, none, .call false true (.k (.fn n_calendar_CheckPeriod [] [])) [.t 7]⟩,
⟨some 9, none, .load (some 3) (.t 3)⟩,
⟨some 10, none, .call false true (.k (.fn n_calendar_CheckPeriod [] [])) [.t 9]⟩,
⟨some 11, none, .mkList 1 2 [.t 8, .t 10]⟩,
⟨some 12, none, .call false true (.k (.fn n_calendar_first [] [])) [.t 11]⟩,
⟨some 6, none, .mv (.t 12)⟩] [7, 8, 9, 10, 11, 12])
(.seq (.reg false [
⟨some 13, none, .mv (.t 6)⟩,
⟨some 14, none, .bin .neq (.t 13) (.k (.d (.int .i64 0)))⟩] [13])
(.cond (.t 14) (.seq (.reg false [
⟨some 15, none, .mv (.t 6)⟩,
⟨some 4, none, .mv (.k (.d (.list 0 [])))⟩,
⟨some 5, none, .mv (.t 15)⟩] [6, 15])
.ret)
 .skip)))
(.seq (.reg false [
⟨some 16, none, .load (some 3) (.t 2)⟩,
⟨some 17, none, .call false false (.k (.fn n_calendar_daysOf [] [])) [.t 16]⟩,
⟨some 18, none, .mkFunc n_calendar_Meet_1 [] [.t 3]⟩,
⟨some 19, none, .call true true (.k (.fn n_calendar_collected_int [] [])) [.t 17, .t 18]⟩,
⟨some 4, none, .mv (.t 19)⟩,
⟨some 5, none, .mv (.k (.d (.int .i64 0)))⟩] [2, 3, 16, 17, 18, 19])
.ret)))⟩

def b_ref01_DaysOf_1 : C :=
  (.seq (.seq (.reg false [
⟨some 7, none, .mv (.t 4)⟩,
⟨some 8, none, .fieldAddr 1 (.t 1)⟩,
⟨some 9, none, .load none (.t 8)⟩,
⟨some 10, none, .bin .leq (.t 7) (.t 9)⟩] [7, 8, 9])
(.cond (.t 10) .skip
 (.exit 0)))
(.seq (.block 1 (.seq (.reg false [
⟨some 13, none, .load (some 3) (.t 1)⟩,
⟨some 14, none, .mv (.t 4)⟩,
⟨some 15, none, .call false true (.k (.fn n_ref01_Has [] [])) [.t 13, .t 14]⟩] [13, 14])
(.cond (.t 15) (.reg false [
⟨some 16, none, .mv (.t 3)⟩,
⟨some 17, none, .mv (.t 4)⟩,
⟨some 18, none, .mkList 1 1 [.t 17]⟩,
⟨some 19, none, .append ⟨false, ty_int, 1, 8⟩ (.t 16) (.t 18)⟩,
⟨some 3, none, .mv (.t 19)⟩] [16, 17, 18, 19])
 .skip)))
(.reg false [
⟨some 11, none, .mv (.t 4)⟩,
⟨some 12, none, .bin .add (.t 11) (.k (.d (.int .i64 1)))⟩,
⟨some 4, none, .mv (.t 12)⟩] [11, 12])))

/-- "turnround/turnroundref01.DaysOf" -/
def c_ref01_DaysOf : CF := ⟨[.tmp 2],
  (.seq (.reg false [
⟨some 1, none, .box ty_api_Period (.t 0)⟩,
⟨some 2, none, .ownNil ⟨false, ty_int, 1, 8⟩⟩] [0, 2])
(.seq (.reg false [
⟨some 3, none, .ownNil ⟨false, ty_int, 1, 8⟩⟩] [])
(.seq (.seq (.reg false [
⟨some 5, none, .fieldAddr 0 (.t 1)⟩,
⟨some 6, none, .load none (.t 5)⟩,
⟨some 4, none, .mv (.t 6)⟩] [5, 6])
(.block 0 (.loop [1, 3, 4] b_ref01_DaysOf_1)))
(.seq (.reg false [
⟨some 20, none, .mv (.t 3)⟩,
⟨some 2, none, .mv (.t 20)⟩] [3, 20])
.ret))))⟩

/-- "turnround/turnroundref01.Has" -/
def c_ref01_Has : CF := ⟨[.tmp 4],
  (.seq (.reg false [
⟨some 2, none, .box ty_api_Period (.t 0)⟩,
⟨some 4, none, .mv (.k (.d (.bool false)))⟩] [0, 4])
(.seq (.reg true [
⟨some 5, none, .mv (.t 1)⟩,
⟨some 6, none, .fieldAddr 0 (.t 2)⟩,
⟨some 7, none, .load none (.t 6)⟩,
⟨some 8, none, .bin .geq (.t 5) (.t 7)⟩,
⟨some 9, none, .mv (.t 8)⟩,
⟨some 10, (some (9, true)), .mv (.t 1)⟩,
⟨some 11, (some (9, true)), .fieldAddr 1 (.t 2)⟩,
⟨some 12, (some (9, true)), .load none (.t 11)⟩,
⟨some 13, (some (9, true)), .bin .leq (.t 10) (.t 12)⟩,
⟨some 14, none, .pick (.t 9) (.t 13) (.k (.d (.bool false)))⟩,
⟨some 15, none, .mv (.t 14)⟩,
⟨some 16, (some (15, true)), .fieldAddr 2 (.t 2)⟩,
⟨some 17, (some (15, true)), .load none (.t 16)⟩,
⟨some 18, (some (15, true)), .mv (.t 1)⟩,
⟨some 19, (some (15, true)), .call false true (.k (.fn n_ref01_Weekday [] [])) [.t 18]⟩,
⟨some 20, (some (15, true)), .call false true (.k (.fn n_ref01_InMask [] [])) [.t 17, .t 19]⟩,
⟨some 21, none, .pick (.t 15) (.t 20) (.k (.d (.bool false)))⟩,
⟨some 4, none, .mv (.t 21)⟩] [1, 2, 5, 6, 7, 8, 9, 10, 11, 12, 13, 14, 15, 16, 17, 18, 19, 20, 21])
.ret))⟩

def b_ref01_Meet_1 : C :=
  (.seq (.seq (.reg false [
⟨some 9, none, .mv (.t 6)⟩,
⟨some 10, none, .fieldAddr 1 (.t 2)⟩,
⟨some 11, none, .load none (.t 10)⟩,
⟨some 12, none, .bin .leq (.t 9) (.t 11)⟩] [9, 10, 11])
(.cond (.t 12) .skip
 (.exit 0)))
(.seq (.block 1 (.seq (.reg false [
⟨some 15, none, .load (some 3) (.t 2)⟩,
⟨some 16, none, .mv (.t 6)⟩,
⟨some 17, none, .call false true (.k (.fn n_ref01_Has [] [])) [.t 15, .t 16]⟩,
⟨some 18, none, .mv (.t 17)⟩,
⟨some 19, (some (18, true)), .load (some 3) (.t 3)⟩,
⟨some 20, (some (18, true)), .mv (.t 6)⟩,
⟨some 21, (some (18, true)), .call false true (.k (.fn n_ref01_Has [] [])) [.t 19, .t 20]⟩,
⟨some 22, none, .pick (.t 18) (.t 21) (.k (.d (.bool false)))⟩] [15, 16, 17, 18, 19, 20, 21])
(.cond (.t 22) (.reg false [
⟨some 23, none, .mv (.t 5)⟩,
⟨some 24, none, .mv (.t 6)⟩,
⟨some 25, none, .mkList 1 1 [.t 24]⟩,
⟨some 26, none, .append ⟨false, ty_int, 1, 8⟩ (.t 23) (.t 25)⟩,
⟨some 5, none, .mv (.t 26)⟩] [23, 24, 25, 26])
 .skip)))
(.reg false [
⟨some 13, none, .mv (.t 6)⟩,
⟨some 14, none, .bin .add (.t 13) (.k (.d (.int .i64 1)))⟩,
⟨some 6, none, .mv (.t 14)⟩] [13, 14])))

/-- "turnround/turnroundref01.Meet" -/
def c_ref01_Meet : CF := ⟨[.tmp 4],
  (.seq (.reg false [
⟨some 2, none, .box ty_api_Period (.t 0)⟩,
⟨some 3, none, .box ty_api_Period (.t 1)⟩,
⟨some 4, none, .ownNil ⟨false, ty_int, 1, 8⟩⟩] [0, 1, 4])
(.seq (.reg false [
⟨some 5, none, .ownNil ⟨false, ty_int, 1, 8⟩⟩] [])
(.seq (.seq (.reg false [
⟨some 7, none, .fieldAddr 0 (.t 2)⟩,
⟨some 8, none, .load none (.t 7)⟩,
⟨some 6, none, .mv (.t 8)⟩] [7, 8])
(.block 0 (.loop [2, 3, 5, 6] b_ref01_Meet_1)))
(.seq (.reg false [
⟨some 27, none, .mv (.t 5)⟩,
⟨some 4, none, .mv (.t 27)⟩] [5, 27])
.ret))))⟩

/-- "turnround/turnroundref01.CheckSeason" -/
def c_ref01_CheckSeason : CF := ⟨[.tmp 2],
  (.seq (.reg false [
⟨some 1, none, .box ty_turnroundref01_Season (.t 0)⟩,
⟨some 2, none, .mv (.k (.d (.int .i64 0)))⟩] [0, 2])
(.seq (.reg false [
⟨some 4, none, .fieldAddr 0 (.t 1)⟩,
⟨some 5, none, .load none (.t 4)⟩,
⟨some 6, none, .call false true (.k (.fn n_ref01_CheckRange [] [])) [.t 5, .k (.d (.int .i64 2000)), .k (.d (.int .i64 2272))]⟩,
⟨some 3, none, .mv (.t 6)⟩] [4, 5, 6])
(.seq (.seq (.reg false [
⟨some 7, none, .mv (.t 3)⟩,
⟨some 8, none, .bin .eql (.t 7) (.k (.d (.int .i64 0)))⟩,
⟨some 9, none, .mv (.t 8)⟩,
⟨some 10, (some (9, true)), .fieldAddr 1 (.t 1)⟩,
⟨some 11, (some (9, true)), .load none (.t 10)⟩,
⟨some 12, (some (9, true)), .bin .neq (.t 11) (.k (.d (.str [83])))⟩,
⟨some 13, none, .pick (.t 9) (.t 12) (.k (.d (.bool false)))⟩,
⟨some 14, none, .mv (.t 13)⟩,
⟨some 15, (some (14, true)), .fieldAddr 1 (.t 1)⟩,
⟨some 16, (some (14, true)), .load none (.t 15)⟩,
⟨some 17, (some (14, true)), .bin .neq (.t 16) (.k (.d (.str [87])))⟩,
⟨some 18, none, .pick (.t 14) (.t 17) (.k (.d (.bool false)))⟩] [1, 7, 8, 9, 10, 11, 12, 13, 14, 15, 16, 17])
(.cond (.t 18) (.reg false [
⟨some 3, none, .mv (.k (.d (.int .i64 13)))⟩] [])
 .skip))
(.seq (.reg false [
⟨some 19, none, .mv (.t 3)⟩,
⟨some 2, none, .mv (.t 19)⟩] [3, 19])
.ret))))⟩

/-- "turnround/calendar.CheckSeason" -/
def c_calendar_CheckSeason : CF := ⟨[.tmp 2],
  (.seq (.reg false [
⟨some 1, none, .box ty_calendar_Season (.t 0)⟩,
⟨some 2, none, .mv (.k (.d (.int .i64 0)))⟩] [0, 2])
(.seq (.reg true [
⟨some 3, none, .fieldAddr 0 (.t 1)⟩,
⟨some 4, none, .load none (.t 3)⟩,
⟨some 5, none, .call false true (.k (.fn n_calendar_within [] [])) [.t 4, .k (.d (.int .i64 2000)), .k (.d (.int .i64 2272))]⟩,
⟨some 6, none, .fieldAddr 1 (.t 1)⟩,
⟨some 7, none, .load none (.t 6)⟩,
⟨some 8, none, .bin .neq (.t 7) (.k (.d (.str [83])))⟩,
⟨some 9, none, .mv (.t 8)⟩,
⟨some 10, (some (9, true)), .fieldAddr 1 (.t 1)⟩,
⟨some 11, (some (9, true)), .load none (.t 10)⟩,
⟨some 12, (some (9, true)), .bin .neq (.t 11) (.k (.d (.str [87])))⟩,
⟨some 13, none, .pick (.t 9) (.t 12) (.k (.d (.bool false)))⟩,
⟨some 14, none, .call false true (.k (.fn n_calendar_when [] [])) [.t 13, .k (.d (.int .i64 13))]⟩,
⟨some 15, none, .mkList 1 2 [.t 5, .t 14]⟩,
⟨some 16, none, .call false true (.k (.fn n_calendar_first [] [])) [.t 15]⟩,
⟨some 2, none, .mv (.t 16)⟩] [1, 3, 4, 5, 6, 7, 8, 9, 10, 11, 12, 13, 14, 15, 16])
.ret))⟩

/-- "turnround/calendar.Span" -/
def c_calendar_Span : CF := ⟨[.cell 2 (some 3), .tmp 3],
  (.seq (.reg false [
⟨some 1, none, .box ty_calendar_Season (.t 0)⟩,
⟨some 2, none, .alloc ty_api_Period [.z (.int .i64 0), .z (.int .i64 0), .z (.int .i64 0)]⟩,
⟨some 3, none, .mv (.k (.d (.int .i64 0)))⟩] [0, 3])
(.seq (.seq (.reg false [
⟨some 5, none, .load (some 2) (.t 1)⟩,
⟨some 6, none, .call false true (.k (.fn n_calendar_CheckSeason [] [])) [.t 5]⟩,
⟨some 4, none, .mv (.t 6)⟩] [5, 6])
(.seq (.reg false [
⟨some 7, none, .mv (.t 4)⟩,
⟨some 8, none, .bin .neq (.t 7) (.k (.d (.int .i64 0)))⟩] [7])
(.cond (.t 8) (.seq (.reg false [
⟨some 9, none, .build [.z (.int .i64 0), .z (.int .i64 0), .z (.int .i64 0)] []⟩,
⟨some 10, none, .mv (.t 4)⟩,
⟨none, none, .store 3 (.t 2) (.t 9)⟩,
⟨some 3, none, .mv (.t 10)⟩] [4, 9, 10])
.ret)
 .skip)))
(.seq (.reg true [
⟨some 11, none, .load (some 2) (.t 1)⟩,
⟨some 12, none, .call false true (.k (.fn n_calendar_Season_begin [] [])) [.t 11]⟩,
⟨some 13, none, .load (some 2) (.t 1)⟩,
⟨some 14, none, .call false true (.k (.fn n_calendar_Season_next [] [])) [.t 13]⟩,
⟨some 15, none, .call false true (.k (.fn n_calendar_Season_begin [] [])) [.t 14]⟩,
⟨some 16, none, .bin .sub (.t 15) (.k (.d (.int .i64 1)))⟩,
⟨some 17, none, .build [.z (.int .i64 0), .z (.int .i64 0), .z (.int .i64 0)] [(0, 1, .t 12), (1, 1, .t 16), (2, 1, .k (.d (.int .i64 127)))]⟩,
⟨none, none, .store 3 (.t 2) (.t 17)⟩,
⟨some 3, none, .mv (.k (.d (.int .i64 0)))⟩] [1, 11, 12, 13, 14, 15, 16, 17])
.ret)))⟩

/-- "turnround/calendar.Next" -/
def c_calendar_Next : CF := ⟨[.cell 2 (some 2), .tmp 3],
  (.seq (.reg false [
⟨some 1, none, .box ty_calendar_Season (.t 0)⟩,
⟨some 2, none, .alloc ty_calendar_Season [.z (.int .i64 0), .z (.str [])]⟩,
⟨some 3, none, .mv (.k (.d (.int .i64 0)))⟩] [0, 3])
(.seq (.seq (.reg true [
⟨some 5, none, .load (some 2) (.t 1)⟩,
⟨some 6, none, .call false true (.k (.fn n_calendar_CheckSeason [] [])) [.t 5]⟩,
⟨some 7, none, .load (some 2) (.t 1)⟩,
⟨some 8, none, .call false true (.k (.fn n_calendar_latest [] [])) []⟩,
⟨some 9, none, .eqv (some [.int, .str]) false (.t 7) (.t 8)⟩,
⟨some 10, none, .call false true (.k (.fn n_calendar_when [] [])) [.t 9, .k (.d (.int .i64 7))]⟩,
⟨some 11, none, .mkList 1 2 [.t 6, .t 10]⟩,
⟨some 12, none, .call false true (.k (.fn n_calendar_first [] [])) [.t 11]⟩,
⟨some 4, none, .mv (.t 12)⟩] [5, 6, 7, 8, 9, 10, 11, 12])
(.seq (.reg false [
⟨some 13, none, .mv (.t 4)⟩,
⟨some 14, none, .bin .neq (.t 13) (.k (.d (.int .i64 0)))⟩] [13])
(.cond (.t 14) (.seq (.reg false [
⟨some 15, none, .build [.z (.int .i64 0), .z (.str [])] []⟩,
⟨some 16, none, .mv (.t 4)⟩,
⟨none, none, .store 2 (.t 2) (.t 15)⟩,
⟨some 3, none, .mv (.t 16)⟩] [4, 15, 16])
.ret)
 .skip)))
(.seq (.reg false [
⟨some 17, none, .load (some 2) (.t 1)⟩,
⟨some 18, none, .call false true (.k (.fn n_calendar_Season_next [] [])) [.t 17]⟩,
⟨none, none, .store 2 (.t 2) (.t 18)⟩,
⟨some 3, none, .mv (.k (.d (.int .i64 0)))⟩] [1, 17, 18])
.ret)))⟩

/-- "turnround/calendar.Previous" -/
def c_calendar_Previous : CF := ⟨[.cell 2 (some 2), .tmp 3],
  (.seq (.reg false [
⟨some 1, none, .box ty_calendar_Season (.t 0)⟩,
⟨some 2, none, .alloc ty_calendar_Season [.z (.int .i64 0), .z (.str [])]⟩,
⟨some 3, none, .mv (.k (.d (.int .i64 0)))⟩] [0, 3])
(.seq (.seq (.reg true [
⟨some 5, none, .load (some 2) (.t 1)⟩,
⟨some 6, none, .call false true (.k (.fn n_calendar_CheckSeason [] [])) [.t 5]⟩,
⟨some 7, none, .load (some 2) (.t 1)⟩,
⟨some 8, none, .call false true (.k (.fn n_calendar_earliest [] [])) []⟩,
⟨some 9, none, .eqv (some [.int, .str]) false (.t 7) (.t 8)⟩,
⟨some 10, none, .call false true (.k (.fn n_calendar_when [] [])) [.t 9, .k (.d (.int .i64 7))]⟩,
⟨some 11, none, .mkList 1 2 [.t 6, .t 10]⟩,
⟨some 12, none, .call false true (.k (.fn n_calendar_first [] [])) [.t 11]⟩,
⟨some 4, none, .mv (.t 12)⟩] [5, 6, 7, 8, 9, 10, 11, 12])
(.seq (.reg false [
⟨some 13, none, .mv (.t 4)⟩,
⟨some 14, none, .bin .neq (.t 13) (.k (.d (.int .i64 0)))⟩] [13])
(.cond (.t 14) (.seq (.reg false [
⟨some 15, none, .build [.z (.int .i64 0), .z (.str [])] []⟩,
⟨some 16, none, .mv (.t 4)⟩,
⟨none, none, .store 2 (.t 2) (.t 15)⟩,
⟨some 3, none, .mv (.t 16)⟩] [4, 15, 16])
.ret)
 .skip)))
(.seq (.seq (.reg false [
⟨some 17, none, .fieldAddr 1 (.t 1)⟩,
⟨some 18, none, .load none (.t 17)⟩,
⟨some 19, none, .bin .eql (.t 18) (.k (.d (.str [87])))⟩] [17, 18])
(.cond (.t 19) (.seq (.reg false [
⟨some 20, none, .fieldAddr 0 (.t 1)⟩,
⟨some 21, none, .load none (.t 20)⟩,
⟨some 22, none, .build [.z (.int .i64 0), .z (.str [])] [(0, 1, .t 21), (1, 1, .k (.d (.str [83])))]⟩,
⟨none, none, .store 2 (.t 2) (.t 22)⟩,
⟨some 3, none, .mv (.k (.d (.int .i64 0)))⟩] [1, 20, 21, 22])
.ret)
 .skip))
(.seq (.reg false [
⟨some 23, none, .fieldAddr 0 (.t 1)⟩,
⟨some 24, none, .load none (.t 23)⟩,
⟨some 25, none, .bin .sub (.t 24) (.k (.d (.int .i64 1)))⟩,
⟨some 26, none, .build [.z (.int .i64 0), .z (.str [])] [(0, 1, .t 25), (1, 1, .k (.d (.str [87])))]⟩,
⟨none, none, .store 2 (.t 2) (.t 26)⟩,
⟨some 3, none, .mv (.k (.d (.int .i64 0)))⟩] [1, 23, 24, 25, 26])
.ret))))⟩

/-- "turnround/calendar.SeasonOf" -/
def c_calendar_SeasonOf : CF := ⟨[.cell 2 (some 2), .tmp 3],
  (.seq (.reg false [
⟨some 2, none, .alloc ty_calendar_Season [.z (.int .i64 0), .z (.str [])]⟩,
⟨some 3, none, .mv (.k (.d (.int .i64 0)))⟩] [3])
(.seq (.seq (.reg false [
⟨some 6, none, .mv (.t 0)⟩,
⟨some 7, none, .call false true (.k (.fn n_calendar_checkDay [] [])) [.t 6]⟩,
⟨some 4, none, .mv (.t 7)⟩] [6, 7])
(.seq (.reg false [
⟨some 8, none, .mv (.t 4)⟩,
⟨some 9, none, .bin .neq (.t 8) (.k (.d (.int .i64 0)))⟩] [8])
(.cond (.t 9) (.seq (.reg false [
⟨some 10, none, .build [.z (.int .i64 0), .z (.str [])] []⟩,
⟨some 11, none, .mv (.t 4)⟩,
⟨none, none, .store 2 (.t 2) (.t 10)⟩,
⟨some 3, none, .mv (.t 11)⟩] [4, 10, 11])
.ret)
 .skip)))
(.seq (.seq (.reg false [
⟨some 12, none, .mv (.t 0)⟩,
⟨some 13, none, .call false true (.k (.fn n_calendar_earliest [] [])) []⟩,
⟨some 14, none, .call false true (.k (.fn n_calendar_Season_begin [] [])) [.t 13]⟩,
⟨some 15, none, .bin .lss (.t 12) (.t 14)⟩,
⟨some 16, none, .mv (.t 15)⟩,
⟨some 17, (some (16, false)), .mv (.t 0)⟩,
⟨some 18, (some (16, false)), .call false true (.k (.fn n_calendar_latest [] [])) []⟩,
⟨some 19, (some (16, false)), .call false true (.k (.fn n_calendar_Season_next [] [])) [.t 18]⟩,
⟨some 20, (some (16, false)), .call false true (.k (.fn n_calendar_Season_begin [] [])) [.t 19]⟩,
⟨some 21, (some (16, false)), .bin .geq (.t 17) (.t 20)⟩,
⟨some 22, none, .pick (.t 16) (.k (.d (.bool true))) (.t 21)⟩] [12, 13, 14, 15, 16, 17, 18, 19, 20, 21])
(.cond (.t 22) (.seq (.reg false [
⟨some 23, none, .build [.z (.int .i64 0), .z (.str [])] []⟩,
⟨none, none, .store 2 (.t 2) (.t 23)⟩,
⟨some 3, none, .mv (.k (.d (.int .i64 30)))⟩] [23])
.ret)
 .skip))
(.seq (.reg false [
⟨some 24, none, .mv (.t 0)⟩,
⟨some 25, none, .call false true (.k (.fn n_calendar_date [] [])) [.t 24]⟩,
⟨some 26, none, .idxA 3 1 none (.t 25) (.k (.d (.int .i64 0)))⟩,
⟨some 5, none, .mv (.t 26)⟩] [24, 25, 26])
(.seq (.block 0 (.seq (.reg false [
⟨some 28, none, .mv (.t 0)⟩,
⟨some 29, none, .mv (.t 5)⟩,
⟨some 30, none, .call false true (.k (.fn n_calendar_lastSunday [] [])) [.t 29, .k (.d (.int .i64 3))]⟩,
⟨some 31, none, .bin .lss (.t 28) (.t 30)⟩,
⟨some 27, none, .mv (.t 31)⟩] [28, 29, 30, 31])
(.cond (.t 27) (.seq (.reg false [
⟨some 32, none, .mv (.t 5)⟩,
⟨some 33, none, .bin .sub (.t 32) (.k (.d (.int .i64 1)))⟩,
⟨some 34, none, .build [.z (.int .i64 0), .z (.str [])] [(0, 1, .t 33), (1, 1, .k (.d (.str [87])))]⟩,
⟨none, none, .store 2 (.t 2) (.t 34)⟩,
⟨some 3, none, .mv (.k (.d (.int .i64 0)))⟩] [5, 32, 33, 34])
.ret)
 (.seq (.reg false [
⟨some 36, none, .mv (.t 0)⟩,
⟨some 37, none, .mv (.t 5)⟩,
⟨some 38, none, .call false true (.k (.fn n_calendar_lastSunday [] [])) [.t 37, .k (.d (.int .i64 10))]⟩,
⟨some 39, none, .bin .lss (.t 36) (.t 38)⟩,
⟨some 35, none, .mv (.t 39)⟩] [0, 36, 37, 38, 39])
(.cond (.t 35) (.seq (.reg false [
⟨some 40, none, .mv (.t 5)⟩,
⟨some 41, none, .build [.z (.int .i64 0), .z (.str [])] [(0, 1, .t 40), (1, 1, .k (.d (.str [83])))]⟩,
⟨none, none, .store 2 (.t 2) (.t 41)⟩,
⟨some 3, none, .mv (.k (.d (.int .i64 0)))⟩] [5, 40, 41])
.ret)
 .skip)))))
(.seq (.reg false [
⟨some 42, none, .mv (.t 5)⟩,
⟨some 43, none, .build [.z (.int .i64 0), .z (.str [])] [(0, 1, .t 42), (1, 1, .k (.d (.str [87])))]⟩,
⟨none, none, .store 2 (.t 2) (.t 43)⟩,
⟨some 3, none, .mv (.k (.d (.int .i64 0)))⟩] [5, 42, 43])
.ret))))))⟩

/-- "turnround/calendar.Equivalent" -/
def c_calendar_Equivalent : CF := ⟨[.tmp 4, .tmp 5],
  (.seq (.reg false [
⟨some 3, none, .box ty_calendar_Season (.t 1)⟩,
⟨some 4, none, .mv (.k (.d (.int .i64 0)))⟩,
⟨some 5, none, .mv (.k (.d (.int .i64 0)))⟩] [1, 4, 5])
(.seq (.reg false [
⟨some 11, none, .mv (.t 0)⟩,
⟨some 12, none, .call false true (.k (.fn n_calendar_SeasonOf [] [])) [.t 11]⟩,
⟨some 10, none, .mv (.t 12)⟩,
⟨some 13, none, .extract (.t 10) 0⟩,
⟨some 14, none, .extract (.t 10) 1⟩,
⟨some 6, none, .alloc ty_calendar_Season [.z (.int .i64 0), .z (.str [])]⟩,
⟨none, none, .store 2 (.t 6) (.t 13)⟩,
⟨some 7, none, .mv (.t 14)⟩] [10, 11, 12, 13, 14])
(.seq (.seq (.reg true [
⟨some 15, none, .mv (.t 7)⟩,
⟨some 16, none, .load (some 2) (.t 3)⟩,
⟨some 17, none, .call false true (.k (.fn n_calendar_CheckSeason [] [])) [.t 16]⟩,
⟨some 18, none, .fieldAddr 1 (.t 6)⟩,
⟨some 19, none, .load none (.t 18)⟩,
⟨some 20, none, .fieldAddr 1 (.t 3)⟩,
⟨some 21, none, .load none (.t 20)⟩,
⟨some 22, none, .bin .neq (.t 19) (.t 21)⟩,
⟨some 23, none, .call false true (.k (.fn n_calendar_when [] [])) [.t 22, .k (.d (.int .i64 13))]⟩,
⟨some 24, none, .mkList 1 3 [.t 15, .t 17, .t 23]⟩,
⟨some 25, none, .call false true (.k (.fn n_calendar_first [] [])) [.t 24]⟩,
⟨some 8, none, .mv (.t 25)⟩] [7, 15, 16, 17, 18, 19, 20, 21, 22, 23, 24, 25])
(.seq (.reg false [
⟨some 26, none, .mv (.t 8)⟩,
⟨some 27, none, .bin .neq (.t 26) (.k (.d (.int .i64 0)))⟩] [26])
(.cond (.t 27) (.seq (.reg false [
⟨some 28, none, .mv (.t 8)⟩,
⟨some 4, none, .mv (.k (.d (.int .i64 0)))⟩,
⟨some 5, none, .mv (.t 28)⟩] [8, 28])
.ret)
 .skip)))
(.seq (.reg true [
⟨some 29, none, .load (some 2) (.t 3)⟩,
⟨some 30, none, .call false true (.k (.fn n_calendar_Season_begin [] [])) [.t 29]⟩,
⟨some 31, none, .mv (.t 0)⟩,
⟨some 32, none, .bin .add (.t 30) (.t 31)⟩,
⟨some 33, none, .load (some 2) (.t 6)⟩,
⟨some 34, none, .call false true (.k (.fn n_calendar_Season_begin [] [])) [.t 33]⟩,
⟨some 35, none, .bin .sub (.t 32) (.t 34)⟩,
⟨some 9, none, .mv (.t 35)⟩] [0, 6, 29, 30, 31, 32, 33, 34, 35])
(.seq (.seq (.reg false [
⟨some 36, none, .mv (.t 9)⟩,
⟨some 37, none, .load (some 2) (.t 3)⟩,
⟨some 38, none, .call false true (.k (.fn n_calendar_Season_next [] [])) [.t 37]⟩,
⟨some 39, none, .call false true (.k (.fn n_calendar_Season_begin [] [])) [.t 38]⟩,
⟨some 40, none, .bin .geq (.t 36) (.t 39)⟩] [3, 36, 37, 38, 39])
(.cond (.t 40) (.seq (.reg false [
⟨some 4, none, .mv (.k (.d (.int .i64 0)))⟩,
⟨some 5, none, .mv (.k (.d (.int .i64 7)))⟩] [])
.ret)
 .skip))
(.seq (.reg false [
⟨some 41, none, .mv (.t 9)⟩,
⟨some 4, none, .mv (.t 41)⟩,
⟨some 5, none, .mv (.k (.d (.int .i64 0)))⟩] [9, 41])
.ret))))))⟩

/-- "turnround/turnroundref01.Span" -/
def c_ref01_Span : CF := ⟨[.cell 2 (some 3)],
  (.seq (.reg false [
⟨some 1, none, .box ty_turnroundref01_Season (.t 0)⟩,
⟨some 2, none, .alloc ty_api_Period [.z (.int .i64 0), .z (.int .i64 0), .z (.int .i64 0)]⟩] [0])
(.seq (.seq (.reg false [
⟨some 3, none, .fieldAddr 1 (.t 1)⟩,
⟨some 4, none, .load none (.t 3)⟩,
⟨some 5, none, .bin .eql (.t 4) (.k (.d (.str [83])))⟩] [3, 4])
(.cond (.t 5) (.seq (.reg true [
⟨some 6, none, .fieldAddr 0 (.t 1)⟩,
⟨some 7, none, .load none (.t 6)⟩,
⟨some 8, none, .call false true (.k (.fn n_ref01_LastSunday [] [])) [.t 7, .k (.d (.int .i64 3))]⟩,
⟨some 9, none, .fieldAddr 0 (.t 1)⟩,
⟨some 10, none, .load none (.t 9)⟩,
⟨some 11, none, .call false true (.k (.fn n_ref01_LastSunday [] [])) [.t 10, .k (.d (.int .i64 10))]⟩,
⟨some 12, none, .bin .sub (.t 11) (.k (.d (.int .i64 1)))⟩,
⟨some 13, none, .build [.z (.int .i64 0), .z (.int .i64 0), .z (.int .i64 0)] [(0, 1, .t 8), (1, 1, .t 12), (2, 1, .k (.d (.int .i64 127)))]⟩,
⟨none, none, .store 3 (.t 2) (.t 13)⟩] [1, 6, 7, 8, 9, 10, 11, 12, 13])
.ret)
 .skip))
(.seq (.reg true [
⟨some 14, none, .fieldAddr 0 (.t 1)⟩,
⟨some 15, none, .load none (.t 14)⟩,
⟨some 16, none, .call false true (.k (.fn n_ref01_LastSunday [] [])) [.t 15, .k (.d (.int .i64 10))]⟩,
⟨some 17, none, .fieldAddr 0 (.t 1)⟩,
⟨some 18, none, .load none (.t 17)⟩,
⟨some 19, none, .bin .add (.t 18) (.k (.d (.int .i64 1)))⟩,
⟨some 20, none, .call false true (.k (.fn n_ref01_LastSunday [] [])) [.t 19, .k (.d (.int .i64 3))]⟩,
⟨some 21, none, .bin .sub (.t 20) (.k (.d (.int .i64 1)))⟩,
⟨some 22, none, .build [.z (.int .i64 0), .z (.int .i64 0), .z (.int .i64 0)] [(0, 1, .t 16), (1, 1, .t 21), (2, 1, .k (.d (.int .i64 127)))]⟩,
⟨none, none, .store 3 (.t 2) (.t 22)⟩] [1, 14, 15, 16, 17, 18, 19, 20, 21, 22])
.ret)))⟩

/-- "turnround/turnroundref01.Next" -/
def c_ref01_Next : CF := ⟨[.cell 2 (some 2), .tmp 3],
  (.seq (.reg false [
⟨some 1, none, .box ty_turnroundref01_Season (.t 0)⟩,
⟨some 2, none, .alloc ty_turnroundref01_Season [.z (.int .i64 0), .z (.str [])]⟩,
⟨some 3, none, .mv (.k (.d (.bool false)))⟩] [0, 3])
(.seq (.seq (.reg false [
⟨some 4, none, .fieldAddr 1 (.t 1)⟩,
⟨some 5, none, .load none (.t 4)⟩,
⟨some 6, none, .bin .eql (.t 5) (.k (.d (.str [83])))⟩] [4, 5])
(.cond (.t 6) (.seq (.reg false [
⟨some 7, none, .fieldAddr 0 (.t 1)⟩,
⟨some 8, none, .load none (.t 7)⟩,
⟨some 9, none, .build [.z (.int .i64 0), .z (.str [])] [(0, 1, .t 8), (1, 1, .k (.d (.str [87])))]⟩,
⟨none, none, .store 2 (.t 2) (.t 9)⟩,
⟨some 3, none, .mv (.k (.d (.bool true)))⟩] [1, 7, 8, 9])
.ret)
 .skip))
(.seq (.seq (.reg false [
⟨some 10, none, .fieldAddr 0 (.t 1)⟩,
⟨some 11, none, .load none (.t 10)⟩,
⟨some 12, none, .bin .eql (.t 11) (.k (.d (.int .i64 2272)))⟩] [10, 11])
(.cond (.t 12) (.seq (.reg false [
⟨some 13, none, .build [.z (.int .i64 0), .z (.str [])] []⟩,
⟨none, none, .store 2 (.t 2) (.t 13)⟩,
⟨some 3, none, .mv (.k (.d (.bool false)))⟩] [13])
.ret)
 .skip))
(.seq (.reg false [
⟨some 14, none, .fieldAddr 0 (.t 1)⟩,
⟨some 15, none, .load none (.t 14)⟩,
⟨some 16, none, .bin .add (.t 15) (.k (.d (.int .i64 1)))⟩,
⟨some 17, none, .build [.z (.int .i64 0), .z (.str [])] [(0, 1, .t 16), (1, 1, .k (.d (.str [83])))]⟩,
⟨none, none, .store 2 (.t 2) (.t 17)⟩,
⟨some 3, none, .mv (.k (.d (.bool true)))⟩] [1, 14, 15, 16, 17])
.ret))))⟩

/-- "turnround/turnroundref01.Previous" -/
def c_ref01_Previous : CF := ⟨[.cell 2 (some 2), .tmp 3],
  (.seq (.reg false [
⟨some 1, none, .box ty_turnroundref01_Season (.t 0)⟩,
⟨some 2, none, .alloc ty_turnroundref01_Season [.z (.int .i64 0), .z (.str [])]⟩,
⟨some 3, none, .mv (.k (.d (.bool false)))⟩] [0, 3])
(.seq (.seq (.reg false [
⟨some 4, none, .fieldAddr 1 (.t 1)⟩,
⟨some 5, none, .load none (.t 4)⟩,
⟨some 6, none, .bin .eql (.t 5) (.k (.d (.str [87])))⟩] [4, 5])
(.cond (.t 6) (.seq (.reg false [
⟨some 7, none, .fieldAddr 0 (.t 1)⟩,
⟨some 8, none, .load none (.t 7)⟩,
⟨some 9, none, .build [.z (.int .i64 0), .z (.str [])] [(0, 1, .t 8), (1, 1, .k (.d (.str [83])))]⟩,
⟨none, none, .store 2 (.t 2) (.t 9)⟩,
⟨some 3, none, .mv (.k (.d (.bool true)))⟩] [1, 7, 8, 9])
.ret)
 .skip))
(.seq (.seq (.reg false [
⟨some 10, none, .fieldAddr 0 (.t 1)⟩,
⟨some 11, none, .load none (.t 10)⟩,
⟨some 12, none, .bin .eql (.t 11) (.k (.d (.int .i64 2000)))⟩] [10, 11])
(.cond (.t 12) (.seq (.reg false [
⟨some 13, none, .build [.z (.int .i64 0), .z (.str [])] []⟩,
⟨none, none, .store 2 (.t 2) (.t 13)⟩,
⟨some 3, none, .mv (.k (.d (.bool false)))⟩] [13])
.ret)
 .skip))
(.seq (.reg false [
⟨some 14, none, .fieldAddr 0 (.t 1)⟩,
⟨some 15, none, .load none (.t 14)⟩,
⟨some 16, none, .bin .sub (.t 15) (.k (.d (.int .i64 1)))⟩,
⟨some 17, none, .build [.z (.int .i64 0), .z (.str [])] [(0, 1, .t 16), (1, 1, .k (.d (.str [87])))]⟩,
⟨none, none, .store 2 (.t 2) (.t 17)⟩,
⟨some 3, none, .mv (.k (.d (.bool true)))⟩] [1, 14, 15, 16, 17])
.ret))))⟩

def b_ref01_SeasonOf_1 : C :=
  (.seq (.seq (.reg false [
⟨some 20, none, .mv (.t 6)⟩,
⟨some 21, none, .bin .lss (.t 20) (.k (.d (.int .i64 2)))⟩] [20])
(.cond (.t 21) .skip
 (.exit 2)))
(.seq (.block 3 (.seq (.reg false [
⟨some 24, none, .mv (.t 5)⟩,
⟨some 25, none, .mv (.t 6)⟩,
⟨some 26, none, .mv (.t 6)⟩,
⟨some 27, none, .bin .add (.t 26) (.k (.d (.int .i64 1)))⟩,
⟨some 28, none, .sliceS (.k (.d (.str [83, 87]))) (some (.t 25)) (some (.t 27))⟩,
⟨some 29, none, .build [.z (.int .i64 0), .z (.str [])] [(0, 1, .t 24), (1, 1, .t 28)]⟩,
⟨some 7, none, .alloc ty_turnroundref01_Season [.z (.int .i64 0), .z (.str [])]⟩,
⟨none, none, .store 2 (.t 7) (.t 29)⟩] [24, 25, 26, 27, 28, 29])
(.seq (.reg false [
⟨some 30, none, .load (some 2) (.t 7)⟩,
⟨some 31, none, .call false true (.k (.fn n_ref01_Span [] [])) [.t 30]⟩,
⟨some 32, none, .mv (.t 0)⟩,
⟨some 33, none, .call false true (.k (.fn n_ref01_Has [] [])) [.t 31, .t 32]⟩] [30, 31, 32])
(.cond (.t 33) (.seq (.reg false [
⟨some 34, none, .load (some 2) (.t 7)⟩,
⟨none, none, .store 2 (.t 2) (.t 34)⟩,
⟨some 3, none, .mv (.k (.d (.bool true)))⟩] [7, 34])
.ret)
 .skip))))
(.reg false [
⟨some 22, none, .mv (.t 6)⟩,
⟨some 23, none, .bin .add (.t 22) (.k (.d (.int .i64 1)))⟩,
⟨some 6, none, .mv (.t 23)⟩] [22, 23])))

def b_ref01_SeasonOf_2 : C :=
  (.seq (.seq (.reg false [
⟨some 14, none, .mv (.t 5)⟩,
⟨some 15, none, .mv (.t 4)⟩,
⟨some 16, none, .minmax false [.k (.d (.int .i64 2272)), .t 15]⟩,
⟨some 17, none, .bin .leq (.t 14) (.t 16)⟩] [14, 15, 16])
(.cond (.t 17) .skip
 (.exit 0)))
(.seq (.block 1 (.seq (.reg false [
⟨some 6, none, .mv (.k (.d (.int .i64 0)))⟩] [])
(.block 2 (.loop [0, 2, 4, 5, 6] b_ref01_SeasonOf_1))))
(.reg false [
⟨some 18, none, .mv (.t 5)⟩,
⟨some 19, none, .bin .add (.t 18) (.k (.d (.int .i64 1)))⟩,
⟨some 5, none, .mv (.t 19)⟩] [18, 19])))

/-- "turnround/turnroundref01.SeasonOf" -/
def c_ref01_SeasonOf : CF := ⟨[.cell 2 (some 2), .tmp 3],
  (.seq (.reg false [
⟨some 2, none, .alloc ty_turnroundref01_Season [.z (.int .i64 0), .z (.str [])]⟩,
⟨some 3, none, .mv (.k (.d (.bool false)))⟩] [3])
(.seq (.reg false [
⟨some 8, none, .mv (.t 0)⟩,
⟨some 9, none, .call false true (.k (.fn n_ref01_Date [] [])) [.t 8]⟩,
⟨some 10, none, .idxA 3 1 none (.t 9) (.k (.d (.int .i64 0)))⟩,
⟨some 4, none, .mv (.t 10)⟩] [8, 9, 10])
(.seq (.seq (.reg false [
⟨some 11, none, .mv (.t 4)⟩,
⟨some 12, none, .bin .sub (.t 11) (.k (.d (.int .i64 1)))⟩,
⟨some 13, none, .minmax true [.k (.d (.int .i64 2000)), .t 12]⟩,
⟨some 5, none, .mv (.t 13)⟩] [11, 12, 13])
(.block 0 (.loop [0, 2, 4, 5] b_ref01_SeasonOf_2)))
(.seq (.reg false [
⟨some 35, none, .build [.z (.int .i64 0), .z (.str [])] []⟩,
⟨none, none, .store 2 (.t 2) (.t 35)⟩,
⟨some 3, none, .mv (.k (.d (.bool false)))⟩] [35])
.ret))))⟩

/-- "turnround/calendar.ParseDate" -/
def c_calendar_ParseDate : CF := ⟨[.tmp 2, .tmp 3],
  (.seq (.reg false [
⟨some 2, none, .mv (.k (.d (.int .i64 0)))⟩,
⟨some 3, none, .mv (.k (.d (.int .i64 0)))⟩] [2, 3])
(.seq (.seq (.reg true [
⟨some 10, none, .mv (.t 0)⟩,
⟨some 11, none, .len .str (.t 10)⟩,
⟨some 12, none, .bin .neq (.t 11) (.k (.d (.int .i64 10)))⟩,
⟨some 13, none, .mv (.t 12)⟩,
⟨some 14, (some (13, false)), .mv (.t 0)⟩,
⟨some 15, (some (13, false)), .idxS (.t 14) (.k (.d (.int .i64 4)))⟩,
⟨some 16, (some (13, false)), .bin .neq (.t 15) (.k (.d (.int .u8 45)))⟩,
⟨some 17, none, .pick (.t 13) (.k (.d (.bool true))) (.t 16)⟩,
⟨some 18, none, .mv (.t 17)⟩,
⟨some 19, (some (18, false)), .mv (.t 0)⟩,
⟨some 20, (some (18, false)), .idxS (.t 19) (.k (.d (.int .i64 7)))⟩,
⟨some 21, (some (18, false)), .bin .neq (.t 20) (.k (.d (.int .u8 45)))⟩,
⟨some 22, none, .pick (.t 18) (.k (.d (.bool true))) (.t 21)⟩,
⟨some 23, none, .mv (.t 22)⟩,
⟨some 24, (some (23, false)), .mv (.t 0)⟩,
⟨some 25, (some (23, false)), .sliceS (.t 24) none (some (.k (.d (.int .i64 4))))⟩,
⟨some 26, (some (23, false)), .mv (.t 0)⟩,
⟨some 27, (some (23, false)), .sliceS (.t 26) (some (.k (.d (.int .i64 5)))) (some (.k (.d (.int .i64 7))))⟩,
⟨some 28, (some (23, false)), .bin .add (.t 25) (.t 27)⟩,
⟨some 29, (some (23, false)), .mv (.t 0)⟩,
⟨some 30, (some (23, false)), .sliceS (.t 29) (some (.k (.d (.int .i64 8)))) none⟩,
⟨some 31, (some (23, false)), .bin .add (.t 28) (.t 30)⟩,
⟨some 32, (some (23, false)), .call false true (.k (.fn n_calendar_digits [] [])) [.t 31]⟩,
⟨some 33, (some (23, false)), .un .not (.t 32)⟩,
⟨some 34, none, .pick (.t 23) (.k (.d (.bool true))) (.t 33)⟩] [10, 11, 12, 13, 14, 15, 16, 17, 18, 19, 20, 21, 22, 23, 24, 25, 26, 27, 28, 29, 30, 31, 32, 33])
(.cond (.t 34) (.seq (.reg false [
⟨some 2, none, .mv (.k (.d (.int .i64 0)))⟩,
⟨some 3, none, .mv (.k (.d (.int .i64 25)))⟩] [])
.ret)
 .skip))
(.seq (.reg false [
⟨some 36, none, .mv (.t 0)⟩,
⟨some 37, none, .sliceS (.t 36) none (some (.k (.d (.int .i64 4))))⟩,
⟨some 38, none, .call false false (.k (.fn n_strconv_Atoi [] [])) [.t 37]⟩,
⟨some 35, none, .mv (.t 38)⟩,
⟨some 39, none, .extract (.t 35) 0⟩,
⟨some 40, none, .extract (.t 35) 1⟩,
⟨some 4, none, .mv (.t 39)⟩,
⟨some 5, none, .mv (.t 40)⟩] [5, 35, 36, 37, 38, 39, 40])
(.seq (.reg false [
⟨some 42, none, .mv (.t 0)⟩,
⟨some 43, none, .sliceS (.t 42) (some (.k (.d (.int .i64 5)))) (some (.k (.d (.int .i64 7))))⟩,
⟨some 44, none, .call false false (.k (.fn n_strconv_Atoi [] [])) [.t 43]⟩,
⟨some 41, none, .mv (.t 44)⟩,
⟨some 45, none, .extract (.t 41) 0⟩,
⟨some 46, none, .extract (.t 41) 1⟩,
⟨some 6, none, .mv (.t 45)⟩,
⟨some 7, none, .mv (.t 46)⟩] [7, 41, 42, 43, 44, 45, 46])
(.seq (.reg false [
⟨some 48, none, .mv (.t 0)⟩,
⟨some 49, none, .sliceS (.t 48) (some (.k (.d (.int .i64 8)))) none⟩,
⟨some 50, none, .call false false (.k (.fn n_strconv_Atoi [] [])) [.t 49]⟩,
⟨some 47, none, .mv (.t 50)⟩,
⟨some 51, none, .extract (.t 47) 0⟩,
⟨some 52, none, .extract (.t 47) 1⟩,
⟨some 8, none, .mv (.t 51)⟩,
⟨some 9, none, .mv (.t 52)⟩] [0, 9, 47, 48, 49, 50, 51, 52])
(.seq (.reg false [
⟨some 53, none, .mv (.t 4)⟩,
⟨some 54, none, .mv (.t 6)⟩,
⟨some 55, none, .mv (.t 8)⟩,
⟨some 56, none, .call false true (.k (.fn n_calendar_Day [] [])) [.t 53, .t 54, .t 55]⟩,
⟨some 57, none, .extract (.t 56) 0⟩,
⟨some 58, none, .extract (.t 56) 1⟩,
⟨some 2, none, .mv (.t 57)⟩,
⟨some 3, none, .mv (.t 58)⟩] [4, 6, 8, 53, 54, 55, 56, 57, 58])
.ret))))))⟩

def b_ref01_ParseDate_1 : C :=
  (.seq (.seq (.reg false [
⟨some 11, none, .mv (.t 6)⟩,
⟨some 12, none, .bin .lss (.t 11) (.k (.d (.int .i64 10)))⟩] [11])
(.cond (.t 12) .skip
 (.exit 0)))
(.seq (.block 1 (.seq (.seq (.reg false [
⟨some 15, none, .mv (.t 6)⟩,
⟨some 16, none, .bin .eql (.t 15) (.k (.d (.int .i64 4)))⟩,
⟨some 17, none, .mv (.t 16)⟩,
⟨some 18, (some (17, false)), .mv (.t 6)⟩,
⟨some 19, (some (17, false)), .bin .eql (.t 18) (.k (.d (.int .i64 7)))⟩,
⟨some 20, none, .pick (.t 17) (.k (.d (.bool true))) (.t 19)⟩] [15, 16, 17, 18, 19])
(.cond (.t 20) (.seq (.seq (.reg false [
⟨some 21, none, .mv (.t 0)⟩,
⟨some 22, none, .mv (.t 6)⟩,
⟨some 23, none, .idxS (.t 21) (.t 22)⟩,
⟨some 24, none, .bin .neq (.t 23) (.k (.d (.int .u8 45)))⟩] [21, 22, 23])
(.cond (.t 24) (.seq (.reg false [
⟨some 2, none, .mv (.k (.d (.int .i64 0)))⟩,
⟨some 3, none, .mv (.k (.d (.int .i64 25)))⟩] [])
.ret)
 .skip))
(.seq (.reg false [
⟨some 25, none, .mv (.t 5)⟩,
⟨some 26, none, .bin .add (.t 25) (.k (.d (.int .i64 1)))⟩,
⟨some 5, none, .mv (.t 26)⟩] [25, 26])
(.exit 1)))
 .skip))
(.seq (.seq (.reg false [
⟨some 27, none, .mv (.t 0)⟩,
⟨some 28, none, .mv (.t 6)⟩,
⟨some 29, none, .idxS (.t 27) (.t 28)⟩,
⟨some 30, none, .bin .lss (.t 29) (.k (.d (.int .u8 48)))⟩,
⟨some 31, none, .mv (.t 30)⟩,
⟨some 32, (some (31, false)), .mv (.t 0)⟩,
⟨some 33, (some (31, false)), .mv (.t 6)⟩,
⟨some 34, (some (31, false)), .idxS (.t 32) (.t 33)⟩,
⟨some 35, (some (31, false)), .bin .gtr (.t 34) (.k (.d (.int .u8 57)))⟩,
⟨some 36, none, .pick (.t 31) (.k (.d (.bool true))) (.t 35)⟩] [27, 28, 29, 30, 31, 32, 33, 34, 35])
(.cond (.t 36) (.seq (.reg false [
⟨some 2, none, .mv (.k (.d (.int .i64 0)))⟩,
⟨some 3, none, .mv (.k (.d (.int .i64 25)))⟩] [])
.ret)
 .skip))
(.reg true [
⟨some 37, none, .mv (.t 5)⟩,
⟨some 38, none, .mv (.t 5)⟩,
⟨some 39, none, .idxAddrA 3 1 (.t 4) (.t 38)⟩,
⟨some 40, none, .load none (.t 39)⟩,
⟨some 41, none, .bin .mul (.k (.d (.int .i64 10))) (.t 40)⟩,
⟨some 42, none, .mv (.t 0)⟩,
⟨some 43, none, .mv (.t 6)⟩,
⟨some 44, none, .idxS (.t 42) (.t 43)⟩,
⟨some 45, none, .bin .sub (.t 44) (.k (.d (.int .u8 48)))⟩,
⟨some 46, none, .conv .i64 (.t 45)⟩,
⟨some 47, none, .bin .add (.t 41) (.t 46)⟩,
⟨some 48, none, .idxAddrA 3 1 (.t 4) (.t 37)⟩,
⟨none, none, .store 1 (.t 48) (.t 47)⟩] [37, 38, 39, 40, 41, 42, 43, 44, 45, 46, 47, 48]))))
(.reg false [
⟨some 13, none, .mv (.t 6)⟩,
⟨some 14, none, .bin .add (.t 13) (.k (.d (.int .i64 1)))⟩,
⟨some 6, none, .mv (.t 14)⟩] [13, 14])))

/-- "turnround/turnroundref01.ParseDate" -/
def c_ref01_ParseDate : CF := ⟨[.tmp 2, .tmp 3],
  (.seq (.reg false [
⟨some 2, none, .mv (.k (.d (.int .i64 0)))⟩,
⟨some 3, none, .mv (.k (.d (.int .i64 0)))⟩] [2, 3])
(.seq (.seq (.reg false [
⟨some 8, none, .mv (.t 0)⟩,
⟨some 9, none, .len .str (.t 8)⟩,
⟨some 10, none, .bin .neq (.t 9) (.k (.d (.int .i64 10)))⟩] [8, 9])
(.cond (.t 10) (.seq (.reg false [
⟨some 2, none, .mv (.k (.d (.int .i64 0)))⟩,
⟨some 3, none, .mv (.k (.d (.int .i64 25)))⟩] [])
.ret)
 .skip))
(.seq (.reg false [
⟨some 4, none, .alloc ty_3_int [.z (.int .i64 0), .z (.int .i64 0), .z (.int .i64 0)]⟩] [])
(.seq (.reg false [
⟨some 5, none, .mv (.k (.d (.int .i64 0)))⟩] [])
(.seq (.seq (.reg false [
⟨some 6, none, .mv (.k (.d (.int .i64 0)))⟩] [])
(.block 0 (.loop [0, 4, 5, 6] b_ref01_ParseDate_1)))
(.seq (.reg false [
⟨some 49, none, .idxAddrA 3 1 (.t 4) (.k (.d (.int .i64 0)))⟩,
⟨some 50, none, .load none (.t 49)⟩,
⟨some 51, none, .idxAddrA 3 1 (.t 4) (.k (.d (.int .i64 1)))⟩,
⟨some 52, none, .load none (.t 51)⟩,
⟨some 53, none, .idxAddrA 3 1 (.t 4) (.k (.d (.int .i64 2)))⟩,
⟨some 54, none, .load none (.t 53)⟩,
⟨some 55, none, .call false true (.k (.fn n_ref01_CheckDate [] [])) [.t 50, .t 52, .t 54]⟩,
⟨some 7, none, .mv (.t 55)⟩] [49, 50, 51, 52, 53, 54, 55])
(.seq (.seq (.reg false [
⟨some 56, none, .mv (.t 7)⟩,
⟨some 57, none, .bin .neq (.t 56) (.k (.d (.int .i64 0)))⟩] [56])
(.cond (.t 57) (.seq (.reg false [
⟨some 58, none, .mv (.t 7)⟩,
⟨some 2, none, .mv (.k (.d (.int .i64 0)))⟩,
⟨some 3, none, .mv (.t 58)⟩] [7, 58])
.ret)
 .skip))
(.seq (.reg false [
⟨some 59, none, .idxAddrA 3 1 (.t 4) (.k (.d (.int .i64 0)))⟩,
⟨some 60, none, .load none (.t 59)⟩,
⟨some 61, none, .idxAddrA 3 1 (.t 4) (.k (.d (.int .i64 1)))⟩,
⟨some 62, none, .load none (.t 61)⟩,
⟨some 63, none, .idxAddrA 3 1 (.t 4) (.k (.d (.int .i64 2)))⟩,
⟨some 64, none, .load none (.t 63)⟩,
⟨some 65, none, .call false true (.k (.fn n_ref01_Day [] [])) [.t 60, .t 62, .t 64]⟩,
⟨some 2, none, .mv (.t 65)⟩,
⟨some 3, none, .mv (.k (.d (.int .i64 0)))⟩] [4, 59, 60, 61, 62, 63, 64, 65])
.ret))))))))⟩

def b_calendar_ParseMask_1 : C :=
  (.seq (.reg false [
⟨some 10, none, .bin .lss (.t 9) (.t 8)⟩] [])
(.seq (.cond (.t 10) .skip
 (.exit 0))
(.seq (.block 1 (.seq (.reg false [
⟨some 11, none, .mv (.t 9)⟩,
⟨some 5, none, .mv (.t 11)⟩] [11])
(.seq (.reg false [
⟨some 12, none, .mv (.t 0)⟩,
⟨some 13, none, .mv (.t 5)⟩,
⟨some 14, none, .idxS (.t 12) (.t 13)⟩,
⟨some 15, none, .bin .neq (.t 14) (.k (.d (.int .u8 48)))⟩] [12, 13, 14])
(.cond (.t 15) (.reg false [
⟨some 16, none, .mv (.t 4)⟩,
⟨some 17, none, .mv (.t 5)⟩,
⟨some 18, none, .bin .shl (.k (.d (.int .i64 1))) (.t 17)⟩,
⟨some 19, none, .bin .or (.t 16) (.t 18)⟩,
⟨some 4, none, .mv (.t 19)⟩] [5, 16, 17, 18, 19])
 .skip))))
(.reg false [
⟨some 20, none, .bin .add (.t 9) (.k (.d (.int .i64 1)))⟩,
⟨some 9, none, .mv (.t 20)⟩] [20]))))

/-- "turnround/calendar.ParseMask" -/
def c_calendar_ParseMask : CF := ⟨[.tmp 2, .tmp 3],
  (.seq (.reg false [
⟨some 2, none, .mv (.k (.d (.int .i64 0)))⟩,
⟨some 3, none, .mv (.k (.d (.int .i64 0)))⟩] [2, 3])
(.seq (.reg false [
⟨some 4, none, .mv (.k (.d (.int .i64 0)))⟩] [])
(.seq (.seq (.reg false [
⟨some 6, none, .mv (.t 0)⟩,
⟨some 7, none, .len .str (.t 6)⟩,
⟨some 8, none, .minmax false [.k (.d (.int .i64 7)), .t 7]⟩,
⟨some 9, none, .mv (.k (.d (.int .i64 0)))⟩] [6, 7])
(.block 0 (.loop [0, 4, 8, 9] b_calendar_ParseMask_1)))
(.seq (.seq (.reg false [
⟨some 21, none, .mv (.t 4)⟩,
⟨some 22, none, .bin .eql (.t 21) (.k (.d (.int .i64 0)))⟩,
⟨some 23, none, .mv (.t 22)⟩,
⟨some 24, (some (23, false)), .mv (.t 4)⟩,
⟨some 25, (some (23, false)), .call false true (.k (.fn n_calendar_printMask [] [])) [.t 24]⟩,
⟨some 26, (some (23, false)), .mv (.t 0)⟩,
⟨some 27, (some (23, false)), .bin .neq (.t 25) (.t 26)⟩,
⟨some 28, none, .pick (.t 23) (.k (.d (.bool true))) (.t 27)⟩] [0, 21, 22, 23, 24, 25, 26, 27])
(.cond (.t 28) (.seq (.reg false [
⟨some 2, none, .mv (.k (.d (.int .i64 0)))⟩,
⟨some 3, none, .mv (.k (.d (.int .i64 25)))⟩] [])
.ret)
 .skip))
(.seq (.reg false [
⟨some 29, none, .mv (.t 4)⟩,
⟨some 2, none, .mv (.t 29)⟩,
⟨some 3, none, .mv (.k (.d (.int .i64 0)))⟩] [4, 29])
.ret)))))⟩

def b_ref01_ParseMask_1 : C :=
  (.seq (.seq (.reg false [
⟨some 5, none, .mv (.t 4)⟩,
⟨some 6, none, .bin .lss (.t 5) (.k (.d (.int .i64 128)))⟩] [5])
(.cond (.t 6) .skip
 (.exit 0)))
(.seq (.block 1 (.seq (.reg false [
⟨some 9, none, .mv (.t 4)⟩,
⟨some 10, none, .call false true (.k (.fn n_ref01_PrintMask [] [])) [.t 9]⟩,
⟨some 11, none, .mv (.t 0)⟩,
⟨some 12, none, .bin .eql (.t 10) (.t 11)⟩] [9, 10, 11])
(.cond (.t 12) (.seq (.reg false [
⟨some 13, none, .mv (.t 4)⟩,
⟨some 2, none, .mv (.t 13)⟩,
⟨some 3, none, .mv (.k (.d (.int .i64 0)))⟩] [4, 13])
.ret)
 .skip)))
(.reg false [
⟨some 7, none, .mv (.t 4)⟩,
⟨some 8, none, .bin .add (.t 7) (.k (.d (.int .i64 1)))⟩,
⟨some 4, none, .mv (.t 8)⟩] [7, 8])))

/-- "turnround/turnroundref01.ParseMask" -/
def c_ref01_ParseMask : CF := ⟨[.tmp 2, .tmp 3],
  (.seq (.reg false [
⟨some 2, none, .mv (.k (.d (.int .i64 0)))⟩,
⟨some 3, none, .mv (.k (.d (.int .i64 0)))⟩] [2, 3])
(.seq (.seq (.reg false [
⟨some 4, none, .mv (.k (.d (.int .i64 1)))⟩] [])
(.block 0 (.loop [0, 4] b_ref01_ParseMask_1)))
(.seq (.reg false [
⟨some 2, none, .mv (.k (.d (.int .i64 0)))⟩,
⟨some 3, none, .mv (.k (.d (.int .i64 25)))⟩] [])
.ret)))⟩

/-- "turnround/calendar.PrintMask" -/
def c_calendar_PrintMask : CF := ⟨[.tmp 2, .tmp 3],
  (.seq (.reg false [
⟨some 2, none, .mv (.k (.d (.str [])))⟩,
⟨some 3, none, .mv (.k (.d (.int .i64 0)))⟩] [2, 3])
(.seq (.seq (.reg false [
⟨some 5, none, .mv (.t 0)⟩,
⟨some 6, none, .call false true (.k (.fn n_calendar_within [] [])) [.t 5, .k (.d (.int .i64 1)), .k (.d (.int .i64 127))]⟩,
⟨some 4, none, .mv (.t 6)⟩] [5, 6])
(.seq (.reg false [
⟨some 7, none, .mv (.t 4)⟩,
⟨some 8, none, .bin .neq (.t 7) (.k (.d (.int .i64 0)))⟩] [7])
(.cond (.t 8) (.seq (.reg false [
⟨some 9, none, .mv (.t 4)⟩,
⟨some 2, none, .mv (.k (.d (.str [])))⟩,
⟨some 3, none, .mv (.t 9)⟩] [4, 9])
.ret)
 .skip)))
(.seq (.reg false [
⟨some 10, none, .mv (.t 0)⟩,
⟨some 11, none, .call false true (.k (.fn n_calendar_printMask [] [])) [.t 10]⟩,
⟨some 2, none, .mv (.t 11)⟩,
⟨some 3, none, .mv (.k (.d (.int .i64 0)))⟩] [0, 10, 11])
.ret)))⟩

/-- "turnround/turnroundref01.CheckRange" -/
def c_ref01_CheckRange : CF := ⟨[.tmp 6],
  (.seq (.reg false [
⟨some 6, none, .mv (.k (.d (.int .i64 0)))⟩] [6])
(.seq (.seq (.reg false [
⟨some 7, none, .mv (.t 0)⟩,
⟨some 8, none, .mv (.t 1)⟩,
⟨some 9, none, .bin .lss (.t 7) (.t 8)⟩,
⟨some 10, none, .mv (.t 9)⟩,
⟨some 11, (some (10, false)), .mv (.t 0)⟩,
⟨some 12, (some (10, false)), .mv (.t 2)⟩,
⟨some 13, (some (10, false)), .bin .gtr (.t 11) (.t 12)⟩,
⟨some 14, none, .pick (.t 10) (.k (.d (.bool true))) (.t 13)⟩] [0, 1, 2, 7, 8, 9, 10, 11, 12, 13])
(.cond (.t 14) (.seq (.reg false [
⟨some 6, none, .mv (.k (.d (.int .i64 3)))⟩] [])
.ret)
 .skip))
(.seq (.reg false [
⟨some 6, none, .mv (.k (.d (.int .i64 0)))⟩] [])
.ret)))⟩

def b_ref01_PrintMask_1 : C :=
  (.seq (.seq (.reg false [
⟨some 5, none, .mv (.t 4)⟩,
⟨some 6, none, .bin .lss (.t 5) (.k (.d (.int .i64 7)))⟩] [5])
(.cond (.t 6) .skip
 (.exit 0)))
(.seq (.block 1 (.seq (.reg false [
⟨some 9, none, .mv (.t 0)⟩,
⟨some 10, none, .mv (.t 4)⟩,
⟨some 11, none, .call false true (.k (.fn n_ref01_InMask [] [])) [.t 9, .t 10]⟩] [9, 10])
(.cond (.t 11) (.reg false [
⟨some 12, none, .mv (.t 3)⟩,
⟨some 13, none, .mv (.t 4)⟩,
⟨some 14, none, .bin .add (.t 13) (.k (.d (.int .i64 1)))⟩,
⟨some 15, none, .call false true (.k (.fn n_ref01_digit [] [])) [.t 14]⟩,
⟨some 16, none, .bin .add (.t 12) (.t 15)⟩,
⟨some 3, none, .mv (.t 16)⟩] [12, 13, 14, 15, 16])
 (.reg false [
⟨some 17, none, .mv (.t 3)⟩,
⟨some 18, none, .bin .add (.t 17) (.k (.d (.str [48])))⟩,
⟨some 3, none, .mv (.t 18)⟩] [17, 18]))))
(.reg false [
⟨some 7, none, .mv (.t 4)⟩,
⟨some 8, none, .bin .add (.t 7) (.k (.d (.int .i64 1)))⟩,
⟨some 4, none, .mv (.t 8)⟩] [7, 8])))

/-- "turnround/turnroundref01.PrintMask" -/
def c_ref01_PrintMask : CF := ⟨[.tmp 2],
  (.seq (.reg false [
⟨some 2, none, .mv (.k (.d (.str [])))⟩] [2])
(.seq (.reg false [
⟨some 3, none, .mv (.k (.d (.str [])))⟩] [])
(.seq (.seq (.reg false [
⟨some 4, none, .mv (.k (.d (.int .i64 0)))⟩] [])
(.block 0 (.loop [0, 3, 4] b_ref01_PrintMask_1)))
(.seq (.reg false [
⟨some 19, none, .mv (.t 3)⟩,
⟨some 2, none, .mv (.t 19)⟩] [3, 19])
.ret))))⟩

def b_calendar_IsName_1 : C :=
  (.seq (.reg false [
⟨some 16, none, .nextS (.t 15)⟩,
⟨some 17, none, .extract (.t 16) 0⟩] [])
(.seq (.cond (.t 17) .skip
 (.exit 0))
(.block 1 (.seq (.reg false [
⟨some 18, none, .extract (.t 16) 1⟩,
⟨some 19, none, .extract (.t 16) 2⟩,
⟨some 3, none, .mv (.t 18)⟩,
⟨some 4, none, .mv (.t 19)⟩] [16, 18, 19])
(.seq (.reg false [
⟨some 20, none, .mv (.t 4)⟩,
⟨some 21, none, .bin .geq (.t 20) (.k (.d (.int .i32 65)))⟩,
⟨some 22, none, .mv (.t 21)⟩,
⟨some 23, (some (22, true)), .mv (.t 4)⟩,
⟨some 24, (some (22, true)), .bin .leq (.t 23) (.k (.d (.int .i32 90)))⟩,
⟨some 25, none, .pick (.t 22) (.t 24) (.k (.d (.bool false)))⟩,
⟨some 26, none, .mv (.t 25)⟩,
⟨some 27, (some (26, false)), .mv (.t 4)⟩,
⟨some 28, (some (26, false)), .bin .geq (.t 27) (.k (.d (.int .i32 97)))⟩,
⟨some 29, (some (26, false)), .mv (.t 28)⟩,
⟨some 30, (some (29, true)), .mv (.t 4)⟩,
⟨some 31, (some (29, true)), .bin .leq (.t 30) (.k (.d (.int .i32 122)))⟩,
⟨some 32, (some (26, false)), .pick (.t 29) (.t 31) (.k (.d (.bool false)))⟩,
⟨some 33, none, .pick (.t 26) (.k (.d (.bool true))) (.t 32)⟩,
⟨some 5, none, .mv (.t 33)⟩] [20, 21, 22, 23, 24, 25, 26, 27, 28, 29, 30, 31, 32, 33])
(.seq (.reg false [
⟨some 34, none, .mv (.t 5)⟩,
⟨some 35, none, .un .not (.t 34)⟩,
⟨some 36, none, .mv (.t 35)⟩,
⟨some 37, (some (36, true)), .mv (.t 3)⟩,
⟨some 38, (some (36, true)), .bin .eql (.t 37) (.k (.d (.int .i64 0)))⟩,
⟨some 39, (some (36, true)), .mv (.t 38)⟩,
⟨some 40, (some (39, false)), .mv (.t 4)⟩,
⟨some 41, (some (39, false)), .bin .neq (.t 40) (.k (.d (.int .i32 95)))⟩,
⟨some 42, (some (39, false)), .mv (.t 41)⟩,
⟨some 43, (some (42, true)), .mv (.t 4)⟩,
⟨some 44, (some (42, true)), .bin .lss (.t 43) (.k (.d (.int .i32 48)))⟩,
⟨some 45, (some (42, true)), .mv (.t 44)⟩,
⟨some 46, (some (45, false)), .mv (.t 4)⟩,
⟨some 47, (some (45, false)), .bin .gtr (.t 46) (.k (.d (.int .i32 57)))⟩,
⟨some 48, (some (42, true)), .pick (.t 45) (.k (.d (.bool true))) (.t 47)⟩,
⟨some 49, (some (39, false)), .pick (.t 42) (.t 48) (.k (.d (.bool false)))⟩,
⟨some 50, (some (36, true)), .pick (.t 39) (.k (.d (.bool true))) (.t 49)⟩,
⟨some 51, none, .pick (.t 36) (.t 50) (.k (.d (.bool false)))⟩] [3, 4, 5, 34, 35, 36, 37, 38, 39, 40, 41, 42, 43, 44, 45, 46, 47, 48, 49, 50])
(.cond (.t 51) (.seq (.reg false [
⟨some 2, none, .mv (.k (.d (.bool false)))⟩] [])
.ret)
 .skip)))))))

/-- "turnround/calendar.IsName" -/
def c_calendar_IsName : CF := ⟨[.tmp 2],
  (.seq (.reg false [
⟨some 2, none, .mv (.k (.d (.bool false)))⟩] [2])
(.seq (.seq (.reg false [
⟨some 6, none, .mv (.t 0)⟩,
⟨some 7, none, .len .str (.t 6)⟩,
⟨some 8, none, .bin .eql (.t 7) (.k (.d (.int .i64 0)))⟩,
⟨some 9, none, .mv (.t 8)⟩,
⟨some 10, (some (9, false)), .mv (.t 0)⟩,
⟨some 11, (some (9, false)), .len .str (.t 10)⟩,
⟨some 12, (some (9, false)), .bin .gtr (.t 11) (.k (.d (.int .i64 24)))⟩,
⟨some 13, none, .pick (.t 9) (.k (.d (.bool true))) (.t 12)⟩] [6, 7, 8, 9, 10, 11, 12])
(.cond (.t 13) (.seq (.reg false [
⟨some 2, none, .mv (.k (.d (.bool false)))⟩] [])
.ret)
 .skip))
(.seq (.seq (.reg false [
⟨some 14, none, .mv (.t 0)⟩,
⟨some 15, none, .rangeS (.t 14)⟩] [0, 14])
(.block 0 (.loop [15] b_calendar_IsName_1)))
(.seq (.reg false [
⟨some 2, none, .mv (.k (.d (.bool true)))⟩] [])
.ret))))⟩

def b_ref01_IsName_1 : C :=
  (.seq (.seq (.reg false [
⟨some 14, none, .mv (.t 3)⟩,
⟨some 15, none, .mv (.t 0)⟩,
⟨some 16, none, .len .str (.t 15)⟩,
⟨some 17, none, .bin .lss (.t 14) (.t 16)⟩] [14, 15, 16])
(.cond (.t 17) .skip
 (.exit 0)))
(.seq (.block 1 (.seq (.reg false [
⟨some 20, none, .mv (.t 0)⟩,
⟨some 21, none, .mv (.t 3)⟩,
⟨some 22, none, .idxS (.t 20) (.t 21)⟩,
⟨some 4, none, .mv (.t 22)⟩] [20, 21, 22])
(.seq (.reg false [
⟨some 23, none, .mv (.t 4)⟩,
⟨some 24, none, .bin .geq (.t 23) (.k (.d (.int .u8 97)))⟩,
⟨some 25, none, .mv (.t 24)⟩,
⟨some 26, (some (25, true)), .mv (.t 4)⟩,
⟨some 27, (some (25, true)), .bin .leq (.t 26) (.k (.d (.int .u8 122)))⟩,
⟨some 28, none, .pick (.t 25) (.t 27) (.k (.d (.bool false)))⟩,
⟨some 29, none, .mv (.t 28)⟩,
⟨some 30, (some (29, false)), .mv (.t 4)⟩,
⟨some 31, (some (29, false)), .bin .geq (.t 30) (.k (.d (.int .u8 65)))⟩,
⟨some 32, (some (29, false)), .mv (.t 31)⟩,
⟨some 33, (some (32, true)), .mv (.t 4)⟩,
⟨some 34, (some (32, true)), .bin .leq (.t 33) (.k (.d (.int .u8 90)))⟩,
⟨some 35, (some (29, false)), .pick (.t 32) (.t 34) (.k (.d (.bool false)))⟩,
⟨some 36, none, .pick (.t 29) (.k (.d (.bool true))) (.t 35)⟩,
⟨some 5, none, .mv (.t 36)⟩] [23, 24, 25, 26, 27, 28, 29, 30, 31, 32, 33, 34, 35, 36])
(.seq (.reg false [
⟨some 37, none, .mv (.t 5)⟩,
⟨some 38, none, .un .not (.t 37)⟩,
⟨some 39, none, .mv (.t 38)⟩,
⟨some 40, (some (39, true)), .mv (.t 3)⟩,
⟨some 41, (some (39, true)), .bin .eql (.t 40) (.k (.d (.int .i64 0)))⟩,
⟨some 42, (some (39, true)), .mv (.t 41)⟩,
⟨some 43, (some (42, false)), .mv (.t 4)⟩,
⟨some 44, (some (42, false)), .bin .neq (.t 43) (.k (.d (.int .u8 95)))⟩,
⟨some 45, (some (42, false)), .mv (.t 44)⟩,
⟨some 46, (some (45, true)), .mv (.t 4)⟩,
⟨some 47, (some (45, true)), .bin .lss (.t 46) (.k (.d (.int .u8 48)))⟩,
⟨some 48, (some (45, true)), .mv (.t 47)⟩,
⟨some 49, (some (48, false)), .mv (.t 4)⟩,
⟨some 50, (some (48, false)), .bin .gtr (.t 49) (.k (.d (.int .u8 57)))⟩,
⟨some 51, (some (45, true)), .pick (.t 48) (.k (.d (.bool true))) (.t 50)⟩,
⟨some 52, (some (42, false)), .pick (.t 45) (.t 51) (.k (.d (.bool false)))⟩,
⟨some 53, (some (39, true)), .pick (.t 42) (.k (.d (.bool true))) (.t 52)⟩,
⟨some 54, none, .pick (.t 39) (.t 53) (.k (.d (.bool false)))⟩] [4, 5, 37, 38, 39, 40, 41, 42, 43, 44, 45, 46, 47, 48, 49, 50, 51, 52, 53])
(.cond (.t 54) (.seq (.reg false [
⟨some 2, none, .mv (.k (.d (.bool false)))⟩] [])
.ret)
 .skip)))))
(.reg false [
⟨some 18, none, .mv (.t 3)⟩,
⟨some 19, none, .bin .add (.t 18) (.k (.d (.int .i64 1)))⟩,
⟨some 3, none, .mv (.t 19)⟩] [18, 19])))

/-- "turnround/turnroundref01.IsName" -/
def c_ref01_IsName : CF := ⟨[.tmp 2],
  (.seq (.reg false [
⟨some 2, none, .mv (.k (.d (.bool false)))⟩] [2])
(.seq (.seq (.reg false [
⟨some 6, none, .mv (.t 0)⟩,
⟨some 7, none, .len .str (.t 6)⟩,
⟨some 8, none, .bin .eql (.t 7) (.k (.d (.int .i64 0)))⟩,
⟨some 9, none, .mv (.t 8)⟩,
⟨some 10, (some (9, false)), .mv (.t 0)⟩,
⟨some 11, (some (9, false)), .len .str (.t 10)⟩,
⟨some 12, (some (9, false)), .bin .gtr (.t 11) (.k (.d (.int .i64 24)))⟩,
⟨some 13, none, .pick (.t 9) (.k (.d (.bool true))) (.t 12)⟩] [6, 7, 8, 9, 10, 11, 12])
(.cond (.t 13) (.seq (.reg false [
⟨some 2, none, .mv (.k (.d (.bool false)))⟩] [])
.ret)
 .skip))
(.seq (.seq (.reg false [
⟨some 3, none, .mv (.k (.d (.int .i64 0)))⟩] [])
(.block 0 (.loop [0, 3] b_ref01_IsName_1)))
(.seq (.reg false [
⟨some 2, none, .mv (.k (.d (.bool true)))⟩] [])
.ret))))⟩

/-- "turnround/calendar.Shift" -/
def c_calendar_Shift : CF := ⟨[.cell 4 (some 3), .tmp 5],
  (.seq (.reg false [
⟨some 2, none, .box ty_api_Period (.t 0)⟩,
⟨some 4, none, .alloc ty_api_Period [.z (.int .i64 0), .z (.int .i64 0), .z (.int .i64 0)]⟩,
⟨some 5, none, .mv (.k (.d (.int .i64 0)))⟩] [0, 5])
(.seq (.seq (.reg false [
⟨some 9, none, .load (some 3) (.t 2)⟩,
⟨some 10, none, .call false true (.k (.fn n_calendar_CheckPeriod [] [])) [.t 9]⟩,
⟨some 11, none, .mv (.t 1)⟩,
⟨some 12, none, .call false true (.k (.fn n_calendar_within [] [])) [.t 11, .k (.d (.int .i64 (-99999))), .k (.d (.int .i64 99999))]⟩,
⟨some 13, none, .mkList 1 2 [.t 10, .t 12]⟩,
⟨some 14, none, .call false true (.k (.fn n_calendar_first [] [])) [.t 13]⟩,
⟨some 6, none, .mv (.t 14)⟩] [9, 10, 11, 12, 13, 14])
(.seq (.reg false [
⟨some 15, none, .mv (.t 6)⟩,
⟨some 16, none, .bin .neq (.t 15) (.k (.d (.int .i64 0)))⟩] [15])
(.cond (.t 16) (.seq (.reg false [
⟨some 17, none, .build [.z (.int .i64 0), .z (.int .i64 0), .z (.int .i64 0)] []⟩,
⟨some 18, none, .mv (.t 6)⟩,
⟨none, none, .store 3 (.t 4) (.t 17)⟩,
⟨some 5, none, .mv (.t 18)⟩] [6, 17, 18])
.ret)
 .skip)))
(.seq (.seq (.reg false [
⟨some 19, none, .fieldAddr 0 (.t 2)⟩,
⟨some 20, none, .load none (.t 19)⟩,
⟨some 21, none, .mv (.t 1)⟩,
⟨some 22, none, .bin .add (.t 20) (.t 21)⟩,
⟨some 23, none, .bin .lss (.t 22) (.k (.d (.int .i64 0)))⟩,
⟨some 24, none, .mv (.t 23)⟩,
⟨some 25, (some (24, false)), .fieldAddr 1 (.t 2)⟩,
⟨some 26, (some (24, false)), .load none (.t 25)⟩,
⟨some 27, (some (24, false)), .mv (.t 1)⟩,
⟨some 28, (some (24, false)), .bin .add (.t 26) (.t 27)⟩,
⟨some 29, (some (24, false)), .bin .gtr (.t 28) (.k (.d (.int .i64 99999)))⟩,
⟨some 30, none, .pick (.t 24) (.k (.d (.bool true))) (.t 29)⟩] [19, 20, 21, 22, 23, 24, 25, 26, 27, 28, 29])
(.cond (.t 30) (.seq (.reg false [
⟨some 31, none, .build [.z (.int .i64 0), .z (.int .i64 0), .z (.int .i64 0)] []⟩,
⟨none, none, .store 3 (.t 4) (.t 31)⟩,
⟨some 5, none, .mv (.k (.d (.int .i64 30)))⟩] [31])
.ret)
 .skip))
(.seq (.reg false [
⟨some 32, none, .mv (.t 1)⟩,
⟨some 33, none, .bin .rem (.t 32) (.k (.d (.int .i64 7)))⟩,
⟨some 34, none, .bin .add (.t 33) (.k (.d (.int .i64 7)))⟩,
⟨some 35, none, .bin .rem (.t 34) (.k (.d (.int .i64 7)))⟩,
⟨some 7, none, .mv (.t 35)⟩] [32, 33, 34, 35])
(.seq (.reg true [
⟨some 36, none, .fieldAddr 2 (.t 2)⟩,
⟨some 37, none, .load none (.t 36)⟩,
⟨some 38, none, .mv (.t 7)⟩,
⟨some 39, none, .bin .shl (.t 37) (.t 38)⟩,
⟨some 40, none, .fieldAddr 2 (.t 2)⟩,
⟨some 41, none, .load none (.t 40)⟩,
⟨some 42, none, .mv (.t 7)⟩,
⟨some 43, none, .bin .sub (.k (.d (.int .i64 7))) (.t 42)⟩,
⟨some 44, none, .bin .shr (.t 41) (.t 43)⟩,
⟨some 45, none, .bin .or (.t 39) (.t 44)⟩,
⟨some 46, none, .bin .and (.t 45) (.k (.d (.int .i64 127)))⟩,
⟨some 8, none, .mv (.t 46)⟩] [7, 36, 37, 38, 39, 40, 41, 42, 43, 44, 45, 46])
(.seq (.reg false [
⟨some 47, none, .fieldAddr 0 (.t 2)⟩,
⟨some 48, none, .load none (.t 47)⟩,
⟨some 49, none, .mv (.t 1)⟩,
⟨some 50, none, .bin .add (.t 48) (.t 49)⟩,
⟨some 51, none, .fieldAddr 1 (.t 2)⟩,
⟨some 52, none, .load none (.t 51)⟩,
⟨some 53, none, .mv (.t 1)⟩,
⟨some 54, none, .bin .add (.t 52) (.t 53)⟩,
⟨some 55, none, .mv (.t 8)⟩,
⟨some 56, none, .build [.z (.int .i64 0), .z (.int .i64 0), .z (.int .i64 0)] [(0, 1, .t 50), (1, 1, .t 54), (2, 1, .t 55)]⟩,
⟨none, none, .store 3 (.t 4) (.t 56)⟩,
⟨some 5, none, .mv (.k (.d (.int .i64 0)))⟩] [1, 2, 8, 47, 48, 49, 50, 51, 52, 53, 54, 55, 56])
.ret))))))⟩

def b_calendar_Join_1 : C :=
  (.seq (.reg false [
⟨some 22, none, .bin .lss (.t 21) (.t 20)⟩] [])
(.seq (.cond (.t 22) .skip
 (.exit 0))
(.seq (.block 1 (.seq (.reg false [
⟨some 23, none, .mv (.t 21)⟩,
⟨some 24, none, .idxAddr 1 (.t 19) (.t 21)⟩,
⟨some 25, none, .load none (.t 24)⟩,
⟨some 4, none, .mv (.t 23)⟩,
⟨some 5, none, .mv (.t 25)⟩] [23, 24, 25])
(.seq (.reg false [
⟨some 26, none, .mv (.t 5)⟩,
⟨some 27, none, .call false true (.k (.fn n_calendar_checkDay [] [])) [.t 26]⟩,
⟨some 28, none, .mv (.t 4)⟩,
⟨some 29, none, .bin .gtr (.t 28) (.k (.d (.int .i64 0)))⟩,
⟨some 30, none, .mv (.t 29)⟩,
⟨some 31, (some (30, true)), .mv (.t 5)⟩,
⟨some 32, (some (30, true)), .mv (.t 0)⟩,
⟨some 33, (some (30, true)), .mv (.t 4)⟩,
⟨some 34, (some (30, true)), .bin .sub (.t 33) (.k (.d (.int .i64 1)))⟩,
⟨some 35, (some (30, true)), .minmax true [.k (.d (.int .i64 0)), .t 34]⟩,
⟨some 36, (some (30, true)), .idxAddr 1 (.t 32) (.t 35)⟩,
⟨some 37, (some (30, true)), .load none (.t 36)⟩,
⟨some 38, (some (30, true)), .bin .leq (.t 31) (.t 37)⟩,
⟨some 39, none, .pick (.t 30) (.t 38) (.k (.d (.bool false)))⟩,
⟨some 40, none, .call false true (.k (.fn n_calendar_when [] [])) [.t 39, .k (.d (.int .i64 11))]⟩,
⟨some 41, none, .mkList 1 2 [.t 27, .t 40]⟩,
⟨some 42, none, .call false true (.k (.fn n_calendar_first [] [])) [.t 41]⟩,
⟨some 6, none, .mv (.t 42)⟩] [4, 5, 26, 27, 28, 29, 30, 31, 32, 33, 34, 35, 36, 37, 38, 39, 40, 41, 42])
(.seq (.reg false [
⟨some 43, none, .mv (.t 6)⟩,
⟨some 44, none, .bin .neq (.t 43) (.k (.d (.int .i64 0)))⟩] [43])
(.cond (.t 44) (.seq (.reg false [
⟨some 45, none, .mv (.t 6)⟩,
⟨some 2, none, .mv (.k (.d (.list 0 [])))⟩,
⟨some 3, none, .mv (.t 45)⟩] [6, 45])
.ret)
 .skip)))))
(.reg false [
⟨some 46, none, .bin .add (.t 21) (.k (.d (.int .i64 1)))⟩,
⟨some 21, none, .mv (.t 46)⟩] [46]))))

def b_calendar_Join_2 : C :=
  (.seq (.reg false [
⟨some 51, none, .bin .lss (.t 50) (.t 49)⟩] [])
(.seq (.cond (.t 51) .skip
 (.exit 2))
(.seq (.block 3 (.seq (.reg false [
⟨some 52, none, .idxAddr 1 (.t 48) (.t 50)⟩,
⟨some 53, none, .load none (.t 52)⟩,
⟨some 9, none, .mv (.t 53)⟩] [52, 53])
(.reg true [
⟨some 54, none, .mv (.t 7)⟩,
⟨some 55, none, .mv (.t 9)⟩,
⟨some 56, none, .call false true (.k (.fn n_calendar_weekOf [] [])) [.t 55]⟩,
⟨some 57, none, .lookup .int (.int .i64 0) false (.t 54) (.t 56)⟩,
⟨some 58, none, .mv (.t 9)⟩,
⟨some 59, none, .call false true (.k (.fn n_calendar_weekday [] [])) [.t 58]⟩,
⟨some 60, none, .bin .shl (.k (.d (.int .i64 1))) (.t 59)⟩,
⟨some 61, none, .bin .or (.t 57) (.t 60)⟩,
⟨none, none, .mapSet .int (.t 54) (.t 56) (.t 61)⟩] [9, 54, 55, 56, 57, 58, 59, 60, 61])))
(.reg false [
⟨some 62, none, .bin .add (.t 50) (.k (.d (.int .i64 1)))⟩,
⟨some 50, none, .mv (.t 62)⟩] [62]))))

def b_calendar_Join_3 : C :=
  (.seq (.seq (.reg false [
⟨some 85, none, .mv (.t 11)⟩,
⟨some 86, none, .mv (.t 0)⟩,
⟨some 87, none, .len .slc (.t 86)⟩,
⟨some 88, none, .bin .lss (.t 85) (.t 87)⟩] [85, 86, 87])
(.cond (.t 88) .skip
 (.exit 6)))
(.seq (.block 7 (.seq (.seq (.reg false [
⟨some 91, none, .mv (.t 0)⟩,
⟨some 92, none, .mv (.t 11)⟩,
⟨some 93, none, .idxAddr 1 (.t 91) (.t 92)⟩,
⟨some 94, none, .load none (.t 93)⟩,
⟨some 95, none, .call false true (.k (.fn n_calendar_weekOf [] [])) [.t 94]⟩,
⟨some 15, none, .mv (.t 95)⟩] [91, 92, 93, 94, 95])
(.block 8 (.seq (.reg false [
⟨some 97, none, .mv (.t 15)⟩,
⟨some 98, none, .mv (.t 14)⟩,
⟨some 99, none, .bin .eql (.t 97) (.t 98)⟩,
⟨some 96, none, .mv (.t 99)⟩] [97, 98, 99])
(.cond (.t 96) .skip
 (.seq (.reg false [
⟨some 101, none, .mv (.t 15)⟩,
⟨some 102, none, .mv (.t 14)⟩,
⟨some 103, none, .bin .add (.t 102) (.k (.d (.int .i64 1)))⟩,
⟨some 104, none, .bin .eql (.t 101) (.t 103)⟩,
⟨some 105, none, .mv (.t 104)⟩,
⟨some 106, (some (105, true)), .mv (.t 7)⟩,
⟨some 107, (some (105, true)), .mv (.t 15)⟩,
⟨some 108, (some (105, true)), .lookup .int (.int .i64 0) false (.t 106) (.t 107)⟩,
⟨some 109, (some (105, true)), .fieldAddr 2 (.t 13)⟩,
⟨some 110, (some (105, true)), .load none (.t 109)⟩,
⟨some 111, (some (105, true)), .bin .eql (.t 108) (.t 110)⟩,
⟨some 112, none, .pick (.t 105) (.t 111) (.k (.d (.bool false)))⟩,
⟨some 113, none, .mv (.t 112)⟩,
⟨some 114, (some (113, true)), .mv (.t 15)⟩,
⟨some 115, (some (113, true)), .mv (.t 12)⟩,
⟨some 116, (some (113, true)), .bin .sub (.t 114) (.t 115)⟩,
⟨some 117, (some (113, true)), .bin .lss (.t 116) (.k (.d (.int .i64 57)))⟩,
⟨some 118, none, .pick (.t 113) (.t 117) (.k (.d (.bool false)))⟩,
⟨some 100, none, .mv (.t 118)⟩] [14, 101, 102, 103, 104, 105, 106, 107, 108, 109, 110, 111, 112, 113, 114, 115, 116, 117, 118])
(.cond (.t 100) (.reg false [
⟨some 119, none, .mv (.t 15)⟩,
⟨some 14, none, .mv (.t 119)⟩] [15, 119])
 (.exit 6)))))))
(.reg false [
⟨some 120, none, .mv (.t 0)⟩,
⟨some 121, none, .mv (.t 11)⟩,
⟨some 122, none, .idxAddr 1 (.t 120) (.t 121)⟩,
⟨some 123, none, .load none (.t 122)⟩,
⟨some 124, none, .fieldAddr 1 (.t 13)⟩,
⟨none, none, .store 1 (.t 124) (.t 123)⟩] [120, 121, 122, 123, 124])))
(.reg false [
⟨some 89, none, .mv (.t 11)⟩,
⟨some 90, none, .bin .add (.t 89) (.k (.d (.int .i64 1)))⟩,
⟨some 11, none, .mv (.t 90)⟩] [89, 90])))

def b_calendar_Join_4 : C :=
  (.seq (.seq (.reg false [
⟨some 63, none, .mv (.t 11)⟩,
⟨some 64, none, .mv (.t 0)⟩,
⟨some 65, none, .len .slc (.t 64)⟩,
⟨some 66, none, .bin .lss (.t 63) (.t 65)⟩] [63, 64, 65])
(.cond (.t 66) .skip
 (.exit 4)))
(.block 5 (.scope (.seq (.reg false [
⟨some 67, none, .mv (.t 0)⟩,
⟨some 68, none, .mv (.t 11)⟩,
⟨some 69, none, .idxAddr 1 (.t 67) (.t 68)⟩,
⟨some 70, none, .load none (.t 69)⟩,
⟨some 71, none, .call false true (.k (.fn n_calendar_weekOf [] [])) [.t 70]⟩,
⟨some 12, none, .mv (.t 71)⟩] [67, 68, 69, 70, 71])
(.seq (.reg true [
⟨some 72, none, .mv (.t 0)⟩,
⟨some 73, none, .mv (.t 11)⟩,
⟨some 74, none, .idxAddr 1 (.t 72) (.t 73)⟩,
⟨some 75, none, .load none (.t 74)⟩,
⟨some 76, none, .mv (.t 0)⟩,
⟨some 77, none, .mv (.t 11)⟩,
⟨some 78, none, .idxAddr 1 (.t 76) (.t 77)⟩,
⟨some 79, none, .load none (.t 78)⟩,
⟨some 80, none, .mv (.t 7)⟩,
⟨some 81, none, .mv (.t 12)⟩,
⟨some 82, none, .lookup .int (.int .i64 0) false (.t 80) (.t 81)⟩,
⟨some 83, none, .build [.z (.int .i64 0), .z (.int .i64 0), .z (.int .i64 0)] [(0, 1, .t 75), (1, 1, .t 79), (2, 1, .t 82)]⟩,
⟨some 13, none, .alloc ty_api_Period [.z (.int .i64 0), .z (.int .i64 0), .z (.int .i64 0)]⟩,
⟨none, none, .store 3 (.t 13) (.t 83)⟩] [72, 73, 74, 75, 76, 77, 78, 79, 80, 81, 82, 83])
(.seq (.reg false [
⟨some 84, none, .mv (.t 12)⟩,
⟨some 14, none, .mv (.t 84)⟩] [84])
(.seq .label
(.seq (.block 6 (.loop [0, 7, 10, 11, 12, 13, 14] b_calendar_Join_3))
(.reg false [
⟨some 125, none, .mv (.t 10)⟩,
⟨some 126, none, .load (some 3) (.t 13)⟩,
⟨some 127, none, .mkList 3 1 [.t 126]⟩,
⟨some 128, none, .append ⟨false, ty_api_Period, 3, 24⟩ (.t 125) (.t 127)⟩,
⟨some 10, none, .mv (.t 128)⟩] [13, 125, 126, 127, 128])))))))))

/-- "turnround/calendar.Join" -/
def c_calendar_Join : CF := ⟨[.tmp 2, .tmp 3],
  (.seq (.reg false [
⟨some 2, none, .mv (.k (.d (.list 0 [])))⟩,
⟨some 3, none, .mv (.k (.d (.int .i64 0)))⟩] [2, 3])
(.seq (.seq (.reg false [
⟨some 16, none, .mv (.t 0)⟩,
⟨some 17, none, .len .slc (.t 16)⟩,
⟨some 18, none, .bin .gtr (.t 17) (.k (.d (.int .i64 512)))⟩] [16, 17])
(.cond (.t 18) (.seq (.reg false [
⟨some 2, none, .mv (.k (.d (.list 0 [])))⟩,
⟨some 3, none, .mv (.k (.d (.int .i64 5)))⟩] [])
.ret)
 .skip))
(.seq (.seq (.reg false [
⟨some 19, none, .mv (.t 0)⟩,
⟨some 20, none, .len .slc (.t 19)⟩,
⟨some 21, none, .mv (.k (.d (.int .i64 0)))⟩] [])
(.block 0 (.loop [0, 19, 20, 21] b_calendar_Join_1)))
(.seq (.reg false [
⟨some 47, none, .mkMap⟩,
⟨some 7, none, .mv (.t 47)⟩] [47])
(.seq (.seq (.reg false [
⟨some 48, none, .mv (.t 0)⟩,
⟨some 49, none, .len .slc (.t 48)⟩,
⟨some 50, none, .mv (.k (.d (.int .i64 0)))⟩] [])
(.block 2 (.loop [0, 7, 48, 49, 50] b_calendar_Join_2)))
(.seq (.reg false [
⟨some 10, none, .ownNil ⟨false, ty_api_Period, 3, 24⟩⟩] [])
(.seq (.seq (.reg false [
⟨some 11, none, .mv (.k (.d (.int .i64 0)))⟩] [])
(.block 4 (.loop [0, 7, 10, 11] b_calendar_Join_4)))
(.seq (.reg false [
⟨some 129, none, .mv (.t 10)⟩,
⟨some 130, none, .call false true (.k (.fn n_slices_Clip_Lapi_Period_api_Period [] [])) [.t 129]⟩,
⟨some 2, none, .mv (.t 130)⟩,
⟨some 3, none, .mv (.k (.d (.int .i64 0)))⟩] [10, 129, 130])
.ret))))))))⟩

def b_ref01_SameInts_1 : C :=
  (.seq (.seq (.reg false [
⟨some 11, none, .mv (.t 5)⟩,
⟨some 12, none, .mv (.t 0)⟩,
⟨some 13, none, .len .slc (.t 12)⟩,
⟨some 14, none, .bin .lss (.t 11) (.t 13)⟩] [11, 12, 13])
(.cond (.t 14) .skip
 (.exit 0)))
(.seq (.block 1 (.seq (.reg true [
⟨some 17, none, .mv (.t 0)⟩,
⟨some 18, none, .mv (.t 5)⟩,
⟨some 19, none, .idxAddr 1 (.t 17) (.t 18)⟩,
⟨some 20, none, .load none (.t 19)⟩,
⟨some 21, none, .mv (.t 1)⟩,
⟨some 22, none, .mv (.t 5)⟩,
⟨some 23, none, .idxAddr 1 (.t 21) (.t 22)⟩,
⟨some 24, none, .load none (.t 23)⟩,
⟨some 25, none, .bin .neq (.t 20) (.t 24)⟩] [17, 18, 19, 20, 21, 22, 23, 24])
(.cond (.t 25) (.seq (.reg false [
⟨some 4, none, .mv (.k (.d (.bool false)))⟩] [])
.ret)
 .skip)))
(.reg false [
⟨some 15, none, .mv (.t 5)⟩,
⟨some 16, none, .bin .add (.t 15) (.k (.d (.int .i64 1)))⟩,
⟨some 5, none, .mv (.t 16)⟩] [15, 16])))

/-- "turnround/turnroundref01.SameInts" -/
def c_ref01_SameInts : CF := ⟨[.tmp 4],
  (.seq (.reg false [
⟨some 4, none, .mv (.k (.d (.bool false)))⟩] [4])
(.seq (.seq (.reg false [
⟨some 6, none, .mv (.t 0)⟩,
⟨some 7, none, .len .slc (.t 6)⟩,
⟨some 8, none, .mv (.t 1)⟩,
⟨some 9, none, .len .slc (.t 8)⟩,
⟨some 10, none, .bin .neq (.t 7) (.t 9)⟩] [6, 7, 8, 9])
(.cond (.t 10) (.seq (.reg false [
⟨some 4, none, .mv (.k (.d (.bool false)))⟩] [])
.ret)
 .skip))
(.seq (.seq (.reg false [
⟨some 5, none, .mv (.k (.d (.int .i64 0)))⟩] [])
(.block 0 (.loop [0, 1, 5] b_ref01_SameInts_1)))
(.seq (.reg false [
⟨some 4, none, .mv (.k (.d (.bool true)))⟩] [])
.ret))))⟩

def b_ref01_SamePeriods_1 : C :=
  (.seq (.seq (.reg false [
⟨some 11, none, .mv (.t 5)⟩,
⟨some 12, none, .mv (.t 0)⟩,
⟨some 13, none, .len .slc (.t 12)⟩,
⟨some 14, none, .bin .lss (.t 11) (.t 13)⟩] [11, 12, 13])
(.cond (.t 14) .skip
 (.exit 0)))
(.seq (.block 1 (.seq (.reg true [
⟨some 17, none, .mv (.t 0)⟩,
⟨some 18, none, .mv (.t 5)⟩,
⟨some 19, none, .idxAddr 3 (.t 17) (.t 18)⟩,
⟨some 20, none, .load (some 3) (.t 19)⟩,
⟨some 21, none, .mv (.t 1)⟩,
⟨some 22, none, .mv (.t 5)⟩,
⟨some 23, none, .idxAddr 3 (.t 21) (.t 22)⟩,
⟨some 24, none, .load (some 3) (.t 23)⟩,
⟨some 25, none, .eqv (some [.int, .int, .int]) true (.t 20) (.t 24)⟩] [17, 18, 19, 20, 21, 22, 23, 24])
(.cond (.t 25) (.seq (.reg false [
⟨some 4, none, .mv (.k (.d (.bool false)))⟩] [])
.ret)
 .skip)))
(.reg false [
⟨some 15, none, .mv (.t 5)⟩,
⟨some 16, none, .bin .add (.t 15) (.k (.d (.int .i64 1)))⟩,
⟨some 5, none, .mv (.t 16)⟩] [15, 16])))

/-- "turnround/turnroundref01.SamePeriods" -/
def c_ref01_SamePeriods : CF := ⟨[.tmp 4],
  (.seq (.reg false [
⟨some 4, none, .mv (.k (.d (.bool false)))⟩] [4])
(.seq (.seq (.reg false [
⟨some 6, none, .mv (.t 0)⟩,
⟨some 7, none, .len .slc (.t 6)⟩,
⟨some 8, none, .mv (.t 1)⟩,
⟨some 9, none, .len .slc (.t 8)⟩,
⟨some 10, none, .bin .neq (.t 7) (.t 9)⟩] [6, 7, 8, 9])
(.cond (.t 10) (.seq (.reg false [
⟨some 4, none, .mv (.k (.d (.bool false)))⟩] [])
.ret)
 .skip))
(.seq (.seq (.reg false [
⟨some 5, none, .mv (.k (.d (.int .i64 0)))⟩] [])
(.block 0 (.loop [0, 1, 5] b_ref01_SamePeriods_1)))
(.seq (.reg false [
⟨some 4, none, .mv (.k (.d (.bool true)))⟩] [])
.ret))))⟩

def b_calendar_first_1 : C :=
  (.seq (.reg false [
⟨some 8, none, .bin .lss (.t 7) (.t 6)⟩] [])
(.seq (.cond (.t 8) .skip
 (.exit 0))
(.seq (.block 1 (.seq (.reg false [
⟨some 9, none, .idxAddr 1 (.t 5) (.t 7)⟩,
⟨some 10, none, .load none (.t 9)⟩,
⟨some 4, none, .mv (.t 10)⟩] [9, 10])
(.seq (.reg false [
⟨some 11, none, .mv (.t 4)⟩,
⟨some 12, none, .bin .neq (.t 11) (.k (.d (.int .i64 0)))⟩] [11])
(.cond (.t 12) (.seq (.reg false [
⟨some 13, none, .mv (.t 4)⟩,
⟨some 2, none, .mv (.t 13)⟩] [4, 13])
.ret)
 .skip))))
(.reg false [
⟨some 14, none, .bin .add (.t 7) (.k (.d (.int .i64 1)))⟩,
⟨some 7, none, .mv (.t 14)⟩] [14]))))

/-- "turnround/calendar.first" -/
def c_calendar_first : CF := ⟨[.tmp 2],
  (.seq (.reg false [
⟨some 2, none, .mv (.k (.d (.int .i64 0)))⟩] [2])
(.seq (.seq (.reg false [
⟨some 5, none, .mv (.t 0)⟩,
⟨some 6, none, .len .slc (.t 5)⟩,
⟨some 7, none, .mv (.k (.d (.int .i64 0)))⟩] [0])
(.block 0 (.loop [5, 6, 7] b_calendar_first_1)))
(.seq (.reg false [
⟨some 2, none, .mv (.k (.d (.int .i64 0)))⟩] [])
.ret)))⟩

/-- "turnround/calendar.within" -/
def c_calendar_within : CF := ⟨[.tmp 6],
  (.seq (.reg false [
⟨some 6, none, .mv (.k (.d (.int .i64 0)))⟩] [6])
(.seq (.reg false [
⟨some 7, none, .mv (.t 0)⟩,
⟨some 8, none, .mv (.t 1)⟩,
⟨some 9, none, .bin .lss (.t 7) (.t 8)⟩,
⟨some 10, none, .mv (.t 9)⟩,
⟨some 11, (some (10, false)), .mv (.t 0)⟩,
⟨some 12, (some (10, false)), .mv (.t 2)⟩,
⟨some 13, (some (10, false)), .bin .gtr (.t 11) (.t 12)⟩,
⟨some 14, none, .pick (.t 10) (.k (.d (.bool true))) (.t 13)⟩,
⟨some 15, none, .call false true (.k (.fn n_calendar_when [] [])) [.t 14, .k (.d (.int .i64 3))]⟩,
⟨some 6, none, .mv (.t 15)⟩] [0, 1, 2, 7, 8, 9, 10, 11, 12, 13, 14, 15])
.ret))⟩

/-- "turnround/calendar.when" -/
def c_calendar_when : CF := ⟨[.tmp 4],
  (.seq (.reg false [
⟨some 4, none, .mv (.k (.d (.int .i64 0)))⟩] [4])
(.seq (.seq (.reg false [
⟨some 5, none, .mv (.t 0)⟩] [0])
(.cond (.t 5) (.seq (.reg false [
⟨some 6, none, .mv (.t 1)⟩,
⟨some 4, none, .mv (.t 6)⟩] [1, 6])
.ret)
 .skip))
(.seq (.reg false [
⟨some 4, none, .mv (.k (.d (.int .i64 0)))⟩] [])
.ret)))⟩

/-- "turnround/calendar.checkMoment" -/
def c_calendar_checkMoment : CF := ⟨[.tmp 2],
  (.seq (.reg false [
⟨some 2, none, .mv (.k (.d (.int .i64 0)))⟩] [2])
(.seq (.reg false [
⟨some 3, none, .mv (.t 0)⟩,
⟨some 4, none, .call false true (.k (.fn n_calendar_within [] [])) [.t 3, .k (.d (.int .i64 0)), .k (.d (.int .i64 143999999))]⟩,
⟨some 2, none, .mv (.t 4)⟩] [0, 3, 4])
.ret))⟩

def b_calendar_Zone_at_1 : C :=
  (.seq (.reg false [
⟨some 14, none, .bin .lss (.t 13) (.t 12)⟩] [])
(.seq (.cond (.t 14) .skip
 (.exit 0))
(.seq (.block 1 (.seq (.reg false [
⟨some 15, none, .idxAddr 2 (.t 11) (.t 13)⟩,
⟨some 16, none, .load (some 2) (.t 15)⟩,
⟨some 7, none, .alloc ty_calendar_Change [.z (.int .i64 0), .z (.int .i64 0)]⟩,
⟨none, none, .store 2 (.t 7) (.t 16)⟩] [15, 16])
(.seq (.reg false [
⟨some 17, none, .fieldAddr 0 (.t 7)⟩,
⟨some 18, none, .load none (.t 17)⟩,
⟨some 19, none, .mv (.t 1)⟩,
⟨some 20, none, .bin .leq (.t 18) (.t 19)⟩] [17, 18, 19])
(.cond (.t 20) (.reg false [
⟨some 21, none, .fieldAddr 1 (.t 7)⟩,
⟨some 22, none, .load none (.t 21)⟩,
⟨some 5, none, .mv (.t 22)⟩] [7, 21, 22])
 .skip))))
(.reg false [
⟨some 23, none, .bin .add (.t 13) (.k (.d (.int .i64 1)))⟩,
⟨some 13, none, .mv (.t 23)⟩] [23]))))

/-- "(turnround/calendar.Zone).at" -/
def c_calendar_Zone_at : CF := ⟨[.tmp 4],
  (.seq (.reg false [
⟨some 2, none, .box ty_calendar_Zone (.t 0)⟩,
⟨some 4, none, .mv (.k (.d (.int .i64 0)))⟩] [0, 4])
(.seq (.reg false [
⟨some 8, none, .fieldAddr 0 (.t 2)⟩,
⟨some 9, none, .load none (.t 8)⟩,
⟨some 5, none, .mv (.t 9)⟩] [8, 9])
(.seq (.seq (.reg false [
⟨some 10, none, .fieldAddr 1 (.t 2)⟩,
⟨some 11, none, .load none (.t 10)⟩,
⟨some 12, none, .len .slc (.t 11)⟩,
⟨some 13, none, .mv (.k (.d (.int .i64 0)))⟩] [2, 10])
(.block 0 (.loop [1, 5, 11, 12, 13] b_calendar_Zone_at_1)))
(.seq (.reg false [
⟨some 24, none, .mv (.t 5)⟩,
⟨some 4, none, .mv (.t 24)⟩] [5, 24])
.ret))))⟩

def b_slices_Compact_Lint_int_1 : C :=
  (.seq (.seq (.reg false [
⟨some 29, none, .mv (.t 5)⟩,
⟨some 30, none, .mv (.t 4)⟩,
⟨some 31, none, .len .slc (.t 30)⟩,
⟨some 32, none, .bin .lss (.t 29) (.t 31)⟩] [29, 30, 31])
(.cond (.t 32) .skip
 (.exit 2)))
(.seq (.block 3 (.seq (.reg true [
⟨some 35, none, .mv (.t 4)⟩,
⟨some 36, none, .mv (.t 5)⟩,
⟨some 37, none, .idxAddr 1 (.t 35) (.t 36)⟩,
⟨some 38, none, .load none (.t 37)⟩,
⟨some 39, none, .mv (.t 4)⟩,
⟨some 40, none, .mv (.t 5)⟩,
⟨some 41, none, .bin .sub (.t 40) (.k (.d (.int .i64 1)))⟩,
⟨some 42, none, .idxAddr 1 (.t 39) (.t 41)⟩,
⟨some 43, none, .load none (.t 42)⟩,
⟨some 44, none, .bin .neq (.t 38) (.t 43)⟩] [35, 36, 37, 38, 39, 40, 41, 42, 43])
(.cond (.t 44) (.seq (.reg false [
⟨some 45, none, .mv (.t 0)⟩,
⟨some 46, none, .mv (.t 3)⟩,
⟨some 47, none, .mv (.t 4)⟩,
⟨some 48, none, .mv (.t 5)⟩,
⟨some 49, none, .idxAddr 1 (.t 47) (.t 48)⟩,
⟨some 50, none, .load none (.t 49)⟩,
⟨some 51, none, .idxAddr 1 (.t 45) (.t 46)⟩,
⟨none, none, .store 1 (.t 51) (.t 50)⟩] [45, 46, 47, 48, 49, 50, 51])
(.reg false [
⟨some 52, none, .mv (.t 3)⟩,
⟨some 53, none, .bin .add (.t 52) (.k (.d (.int .i64 1)))⟩,
⟨some 3, none, .mv (.t 53)⟩] [52, 53]))
 .skip)))
(.reg false [
⟨some 33, none, .mv (.t 5)⟩,
⟨some 34, none, .bin .add (.t 33) (.k (.d (.int .i64 1)))⟩,
⟨some 5, none, .mv (.t 34)⟩] [33, 34])))

def b_slices_Compact_Lint_int_2 : C :=
  (.seq (.seq (.reg false [
⟨some 10, none, .mv (.t 3)⟩,
⟨some 11, none, .mv (.t 0)⟩,
⟨some 12, none, .len .slc (.t 11)⟩,
⟨some 13, none, .bin .lss (.t 10) (.t 12)⟩] [10, 11, 12])
(.cond (.t 13) .skip
 (.exit 0)))
(.seq (.block 1 (.seq (.reg true [
⟨some 16, none, .mv (.t 0)⟩,
⟨some 17, none, .mv (.t 3)⟩,
⟨some 18, none, .idxAddr 1 (.t 16) (.t 17)⟩,
⟨some 19, none, .load none (.t 18)⟩,
⟨some 20, none, .mv (.t 0)⟩,
⟨some 21, none, .mv (.t 3)⟩,
⟨some 22, none, .bin .sub (.t 21) (.k (.d (.int .i64 1)))⟩,
⟨some 23, none, .idxAddr 1 (.t 20) (.t 22)⟩,
⟨some 24, none, .load none (.t 23)⟩,
⟨some 25, none, .bin .eql (.t 19) (.t 24)⟩] [16, 17, 18, 19, 20, 21, 22, 23, 24])
(.cond (.t 25) (.seq (.reg false [
⟨some 26, none, .mv (.t 0)⟩,
⟨some 27, none, .mv (.t 3)⟩,
⟨some 28, none, .slice 1 (.t 26) (some (.t 27)) none none⟩,
⟨some 4, none, .mv (.t 28)⟩] [26, 27, 28])
(.seq (.seq (.reg false [
⟨some 5, none, .mv (.k (.d (.int .i64 1)))⟩] [])
(.block 2 (.loop [0, 3, 4, 5] b_slices_Compact_Lint_int_1)))
(.seq (.reg false [
⟨some 54, none, .mv (.t 0)⟩,
⟨some 55, none, .mv (.t 3)⟩,
⟨some 56, none, .slice 1 (.t 54) (some (.t 55)) none none⟩,
⟨none, none, .clear [.int .i64 0] (.t 56)⟩] [54, 55, 56])
(.seq (.reg false [
⟨some 57, none, .mv (.t 0)⟩,
⟨some 58, none, .mv (.t 3)⟩,
⟨some 59, none, .slice 1 (.t 57) none (some (.t 58)) none⟩,
⟨some 2, none, .mv (.t 59)⟩] [0, 3, 57, 58, 59])
.ret))))
 .skip)))
(.reg false [
⟨some 14, none, .mv (.t 3)⟩,
⟨some 15, none, .bin .add (.t 14) (.k (.d (.int .i64 1)))⟩,
⟨some 3, none, .mv (.t 15)⟩] [14, 15])))

/-- "slices.Compact[[]int,int]" -/
def c_slices_Compact_Lint_int : CF := ⟨[.tmp 2],
  (.seq (.reg false [
⟨some 2, none, .ownNil ⟨true, ty_int, 1, 8⟩⟩] [2])
(.seq (.seq (.reg false [
⟨some 6, none, .mv (.t 0)⟩,
⟨some 7, none, .len .slc (.t 6)⟩,
⟨some 8, none, .bin .lss (.t 7) (.k (.d (.int .i64 2)))⟩] [6, 7])
(.cond (.t 8) (.seq (.reg false [
⟨some 9, none, .mv (.t 0)⟩,
⟨some 2, none, .mv (.t 9)⟩] [0, 9])
.ret)
 .skip))
(.seq (.seq (.reg false [
⟨some 3, none, .mv (.k (.d (.int .i64 1)))⟩] [])
(.block 0 (.loop [0, 3] b_slices_Compact_Lint_int_2)))
(.seq (.reg false [
⟨some 60, none, .mv (.t 0)⟩,
⟨some 2, none, .mv (.t 60)⟩] [0, 60])
.ret))))⟩

def b_ref01_First_1 : C :=
  (.seq (.seq (.reg false [
⟨some 4, none, .mv (.t 3)⟩,
⟨some 5, none, .mv (.t 0)⟩,
⟨some 6, none, .len .slc (.t 5)⟩,
⟨some 7, none, .bin .lss (.t 4) (.t 6)⟩] [4, 5, 6])
(.cond (.t 7) .skip
 (.exit 0)))
(.seq (.block 1 (.seq (.reg false [
⟨some 10, none, .mv (.t 0)⟩,
⟨some 11, none, .mv (.t 3)⟩,
⟨some 12, none, .idxAddr 1 (.t 10) (.t 11)⟩,
⟨some 13, none, .load none (.t 12)⟩,
⟨some 14, none, .bin .neq (.t 13) (.k (.d (.int .i64 0)))⟩] [10, 11, 12, 13])
(.cond (.t 14) (.seq (.reg false [
⟨some 15, none, .mv (.t 0)⟩,
⟨some 16, none, .mv (.t 3)⟩,
⟨some 17, none, .idxAddr 1 (.t 15) (.t 16)⟩,
⟨some 18, none, .load none (.t 17)⟩,
⟨some 2, none, .mv (.t 18)⟩] [0, 3, 15, 16, 17, 18])
.ret)
 .skip)))
(.reg false [
⟨some 8, none, .mv (.t 3)⟩,
⟨some 9, none, .bin .add (.t 8) (.k (.d (.int .i64 1)))⟩,
⟨some 3, none, .mv (.t 9)⟩] [8, 9])))

/-- "turnround/turnroundref01.First" -/
def c_ref01_First : CF := ⟨[.tmp 2],
  (.seq (.reg false [
⟨some 2, none, .mv (.k (.d (.int .i64 0)))⟩] [2])
(.seq (.seq (.reg false [
⟨some 3, none, .mv (.k (.d (.int .i64 0)))⟩] [])
(.block 0 (.loop [0, 3] b_ref01_First_1)))
(.seq (.reg false [
⟨some 2, none, .mv (.k (.d (.int .i64 0)))⟩] [])
.ret)))⟩

def b_ref01_Offset_1 : C :=
  (.seq (.seq (.reg false [
⟨some 9, none, .mv (.t 6)⟩,
⟨some 10, none, .fieldAddr 1 (.t 2)⟩,
⟨some 11, none, .load none (.t 10)⟩,
⟨some 12, none, .len .slc (.t 11)⟩,
⟨some 13, none, .bin .lss (.t 9) (.t 12)⟩] [9, 10, 11, 12])
(.cond (.t 13) .skip
 (.exit 0)))
(.seq (.block 1 (.seq (.reg false [
⟨some 16, none, .fieldAddr 1 (.t 2)⟩,
⟨some 17, none, .load none (.t 16)⟩,
⟨some 18, none, .mv (.t 6)⟩,
⟨some 19, none, .idxAddr 2 (.t 17) (.t 18)⟩,
⟨some 20, none, .fieldAddr 0 (.t 19)⟩,
⟨some 21, none, .load none (.t 20)⟩,
⟨some 22, none, .mv (.t 1)⟩,
⟨some 23, none, .bin .leq (.t 21) (.t 22)⟩] [16, 17, 18, 19, 20, 21, 22])
(.cond (.t 23) (.reg false [
⟨some 24, none, .fieldAddr 1 (.t 2)⟩,
⟨some 25, none, .load none (.t 24)⟩,
⟨some 26, none, .mv (.t 6)⟩,
⟨some 27, none, .idxAddr 2 (.t 25) (.t 26)⟩,
⟨some 28, none, .fieldAddr 1 (.t 27)⟩,
⟨some 29, none, .load none (.t 28)⟩,
⟨some 5, none, .mv (.t 29)⟩] [24, 25, 26, 27, 28, 29])
 .skip)))
(.reg false [
⟨some 14, none, .mv (.t 6)⟩,
⟨some 15, none, .bin .add (.t 14) (.k (.d (.int .i64 1)))⟩,
⟨some 6, none, .mv (.t 15)⟩] [14, 15])))

/-- "turnround/turnroundref01.Offset" -/
def c_ref01_Offset : CF := ⟨[.tmp 4],
  (.seq (.reg false [
⟨some 2, none, .box ty_turnroundref01_Zone (.t 0)⟩,
⟨some 4, none, .mv (.k (.d (.int .i64 0)))⟩] [0, 4])
(.seq (.reg false [
⟨some 7, none, .fieldAddr 0 (.t 2)⟩,
⟨some 8, none, .load none (.t 7)⟩,
⟨some 5, none, .mv (.t 8)⟩] [7, 8])
(.seq (.seq (.reg false [
⟨some 6, none, .mv (.k (.d (.int .i64 0)))⟩] [])
(.block 0 (.loop [1, 2, 5, 6] b_ref01_Offset_1)))
(.seq (.reg false [
⟨some 30, none, .mv (.t 5)⟩,
⟨some 4, none, .mv (.t 30)⟩] [5, 30])
.ret))))⟩

/-- "turnround/calendar.lastSunday" -/
def c_calendar_lastSunday : CF := ⟨[.tmp 4],
  (.seq (.reg false [
⟨some 4, none, .mv (.k (.d (.int .i64 0)))⟩] [4])
(.seq (.reg false [
⟨some 6, none, .mv (.t 0)⟩,
⟨some 7, none, .mv (.t 1)⟩,
⟨some 8, none, .call false true (.k (.fn n_calendar_number [] [])) [.t 6, .t 7, .k (.d (.int .i64 31))]⟩,
⟨some 5, none, .mv (.t 8)⟩] [0, 1, 6, 7, 8])
(.seq (.reg false [
⟨some 9, none, .mv (.t 5)⟩,
⟨some 10, none, .mv (.t 5)⟩,
⟨some 11, none, .call false true (.k (.fn n_calendar_weekday [] [])) [.t 10]⟩,
⟨some 12, none, .bin .add (.t 11) (.k (.d (.int .i64 7)))⟩,
⟨some 13, none, .bin .sub (.t 12) (.k (.d (.int .i64 6)))⟩,
⟨some 14, none, .bin .rem (.t 13) (.k (.d (.int .i64 7)))⟩,
⟨some 15, none, .bin .sub (.t 9) (.t 14)⟩,
⟨some 4, none, .mv (.t 15)⟩] [5, 9, 10, 11, 12, 13, 14, 15])
.ret)))⟩

def b_ref01_LastSunday_1 : C :=
  (.seq (.seq (.reg false [
⟨some 9, none, .mv (.t 5)⟩,
⟨some 10, none, .call false true (.k (.fn n_ref01_Weekday [] [])) [.t 9]⟩,
⟨some 11, none, .bin .neq (.t 10) (.k (.d (.int .i64 6)))⟩] [9, 10])
(.cond (.t 11) .skip
 (.exit 0)))
(.block 1 (.reg false [
⟨some 12, none, .mv (.t 5)⟩,
⟨some 13, none, .bin .sub (.t 12) (.k (.d (.int .i64 1)))⟩,
⟨some 5, none, .mv (.t 13)⟩] [12, 13])))

/-- "turnround/turnroundref01.LastSunday" -/
def c_ref01_LastSunday : CF := ⟨[.tmp 4],
  (.seq (.reg false [
⟨some 4, none, .mv (.k (.d (.int .i64 0)))⟩] [4])
(.seq (.reg false [
⟨some 6, none, .mv (.t 0)⟩,
⟨some 7, none, .mv (.t 1)⟩,
⟨some 8, none, .call false true (.k (.fn n_ref01_Day [] [])) [.t 6, .t 7, .k (.d (.int .i64 31))]⟩,
⟨some 5, none, .mv (.t 8)⟩] [0, 1, 6, 7, 8])
(.seq (.block 0 (.loop [5] b_ref01_LastSunday_1))
(.seq (.reg false [
⟨some 14, none, .mv (.t 5)⟩,
⟨some 4, none, .mv (.t 14)⟩] [5, 14])
.ret))))⟩

def b_calendar_number_1 : C :=
  (.seq (.reg false [
⟨some 15, none, .bin .lss (.t 14) (.t 13)⟩] [])
(.seq (.cond (.t 15) .skip
 (.exit 0))
(.seq (.block 1 (.seq (.reg false [
⟨some 16, none, .mv (.t 14)⟩,
⟨some 8, none, .mv (.t 16)⟩] [16])
(.reg false [
⟨some 17, none, .mv (.t 7)⟩,
⟨some 18, none, .mv (.t 8)⟩,
⟨some 19, none, .bin .add (.k (.d (.int .i64 2000))) (.t 18)⟩,
⟨some 20, none, .call false true (.k (.fn n_calendar_span [] [])) [.t 19]⟩,
⟨some 21, none, .bin .add (.t 17) (.t 20)⟩,
⟨some 7, none, .mv (.t 21)⟩] [8, 17, 18, 19, 20, 21])))
(.reg false [
⟨some 22, none, .bin .add (.t 14) (.k (.d (.int .i64 1)))⟩,
⟨some 14, none, .mv (.t 22)⟩] [22]))))

def b_calendar_number_2 : C :=
  (.seq (.seq (.reg false [
⟨some 23, none, .mv (.t 9)⟩,
⟨some 24, none, .mv (.t 1)⟩,
⟨some 25, none, .bin .lss (.t 23) (.t 24)⟩] [23, 24])
(.cond (.t 25) .skip
 (.exit 2)))
(.seq (.block 3 (.reg false [
⟨some 28, none, .mv (.t 7)⟩,
⟨some 29, none, .mv (.t 0)⟩,
⟨some 30, none, .mv (.t 9)⟩,
⟨some 31, none, .call false true (.k (.fn n_calendar_length [] [])) [.t 29, .t 30]⟩,
⟨some 32, none, .bin .add (.t 28) (.t 31)⟩,
⟨some 7, none, .mv (.t 32)⟩] [28, 29, 30, 31, 32]))
(.reg false [
⟨some 26, none, .mv (.t 9)⟩,
⟨some 27, none, .bin .add (.t 26) (.k (.d (.int .i64 1)))⟩,
⟨some 9, none, .mv (.t 27)⟩] [26, 27])))

/-- "turnround/calendar.number" -/
def c_calendar_number : CF := ⟨[.tmp 6],
  (.seq (.reg false [
⟨some 6, none, .mv (.k (.d (.int .i64 0)))⟩] [6])
(.seq (.reg false [
⟨some 10, none, .mv (.t 2)⟩,
⟨some 11, none, .bin .sub (.t 10) (.k (.d (.int .i64 1)))⟩,
⟨some 7, none, .mv (.t 11)⟩] [2, 10, 11])
(.seq (.seq (.reg false [
⟨some 12, none, .mv (.t 0)⟩,
⟨some 13, none, .bin .sub (.t 12) (.k (.d (.int .i64 2000)))⟩,
⟨some 14, none, .mv (.k (.d (.int .i64 0)))⟩] [12])
(.block 0 (.loop [0, 1, 7, 13, 14] b_calendar_number_1)))
(.seq (.seq (.reg false [
⟨some 9, none, .mv (.k (.d (.int .i64 1)))⟩] [])
(.block 2 (.loop [0, 1, 7, 9] b_calendar_number_2)))
(.seq (.reg false [
⟨some 33, none, .mv (.t 7)⟩,
⟨some 6, none, .mv (.t 33)⟩] [7, 33])
.ret)))))⟩

/-- "turnround/calendar.length" -/
def c_calendar_length : CF := ⟨[.tmp 4],
  (.seq (.reg false [
⟨some 4, none, .mv (.k (.d (.int .i64 0)))⟩] [4])
(.seq (.seq (.reg false [
⟨some 5, none, .mv (.t 1)⟩,
⟨some 6, none, .bin .eql (.t 5) (.k (.d (.int .i64 2)))⟩,
⟨some 7, none, .mv (.t 6)⟩,
⟨some 8, (some (7, true)), .mv (.t 0)⟩,
⟨some 9, (some (7, true)), .call false true (.k (.fn n_calendar_leap [] [])) [.t 8]⟩,
⟨some 10, none, .pick (.t 7) (.t 9) (.k (.d (.bool false)))⟩] [0, 5, 6, 7, 8, 9])
(.cond (.t 10) (.seq (.reg false [
⟨some 11, none, .idxAddrA 12 1 (.k (.lptr [.int .i64 31, .int .i64 28, .int .i64 31, .int .i64 30, .int .i64 31, .int .i64 30, .int .i64 31, .int .i64 31, .int .i64 30, .int .i64 31, .int .i64 30, .int .i64 31] 0)) (.k (.d (.int .i64 1)))⟩,
⟨some 12, none, .load none (.t 11)⟩,
⟨some 13, none, .bin .add (.t 12) (.k (.d (.int .i64 1)))⟩,
⟨some 4, none, .mv (.t 13)⟩] [11, 12, 13])
.ret)
 .skip))
(.seq (.reg false [
⟨some 14, none, .mv (.t 1)⟩,
⟨some 15, none, .bin .sub (.t 14) (.k (.d (.int .i64 1)))⟩,
⟨some 16, none, .idxAddrA 12 1 (.k (.lptr [.int .i64 31, .int .i64 28, .int .i64 31, .int .i64 30, .int .i64 31, .int .i64 30, .int .i64 31, .int .i64 31, .int .i64 30, .int .i64 31, .int .i64 30, .int .i64 31] 0)) (.t 15)⟩,
⟨some 17, none, .load none (.t 16)⟩,
⟨some 4, none, .mv (.t 17)⟩] [1, 14, 15, 16, 17])
.ret)))⟩

/-- "turnround/turnroundref01.Length" -/
def c_ref01_Length : CF := ⟨[.tmp 4],
  (.seq (.reg false [
⟨some 4, none, .mv (.k (.d (.int .i64 0)))⟩] [4])
(.seq (.seq (.reg false [
⟨some 5, none, .mv (.t 1)⟩,
⟨some 6, none, .bin .eql (.t 5) (.k (.d (.int .i64 2)))⟩] [5])
(.cond (.t 6) (.seq (.seq (.reg false [
⟨some 7, none, .mv (.t 0)⟩,
⟨some 8, none, .call false true (.k (.fn n_ref01_leap [] [])) [.t 7]⟩] [0, 7])
(.cond (.t 8) (.seq (.reg false [
⟨some 4, none, .mv (.k (.d (.int .i64 29)))⟩] [])
.ret)
 .skip))
(.seq (.reg false [
⟨some 4, none, .mv (.k (.d (.int .i64 28)))⟩] [])
.ret))
 .skip))
(.seq (.seq (.reg false [
⟨some 9, none, .mv (.t 1)⟩,
⟨some 10, none, .bin .eql (.t 9) (.k (.d (.int .i64 4)))⟩,
⟨some 11, none, .mv (.t 10)⟩,
⟨some 12, (some (11, false)), .mv (.t 1)⟩,
⟨some 13, (some (11, false)), .bin .eql (.t 12) (.k (.d (.int .i64 6)))⟩,
⟨some 14, none, .pick (.t 11) (.k (.d (.bool true))) (.t 13)⟩,
⟨some 15, none, .mv (.t 14)⟩,
⟨some 16, (some (15, false)), .mv (.t 1)⟩,
⟨some 17, (some (15, false)), .bin .eql (.t 16) (.k (.d (.int .i64 9)))⟩,
⟨some 18, none, .pick (.t 15) (.k (.d (.bool true))) (.t 17)⟩,
⟨some 19, none, .mv (.t 18)⟩,
⟨some 20, (some (19, false)), .mv (.t 1)⟩,
⟨some 21, (some (19, false)), .bin .eql (.t 20) (.k (.d (.int .i64 11)))⟩,
⟨some 22, none, .pick (.t 19) (.k (.d (.bool true))) (.t 21)⟩] [1, 9, 10, 11, 12, 13, 14, 15, 16, 17, 18, 19, 20, 21])
(.cond (.t 22) (.seq (.reg false [
⟨some 4, none, .mv (.k (.d (.int .i64 30)))⟩] [])
.ret)
 .skip))
(.seq (.reg false [
⟨some 4, none, .mv (.k (.d (.int .i64 31)))⟩] [])
.ret))))⟩

/-- "turnround/turnroundref01.yearLength" -/
def c_ref01_yearLength : CF := ⟨[.tmp 2],
  (.seq (.reg false [
⟨some 2, none, .mv (.k (.d (.int .i64 0)))⟩] [2])
(.seq (.seq (.reg false [
⟨some 3, none, .mv (.t 0)⟩,
⟨some 4, none, .call false true (.k (.fn n_ref01_leap [] [])) [.t 3]⟩] [0, 3])
(.cond (.t 4) (.seq (.reg false [
⟨some 2, none, .mv (.k (.d (.int .i64 366)))⟩] [])
.ret)
 .skip))
(.seq (.reg false [
⟨some 2, none, .mv (.k (.d (.int .i64 365)))⟩] [])
.ret)))⟩

/-- "turnround/calendar.checkDay" -/
def c_calendar_checkDay : CF := ⟨[.tmp 2],
  (.seq (.reg false [
⟨some 2, none, .mv (.k (.d (.int .i64 0)))⟩] [2])
(.seq (.reg false [
⟨some 3, none, .mv (.t 0)⟩,
⟨some 4, none, .call false true (.k (.fn n_calendar_within [] [])) [.t 3, .k (.d (.int .i64 0)), .k (.d (.int .i64 99999))]⟩,
⟨some 2, none, .mv (.t 4)⟩] [0, 3, 4])
.ret))⟩

def b_calendar_date_1 : C :=
  (.seq (.seq (.reg false [
⟨some 5, none, .mv (.t 0)⟩,
⟨some 6, none, .idxAddrA 3 1 (.t 3) (.k (.d (.int .i64 0)))⟩,
⟨some 7, none, .load none (.t 6)⟩,
⟨some 8, none, .call false true (.k (.fn n_calendar_span [] [])) [.t 7]⟩,
⟨some 9, none, .bin .geq (.t 5) (.t 8)⟩] [5, 6, 7, 8])
(.cond (.t 9) .skip
 (.exit 0)))
(.block 1 (.seq (.reg false [
⟨some 10, none, .mv (.t 0)⟩,
⟨some 11, none, .idxAddrA 3 1 (.t 3) (.k (.d (.int .i64 0)))⟩,
⟨some 12, none, .load none (.t 11)⟩,
⟨some 13, none, .call false true (.k (.fn n_calendar_span [] [])) [.t 12]⟩,
⟨some 14, none, .bin .sub (.t 10) (.t 13)⟩,
⟨some 0, none, .mv (.t 14)⟩] [10, 11, 12, 13, 14])
(.reg false [
⟨some 15, none, .idxAddrA 3 1 (.t 3) (.k (.d (.int .i64 0)))⟩,
⟨some 16, none, .load none (.t 15)⟩,
⟨some 17, none, .bin .add (.t 16) (.k (.d (.int .i64 1)))⟩,
⟨some 18, none, .idxAddrA 3 1 (.t 3) (.k (.d (.int .i64 0)))⟩,
⟨none, none, .store 1 (.t 18) (.t 17)⟩] [15, 16, 17, 18]))))

def b_calendar_date_2 : C :=
  (.seq (.seq (.reg false [
⟨some 19, none, .mv (.t 0)⟩,
⟨some 20, none, .idxAddrA 3 1 (.t 3) (.k (.d (.int .i64 0)))⟩,
⟨some 21, none, .load none (.t 20)⟩,
⟨some 22, none, .idxAddrA 3 1 (.t 3) (.k (.d (.int .i64 1)))⟩,
⟨some 23, none, .load none (.t 22)⟩,
⟨some 24, none, .call false true (.k (.fn n_calendar_length [] [])) [.t 21, .t 23]⟩,
⟨some 25, none, .bin .geq (.t 19) (.t 24)⟩] [19, 20, 21, 22, 23, 24])
(.cond (.t 25) .skip
 (.exit 2)))
(.block 3 (.seq (.reg false [
⟨some 26, none, .mv (.t 0)⟩,
⟨some 27, none, .idxAddrA 3 1 (.t 3) (.k (.d (.int .i64 0)))⟩,
⟨some 28, none, .load none (.t 27)⟩,
⟨some 29, none, .idxAddrA 3 1 (.t 3) (.k (.d (.int .i64 1)))⟩,
⟨some 30, none, .load none (.t 29)⟩,
⟨some 31, none, .call false true (.k (.fn n_calendar_length [] [])) [.t 28, .t 30]⟩,
⟨some 32, none, .bin .sub (.t 26) (.t 31)⟩,
⟨some 0, none, .mv (.t 32)⟩] [26, 27, 28, 29, 30, 31, 32])
(.reg false [
⟨some 33, none, .idxAddrA 3 1 (.t 3) (.k (.d (.int .i64 1)))⟩,
⟨some 34, none, .load none (.t 33)⟩,
⟨some 35, none, .bin .add (.t 34) (.k (.d (.int .i64 1)))⟩,
⟨some 36, none, .idxAddrA 3 1 (.t 3) (.k (.d (.int .i64 1)))⟩,
⟨none, none, .store 1 (.t 36) (.t 35)⟩] [33, 34, 35, 36]))))

/-- "turnround/calendar.date" -/
def c_calendar_date : CF := ⟨[.cell 2 (some 3)],
  (.seq (.reg false [
⟨some 2, none, .alloc ty_3_int [.z (.int .i64 0), .z (.int .i64 0), .z (.int .i64 0)]⟩] [])
(.seq (.reg false [
⟨some 4, none, .build [.z (.int .i64 0), .z (.int .i64 0), .z (.int .i64 0)] [(0, 1, .k (.d (.int .i64 2000))), (1, 1, .k (.d (.int .i64 1))), (2, 1, .k (.d (.int .i64 1)))]⟩,
⟨some 3, none, .alloc ty_3_int [.z (.int .i64 0), .z (.int .i64 0), .z (.int .i64 0)]⟩,
⟨none, none, .store 3 (.t 3) (.t 4)⟩] [4])
(.seq (.block 0 (.loop [0, 2, 3] b_calendar_date_1))
(.seq (.block 2 (.loop [0, 2, 3] b_calendar_date_2))
(.seq (.reg false [
⟨some 37, none, .idxAddrA 3 1 (.t 3) (.k (.d (.int .i64 2)))⟩,
⟨some 38, none, .load none (.t 37)⟩,
⟨some 39, none, .mv (.t 0)⟩,
⟨some 40, none, .bin .add (.t 38) (.t 39)⟩,
⟨some 41, none, .idxAddrA 3 1 (.t 3) (.k (.d (.int .i64 2)))⟩,
⟨none, none, .store 1 (.t 41) (.t 40)⟩] [0, 37, 38, 39, 40, 41])
(.seq (.reg false [
⟨some 42, none, .load (some 3) (.t 3)⟩,
⟨none, none, .store 3 (.t 2) (.t 42)⟩] [3, 42])
.ret))))))⟩

/-- "turnround/calendar.weekday" -/
def c_calendar_weekday : CF := ⟨[.tmp 2],
  (.seq (.reg false [
⟨some 2, none, .mv (.k (.d (.int .i64 0)))⟩] [2])
(.seq (.reg false [
⟨some 3, none, .mv (.t 0)⟩,
⟨some 4, none, .bin .add (.t 3) (.k (.d (.int .i64 5)))⟩,
⟨some 5, none, .bin .rem (.t 4) (.k (.d (.int .i64 7)))⟩,
⟨some 2, none, .mv (.t 5)⟩] [0, 3, 4, 5])
.ret))⟩

/-- "turnround/calendar.two" -/
def c_calendar_two : CF := ⟨[.tmp 2],
  (.seq (.reg false [
⟨some 2, none, .mv (.k (.d (.str [])))⟩] [2])
(.seq (.reg false [
⟨some 3, none, .mv (.t 0)⟩,
⟨some 4, none, .bin .quo (.t 3) (.k (.d (.int .i64 10)))⟩,
⟨some 5, none, .call false true (.k (.fn n_strconv_Itoa [] [])) [.t 4]⟩,
⟨some 6, none, .mv (.t 0)⟩,
⟨some 7, none, .bin .rem (.t 6) (.k (.d (.int .i64 10)))⟩,
⟨some 8, none, .call false true (.k (.fn n_strconv_Itoa [] [])) [.t 7]⟩,
⟨some 9, none, .bin .add (.t 5) (.t 8)⟩,
⟨some 2, none, .mv (.t 9)⟩] [0, 3, 4, 5, 6, 7, 8, 9])
.ret))⟩

/-- "turnround/turnroundref01.wide" -/
def c_ref01_wide : CF := ⟨[.tmp 4],
  (.seq (.reg false [
⟨some 4, none, .mv (.k (.d (.str [])))⟩] [4])
(.seq (.seq (.reg false [
⟨some 5, none, .mv (.t 1)⟩,
⟨some 6, none, .bin .eql (.t 5) (.k (.d (.int .i64 0)))⟩] [5])
(.cond (.t 6) (.seq (.reg false [
⟨some 4, none, .mv (.k (.d (.str [])))⟩] [])
.ret)
 .skip))
(.seq (.reg false [
⟨some 7, none, .mv (.t 0)⟩,
⟨some 8, none, .bin .quo (.t 7) (.k (.d (.int .i64 10)))⟩,
⟨some 9, none, .mv (.t 1)⟩,
⟨some 10, none, .bin .sub (.t 9) (.k (.d (.int .i64 1)))⟩,
⟨some 11, none, .call false true (.k (.fn n_ref01_wide [] [])) [.t 8, .t 10]⟩,
⟨some 12, none, .mv (.t 0)⟩,
⟨some 13, none, .bin .rem (.t 12) (.k (.d (.int .i64 10)))⟩,
⟨some 14, none, .call false true (.k (.fn n_ref01_digit [] [])) [.t 13]⟩,
⟨some 15, none, .bin .add (.t 11) (.t 14)⟩,
⟨some 4, none, .mv (.t 15)⟩] [0, 1, 7, 8, 9, 10, 11, 12, 13, 14, 15])
.ret)))⟩

/-- "turnround/calendar.has" -/
def c_calendar_has : CF := ⟨[.tmp 4],
  (.seq (.reg false [
⟨some 2, none, .box ty_api_Period (.t 0)⟩,
⟨some 4, none, .mv (.k (.d (.bool false)))⟩] [0, 4])
(.seq (.reg true [
⟨some 5, none, .mv (.t 1)⟩,
⟨some 6, none, .fieldAddr 0 (.t 2)⟩,
⟨some 7, none, .load none (.t 6)⟩,
⟨some 8, none, .bin .geq (.t 5) (.t 7)⟩,
⟨some 9, none, .mv (.t 8)⟩,
⟨some 10, (some (9, true)), .mv (.t 1)⟩,
⟨some 11, (some (9, true)), .fieldAddr 1 (.t 2)⟩,
⟨some 12, (some (9, true)), .load none (.t 11)⟩,
⟨some 13, (some (9, true)), .bin .leq (.t 10) (.t 12)⟩,
⟨some 14, none, .pick (.t 9) (.t 13) (.k (.d (.bool false)))⟩,
⟨some 15, none, .mv (.t 14)⟩,
⟨some 16, (some (15, true)), .fieldAddr 2 (.t 2)⟩,
⟨some 17, (some (15, true)), .load none (.t 16)⟩,
⟨some 18, (some (15, true)), .mv (.t 1)⟩,
⟨some 19, (some (15, true)), .call false true (.k (.fn n_calendar_weekday [] [])) [.t 18]⟩,
⟨some 20, (some (15, true)), .call false true (.k (.fn n_calendar_inMask [] [])) [.t 17, .t 19]⟩,
⟨some 21, none, .pick (.t 15) (.t 20) (.k (.d (.bool false)))⟩,
⟨some 4, none, .mv (.t 21)⟩] [1, 2, 5, 6, 7, 8, 9, 10, 11, 12, 13, 14, 15, 16, 17, 18, 19, 20, 21])
.ret))⟩

/-- "turnround/calendar.collected[int]" -/
def c_calendar_collected_int : CF := ⟨[.tmp 4],
  (.seq (.reg false [
⟨some 3, none, .box ty_func_int_bool (.t 1)⟩,
⟨some 4, none, .ownNil ⟨false, ty_int, 1, 8⟩⟩] [1])
(.seq (.reg false [
⟨some 5, none, .alloc ty_Lint [.own ⟨false, ty_int, 1, 8⟩]⟩] [])
(.seq (.seq (.reg false [
⟨some 7, none, .mv (.t 0)⟩] [0])
(.block 0 (.rangeFn 18 (.t 7) [8] (.reg false [
⟨some 6, none, .mv (.t 8)⟩] [8])
 (.block 1 (.seq (.reg false [
⟨some 9, none, .load none (.t 3)⟩,
⟨some 10, none, .mv (.t 6)⟩,
⟨some 11, none, .call true true (.t 9) [.t 10]⟩] [3, 9, 10])
(.cond (.t 11) (.reg false [
⟨some 12, none, .load none (.t 5)⟩,
⟨some 13, none, .mv (.t 6)⟩,
⟨some 14, none, .mkList 1 1 [.t 13]⟩,
⟨some 15, none, .append ⟨false, ty_int, 1, 8⟩ (.t 12) (.t 14)⟩,
⟨none, none, .store 1 (.t 5) (.t 15)⟩] [5, 6, 12, 13, 14, 15])
 .skip))))))
(.seq (.reg false [
⟨some 16, none, .load none (.t 5)⟩,
⟨some 4, none, .mv (.t 16)⟩] [5, 16])
.ret))))⟩

/-- "turnround/calendar.daysOf" -/
def c_calendar_daysOf : CF := ⟨[.tmp 2],
  (.seq (.reg false [
⟨some 1, none, .box ty_api_Period (.t 0)⟩,
⟨some 2, none, .mv (.k (.d (.nilf)))⟩] [0, 2])
(.seq (.reg false [
⟨some 3, none, .mkFunc n_calendar_daysOf_1 [] [.t 1]⟩,
⟨some 2, none, .mv (.t 3)⟩] [1, 3])
.ret))⟩

/-- "turnround/calendar.DaysOf.1" -/
def c_calendar_DaysOf_1 : CF := ⟨[.tmp 2],
  (.seq (.reg false [
⟨some 2, none, .mv (.k (.d (.bool false)))⟩] [2])
(.seq (.reg false [
⟨some 2, none, .mv (.k (.d (.bool true)))⟩] [])
.ret))⟩

/-- "turnround/calendar.Meet.1" -/
def c_calendar_Meet_1 : CF := ⟨[.tmp 3],
  (.seq (.reg false [
⟨some 3, none, .mv (.k (.d (.bool false)))⟩] [3])
(.seq (.reg false [
⟨some 4, none, .load (some 3) (.t 1)⟩,
⟨some 5, none, .mv (.t 0)⟩,
⟨some 6, none, .call false true (.k (.fn n_calendar_has [] [])) [.t 4, .t 5]⟩,
⟨some 3, none, .mv (.t 6)⟩] [0, 1, 4, 5, 6])
.ret))⟩

def b_ref01_InMask_1 : C :=
  (.seq (.seq (.reg false [
⟨some 6, none, .mv (.t 5)⟩,
⟨some 7, none, .mv (.t 1)⟩,
⟨some 8, none, .bin .lss (.t 6) (.t 7)⟩] [6, 7])
(.cond (.t 8) .skip
 (.exit 0)))
(.seq (.block 1 (.reg false [
⟨some 11, none, .mv (.t 0)⟩,
⟨some 12, none, .bin .quo (.t 11) (.k (.d (.int .i64 2)))⟩,
⟨some 0, none, .mv (.t 12)⟩] [11, 12]))
(.reg false [
⟨some 9, none, .mv (.t 5)⟩,
⟨some 10, none, .bin .add (.t 9) (.k (.d (.int .i64 1)))⟩,
⟨some 5, none, .mv (.t 10)⟩] [9, 10])))

/-- "turnround/turnroundref01.InMask" -/
def c_ref01_InMask : CF := ⟨[.tmp 4],
  (.seq (.reg false [
⟨some 4, none, .mv (.k (.d (.bool false)))⟩] [4])
(.seq (.seq (.reg false [
⟨some 5, none, .mv (.k (.d (.int .i64 0)))⟩] [])
(.block 0 (.loop [0, 1, 5] b_ref01_InMask_1)))
(.seq (.reg false [
⟨some 13, none, .mv (.t 0)⟩,
⟨some 14, none, .bin .rem (.t 13) (.k (.d (.int .i64 2)))⟩,
⟨some 15, none, .bin .eql (.t 14) (.k (.d (.int .i64 1)))⟩,
⟨some 4, none, .mv (.t 15)⟩] [0, 13, 14, 15])
.ret)))⟩

/-- "(turnround/calendar.Season).begin" -/
def c_calendar_Season_begin : CF := ⟨[.tmp 2],
  (.seq (.reg false [
⟨some 1, none, .box ty_calendar_Season (.t 0)⟩,
⟨some 2, none, .mv (.k (.d (.int .i64 0)))⟩] [0, 2])
(.seq (.seq (.reg false [
⟨some 3, none, .fieldAddr 1 (.t 1)⟩,
⟨some 4, none, .load none (.t 3)⟩,
⟨some 5, none, .bin .eql (.t 4) (.k (.d (.str [83])))⟩] [3, 4])
(.cond (.t 5) (.seq (.reg false [
⟨some 6, none, .fieldAddr 0 (.t 1)⟩,
⟨some 7, none, .load none (.t 6)⟩,
⟨some 8, none, .call false true (.k (.fn n_calendar_lastSunday [] [])) [.t 7, .k (.d (.int .i64 3))]⟩,
⟨some 2, none, .mv (.t 8)⟩] [1, 6, 7, 8])
.ret)
 .skip))
(.seq (.reg false [
⟨some 9, none, .fieldAddr 0 (.t 1)⟩,
⟨some 10, none, .load none (.t 9)⟩,
⟨some 11, none, .call false true (.k (.fn n_calendar_lastSunday [] [])) [.t 10, .k (.d (.int .i64 10))]⟩,
⟨some 2, none, .mv (.t 11)⟩] [1, 9, 10, 11])
.ret)))⟩

/-- "(turnround/calendar.Season).next" -/
def c_calendar_Season_next : CF := ⟨[.cell 2 (some 2)],
  (.seq (.reg false [
⟨some 1, none, .box ty_calendar_Season (.t 0)⟩,
⟨some 2, none, .alloc ty_calendar_Season [.z (.int .i64 0), .z (.str [])]⟩] [0])
(.seq (.seq (.reg false [
⟨some 3, none, .fieldAddr 1 (.t 1)⟩,
⟨some 4, none, .load none (.t 3)⟩,
⟨some 5, none, .bin .eql (.t 4) (.k (.d (.str [83])))⟩] [3, 4])
(.cond (.t 5) (.seq (.reg false [
⟨some 6, none, .fieldAddr 0 (.t 1)⟩,
⟨some 7, none, .load none (.t 6)⟩,
⟨some 8, none, .build [.z (.int .i64 0), .z (.str [])] [(0, 1, .t 7), (1, 1, .k (.d (.str [87])))]⟩,
⟨none, none, .store 2 (.t 2) (.t 8)⟩] [1, 6, 7, 8])
.ret)
 .skip))
(.seq (.reg false [
⟨some 9, none, .fieldAddr 0 (.t 1)⟩,
⟨some 10, none, .load none (.t 9)⟩,
⟨some 11, none, .bin .add (.t 10) (.k (.d (.int .i64 1)))⟩,
⟨some 12, none, .build [.z (.int .i64 0), .z (.str [])] [(0, 1, .t 11), (1, 1, .k (.d (.str [83])))]⟩,
⟨none, none, .store 2 (.t 2) (.t 12)⟩] [1, 9, 10, 11, 12])
.ret)))⟩

/-- "turnround/calendar.latest" -/
def c_calendar_latest : CF := ⟨[.cell 0 (some 2)],
  (.seq (.reg false [
⟨some 0, none, .alloc ty_calendar_Season [.z (.int .i64 0), .z (.str [])]⟩] [])
(.seq (.reg false [
⟨some 1, none, .build [.z (.int .i64 0), .z (.str [])] [(0, 1, .k (.d (.int .i64 2272))), (1, 1, .k (.d (.str [87])))]⟩,
⟨none, none, .store 2 (.t 0) (.t 1)⟩] [1])
.ret))⟩

/-- "turnround/calendar.earliest" -/
def c_calendar_earliest : CF := ⟨[.cell 0 (some 2)],
  (.seq (.reg false [
⟨some 0, none, .alloc ty_calendar_Season [.z (.int .i64 0), .z (.str [])]⟩] [])
(.seq (.reg false [
⟨some 1, none, .build [.z (.int .i64 0), .z (.str [])] [(0, 1, .k (.d (.int .i64 2000))), (1, 1, .k (.d (.str [83])))]⟩,
⟨none, none, .store 2 (.t 0) (.t 1)⟩] [1])
.ret))⟩

/-- "turnround/calendar.digits" -/
def c_calendar_digits : CF := ⟨[.tmp 2],
  (.seq (.reg false [
⟨some 2, none, .mv (.k (.d (.bool false)))⟩] [2])
(.seq (.reg false [
⟨some 3, none, .mv (.t 0)⟩,
⟨some 4, none, .call false true (.k (.fn n_strings_Trim [] [])) [.t 3, .k (.d (.str [48, 49, 50, 51, 52, 53, 54, 55, 56, 57]))]⟩,
⟨some 5, none, .bin .eql (.t 4) (.k (.d (.str [])))⟩,
⟨some 2, none, .mv (.t 5)⟩] [0, 3, 4, 5])
.ret))⟩

def b_calendar_printMask_1 : C :=
  (.seq (.reg false [
⟨some 6, none, .bin .lss (.t 5) (.k (.d (.int .i64 7)))⟩] [])
(.seq (.cond (.t 6) .skip
 (.exit 0))
(.seq (.block 1 (.seq (.reg false [
⟨some 7, none, .mv (.t 5)⟩,
⟨some 4, none, .mv (.t 7)⟩] [7])
(.seq (.seq (.reg false [
⟨some 8, none, .mv (.t 0)⟩,
⟨some 9, none, .mv (.t 4)⟩,
⟨some 10, none, .call false true (.k (.fn n_calendar_inMask [] [])) [.t 8, .t 9]⟩] [8, 9])
(.cond (.t 10) (.seq (.reg false [
⟨some 11, none, .mv (.t 4)⟩,
⟨some 12, none, .bin .add (.t 11) (.k (.d (.int .i64 1)))⟩,
⟨some 13, none, .call false true (.k (.fn n_strconv_Itoa [] [])) [.t 12]⟩,
⟨some 14, none, .call true false (.k (.fn n_strings_Builder_WriteString [] [])) [.t 3, .t 13]⟩] [4, 11, 12, 13, 14])
(.exit 1))
 .skip))
(.reg false [
⟨some 15, none, .call true false (.k (.fn n_strings_Builder_WriteByte [] [])) [.t 3, .k (.d (.int .u8 48))]⟩] [15]))))
(.reg false [
⟨some 16, none, .bin .add (.t 5) (.k (.d (.int .i64 1)))⟩,
⟨some 5, none, .mv (.t 16)⟩] [16]))))

/-- "turnround/calendar.printMask" -/
def c_calendar_printMask : CF := ⟨[.tmp 2],
  (.seq (.reg false [
⟨some 2, none, .mv (.k (.d (.str [])))⟩] [2])
(.seq (.reg false [
⟨some 3, none, .alloc ty_strings_Builder [.z .nilp, .own ⟨false, ty_uint8, 1, 1⟩]⟩] [])
(.seq (.seq (.reg false [
⟨some 5, none, .mv (.k (.d (.int .i64 0)))⟩] [])
(.block 0 (.loop [0, 3, 5] b_calendar_printMask_1)))
(.seq (.reg false [
⟨some 17, none, .call true true (.k (.fn n_strings_Builder_String [] [])) [.t 3]⟩,
⟨some 2, none, .mv (.t 17)⟩] [3, 17])
.ret))))⟩

/-- "turnround/turnroundref01.digit" -/
def c_ref01_digit : CF := ⟨[.tmp 2],
  (.seq (.reg false [
⟨some 2, none, .mv (.k (.d (.str [])))⟩] [2])
(.seq (.reg false [
⟨some 3, none, .mv (.t 0)⟩,
⟨some 4, none, .mv (.t 0)⟩,
⟨some 5, none, .bin .add (.t 4) (.k (.d (.int .i64 1)))⟩,
⟨some 6, none, .sliceS (.k (.d (.str [48, 49, 50, 51, 52, 53, 54, 55, 56, 57]))) (some (.t 3)) (some (.t 5))⟩,
⟨some 2, none, .mv (.t 6)⟩] [0, 3, 4, 5, 6])
.ret))⟩

/-- "turnround/calendar.weekOf" -/
def c_calendar_weekOf : CF := ⟨[.tmp 2],
  (.seq (.reg false [
⟨some 2, none, .mv (.k (.d (.int .i64 0)))⟩] [2])
(.seq (.reg false [
⟨some 3, none, .mv (.t 0)⟩,
⟨some 4, none, .bin .add (.t 3) (.k (.d (.int .i64 5)))⟩,
⟨some 5, none, .bin .quo (.t 4) (.k (.d (.int .i64 7)))⟩,
⟨some 2, none, .mv (.t 5)⟩] [0, 3, 4, 5])
.ret))⟩

/-- "slices.Clip[[]turnround/api.Period,turnround/api.Period]" -/
def c_slices_Clip_Lapi_Period_api_Period : CF := ⟨[.tmp 2],
  (.seq (.reg false [
⟨some 2, none, .mv (.k (.d (.list 0 [])))⟩] [2])
(.seq (.reg false [
⟨some 3, none, .mv (.t 0)⟩,
⟨some 4, none, .mv (.t 0)⟩,
⟨some 5, none, .len .slc (.t 4)⟩,
⟨some 6, none, .mv (.t 0)⟩,
⟨some 7, none, .len .slc (.t 6)⟩,
⟨some 8, none, .slice 3 (.t 3) none (some (.t 5)) (some (.t 7))⟩,
⟨some 2, none, .mv (.t 8)⟩] [0, 3, 4, 5, 6, 7, 8])
.ret))⟩

/-- "turnround/calendar.span" -/
def c_calendar_span : CF := ⟨[.tmp 2],
  (.seq (.reg false [
⟨some 2, none, .mv (.k (.d (.int .i64 0)))⟩] [2])
(.seq (.seq (.reg false [
⟨some 3, none, .mv (.t 0)⟩,
⟨some 4, none, .call false true (.k (.fn n_calendar_leap [] [])) [.t 3]⟩] [0, 3])
(.cond (.t 4) (.seq (.reg false [
⟨some 2, none, .mv (.k (.d (.int .i64 366)))⟩] [])
.ret)
 .skip))
(.seq (.reg false [
⟨some 2, none, .mv (.k (.d (.int .i64 365)))⟩] [])
.ret)))⟩

/-- "turnround/calendar.leap" -/
def c_calendar_leap : CF := ⟨[.tmp 2],
  (.seq (.reg false [
⟨some 2, none, .mv (.k (.d (.bool false)))⟩] [2])
(.seq (.reg false [
⟨some 3, none, .mv (.t 0)⟩,
⟨some 4, none, .bin .rem (.t 3) (.k (.d (.int .i64 4)))⟩,
⟨some 5, none, .bin .eql (.t 4) (.k (.d (.int .i64 0)))⟩,
⟨some 6, none, .mv (.t 5)⟩,
⟨some 7, (some (6, true)), .mv (.t 0)⟩,
⟨some 8, (some (6, true)), .bin .rem (.t 7) (.k (.d (.int .i64 100)))⟩,
⟨some 9, (some (6, true)), .bin .neq (.t 8) (.k (.d (.int .i64 0)))⟩,
⟨some 10, (some (6, true)), .mv (.t 9)⟩,
⟨some 11, (some (10, false)), .mv (.t 0)⟩,
⟨some 12, (some (10, false)), .bin .rem (.t 11) (.k (.d (.int .i64 400)))⟩,
⟨some 13, (some (10, false)), .bin .eql (.t 12) (.k (.d (.int .i64 0)))⟩,
⟨some 14, (some (6, true)), .pick (.t 10) (.k (.d (.bool true))) (.t 13)⟩,
⟨some 15, none, .pick (.t 6) (.t 14) (.k (.d (.bool false)))⟩,
⟨some 2, none, .mv (.t 15)⟩] [0, 3, 4, 5, 6, 7, 8, 9, 10, 11, 12, 13, 14, 15])
.ret))⟩

/-- "turnround/turnroundref01.leap" -/
def c_ref01_leap : CF := ⟨[.tmp 2],
  (.seq (.reg false [
⟨some 2, none, .mv (.k (.d (.bool false)))⟩] [2])
(.seq (.reg false [
⟨some 3, none, .mv (.t 0)⟩,
⟨some 4, none, .bin .rem (.t 3) (.k (.d (.int .i64 4)))⟩,
⟨some 5, none, .bin .eql (.t 4) (.k (.d (.int .i64 0)))⟩,
⟨some 6, none, .mv (.t 5)⟩,
⟨some 7, (some (6, true)), .mv (.t 0)⟩,
⟨some 8, (some (6, true)), .bin .rem (.t 7) (.k (.d (.int .i64 100)))⟩,
⟨some 9, (some (6, true)), .bin .neq (.t 8) (.k (.d (.int .i64 0)))⟩,
⟨some 10, (some (6, true)), .mv (.t 9)⟩,
⟨some 11, (some (10, false)), .mv (.t 0)⟩,
⟨some 12, (some (10, false)), .bin .rem (.t 11) (.k (.d (.int .i64 400)))⟩,
⟨some 13, (some (10, false)), .bin .eql (.t 12) (.k (.d (.int .i64 0)))⟩,
⟨some 14, (some (6, true)), .pick (.t 10) (.k (.d (.bool true))) (.t 13)⟩,
⟨some 15, none, .pick (.t 6) (.t 14) (.k (.d (.bool false)))⟩,
⟨some 2, none, .mv (.t 15)⟩] [0, 3, 4, 5, 6, 7, 8, 9, 10, 11, 12, 13, 14, 15])
.ret))⟩

/-- "turnround/calendar.inMask" -/
def c_calendar_inMask : CF := ⟨[.tmp 4],
  (.seq (.reg false [
⟨some 4, none, .mv (.k (.d (.bool false)))⟩] [4])
(.seq (.reg false [
⟨some 5, none, .mv (.t 0)⟩,
⟨some 6, none, .mv (.t 1)⟩,
⟨some 7, none, .bin .shr (.t 5) (.t 6)⟩,
⟨some 8, none, .bin .and (.t 7) (.k (.d (.int .i64 1)))⟩,
⟨some 9, none, .bin .eql (.t 8) (.k (.d (.int .i64 1)))⟩,
⟨some 4, none, .mv (.t 9)⟩] [0, 1, 5, 6, 7, 8, 9])
.ret))⟩

def b_calendar_daysOf_1_1 : C :=
  (.seq (.seq (.reg false [
⟨some 6, none, .mv (.t 3)⟩,
⟨some 7, none, .fieldAddr 1 (.t 1)⟩,
⟨some 8, none, .load none (.t 7)⟩,
⟨some 9, none, .bin .leq (.t 6) (.t 8)⟩] [6, 7, 8])
(.cond (.t 9) .skip
 (.exit 0)))
(.seq (.block 1 (.seq (.reg true [
⟨some 12, none, .fieldAddr 2 (.t 1)⟩,
⟨some 13, none, .load none (.t 12)⟩,
⟨some 14, none, .mv (.t 3)⟩,
⟨some 15, none, .call false true (.k (.fn n_calendar_weekday [] [])) [.t 14]⟩,
⟨some 16, none, .call false true (.k (.fn n_calendar_inMask [] [])) [.t 13, .t 15]⟩,
⟨some 17, none, .mv (.t 16)⟩,
⟨some 18, (some (17, true)), .mv (.t 0)⟩,
⟨some 19, (some (17, true)), .mv (.t 3)⟩,
⟨some 20, (some (17, true)), .call true true (.t 18) [.t 19]⟩,
⟨some 21, (some (17, true)), .un .not (.t 20)⟩,
⟨some 22, none, .pick (.t 17) (.t 21) (.k (.d (.bool false)))⟩] [12, 13, 14, 15, 16, 17, 18, 19, 20, 21])
(.cond (.t 22) .ret
 .skip)))
(.reg false [
⟨some 10, none, .mv (.t 3)⟩,
⟨some 11, none, .bin .add (.t 10) (.k (.d (.int .i64 1)))⟩,
⟨some 3, none, .mv (.t 11)⟩] [10, 11])))

/-- "turnround/calendar.daysOf.1" -/
def c_calendar_daysOf_1 : CF := ⟨[],
  (.seq (.reg false [
⟨some 4, none, .fieldAddr 0 (.t 1)⟩,
⟨some 5, none, .load none (.t 4)⟩,
⟨some 3, none, .mv (.t 5)⟩] [4, 5])
(.block 0 (.loop [0, 1, 3] b_calendar_daysOf_1_1)))⟩

/-- "(*strings.Builder).WriteString" -/
def c_strings_Builder_WriteString : CF := ⟨[.tmp 4, .tmp 5],
  (.seq (.reg false [
⟨some 4, none, .mv (.k (.d (.int .i64 0)))⟩,
⟨some 5, none, .mv (.k (.d (.nili)))⟩] [4, 5])
(.seq (.reg false [
⟨some 6, none, .mv (.t 0)⟩,
⟨some 7, none, .call true true (.k (.fn n_strings_Builder_copyCheck [] [])) [.t 6]⟩] [6, 7])
(.seq (.reg false [
⟨some 8, none, .mv (.t 0)⟩,
⟨some 9, none, .mv (.t 0)⟩,
⟨some 10, none, .nilCheck (.t 9)⟩,
⟨some 11, none, .fieldAddr 1 (.t 10)⟩,
⟨some 12, none, .load none (.t 11)⟩,
⟨some 13, none, .mv (.t 1)⟩,
⟨some 14, none, .appendS ⟨false, ty_uint8, 1, 1⟩ (.t 12) (.t 13)⟩,
⟨some 15, none, .nilCheck (.t 8)⟩,
⟨some 16, none, .fieldAddr 1 (.t 15)⟩,
⟨none, none, .store 1 (.t 16) (.t 14)⟩] [0, 8, 9, 10, 11, 12, 13, 14, 15, 16])
(.seq (.reg false [
⟨some 17, none, .mv (.t 1)⟩,
⟨some 18, none, .len .str (.t 17)⟩,
⟨some 4, none, .mv (.t 18)⟩,
⟨some 5, none, .mv (.k (.d (.nili)))⟩] [1, 17, 18])
.ret))))⟩

/-- "(*strings.Builder).WriteByte" -/
def c_strings_Builder_WriteByte : CF := ⟨[.tmp 4],
  (.seq (.reg false [
⟨some 4, none, .mv (.k (.d (.nili)))⟩] [4])
(.seq (.reg false [
⟨some 5, none, .mv (.t 0)⟩,
⟨some 6, none, .call true true (.k (.fn n_strings_Builder_copyCheck [] [])) [.t 5]⟩] [5, 6])
(.seq (.reg false [
⟨some 7, none, .mv (.t 0)⟩,
⟨some 8, none, .mv (.t 0)⟩,
⟨some 9, none, .nilCheck (.t 8)⟩,
⟨some 10, none, .fieldAddr 1 (.t 9)⟩,
⟨some 11, none, .load none (.t 10)⟩,
⟨some 12, none, .mv (.t 1)⟩,
⟨some 13, none, .mkList 1 1 [.t 12]⟩,
⟨some 14, none, .append ⟨false, ty_uint8, 1, 1⟩ (.t 11) (.t 13)⟩,
⟨some 15, none, .nilCheck (.t 7)⟩,
⟨some 16, none, .fieldAddr 1 (.t 15)⟩,
⟨none, none, .store 1 (.t 16) (.t 14)⟩] [0, 1, 7, 8, 9, 10, 11, 12, 13, 14, 15, 16])
(.seq (.reg false [
⟨some 4, none, .mv (.k (.d (.nili)))⟩] [])
.ret))))⟩

/-- "cmp.Less[int]" -/
def c_cmp_Less_int : CF := ⟨[.tmp 4],
  (.seq (.reg false [
⟨some 4, none, .mv (.k (.d (.bool false)))⟩] [4])
(.seq (.reg false [
⟨some 5, none, .mv (.t 0)⟩,
⟨some 6, none, .call false true (.k (.fn n_cmp_isNaN_int [] [])) [.t 5]⟩,
⟨some 7, none, .mv (.t 6)⟩,
⟨some 8, (some (7, true)), .mv (.t 1)⟩,
⟨some 9, (some (7, true)), .call false true (.k (.fn n_cmp_isNaN_int [] [])) [.t 8]⟩,
⟨some 10, (some (7, true)), .un .not (.t 9)⟩,
⟨some 11, none, .pick (.t 7) (.t 10) (.k (.d (.bool false)))⟩,
⟨some 12, none, .mv (.t 11)⟩,
⟨some 13, (some (12, false)), .mv (.t 0)⟩,
⟨some 14, (some (12, false)), .mv (.t 1)⟩,
⟨some 15, (some (12, false)), .bin .lss (.t 13) (.t 14)⟩,
⟨some 16, none, .pick (.t 12) (.k (.d (.bool true))) (.t 15)⟩,
⟨some 4, none, .mv (.t 16)⟩] [0, 1, 5, 6, 7, 8, 9, 10, 11, 12, 13, 14, 15, 16])
.ret))⟩

/-- "cmp.isNaN[int]" -/
def c_cmp_isNaN_int : CF := ⟨[.tmp 2],
  (.seq (.reg false [
⟨some 2, none, .mv (.k (.d (.bool false)))⟩] [2])
(.seq (.reg false [
⟨some 3, none, .mv (.t 0)⟩,
⟨some 4, none, .mv (.t 0)⟩,
⟨some 5, none, .bin .neq (.t 3) (.t 4)⟩,
⟨some 2, none, .mv (.t 5)⟩] [0, 3, 4, 5])
.ret))⟩

def codes : List (Nat × CF) := [
  (n_law01_CalendarClocks, c_law01_CalendarClocks),
  (n_law01_CalendarSummers, c_law01_CalendarSummers),
  (n_law01_CalendarDates, c_law01_CalendarDates),
  (n_law01_CalendarPeriods, c_law01_CalendarPeriods),
  (n_law01_CalendarSeasons, c_law01_CalendarSeasons),
  (n_law01_CalendarTurns, c_law01_CalendarTurns),
  (n_law01_CalendarTexts, c_law01_CalendarTexts),
  (n_law01_zone, c_law01_zone),
  (n_law01_awake, c_law01_awake),
  (n_ref01_ShortZone, c_ref01_ShortZone),
  (n_ref01_CheckZone, c_ref01_CheckZone),
  (n_calendar_CheckZone, c_calendar_CheckZone),
  (n_calendar_Local, c_calendar_Local),
  (n_calendar_Universal, c_calendar_Universal),
  (n_law01_first, c_law01_first),
  (n_ref01_CheckMoment, c_ref01_CheckMoment),
  (n_law01_number, c_law01_number),
  (n_law01_list, c_law01_list),
  (n_ref01_Local, c_ref01_Local),
  (n_ref01_Universal, c_ref01_Universal),
  (n_calendar_Summer, c_calendar_Summer),
  (n_ref01_CheckSummer, c_ref01_CheckSummer),
  (n_ref01_Summer, c_ref01_Summer),
  (n_ref01_SameZone, c_ref01_SameZone),
  (n_calendar_Draw, c_calendar_Draw),
  (n_ref01_CheckDraw, c_ref01_CheckDraw),
  (n_ref01_Draw, c_ref01_Draw),
  (n_calendar_Day, c_calendar_Day),
  (n_ref01_CheckDate, c_ref01_CheckDate),
  (n_ref01_Day, c_ref01_Day),
  (n_calendar_Date, c_calendar_Date),
  (n_calendar_Weekday, c_calendar_Weekday),
  (n_calendar_PrintDate, c_calendar_PrintDate),
  (n_ref01_CheckDay, c_ref01_CheckDay),
  (n_law01_text, c_law01_text),
  (n_ref01_Date, c_ref01_Date),
  (n_ref01_Weekday, c_ref01_Weekday),
  (n_ref01_PrintDate, c_ref01_PrintDate),
  (n_ref01_CheckPeriod, c_ref01_CheckPeriod),
  (n_calendar_CheckPeriod, c_calendar_CheckPeriod),
  (n_calendar_Has, c_calendar_Has),
  (n_calendar_DaysOf, c_calendar_DaysOf),
  (n_calendar_Count, c_calendar_Count),
  (n_calendar_Meet, c_calendar_Meet),
  (n_ref01_DaysOf, c_ref01_DaysOf),
  (n_ref01_Has, c_ref01_Has),
  (n_ref01_Meet, c_ref01_Meet),
  (n_ref01_CheckSeason, c_ref01_CheckSeason),
  (n_calendar_CheckSeason, c_calendar_CheckSeason),
  (n_calendar_Span, c_calendar_Span),
  (n_calendar_Next, c_calendar_Next),
  (n_calendar_Previous, c_calendar_Previous),
  (n_calendar_SeasonOf, c_calendar_SeasonOf),
  (n_calendar_Equivalent, c_calendar_Equivalent),
  (n_ref01_Span, c_ref01_Span),
  (n_ref01_Next, c_ref01_Next),
  (n_ref01_Previous, c_ref01_Previous),
  (n_ref01_SeasonOf, c_ref01_SeasonOf),
  (n_calendar_ParseDate, c_calendar_ParseDate),
  (n_ref01_ParseDate, c_ref01_ParseDate),
  (n_calendar_ParseMask, c_calendar_ParseMask),
  (n_ref01_ParseMask, c_ref01_ParseMask),
  (n_calendar_PrintMask, c_calendar_PrintMask),
  (n_ref01_CheckRange, c_ref01_CheckRange),
  (n_ref01_PrintMask, c_ref01_PrintMask),
  (n_calendar_IsName, c_calendar_IsName),
  (n_ref01_IsName, c_ref01_IsName),
  (n_calendar_Shift, c_calendar_Shift),
  (n_calendar_Join, c_calendar_Join),
  (n_ref01_SameInts, c_ref01_SameInts),
  (n_ref01_SamePeriods, c_ref01_SamePeriods),
  (n_calendar_first, c_calendar_first),
  (n_calendar_within, c_calendar_within),
  (n_calendar_when, c_calendar_when),
  (n_calendar_checkMoment, c_calendar_checkMoment),
  (n_calendar_Zone_at, c_calendar_Zone_at),
  (n_slices_Compact_Lint_int, c_slices_Compact_Lint_int),
  (n_ref01_First, c_ref01_First),
  (n_ref01_Offset, c_ref01_Offset),
  (n_calendar_lastSunday, c_calendar_lastSunday),
  (n_ref01_LastSunday, c_ref01_LastSunday),
  (n_calendar_number, c_calendar_number),
  (n_calendar_length, c_calendar_length),
  (n_ref01_Length, c_ref01_Length),
  (n_ref01_yearLength, c_ref01_yearLength),
  (n_calendar_checkDay, c_calendar_checkDay),
  (n_calendar_date, c_calendar_date),
  (n_calendar_weekday, c_calendar_weekday),
  (n_calendar_two, c_calendar_two),
  (n_ref01_wide, c_ref01_wide),
  (n_calendar_has, c_calendar_has),
  (n_calendar_collected_int, c_calendar_collected_int),
  (n_calendar_daysOf, c_calendar_daysOf),
  (n_calendar_DaysOf_1, c_calendar_DaysOf_1),
  (n_calendar_Meet_1, c_calendar_Meet_1),
  (n_ref01_InMask, c_ref01_InMask),
  (n_calendar_Season_begin, c_calendar_Season_begin),
  (n_calendar_Season_next, c_calendar_Season_next),
  (n_calendar_latest, c_calendar_latest),
  (n_calendar_earliest, c_calendar_earliest),
  (n_calendar_digits, c_calendar_digits),
  (n_calendar_printMask, c_calendar_printMask),
  (n_ref01_digit, c_ref01_digit),
  (n_calendar_weekOf, c_calendar_weekOf),
  (n_slices_Clip_Lapi_Period_api_Period, c_slices_Clip_Lapi_Period_api_Period),
  (n_calendar_span, c_calendar_span),
  (n_calendar_leap, c_calendar_leap),
  (n_ref01_leap, c_ref01_leap),
  (n_calendar_inMask, c_calendar_inMask),
  (n_calendar_daysOf_1, c_calendar_daysOf_1),
  (n_strings_Builder_WriteString, c_strings_Builder_WriteString),
  (n_strings_Builder_WriteByte, c_strings_Builder_WriteByte),
  (n_cmp_Less_int, c_cmp_Less_int),
  (n_cmp_isNaN_int, c_cmp_isNaN_int)]

def code (f : Nat) : Option CF := findC f codes

theorem code_law01_CalendarClocks : code n_law01_CalendarClocks = some c_law01_CalendarClocks := rfl
theorem code_law01_CalendarSummers : code n_law01_CalendarSummers = some c_law01_CalendarSummers := rfl
theorem code_law01_CalendarDates : code n_law01_CalendarDates = some c_law01_CalendarDates := rfl
theorem code_law01_CalendarPeriods : code n_law01_CalendarPeriods = some c_law01_CalendarPeriods := rfl
theorem code_law01_CalendarSeasons : code n_law01_CalendarSeasons = some c_law01_CalendarSeasons := rfl
theorem code_law01_CalendarTurns : code n_law01_CalendarTurns = some c_law01_CalendarTurns := rfl
theorem code_law01_CalendarTexts : code n_law01_CalendarTexts = some c_law01_CalendarTexts := rfl
theorem code_law01_zone : code n_law01_zone = some c_law01_zone := rfl
theorem code_law01_awake : code n_law01_awake = some c_law01_awake := rfl
theorem code_ref01_ShortZone : code n_ref01_ShortZone = some c_ref01_ShortZone := rfl
theorem code_ref01_CheckZone : code n_ref01_CheckZone = some c_ref01_CheckZone := rfl
theorem code_calendar_CheckZone : code n_calendar_CheckZone = some c_calendar_CheckZone := rfl
theorem code_calendar_Local : code n_calendar_Local = some c_calendar_Local := rfl
theorem code_calendar_Universal : code n_calendar_Universal = some c_calendar_Universal := rfl
theorem code_law01_first : code n_law01_first = some c_law01_first := rfl
theorem code_ref01_CheckMoment : code n_ref01_CheckMoment = some c_ref01_CheckMoment := rfl
theorem code_law01_number : code n_law01_number = some c_law01_number := rfl
theorem code_law01_list : code n_law01_list = some c_law01_list := rfl
theorem code_ref01_Local : code n_ref01_Local = some c_ref01_Local := rfl
theorem code_ref01_Universal : code n_ref01_Universal = some c_ref01_Universal := rfl
theorem code_calendar_Summer : code n_calendar_Summer = some c_calendar_Summer := rfl
theorem code_ref01_CheckSummer : code n_ref01_CheckSummer = some c_ref01_CheckSummer := rfl
theorem code_ref01_Summer : code n_ref01_Summer = some c_ref01_Summer := rfl
theorem code_ref01_SameZone : code n_ref01_SameZone = some c_ref01_SameZone := rfl
theorem code_calendar_Draw : code n_calendar_Draw = some c_calendar_Draw := rfl
theorem code_ref01_CheckDraw : code n_ref01_CheckDraw = some c_ref01_CheckDraw := rfl
theorem code_ref01_Draw : code n_ref01_Draw = some c_ref01_Draw := rfl
theorem code_calendar_Day : code n_calendar_Day = some c_calendar_Day := rfl
theorem code_ref01_CheckDate : code n_ref01_CheckDate = some c_ref01_CheckDate := rfl
theorem code_ref01_Day : code n_ref01_Day = some c_ref01_Day := rfl
theorem code_calendar_Date : code n_calendar_Date = some c_calendar_Date := rfl
theorem code_calendar_Weekday : code n_calendar_Weekday = some c_calendar_Weekday := rfl
theorem code_calendar_PrintDate : code n_calendar_PrintDate = some c_calendar_PrintDate := rfl
theorem code_ref01_CheckDay : code n_ref01_CheckDay = some c_ref01_CheckDay := rfl
theorem code_law01_text : code n_law01_text = some c_law01_text := rfl
theorem code_ref01_Date : code n_ref01_Date = some c_ref01_Date := rfl
theorem code_ref01_Weekday : code n_ref01_Weekday = some c_ref01_Weekday := rfl
theorem code_ref01_PrintDate : code n_ref01_PrintDate = some c_ref01_PrintDate := rfl
theorem code_ref01_CheckPeriod : code n_ref01_CheckPeriod = some c_ref01_CheckPeriod := rfl
theorem code_calendar_CheckPeriod : code n_calendar_CheckPeriod = some c_calendar_CheckPeriod := rfl
theorem code_calendar_Has : code n_calendar_Has = some c_calendar_Has := rfl
theorem code_calendar_DaysOf : code n_calendar_DaysOf = some c_calendar_DaysOf := rfl
theorem code_calendar_Count : code n_calendar_Count = some c_calendar_Count := rfl
theorem code_calendar_Meet : code n_calendar_Meet = some c_calendar_Meet := rfl
theorem code_ref01_DaysOf : code n_ref01_DaysOf = some c_ref01_DaysOf := rfl
theorem code_ref01_Has : code n_ref01_Has = some c_ref01_Has := rfl
theorem code_ref01_Meet : code n_ref01_Meet = some c_ref01_Meet := rfl
theorem code_ref01_CheckSeason : code n_ref01_CheckSeason = some c_ref01_CheckSeason := rfl
theorem code_calendar_CheckSeason : code n_calendar_CheckSeason = some c_calendar_CheckSeason := rfl
theorem code_calendar_Span : code n_calendar_Span = some c_calendar_Span := rfl
theorem code_calendar_Next : code n_calendar_Next = some c_calendar_Next := rfl
theorem code_calendar_Previous : code n_calendar_Previous = some c_calendar_Previous := rfl
theorem code_calendar_SeasonOf : code n_calendar_SeasonOf = some c_calendar_SeasonOf := rfl
theorem code_calendar_Equivalent : code n_calendar_Equivalent = some c_calendar_Equivalent := rfl
theorem code_ref01_Span : code n_ref01_Span = some c_ref01_Span := rfl
theorem code_ref01_Next : code n_ref01_Next = some c_ref01_Next := rfl
theorem code_ref01_Previous : code n_ref01_Previous = some c_ref01_Previous := rfl
theorem code_ref01_SeasonOf : code n_ref01_SeasonOf = some c_ref01_SeasonOf := rfl
theorem code_calendar_ParseDate : code n_calendar_ParseDate = some c_calendar_ParseDate := rfl
theorem code_ref01_ParseDate : code n_ref01_ParseDate = some c_ref01_ParseDate := rfl
theorem code_calendar_ParseMask : code n_calendar_ParseMask = some c_calendar_ParseMask := rfl
theorem code_ref01_ParseMask : code n_ref01_ParseMask = some c_ref01_ParseMask := rfl
theorem code_calendar_PrintMask : code n_calendar_PrintMask = some c_calendar_PrintMask := rfl
theorem code_ref01_CheckRange : code n_ref01_CheckRange = some c_ref01_CheckRange := rfl
theorem code_ref01_PrintMask : code n_ref01_PrintMask = some c_ref01_PrintMask := rfl
theorem code_calendar_IsName : code n_calendar_IsName = some c_calendar_IsName := rfl
theorem code_ref01_IsName : code n_ref01_IsName = some c_ref01_IsName := rfl
theorem code_calendar_Shift : code n_calendar_Shift = some c_calendar_Shift := rfl
theorem code_calendar_Join : code n_calendar_Join = some c_calendar_Join := rfl
theorem code_ref01_SameInts : code n_ref01_SameInts = some c_ref01_SameInts := rfl
theorem code_ref01_SamePeriods : code n_ref01_SamePeriods = some c_ref01_SamePeriods := rfl
theorem code_calendar_first : code n_calendar_first = some c_calendar_first := rfl
theorem code_calendar_within : code n_calendar_within = some c_calendar_within := rfl
theorem code_calendar_when : code n_calendar_when = some c_calendar_when := rfl
theorem code_calendar_checkMoment : code n_calendar_checkMoment = some c_calendar_checkMoment := rfl
theorem code_calendar_Zone_at : code n_calendar_Zone_at = some c_calendar_Zone_at := rfl
theorem code_slices_Compact_Lint_int : code n_slices_Compact_Lint_int = some c_slices_Compact_Lint_int := rfl
theorem code_ref01_First : code n_ref01_First = some c_ref01_First := rfl
theorem code_ref01_Offset : code n_ref01_Offset = some c_ref01_Offset := rfl
theorem code_calendar_lastSunday : code n_calendar_lastSunday = some c_calendar_lastSunday := rfl
theorem code_ref01_LastSunday : code n_ref01_LastSunday = some c_ref01_LastSunday := rfl
theorem code_calendar_number : code n_calendar_number = some c_calendar_number := rfl
theorem code_calendar_length : code n_calendar_length = some c_calendar_length := rfl
theorem code_ref01_Length : code n_ref01_Length = some c_ref01_Length := rfl
theorem code_ref01_yearLength : code n_ref01_yearLength = some c_ref01_yearLength := rfl
theorem code_calendar_checkDay : code n_calendar_checkDay = some c_calendar_checkDay := rfl
theorem code_calendar_date : code n_calendar_date = some c_calendar_date := rfl
theorem code_calendar_weekday : code n_calendar_weekday = some c_calendar_weekday := rfl
theorem code_calendar_two : code n_calendar_two = some c_calendar_two := rfl
theorem code_ref01_wide : code n_ref01_wide = some c_ref01_wide := rfl
theorem code_calendar_has : code n_calendar_has = some c_calendar_has := rfl
theorem code_calendar_collected_int : code n_calendar_collected_int = some c_calendar_collected_int := rfl
theorem code_calendar_daysOf : code n_calendar_daysOf = some c_calendar_daysOf := rfl
theorem code_calendar_DaysOf_1 : code n_calendar_DaysOf_1 = some c_calendar_DaysOf_1 := rfl
theorem code_calendar_Meet_1 : code n_calendar_Meet_1 = some c_calendar_Meet_1 := rfl
theorem code_ref01_InMask : code n_ref01_InMask = some c_ref01_InMask := rfl
theorem code_calendar_Season_begin : code n_calendar_Season_begin = some c_calendar_Season_begin := rfl
theorem code_calendar_Season_next : code n_calendar_Season_next = some c_calendar_Season_next := rfl
theorem code_calendar_latest : code n_calendar_latest = some c_calendar_latest := rfl
theorem code_calendar_earliest : code n_calendar_earliest = some c_calendar_earliest := rfl
theorem code_calendar_digits : code n_calendar_digits = some c_calendar_digits := rfl
theorem code_calendar_printMask : code n_calendar_printMask = some c_calendar_printMask := rfl
theorem code_ref01_digit : code n_ref01_digit = some c_ref01_digit := rfl
theorem code_calendar_weekOf : code n_calendar_weekOf = some c_calendar_weekOf := rfl
theorem code_slices_Clip_Lapi_Period_api_Period : code n_slices_Clip_Lapi_Period_api_Period = some c_slices_Clip_Lapi_Period_api_Period := rfl
theorem code_calendar_span : code n_calendar_span = some c_calendar_span := rfl
theorem code_calendar_leap : code n_calendar_leap = some c_calendar_leap := rfl
theorem code_ref01_leap : code n_ref01_leap = some c_ref01_leap := rfl
theorem code_calendar_inMask : code n_calendar_inMask = some c_calendar_inMask := rfl
theorem code_calendar_daysOf_1 : code n_calendar_daysOf_1 = some c_calendar_daysOf_1 := rfl
theorem code_strings_Builder_WriteString : code n_strings_Builder_WriteString = some c_strings_Builder_WriteString := rfl
theorem code_strings_Builder_WriteByte : code n_strings_Builder_WriteByte = some c_strings_Builder_WriteByte := rfl
theorem code_cmp_Less_int : code n_cmp_Less_int = some c_cmp_Less_int := rfl
theorem code_cmp_isNaN_int : code n_cmp_isNaN_int = some c_cmp_isNaN_int := rfl

def globs : Globs := [(0, [.int .i64 31, .int .i64 28, .int .i64 31, .int .i64 30, .int .i64 31, .int .i64 30, .int .i64 31, .int .i64 31, .int .i64 30, .int .i64 31, .int .i64 30, .int .i64 31]), (3, [.int .u64 1, .int .u64 10, .int .u64 100, .int .u64 1000, .int .u64 10000, .int .u64 100000, .int .u64 1000000, .int .u64 10000000, .int .u64 100000000, .int .u64 1000000000, .int .u64 10000000000, .int .u64 100000000000, .int .u64 1000000000000, .int .u64 10000000000000, .int .u64 100000000000000, .int .u64 1000000000000000, .int .u64 10000000000000000, .int .u64 100000000000000000, .int .u64 1000000000000000000, .int .u64 10000000000000000000])]

end Go.Proofs.YtlboecjgelnabaaGreatDoor.Co
