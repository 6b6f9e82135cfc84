/-
  The functions of the seat in the evaluator's syntax (printed by a program of mine; checked in the next text).
-/
import Derived.Test.YtlboecjgelnabaaDoorEvE
namespace Go.Proofs.YtlboecjgelnabaaDoor.Co
open Go.Evl

def n_law01_CalendarJoins : Nat := 3
def n_law01_CalendarZones : Nat := 4
def n_law01_CalendarDeals : Nat := 5
def n_law01_CalendarParts : Nat := 6
def n_law01_CalendarCovers : Nat := 7
def n_law01_CalendarTiles : Nat := 8
def n_law01_awake : Nat := 9
def n_calendar_Join : Nat := 10
def n_ref01_CheckDays : Nat := 11
def n_ref01_SamePeriods : Nat := 12
def n_ref01_Join : Nat := 13
def n_law01_zone : Nat := 14
def n_ref01_ShortZone : Nat := 15
def n_ref01_CheckZone : Nat := 16
def n_ref01_CheckMoment : Nat := 17
def n_ref01_CheckRange : Nat := 18
def n_calendar_Local : Nat := 19
def n_calendar_Universal : Nat := 20
def n_ref01_HasInt : Nat := 21
def n_calendar_Summer : Nat := 22
def n_calendar_Span : Nat := 23
def n_ref01_CheckDraw : Nat := 24
def n_calendar_Draw : Nat := 25
def n_ref01_IsOrder : Nat := 26
def n_ref01_SameInts : Nat := 27
def n_calendar_Split : Nat := 28
def n_calendar_Shift : Nat := 29
def n_ref01_CheckPeriod : Nat := 30
def n_law01_first : Nat := 31
def n_ref01_Shift : Nat := 32
def n_ref01_CheckDay : Nat := 33
def n_calendar_DaysOf : Nat := 34
def n_ref01_CheckSeason : Nat := 35
def n_calendar_SeasonOf : Nat := 36
def n_calendar_Next : Nat := 37
def n_calendar_Previous : Nat := 38
def n_calendar_Equivalent : Nat := 39
def n_calendar_Day : Nat := 40
def n_calendar_Weekday : Nat := 41
def n_calendar_PrintDate : Nat := 42
def n_calendar_Meet : Nat := 43
def n_calendar_PrintMask : Nat := 44
def n_calendar_first : Nat := 45
def n_calendar_checkDay : Nat := 46
def n_calendar_when : Nat := 47
def n_calendar_weekOf : Nat := 48
def n_calendar_weekday : Nat := 49
def n_slices_Clip_Lapi_Period_api_Period : Nat := 50
def n_ref01_Week : Nat := 51
def n_ref01_weekMask : Nat := 52
def n_calendar_CheckZone : Nat := 53
def n_calendar_checkMoment : Nat := 54
def n_calendar_Zone_at : Nat := 55
def n_slices_Compact_Lint_int : Nat := 57
def n_calendar_within : Nat := 58
def n_calendar_lastSunday : Nat := 59
def n_calendar_CheckSeason : Nat := 60
def n_calendar_Season_begin : Nat := 61
def n_calendar_Season_next : Nat := 62
def n_calendar_CheckPeriod : Nat := 63
def n_ref01_First : Nat := 64
def n_ref01_InMask : Nat := 65
def n_calendar_collected_int : Nat := 66
def n_calendar_daysOf : Nat := 67
def n_calendar_DaysOf_1 : Nat := 68
def n_calendar_earliest : Nat := 69
def n_calendar_latest : Nat := 70
def n_calendar_date : Nat := 71
def n_calendar_number : Nat := 72
def n_calendar_length : Nat := 73
def n_calendar_two : Nat := 75
def n_calendar_Meet_1 : Nat := 76
def n_calendar_has : Nat := 77
def n_calendar_printMask : Nat := 78
def n_ref01_Weekday : Nat := 79
def n_calendar_daysOf_1 : Nat := 82
def n_calendar_inMask : Nat := 83
def n_calendar_span : Nat := 84
def n_calendar_leap : Nat := 85
def n_strings_Builder_WriteString : Nat := 87
def n_strings_Builder_WriteByte : Nat := 88
def n_cmp_Less_int : Nat := 96
def n_cmp_isNaN_int : Nat := 108
def n_slices_Sort_Lint_int : Nat := 56
def n_strconv_Itoa : Nat := 74
def n_strings_Builder_String : Nat := 89
def n_strings_Builder_copyCheck : Nat := 102
def ty_int : Nat := 3
def ty_uint8 : Nat := 5
def ty_Lint : Nat := 22
def ty_calendar_Zone : Nat := 34
def ty_turnroundref01_Zone : Nat := 37
def ty_calendar_Change : Nat := 49
def ty_api_Period : Nat := 53
def ty_calendar_Season : Nat := 57
def ty_2_api_Period : Nat := 63
def ty_2_int : Nat := 71
def ty_turnroundref01_Season : Nat := 75
def ty_turnroundref01_Change : Nat := 92
def ty_func_int_bool : Nat := 105
def ty_3_int : Nat := 106
def ty_strings_Builder : Nat := 118

/-- "turnround/turnroundlaw01.CalendarJoins" -/
def c_law01_CalendarJoins : CF := ⟨[.tmp 2],
  (.seq (.reg false [
⟨some 2, none, .mv (.k (.d (.bool false)))⟩] [2])
(.seq (.seq (.reg false [
⟨some 6, none, .call false true (.k (.fn n_law01_awake [] [])) []⟩,
⟨some 7, none, .un .not (.t 6)⟩,
⟨some 8, none, .mv (.t 7)⟩,
⟨some 9, (some (8, false)), .mv (.t 0)⟩,
⟨some 10, (some (8, false)), .len .slc (.t 9)⟩,
⟨some 11, (some (8, false)), .bin .gtr (.t 10) (.k (.d (.int .i64 120)))⟩,
⟨some 12, (some (8, false)), .mv (.t 11)⟩,
⟨some 13, (some (12, true)), .mv (.t 0)⟩,
⟨some 14, (some (12, true)), .len .slc (.t 13)⟩,
⟨some 15, (some (12, true)), .bin .leq (.t 14) (.k (.d (.int .i64 512)))⟩,
⟨some 16, (some (8, false)), .pick (.t 12) (.t 15) (.k (.d (.bool false)))⟩,
⟨some 17, none, .pick (.t 8) (.k (.d (.bool true))) (.t 16)⟩,
⟨some 18, none, .mv (.t 17)⟩,
⟨some 19, (some (18, false)), .mv (.t 0)⟩,
⟨some 20, (some (18, false)), .len .slc (.t 19)⟩,
⟨some 21, (some (18, false)), .bin .gtr (.t 20) (.k (.d (.int .i64 514)))⟩,
⟨some 22, none, .pick (.t 18) (.k (.d (.bool true))) (.t 21)⟩] [6, 7, 8, 9, 10, 11, 12, 13, 14, 15, 16, 17, 18, 19, 20, 21])
(.cond (.t 22) (.seq (.reg false [
⟨some 23, none, .call false true (.k (.fn n_law01_awake [] [])) []⟩,
⟨some 2, none, .mv (.t 23)⟩] [23])
.ret)
 .skip))
(.seq (.reg false [
⟨some 25, none, .mkRow ⟨false, ty_int, 1, 8⟩ 0 []⟩,
⟨some 26, none, .mv (.t 0)⟩,
⟨some 27, none, .append ⟨false, ty_int, 1, 8⟩ (.t 25) (.t 26)⟩,
⟨some 28, none, .call false true (.k (.fn n_calendar_Join [] [])) [.t 27]⟩,
⟨some 24, none, .mv (.t 28)⟩,
⟨some 29, none, .extract (.t 24) 0⟩,
⟨some 30, none, .extract (.t 24) 1⟩,
⟨some 3, none, .mv (.t 29)⟩,
⟨some 4, none, .mv (.t 30)⟩] [24, 25, 26, 27, 28, 29, 30])
(.seq (.reg false [
⟨some 31, none, .mv (.t 0)⟩,
⟨some 32, none, .call false true (.k (.fn n_ref01_CheckDays [] [])) [.t 31]⟩,
⟨some 5, none, .mv (.t 32)⟩] [31, 32])
(.seq (.seq (.reg false [
⟨some 33, none, .mv (.t 5)⟩,
⟨some 34, none, .bin .neq (.t 33) (.k (.d (.int .i64 0)))⟩] [33])
(.cond (.t 34) (.seq (.reg false [
⟨some 35, none, .mv (.t 3)⟩,
⟨some 36, none, .len .slc (.t 35)⟩,
⟨some 37, none, .bin .eql (.t 36) (.k (.d (.int .i64 0)))⟩,
⟨some 38, none, .mv (.t 37)⟩,
⟨some 39, (some (38, true)), .mv (.t 4)⟩,
⟨some 40, (some (38, true)), .mv (.t 5)⟩,
⟨some 41, (some (38, true)), .bin .eql (.t 39) (.t 40)⟩,
⟨some 42, none, .pick (.t 38) (.t 41) (.k (.d (.bool false)))⟩,
⟨some 2, none, .mv (.t 42)⟩] [3, 4, 5, 35, 36, 37, 38, 39, 40, 41, 42])
.ret)
 .skip))
(.seq (.reg false [
⟨some 43, none, .mv (.t 4)⟩,
⟨some 44, none, .bin .eql (.t 43) (.k (.d (.int .i64 0)))⟩,
⟨some 45, none, .mv (.t 44)⟩,
⟨some 46, (some (45, true)), .mv (.t 3)⟩,
⟨some 47, (some (45, true)), .mv (.t 0)⟩,
⟨some 48, (some (45, true)), .call false true (.k (.fn n_ref01_Join [] [])) [.t 47]⟩,
⟨some 49, (some (45, true)), .call false true (.k (.fn n_ref01_SamePeriods [] [])) [.t 46, .t 48]⟩,
⟨some 50, none, .pick (.t 45) (.t 49) (.k (.d (.bool false)))⟩,
⟨some 2, none, .mv (.t 50)⟩] [0, 3, 4, 43, 44, 45, 46, 47, 48, 49, 50])
.ret))))))⟩

def b_law01_CalendarZones_1 : C :=
  (.seq (.reg false [
⟨some 124, none, .bin .lss (.t 123) (.t 122)⟩] [])
(.seq (.cond (.t 124) .skip
 (.exit 0))
(.seq (.block 1 (.seq (.reg false [
⟨some 125, none, .mv (.t 123)⟩,
⟨some 126, none, .idxAddr 2 (.t 121) (.t 123)⟩,
⟨some 127, none, .load (some 2) (.t 126)⟩,
⟨some 13, none, .alloc ty_calendar_Change [.z (.int .i64 0), .z (.int .i64 0)]⟩,
⟨some 12, none, .mv (.t 125)⟩,
⟨none, none, .store 2 (.t 13) (.t 127)⟩] [125, 126, 127])
(.seq (.reg false [
⟨some 128, none, .fieldAddr 0 (.t 3)⟩,
⟨some 129, none, .load none (.t 128)⟩,
⟨some 14, none, .mv (.t 129)⟩] [128, 129])
(.seq (.seq (.reg false [
⟨some 130, none, .mv (.t 12)⟩,
⟨some 131, none, .bin .gtr (.t 130) (.k (.d (.int .i64 0)))⟩] [130])
(.cond (.t 131) (.reg false [
⟨some 132, none, .fieldAddr 1 (.t 3)⟩,
⟨some 133, none, .load none (.t 132)⟩,
⟨some 134, none, .mv (.t 12)⟩,
⟨some 135, none, .bin .sub (.t 134) (.k (.d (.int .i64 1)))⟩,
⟨some 136, none, .idxAddr 2 (.t 133) (.t 135)⟩,
⟨some 137, none, .fieldAddr 1 (.t 136)⟩,
⟨some 138, none, .load none (.t 137)⟩,
⟨some 14, none, .mv (.t 138)⟩] [12, 132, 133, 134, 135, 136, 137, 138])
 .skip))
(.seq (.reg false [
⟨some 139, none, .fieldAddr 0 (.t 13)⟩,
⟨some 140, none, .load none (.t 139)⟩,
⟨some 141, none, .mv (.t 14)⟩,
⟨some 142, none, .fieldAddr 1 (.t 13)⟩,
⟨some 143, none, .load none (.t 142)⟩,
⟨some 144, none, .minmax false [.t 141, .t 143]⟩,
⟨some 145, none, .bin .add (.t 140) (.t 144)⟩,
⟨some 15, none, .mv (.t 145)⟩] [139, 140, 141, 142, 143, 144, 145])
(.seq (.seq (.reg false [
⟨some 146, none, .mv (.t 14)⟩,
⟨some 147, none, .fieldAddr 1 (.t 13)⟩,
⟨some 148, none, .load none (.t 147)⟩,
⟨some 149, none, .bin .eql (.t 146) (.t 148)⟩,
⟨some 150, none, .mv (.t 149)⟩,
⟨some 151, (some (150, false)), .mv (.t 15)⟩,
⟨some 152, (some (150, false)), .bin .lss (.t 151) (.k (.d (.int .i64 0)))⟩,
⟨some 153, none, .pick (.t 150) (.k (.d (.bool true))) (.t 152)⟩,
⟨some 154, none, .mv (.t 153)⟩,
⟨some 155, (some (154, false)), .mv (.t 15)⟩,
⟨some 156, (some (154, false)), .bin .gtr (.t 155) (.k (.d (.int .i64 143999999)))⟩,
⟨some 157, none, .pick (.t 154) (.k (.d (.bool true))) (.t 156)⟩,
⟨some 158, none, .mv (.t 157)⟩,
⟨some 159, (some (158, false)), .fieldAddr 0 (.t 13)⟩,
⟨some 160, (some (158, false)), .load none (.t 159)⟩,
⟨some 161, (some (158, false)), .bin .lss (.t 160) (.k (.d (.int .i64 180)))⟩,
⟨some 162, none, .pick (.t 158) (.k (.d (.bool true))) (.t 161)⟩] [146, 147, 148, 149, 150, 151, 152, 153, 154, 155, 156, 157, 158, 159, 160, 161])
(.cond (.t 162) (.exit 1)
 .skip))
(.seq (.reg false [
⟨some 164, none, .load (some 2) (.t 3)⟩,
⟨some 165, none, .mv (.t 15)⟩,
⟨some 166, none, .call false true (.k (.fn n_calendar_Universal [] [])) [.t 164, .t 165]⟩,
⟨some 163, none, .mv (.t 166)⟩,
⟨some 167, none, .extract (.t 163) 0⟩,
⟨some 168, none, .extract (.t 163) 1⟩,
⟨some 16, none, .mv (.t 167)⟩,
⟨some 17, none, .mv (.t 168)⟩] [15, 163, 164, 165, 166, 167, 168])
(.seq (.reg true [
⟨some 169, none, .fieldAddr 1 (.t 13)⟩,
⟨some 170, none, .load none (.t 169)⟩,
⟨some 171, none, .mv (.t 14)⟩,
⟨some 172, none, .bin .gtr (.t 170) (.t 171)⟩,
⟨some 173, none, .mv (.t 172)⟩,
⟨some 174, (some (173, true)), .mv (.t 17)⟩,
⟨some 175, (some (173, true)), .bin .neq (.t 174) (.k (.d (.int .i64 7)))⟩,
⟨some 176, none, .pick (.t 173) (.t 175) (.k (.d (.bool false)))⟩,
⟨some 177, none, .mv (.t 176)⟩,
⟨some 178, (some (177, false)), .fieldAddr 1 (.t 13)⟩,
⟨some 179, (some (177, false)), .load none (.t 178)⟩,
⟨some 180, (some (177, false)), .mv (.t 14)⟩,
⟨some 181, (some (177, false)), .bin .lss (.t 179) (.t 180)⟩,
⟨some 182, (some (177, false)), .mv (.t 181)⟩,
⟨some 183, (some (182, true)), .mv (.t 17)⟩,
⟨some 184, (some (182, true)), .bin .neq (.t 183) (.k (.d (.int .i64 0)))⟩,
⟨some 185, (some (182, true)), .mv (.t 184)⟩,
⟨some 186, (some (185, false)), .mv (.t 16)⟩,
⟨some 187, (some (185, false)), .len .slc (.t 186)⟩,
⟨some 188, (some (185, false)), .bin .neq (.t 187) (.k (.d (.int .i64 2)))⟩,
⟨some 189, (some (182, true)), .pick (.t 185) (.k (.d (.bool true))) (.t 188)⟩,
⟨some 190, (some (182, true)), .mv (.t 189)⟩,
⟨some 191, (some (190, false)), .mv (.t 16)⟩,
⟨some 192, (some (190, false)), .idxAddr 1 (.t 191) (.k (.d (.int .i64 1)))⟩,
⟨some 193, (some (190, false)), .load none (.t 192)⟩,
⟨some 194, (some (190, false)), .fieldAddr 0 (.t 13)⟩,
⟨some 195, (some (190, false)), .load none (.t 194)⟩,
⟨some 196, (some (190, false)), .bin .neq (.t 193) (.t 195)⟩,
⟨some 197, (some (182, true)), .pick (.t 190) (.k (.d (.bool true))) (.t 196)⟩,
⟨some 198, (some (177, false)), .pick (.t 182) (.t 197) (.k (.d (.bool false)))⟩,
⟨some 199, none, .pick (.t 177) (.k (.d (.bool true))) (.t 198)⟩] [13, 14, 16, 17, 169, 170, 171, 172, 173, 174, 175, 176, 177, 178, 179, 180, 181, 182, 183, 184, 185, 186, 187, 188, 189, 190, 191, 192, 193, 194, 195, 196, 197, 198])
(.cond (.t 199) (.seq (.reg false [
⟨some 6, none, .mv (.k (.d (.bool false)))⟩] [])
.ret)
 .skip)))))))))
(.reg false [
⟨some 200, none, .bin .add (.t 123) (.k (.d (.int .i64 1)))⟩,
⟨some 123, none, .mv (.t 200)⟩] [200]))))

/-- "turnround/turnroundlaw01.CalendarZones" -/
def c_law01_CalendarZones : CF := ⟨[.tmp 6],
  (.seq (.reg false [
⟨some 3, none, .box ty_calendar_Zone (.t 0)⟩,
⟨some 6, none, .mv (.k (.d (.bool false)))⟩] [0, 6])
(.seq (.reg false [
⟨some 26, none, .load (some 2) (.t 3)⟩,
⟨some 27, none, .call false true (.k (.fn n_law01_zone [] [])) [.t 26]⟩,
⟨some 7, none, .alloc ty_turnroundref01_Zone [.z (.int .i64 0), .z (.list 0 [])]⟩,
⟨none, none, .store 2 (.t 7) (.t 27)⟩] [26, 27])
(.seq (.seq (.reg false [
⟨some 28, none, .call false true (.k (.fn n_law01_awake [] [])) []⟩,
⟨some 29, none, .un .not (.t 28)⟩,
⟨some 30, none, .mv (.t 29)⟩,
⟨some 31, (some (30, false)), .load (some 2) (.t 7)⟩,
⟨some 32, (some (30, false)), .call false true (.k (.fn n_ref01_ShortZone [] [])) [.t 31, .k (.d (.int .i64 6))]⟩,
⟨some 33, (some (30, false)), .un .not (.t 32)⟩,
⟨some 34, none, .pick (.t 30) (.k (.d (.bool true))) (.t 33)⟩,
⟨some 35, none, .mv (.t 34)⟩,
⟨some 36, (some (35, false)), .load (some 2) (.t 7)⟩,
⟨some 37, (some (35, false)), .call false true (.k (.fn n_ref01_CheckZone [] [])) [.t 36]⟩,
⟨some 38, (some (35, false)), .bin .neq (.t 37) (.k (.d (.int .i64 0)))⟩,
⟨some 39, none, .pick (.t 35) (.k (.d (.bool true))) (.t 38)⟩,
⟨some 40, none, .mv (.t 39)⟩,
⟨some 41, (some (40, false)), .mv (.t 1)⟩,
⟨some 42, (some (40, false)), .call false true (.k (.fn n_ref01_CheckMoment [] [])) [.t 41]⟩,
⟨some 43, (some (40, false)), .bin .neq (.t 42) (.k (.d (.int .i64 0)))⟩,
⟨some 44, none, .pick (.t 40) (.k (.d (.bool true))) (.t 43)⟩,
⟨some 45, none, .mv (.t 44)⟩,
⟨some 46, (some (45, false)), .mv (.t 2)⟩,
⟨some 47, (some (45, false)), .call false true (.k (.fn n_ref01_CheckRange [] [])) [.t 46, .k (.d (.int .i64 2000)), .k (.d (.int .i64 2272))]⟩,
⟨some 48, (some (45, false)), .bin .neq (.t 47) (.k (.d (.int .i64 0)))⟩,
⟨some 49, none, .pick (.t 45) (.k (.d (.bool true))) (.t 48)⟩] [7, 28, 29, 30, 31, 32, 33, 34, 35, 36, 37, 38, 39, 40, 41, 42, 43, 44, 45, 46, 47, 48])
(.cond (.t 49) (.seq (.reg false [
⟨some 50, none, .call false true (.k (.fn n_law01_awake [] [])) []⟩,
⟨some 6, none, .mv (.t 50)⟩] [50])
.ret)
 .skip))
(.seq (.reg false [
⟨some 52, none, .load (some 2) (.t 3)⟩,
⟨some 53, none, .mv (.t 1)⟩,
⟨some 54, none, .call false true (.k (.fn n_calendar_Local [] [])) [.t 52, .t 53]⟩,
⟨some 51, none, .mv (.t 54)⟩,
⟨some 55, none, .extract (.t 51) 0⟩,
⟨some 56, none, .extract (.t 51) 1⟩,
⟨some 8, none, .mv (.t 55)⟩,
⟨some 9, none, .mv (.t 56)⟩] [51, 52, 53, 54, 55, 56])
(.seq (.seq (.reg false [
⟨some 57, none, .mv (.t 9)⟩,
⟨some 58, none, .bin .neq (.t 57) (.k (.d (.int .i64 0)))⟩,
⟨some 59, none, .mv (.t 58)⟩,
⟨some 60, (some (59, true)), .mv (.t 9)⟩,
⟨some 61, (some (59, true)), .bin .neq (.t 60) (.k (.d (.int .i64 30)))⟩,
⟨some 62, none, .pick (.t 59) (.t 61) (.k (.d (.bool false)))⟩] [57, 58, 59, 60, 61])
(.cond (.t 62) (.seq (.reg false [
⟨some 6, none, .mv (.k (.d (.bool false)))⟩] [])
.ret)
 .skip))
(.seq (.seq (.reg false [
⟨some 63, none, .mv (.t 9)⟩,
⟨some 64, none, .bin .eql (.t 63) (.k (.d (.int .i64 0)))⟩] [9, 63])
(.cond (.t 64) (.seq (.reg false [
⟨some 66, none, .load (some 2) (.t 3)⟩,
⟨some 67, none, .mv (.t 8)⟩,
⟨some 68, none, .call false true (.k (.fn n_calendar_Universal [] [])) [.t 66, .t 67]⟩,
⟨some 65, none, .mv (.t 68)⟩,
⟨some 69, none, .extract (.t 65) 0⟩,
⟨some 70, none, .extract (.t 65) 1⟩,
⟨some 10, none, .mv (.t 69)⟩,
⟨some 11, none, .mv (.t 70)⟩] [65, 66, 67, 68, 69, 70])
(.seq (.seq (.reg true [
⟨some 71, none, .mv (.t 11)⟩,
⟨some 72, none, .bin .neq (.t 71) (.k (.d (.int .i64 0)))⟩,
⟨some 73, none, .mv (.t 72)⟩,
⟨some 74, (some (73, false)), .mv (.t 10)⟩,
⟨some 75, (some (73, false)), .len .slc (.t 74)⟩,
⟨some 76, (some (73, false)), .bin .lss (.t 75) (.k (.d (.int .i64 1)))⟩,
⟨some 77, none, .pick (.t 73) (.k (.d (.bool true))) (.t 76)⟩,
⟨some 78, none, .mv (.t 77)⟩,
⟨some 79, (some (78, false)), .mv (.t 10)⟩,
⟨some 80, (some (78, false)), .len .slc (.t 79)⟩,
⟨some 81, (some (78, false)), .bin .gtr (.t 80) (.k (.d (.int .i64 2)))⟩,
⟨some 82, none, .pick (.t 78) (.k (.d (.bool true))) (.t 81)⟩,
⟨some 83, none, .mv (.t 82)⟩,
⟨some 84, (some (83, false)), .mv (.t 10)⟩,
⟨some 85, (some (83, false)), .mv (.t 1)⟩,
⟨some 86, (some (83, false)), .call false true (.k (.fn n_ref01_HasInt [] [])) [.t 84, .t 85]⟩,
⟨some 87, (some (83, false)), .un .not (.t 86)⟩,
⟨some 88, none, .pick (.t 83) (.k (.d (.bool true))) (.t 87)⟩,
⟨some 89, none, .mv (.t 88)⟩,
⟨some 90, (some (89, false)), .mv (.t 10)⟩,
⟨some 91, (some (89, false)), .len .slc (.t 90)⟩,
⟨some 92, (some (89, false)), .bin .eql (.t 91) (.k (.d (.int .i64 2)))⟩,
⟨some 93, (some (89, false)), .mv (.t 92)⟩,
⟨some 94, (some (93, true)), .mv (.t 10)⟩,
⟨some 95, (some (93, true)), .idxAddr 1 (.t 94) (.k (.d (.int .i64 0)))⟩,
⟨some 96, (some (93, true)), .load none (.t 95)⟩,
⟨some 97, (some (93, true)), .mv (.t 10)⟩,
⟨some 98, (some (93, true)), .idxAddr 1 (.t 97) (.k (.d (.int .i64 1)))⟩,
⟨some 99, (some (93, true)), .load none (.t 98)⟩,
⟨some 100, (some (93, true)), .bin .geq (.t 96) (.t 99)⟩,
⟨some 101, (some (89, false)), .pick (.t 93) (.t 100) (.k (.d (.bool false)))⟩,
⟨some 102, none, .pick (.t 89) (.k (.d (.bool true))) (.t 101)⟩] [11, 71, 72, 73, 74, 75, 76, 77, 78, 79, 80, 81, 82, 83, 84, 85, 86, 87, 88, 89, 90, 91, 92, 93, 94, 95, 96, 97, 98, 99, 100, 101])
(.cond (.t 102) (.seq (.reg false [
⟨some 6, none, .mv (.k (.d (.bool false)))⟩] [])
.ret)
 .skip))
(.seq (.reg false [
⟨some 103, none, .fieldAddr 1 (.t 3)⟩,
⟨some 104, none, .load none (.t 103)⟩,
⟨some 105, none, .len .slc (.t 104)⟩,
⟨some 106, none, .bin .eql (.t 105) (.k (.d (.int .i64 0)))⟩,
⟨some 107, none, .mv (.t 106)⟩,
⟨some 108, (some (107, true)), .mv (.t 10)⟩,
⟨some 109, (some (107, true)), .len .slc (.t 108)⟩,
⟨some 110, (some (107, true)), .bin .neq (.t 109) (.k (.d (.int .i64 1)))⟩,
⟨some 111, (some (107, true)), .mv (.t 110)⟩,
⟨some 112, (some (111, false)), .mv (.t 8)⟩,
⟨some 113, (some (111, false)), .mv (.t 1)⟩,
⟨some 114, (some (111, false)), .fieldAddr 0 (.t 3)⟩,
⟨some 115, (some (111, false)), .load none (.t 114)⟩,
⟨some 116, (some (111, false)), .bin .add (.t 113) (.t 115)⟩,
⟨some 117, (some (111, false)), .bin .neq (.t 112) (.t 116)⟩,
⟨some 118, (some (107, true)), .pick (.t 111) (.k (.d (.bool true))) (.t 117)⟩,
⟨some 119, none, .pick (.t 107) (.t 118) (.k (.d (.bool false)))⟩] [8, 10, 103, 104, 105, 106, 107, 108, 109, 110, 111, 112, 113, 114, 115, 116, 117, 118])
(.cond (.t 119) (.seq (.reg false [
⟨some 6, none, .mv (.k (.d (.bool false)))⟩] [])
.ret)
 .skip))))
 .skip))
(.seq (.seq (.reg false [
⟨some 120, none, .fieldAddr 1 (.t 3)⟩,
⟨some 121, none, .load none (.t 120)⟩,
⟨some 122, none, .len .slc (.t 121)⟩,
⟨some 123, none, .mv (.k (.d (.int .i64 0)))⟩] [120])
(.block 0 (.loop [1, 2, 3, 121, 122, 123] b_law01_CalendarZones_1)))
(.seq (.reg false [
⟨some 202, none, .fieldAddr 0 (.t 3)⟩,
⟨some 203, none, .load none (.t 202)⟩,
⟨some 204, none, .bin .rem (.t 203) (.k (.d (.int .i64 600)))⟩,
⟨some 205, none, .mv (.t 2)⟩,
⟨some 206, none, .mv (.t 2)⟩,
⟨some 207, none, .call false true (.k (.fn n_calendar_Summer [] [])) [.t 204, .t 205, .t 206]⟩,
⟨some 201, none, .mv (.t 207)⟩,
⟨some 208, none, .extract (.t 201) 0⟩,
⟨some 209, none, .extract (.t 201) 1⟩,
⟨some 18, none, .alloc ty_calendar_Zone [.z (.int .i64 0), .z (.list 0 [])]⟩,
⟨none, none, .store 2 (.t 18) (.t 208)⟩,
⟨some 19, none, .mv (.t 209)⟩] [201, 202, 203, 204, 205, 206, 207, 208, 209])
(.seq (.reg false [
⟨some 211, none, .mv (.t 2)⟩,
⟨some 212, none, .build [.z (.int .i64 0), .z (.str [])] [(0, 1, .t 211), (1, 1, .k (.d (.str [83])))]⟩,
⟨some 213, none, .call false true (.k (.fn n_calendar_Span [] [])) [.t 212]⟩,
⟨some 210, none, .mv (.t 213)⟩,
⟨some 214, none, .extract (.t 210) 0⟩,
⟨some 215, none, .extract (.t 210) 1⟩,
⟨some 20, none, .alloc ty_api_Period [.z (.int .i64 0), .z (.int .i64 0), .z (.int .i64 0)]⟩,
⟨none, none, .store 3 (.t 20) (.t 214)⟩,
⟨some 21, none, .mv (.t 215)⟩] [2, 210, 211, 212, 213, 214, 215])
(.seq (.seq (.reg false [
⟨some 216, none, .mv (.t 19)⟩,
⟨some 217, none, .mv (.t 21)⟩,
⟨some 218, none, .bin .add (.t 216) (.t 217)⟩,
⟨some 219, none, .bin .neq (.t 218) (.k (.d (.int .i64 0)))⟩] [19, 21, 216, 217, 218])
(.cond (.t 219) (.seq (.reg false [
⟨some 6, none, .mv (.k (.d (.bool false)))⟩] [])
.ret)
 .skip))
(.seq (.reg false [
⟨some 221, none, .load (some 2) (.t 18)⟩,
⟨some 222, none, .mv (.t 1)⟩,
⟨some 223, none, .call false true (.k (.fn n_calendar_Local [] [])) [.t 221, .t 222]⟩,
⟨some 220, none, .mv (.t 223)⟩,
⟨some 224, none, .extract (.t 220) 0⟩,
⟨some 225, none, .extract (.t 220) 1⟩,
⟨some 22, none, .mv (.t 224)⟩,
⟨some 23, none, .mv (.t 225)⟩] [18, 220, 221, 222, 223, 224, 225])
(.seq (.reg false [
⟨some 24, none, .mv (.k (.d (.int .i64 0)))⟩] [])
(.seq (.seq (.reg false [
⟨some 226, none, .mv (.t 1)⟩,
⟨some 227, none, .fieldAddr 0 (.t 20)⟩,
⟨some 228, none, .load none (.t 227)⟩,
⟨some 229, none, .bin .mul (.k (.d (.int .i64 1440))) (.t 228)⟩,
⟨some 230, none, .bin .add (.t 229) (.k (.d (.int .i64 60)))⟩,
⟨some 231, none, .bin .geq (.t 226) (.t 230)⟩,
⟨some 232, none, .mv (.t 231)⟩,
⟨some 233, (some (232, true)), .mv (.t 1)⟩,
⟨some 234, (some (232, true)), .fieldAddr 1 (.t 20)⟩,
⟨some 235, (some (232, true)), .load none (.t 234)⟩,
⟨some 236, (some (232, true)), .bin .add (.t 235) (.k (.d (.int .i64 1)))⟩,
⟨some 237, (some (232, true)), .bin .mul (.k (.d (.int .i64 1440))) (.t 236)⟩,
⟨some 238, (some (232, true)), .bin .add (.t 237) (.k (.d (.int .i64 60)))⟩,
⟨some 239, (some (232, true)), .bin .lss (.t 233) (.t 238)⟩,
⟨some 240, none, .pick (.t 232) (.t 239) (.k (.d (.bool false)))⟩] [20, 226, 227, 228, 229, 230, 231, 232, 233, 234, 235, 236, 237, 238, 239])
(.cond (.t 240) (.reg false [
⟨some 24, none, .mv (.k (.d (.int .i64 60)))⟩] [])
 .skip))
(.seq (.reg false [
⟨some 241, none, .mv (.t 1)⟩,
⟨some 242, none, .fieldAddr 0 (.t 3)⟩,
⟨some 243, none, .load none (.t 242)⟩,
⟨some 244, none, .bin .rem (.t 243) (.k (.d (.int .i64 600)))⟩,
⟨some 245, none, .bin .add (.t 241) (.t 244)⟩,
⟨some 246, none, .mv (.t 24)⟩,
⟨some 247, none, .bin .add (.t 245) (.t 246)⟩,
⟨some 25, none, .mv (.t 247)⟩] [1, 3, 24, 241, 242, 243, 244, 245, 246, 247])
(.seq (.seq (.reg false [
⟨some 248, none, .mv (.t 25)⟩,
⟨some 249, none, .bin .lss (.t 248) (.k (.d (.int .i64 0)))⟩,
⟨some 250, none, .mv (.t 249)⟩,
⟨some 251, (some (250, false)), .mv (.t 25)⟩,
⟨some 252, (some (250, false)), .bin .gtr (.t 251) (.k (.d (.int .i64 143999999)))⟩,
⟨some 253, none, .pick (.t 250) (.k (.d (.bool true))) (.t 252)⟩] [248, 249, 250, 251, 252])
(.cond (.t 253) (.seq (.reg false [
⟨some 254, none, .mv (.t 23)⟩,
⟨some 255, none, .bin .eql (.t 254) (.k (.d (.int .i64 30)))⟩,
⟨some 6, none, .mv (.t 255)⟩] [23, 254, 255])
.ret)
 .skip))
(.seq (.reg false [
⟨some 256, none, .mv (.t 23)⟩,
⟨some 257, none, .bin .eql (.t 256) (.k (.d (.int .i64 0)))⟩,
⟨some 258, none, .mv (.t 257)⟩,
⟨some 259, (some (258, true)), .mv (.t 22)⟩,
⟨some 260, (some (258, true)), .mv (.t 25)⟩,
⟨some 261, (some (258, true)), .bin .eql (.t 259) (.t 260)⟩,
⟨some 262, none, .pick (.t 258) (.t 261) (.k (.d (.bool false)))⟩,
⟨some 6, none, .mv (.t 262)⟩] [22, 23, 25, 256, 257, 258, 259, 260, 261, 262])
.ret))))))))))))))))⟩

/-- "turnround/turnroundlaw01.CalendarDeals" -/
def c_law01_CalendarDeals : CF := ⟨[.tmp 4],
  (.seq (.reg false [
⟨some 4, none, .mv (.k (.d (.bool false)))⟩] [4])
(.seq (.seq (.reg false [
⟨some 9, none, .call false true (.k (.fn n_law01_awake [] [])) []⟩,
⟨some 10, none, .un .not (.t 9)⟩,
⟨some 11, none, .mv (.t 10)⟩,
⟨some 12, (some (11, false)), .mv (.t 0)⟩,
⟨some 13, (some (11, false)), .mv (.t 1)⟩,
⟨some 14, (some (11, false)), .call false true (.k (.fn n_ref01_CheckDraw [] [])) [.t 12, .t 13]⟩,
⟨some 15, (some (11, false)), .bin .neq (.t 14) (.k (.d (.int .i64 0)))⟩,
⟨some 16, none, .pick (.t 11) (.k (.d (.bool true))) (.t 15)⟩,
⟨some 17, none, .mv (.t 16)⟩,
⟨some 18, (some (17, false)), .mv (.t 1)⟩,
⟨some 19, (some (17, false)), .bin .gtr (.t 18) (.k (.d (.int .i64 100)))⟩,
⟨some 20, none, .pick (.t 17) (.k (.d (.bool true))) (.t 19)⟩] [9, 10, 11, 12, 13, 14, 15, 16, 17, 18, 19])
(.cond (.t 20) (.seq (.reg false [
⟨some 21, none, .call false true (.k (.fn n_law01_awake [] [])) []⟩,
⟨some 4, none, .mv (.t 21)⟩] [21])
.ret)
 .skip))
(.seq (.reg false [
⟨some 23, none, .mv (.t 0)⟩,
⟨some 24, none, .mv (.t 1)⟩,
⟨some 25, none, .call false true (.k (.fn n_calendar_Draw [] [])) [.t 23, .t 24]⟩,
⟨some 22, none, .mv (.t 25)⟩,
⟨some 26, none, .extract (.t 22) 0⟩,
⟨some 27, none, .extract (.t 22) 1⟩,
⟨some 5, none, .mv (.t 26)⟩,
⟨some 6, none, .mv (.t 27)⟩] [22, 23, 24, 25, 26, 27])
(.seq (.reg false [
⟨some 29, none, .mv (.t 0)⟩,
⟨some 30, none, .mv (.t 1)⟩,
⟨some 31, none, .call false true (.k (.fn n_calendar_Draw [] [])) [.t 29, .t 30]⟩,
⟨some 28, none, .mv (.t 31)⟩,
⟨some 32, none, .extract (.t 28) 0⟩,
⟨some 33, none, .extract (.t 28) 1⟩,
⟨some 7, none, .mv (.t 32)⟩,
⟨some 8, none, .mv (.t 33)⟩] [28, 29, 30, 31, 32, 33])
(.seq (.seq (.reg false [
⟨some 34, none, .mv (.t 6)⟩,
⟨some 35, none, .mv (.t 8)⟩,
⟨some 36, none, .bin .add (.t 34) (.t 35)⟩,
⟨some 37, none, .bin .neq (.t 36) (.k (.d (.int .i64 0)))⟩,
⟨some 38, none, .mv (.t 37)⟩,
⟨some 39, (some (38, false)), .mv (.t 5)⟩,
⟨some 40, (some (38, false)), .len .slc (.t 39)⟩,
⟨some 41, (some (38, false)), .mv (.t 1)⟩,
⟨some 42, (some (38, false)), .bin .neq (.t 40) (.t 41)⟩,
⟨some 43, none, .pick (.t 38) (.k (.d (.bool true))) (.t 42)⟩,
⟨some 44, none, .mv (.t 43)⟩,
⟨some 45, (some (44, false)), .mv (.t 5)⟩,
⟨some 46, (some (44, false)), .call false true (.k (.fn n_ref01_IsOrder [] [])) [.t 45]⟩,
⟨some 47, (some (44, false)), .un .not (.t 46)⟩,
⟨some 48, none, .pick (.t 44) (.k (.d (.bool true))) (.t 47)⟩,
⟨some 49, none, .mv (.t 48)⟩,
⟨some 50, (some (49, false)), .mv (.t 5)⟩,
⟨some 51, (some (49, false)), .mv (.t 7)⟩,
⟨some 52, (some (49, false)), .call false true (.k (.fn n_ref01_SameInts [] [])) [.t 50, .t 51]⟩,
⟨some 53, (some (49, false)), .un .not (.t 52)⟩,
⟨some 54, none, .pick (.t 49) (.k (.d (.bool true))) (.t 53)⟩] [6, 7, 8, 34, 35, 36, 37, 38, 39, 40, 41, 42, 43, 44, 45, 46, 47, 48, 49, 50, 51, 52, 53])
(.cond (.t 54) (.seq (.reg false [
⟨some 4, none, .mv (.k (.d (.bool false)))⟩] [])
.ret)
 .skip))
(.seq (.reg true [
⟨some 55, none, .mv (.t 1)⟩,
⟨some 56, none, .bin .lss (.t 55) (.k (.d (.int .i64 2)))⟩,
⟨some 57, none, .mv (.t 56)⟩,
⟨some 58, (some (57, false)), .mv (.t 5)⟩,
⟨some 59, (some (57, false)), .mv (.t 1)⟩,
⟨some 60, (some (57, false)), .bin .sub (.t 59) (.k (.d (.int .i64 1)))⟩,
⟨some 61, (some (57, false)), .idxAddr 1 (.t 58) (.t 60)⟩,
⟨some 62, (some (57, false)), .load none (.t 61)⟩,
⟨some 63, (some (57, false)), .mv (.t 0)⟩,
⟨some 64, (some (57, false)), .bin .mul (.k (.d (.int .i64 48271))) (.t 63)⟩,
⟨some 65, (some (57, false)), .bin .rem (.t 64) (.k (.d (.int .i64 2147483647)))⟩,
⟨some 66, (some (57, false)), .mv (.t 1)⟩,
⟨some 67, (some (57, false)), .bin .rem (.t 65) (.t 66)⟩,
⟨some 68, (some (57, false)), .bin .eql (.t 62) (.t 67)⟩,
⟨some 69, none, .pick (.t 57) (.k (.d (.bool true))) (.t 68)⟩,
⟨some 4, none, .mv (.t 69)⟩] [0, 1, 5, 55, 56, 57, 58, 59, 60, 61, 62, 63, 64, 65, 66, 67, 68, 69])
.ret))))))⟩

/-- "turnround/turnroundlaw01.CalendarParts" -/
def c_law01_CalendarParts : CF := ⟨[.tmp 6],
  (.seq (.reg false [
⟨some 3, none, .box ty_api_Period (.t 0)⟩,
⟨some 6, none, .mv (.k (.d (.bool false)))⟩] [0, 6])
(.seq (.seq (.reg false [
⟨some 16, none, .call false true (.k (.fn n_law01_awake [] [])) []⟩,
⟨some 17, none, .un .not (.t 16)⟩] [16])
(.cond (.t 17) (.seq (.reg false [
⟨some 6, none, .mv (.k (.d (.bool false)))⟩] [])
.ret)
 .skip))
(.seq (.reg false [
⟨some 19, none, .load (some 3) (.t 3)⟩,
⟨some 20, none, .mv (.t 1)⟩,
⟨some 21, none, .call false true (.k (.fn n_calendar_Split [] [])) [.t 19, .t 20]⟩,
⟨some 18, none, .mv (.t 21)⟩,
⟨some 22, none, .extract (.t 18) 0⟩,
⟨some 23, none, .extract (.t 18) 1⟩,
⟨some 7, none, .alloc ty_2_api_Period [.z (.int .i64 0), .z (.int .i64 0), .z (.int .i64 0), .z (.int .i64 0), .z (.int .i64 0), .z (.int .i64 0)]⟩,
⟨none, none, .store 6 (.t 7) (.t 22)⟩,
⟨some 8, none, .mv (.t 23)⟩] [18, 19, 20, 21, 22, 23])
(.seq (.reg false [
⟨some 25, none, .load (some 3) (.t 3)⟩,
⟨some 26, none, .mv (.t 2)⟩,
⟨some 27, none, .call false true (.k (.fn n_calendar_Shift [] [])) [.t 25, .t 26]⟩,
⟨some 24, none, .mv (.t 27)⟩,
⟨some 28, none, .extract (.t 24) 0⟩,
⟨some 29, none, .extract (.t 24) 1⟩,
⟨some 9, none, .alloc ty_api_Period [.z (.int .i64 0), .z (.int .i64 0), .z (.int .i64 0)]⟩,
⟨none, none, .store 3 (.t 9) (.t 28)⟩,
⟨some 10, none, .mv (.t 29)⟩] [24, 25, 26, 27, 28, 29])
(.seq (.reg false [
⟨some 30, none, .load (some 3) (.t 3)⟩,
⟨some 31, none, .call false true (.k (.fn n_ref01_CheckPeriod [] [])) [.t 30]⟩,
⟨some 11, none, .mv (.t 31)⟩] [30, 31])
(.seq (.reg false [
⟨some 32, none, .mv (.t 11)⟩,
⟨some 33, none, .mv (.t 11)⟩,
⟨some 34, none, .mv (.t 2)⟩,
⟨some 35, none, .call false true (.k (.fn n_ref01_CheckRange [] [])) [.t 34, .k (.d (.int .i64 (-99999))), .k (.d (.int .i64 99999))]⟩,
⟨some 36, none, .mkList 1 2 [.t 33, .t 35]⟩,
⟨some 37, none, .call false true (.k (.fn n_law01_first [] [])) [.t 36]⟩,
⟨some 12, none, .mv (.t 32)⟩,
⟨some 13, none, .mv (.t 37)⟩] [11, 32, 33, 34, 35, 36, 37])
(.seq (.reg false [
⟨some 14, none, .alloc ty_2_api_Period [.z (.int .i64 0), .z (.int .i64 0), .z (.int .i64 0), .z (.int .i64 0), .z (.int .i64 0), .z (.int .i64 0)]⟩] [])
(.seq (.reg false [
⟨some 15, none, .alloc ty_api_Period [.z (.int .i64 0), .z (.int .i64 0), .z (.int .i64 0)]⟩] [])
(.seq (.seq (.reg false [
⟨some 38, none, .mv (.t 12)⟩,
⟨some 39, none, .bin .eql (.t 38) (.k (.d (.int .i64 0)))⟩] [38])
(.cond (.t 39) (.seq (.reg false [
⟨some 40, none, .mv (.t 1)⟩,
⟨some 41, none, .fieldAddr 0 (.t 3)⟩,
⟨some 42, none, .load none (.t 41)⟩,
⟨some 43, none, .bin .leq (.t 40) (.t 42)⟩,
⟨some 44, none, .mv (.t 43)⟩,
⟨some 45, (some (44, false)), .mv (.t 1)⟩,
⟨some 46, (some (44, false)), .fieldAddr 1 (.t 3)⟩,
⟨some 47, (some (44, false)), .load none (.t 46)⟩,
⟨some 48, (some (44, false)), .bin .gtr (.t 45) (.t 47)⟩,
⟨some 49, none, .pick (.t 44) (.k (.d (.bool true))) (.t 48)⟩] [40, 41, 42, 43, 44, 45, 46, 47, 48])
(.cond (.t 49) (.reg false [
⟨some 12, none, .mv (.k (.d (.int .i64 30)))⟩] [])
 (.reg false [
⟨some 50, none, .fieldAddr 0 (.t 3)⟩,
⟨some 51, none, .load none (.t 50)⟩,
⟨some 52, none, .mv (.t 1)⟩,
⟨some 53, none, .bin .sub (.t 52) (.k (.d (.int .i64 1)))⟩,
⟨some 54, none, .fieldAddr 2 (.t 3)⟩,
⟨some 55, none, .load none (.t 54)⟩,
⟨some 56, none, .build [.z (.int .i64 0), .z (.int .i64 0), .z (.int .i64 0)] [(0, 1, .t 51), (1, 1, .t 53), (2, 1, .t 55)]⟩,
⟨some 57, none, .mv (.t 1)⟩,
⟨some 58, none, .fieldAddr 1 (.t 3)⟩,
⟨some 59, none, .load none (.t 58)⟩,
⟨some 60, none, .fieldAddr 2 (.t 3)⟩,
⟨some 61, none, .load none (.t 60)⟩,
⟨some 62, none, .build [.z (.int .i64 0), .z (.int .i64 0), .z (.int .i64 0)] [(0, 1, .t 57), (1, 1, .t 59), (2, 1, .t 61)]⟩,
⟨some 63, none, .build [.z (.int .i64 0), .z (.int .i64 0), .z (.int .i64 0), .z (.int .i64 0), .z (.int .i64 0), .z (.int .i64 0)] [(0, 3, .t 56), (3, 3, .t 62)]⟩,
⟨none, none, .store 6 (.t 14) (.t 63)⟩] [1, 50, 51, 52, 53, 54, 55, 56, 57, 58, 59, 60, 61, 62, 63])))
 .skip))
(.seq (.seq (.reg false [
⟨some 64, none, .mv (.t 13)⟩,
⟨some 65, none, .bin .eql (.t 64) (.k (.d (.int .i64 0)))⟩] [64])
(.cond (.t 65) (.seq (.reg false [
⟨some 66, none, .load (some 3) (.t 3)⟩,
⟨some 67, none, .mv (.t 2)⟩,
⟨some 68, none, .call false true (.k (.fn n_ref01_Shift [] [])) [.t 66, .t 67]⟩,
⟨none, none, .store 3 (.t 15) (.t 68)⟩] [2, 3, 66, 67, 68])
(.seq (.reg false [
⟨some 69, none, .fieldAddr 0 (.t 15)⟩,
⟨some 70, none, .load none (.t 69)⟩,
⟨some 71, none, .bin .lss (.t 70) (.k (.d (.int .i64 0)))⟩,
⟨some 72, none, .mv (.t 71)⟩,
⟨some 73, (some (72, false)), .fieldAddr 1 (.t 15)⟩,
⟨some 74, (some (72, false)), .load none (.t 73)⟩,
⟨some 75, (some (72, false)), .bin .gtr (.t 74) (.k (.d (.int .i64 99999)))⟩,
⟨some 76, none, .pick (.t 72) (.k (.d (.bool true))) (.t 75)⟩] [69, 70, 71, 72, 73, 74, 75])
(.cond (.t 76) (.reg false [
⟨some 77, none, .build [.z (.int .i64 0), .z (.int .i64 0), .z (.int .i64 0)] []⟩,
⟨none, none, .store 3 (.t 15) (.t 77)⟩,
⟨some 13, none, .mv (.k (.d (.int .i64 30)))⟩] [77])
 .skip)))
 .skip))
(.seq (.reg false [
⟨some 78, none, .load (some 6) (.t 7)⟩,
⟨some 79, none, .load (some 6) (.t 14)⟩,
⟨some 80, none, .eqv (some [.int, .int, .int, .int, .int, .int]) false (.t 78) (.t 79)⟩,
⟨some 81, none, .mv (.t 80)⟩,
⟨some 82, (some (81, true)), .mv (.t 8)⟩,
⟨some 83, (some (81, true)), .mv (.t 12)⟩,
⟨some 84, (some (81, true)), .bin .eql (.t 82) (.t 83)⟩,
⟨some 85, none, .pick (.t 81) (.t 84) (.k (.d (.bool false)))⟩,
⟨some 86, none, .mv (.t 85)⟩,
⟨some 87, (some (86, true)), .load (some 3) (.t 9)⟩,
⟨some 88, (some (86, true)), .load (some 3) (.t 15)⟩,
⟨some 89, (some (86, true)), .eqv (some [.int, .int, .int]) false (.t 87) (.t 88)⟩,
⟨some 90, none, .pick (.t 86) (.t 89) (.k (.d (.bool false)))⟩,
⟨some 91, none, .mv (.t 90)⟩,
⟨some 92, (some (91, true)), .mv (.t 10)⟩,
⟨some 93, (some (91, true)), .mv (.t 13)⟩,
⟨some 94, (some (91, true)), .bin .eql (.t 92) (.t 93)⟩,
⟨some 95, none, .pick (.t 91) (.t 94) (.k (.d (.bool false)))⟩,
⟨some 6, none, .mv (.t 95)⟩] [7, 8, 9, 10, 12, 13, 14, 15, 78, 79, 80, 81, 82, 83, 84, 85, 86, 87, 88, 89, 90, 91, 92, 93, 94, 95])
.ret)))))))))))⟩

def b_law01_CalendarCovers_1 : C :=
  (.seq (.seq (.reg false [
⟨some 112, none, .mv (.t 14)⟩,
⟨some 113, none, .mv (.t 9)⟩,
⟨some 114, none, .len .slc (.t 113)⟩,
⟨some 115, none, .bin .lss (.t 112) (.t 114)⟩,
⟨some 116, none, .mv (.t 115)⟩,
⟨some 117, (some (116, false)), .mv (.t 15)⟩,
⟨some 118, (some (116, false)), .mv (.t 11)⟩,
⟨some 119, (some (116, false)), .len .slc (.t 118)⟩,
⟨some 120, (some (116, false)), .bin .lss (.t 117) (.t 119)⟩,
⟨some 121, none, .pick (.t 116) (.k (.d (.bool true))) (.t 120)⟩] [112, 113, 114, 115, 116, 117, 118, 119, 120])
(.cond (.t 121) .skip
 (.exit 0)))
(.block 1 (.block 2 (.seq (.reg true [
⟨some 134, none, .mv (.t 15)⟩,
⟨some 135, none, .mv (.t 11)⟩,
⟨some 136, none, .len .slc (.t 135)⟩,
⟨some 137, none, .bin .eql (.t 134) (.t 136)⟩,
⟨some 138, none, .mv (.t 137)⟩,
⟨some 139, (some (138, false)), .mv (.t 14)⟩,
⟨some 140, (some (138, false)), .mv (.t 9)⟩,
⟨some 141, (some (138, false)), .len .slc (.t 140)⟩,
⟨some 142, (some (138, false)), .bin .lss (.t 139) (.t 141)⟩,
⟨some 143, (some (138, false)), .mv (.t 142)⟩,
⟨some 144, (some (143, true)), .mv (.t 9)⟩,
⟨some 145, (some (143, true)), .mv (.t 14)⟩,
⟨some 146, (some (143, true)), .idxAddr 1 (.t 144) (.t 145)⟩,
⟨some 147, (some (143, true)), .load none (.t 146)⟩,
⟨some 148, (some (143, true)), .mv (.t 11)⟩,
⟨some 149, (some (143, true)), .mv (.t 15)⟩,
⟨some 150, (some (143, true)), .idxAddr 1 (.t 148) (.t 149)⟩,
⟨some 151, (some (143, true)), .load none (.t 150)⟩,
⟨some 152, (some (143, true)), .bin .lss (.t 147) (.t 151)⟩,
⟨some 153, (some (138, false)), .pick (.t 143) (.t 152) (.k (.d (.bool false)))⟩,
⟨some 154, none, .pick (.t 138) (.k (.d (.bool true))) (.t 153)⟩,
⟨some 133, none, .mv (.t 154)⟩] [134, 135, 136, 137, 138, 139, 140, 141, 142, 143, 144, 145, 146, 147, 148, 149, 150, 151, 152, 153, 154])
(.cond (.t 133) (.seq (.reg false [
⟨some 155, none, .mv (.t 13)⟩,
⟨some 156, none, .mv (.t 9)⟩,
⟨some 157, none, .mv (.t 14)⟩,
⟨some 158, none, .idxAddr 1 (.t 156) (.t 157)⟩,
⟨some 159, none, .load none (.t 158)⟩,
⟨some 160, none, .mkList 1 1 [.t 159]⟩,
⟨some 161, none, .append ⟨false, ty_int, 1, 8⟩ (.t 155) (.t 160)⟩,
⟨some 13, none, .mv (.t 161)⟩] [155, 156, 157, 158, 159, 160, 161])
(.reg false [
⟨some 162, none, .mv (.t 14)⟩,
⟨some 163, none, .bin .add (.t 162) (.k (.d (.int .i64 1)))⟩,
⟨some 14, none, .mv (.t 163)⟩] [162, 163]))
 (.seq (.reg true [
⟨some 165, none, .mv (.t 14)⟩,
⟨some 166, none, .mv (.t 9)⟩,
⟨some 167, none, .len .slc (.t 166)⟩,
⟨some 168, none, .bin .eql (.t 165) (.t 167)⟩,
⟨some 169, none, .mv (.t 168)⟩,
⟨some 170, (some (169, false)), .mv (.t 11)⟩,
⟨some 171, (some (169, false)), .mv (.t 15)⟩,
⟨some 172, (some (169, false)), .idxAddr 1 (.t 170) (.t 171)⟩,
⟨some 173, (some (169, false)), .load none (.t 172)⟩,
⟨some 174, (some (169, false)), .mv (.t 9)⟩,
⟨some 175, (some (169, false)), .mv (.t 14)⟩,
⟨some 176, (some (169, false)), .idxAddr 1 (.t 174) (.t 175)⟩,
⟨some 177, (some (169, false)), .load none (.t 176)⟩,
⟨some 178, (some (169, false)), .bin .lss (.t 173) (.t 177)⟩,
⟨some 179, none, .pick (.t 169) (.k (.d (.bool true))) (.t 178)⟩,
⟨some 164, none, .mv (.t 179)⟩] [165, 166, 167, 168, 169, 170, 171, 172, 173, 174, 175, 176, 177, 178, 179])
(.cond (.t 164) (.seq (.reg false [
⟨some 180, none, .mv (.t 13)⟩,
⟨some 181, none, .mv (.t 11)⟩,
⟨some 182, none, .mv (.t 15)⟩,
⟨some 183, none, .idxAddr 1 (.t 181) (.t 182)⟩,
⟨some 184, none, .load none (.t 183)⟩,
⟨some 185, none, .mkList 1 1 [.t 184]⟩,
⟨some 186, none, .append ⟨false, ty_int, 1, 8⟩ (.t 180) (.t 185)⟩,
⟨some 13, none, .mv (.t 186)⟩] [180, 181, 182, 183, 184, 185, 186])
(.reg false [
⟨some 187, none, .mv (.t 15)⟩,
⟨some 188, none, .bin .add (.t 187) (.k (.d (.int .i64 1)))⟩,
⟨some 15, none, .mv (.t 188)⟩] [187, 188]))
 (.seq (.reg false [
⟨some 122, none, .mv (.t 13)⟩,
⟨some 123, none, .mv (.t 9)⟩,
⟨some 124, none, .mv (.t 14)⟩,
⟨some 125, none, .idxAddr 1 (.t 123) (.t 124)⟩,
⟨some 126, none, .load none (.t 125)⟩,
⟨some 127, none, .mkList 1 1 [.t 126]⟩,
⟨some 128, none, .append ⟨false, ty_int, 1, 8⟩ (.t 122) (.t 127)⟩,
⟨some 13, none, .mv (.t 128)⟩] [122, 123, 124, 125, 126, 127, 128])
(.reg false [
⟨some 129, none, .mv (.t 14)⟩,
⟨some 130, none, .bin .add (.t 129) (.k (.d (.int .i64 1)))⟩,
⟨some 131, none, .mv (.t 15)⟩,
⟨some 132, none, .bin .add (.t 131) (.k (.d (.int .i64 1)))⟩,
⟨some 14, none, .mv (.t 130)⟩,
⟨some 15, none, .mv (.t 132)⟩] [129, 130, 131, 132])))))))))

def b_law01_CalendarCovers_2 : C :=
  (.seq (.reg false [
⟨some 208, none, .bin .lss (.t 207) (.t 206)⟩] [])
(.seq (.cond (.t 208) .skip
 (.exit 3))
(.seq (.block 4 (.seq (.reg false [
⟨some 209, none, .mv (.t 207)⟩,
⟨some 210, none, .idxAddr 3 (.t 205) (.t 207)⟩,
⟨some 211, none, .load (some 3) (.t 210)⟩,
⟨some 20, none, .alloc ty_api_Period [.z (.int .i64 0), .z (.int .i64 0), .z (.int .i64 0)]⟩,
⟨some 19, none, .mv (.t 209)⟩,
⟨none, none, .store 3 (.t 20) (.t 211)⟩] [209, 210, 211])
(.seq (.reg false [
⟨some 213, none, .load (some 3) (.t 20)⟩,
⟨some 214, none, .call false true (.k (.fn n_calendar_DaysOf [] [])) [.t 213]⟩,
⟨some 212, none, .mv (.t 214)⟩,
⟨some 215, none, .extract (.t 212) 0⟩,
⟨some 216, none, .extract (.t 212) 1⟩,
⟨some 21, none, .mv (.t 215)⟩,
⟨some 22, none, .mv (.t 216)⟩] [212, 213, 214, 215, 216])
(.seq (.seq (.reg true [
⟨some 217, none, .mv (.t 22)⟩,
⟨some 218, none, .bin .neq (.t 217) (.k (.d (.int .i64 0)))⟩,
⟨some 219, none, .mv (.t 218)⟩,
⟨some 220, (some (219, false)), .mv (.t 21)⟩,
⟨some 221, (some (219, false)), .len .slc (.t 220)⟩,
⟨some 222, (some (219, false)), .bin .eql (.t 221) (.k (.d (.int .i64 0)))⟩,
⟨some 223, none, .pick (.t 219) (.k (.d (.bool true))) (.t 222)⟩,
⟨some 224, none, .mv (.t 223)⟩,
⟨some 225, (some (224, false)), .mv (.t 21)⟩,
⟨some 226, (some (224, false)), .idxAddr 1 (.t 225) (.k (.d (.int .i64 0)))⟩,
⟨some 227, (some (224, false)), .load none (.t 226)⟩,
⟨some 228, (some (224, false)), .fieldAddr 0 (.t 20)⟩,
⟨some 229, (some (224, false)), .load none (.t 228)⟩,
⟨some 230, (some (224, false)), .bin .neq (.t 227) (.t 229)⟩,
⟨some 231, none, .pick (.t 224) (.k (.d (.bool true))) (.t 230)⟩,
⟨some 232, none, .mv (.t 231)⟩,
⟨some 233, (some (232, false)), .mv (.t 21)⟩,
⟨some 234, (some (232, false)), .mv (.t 21)⟩,
⟨some 235, (some (232, false)), .len .slc (.t 234)⟩,
⟨some 236, (some (232, false)), .bin .sub (.t 235) (.k (.d (.int .i64 1)))⟩,
⟨some 237, (some (232, false)), .idxAddr 1 (.t 233) (.t 236)⟩,
⟨some 238, (some (232, false)), .load none (.t 237)⟩,
⟨some 239, (some (232, false)), .fieldAddr 1 (.t 20)⟩,
⟨some 240, (some (232, false)), .load none (.t 239)⟩,
⟨some 241, (some (232, false)), .bin .neq (.t 238) (.t 240)⟩,
⟨some 242, none, .pick (.t 232) (.k (.d (.bool true))) (.t 241)⟩,
⟨some 243, none, .mv (.t 242)⟩,
⟨some 244, (some (243, false)), .mv (.t 19)⟩,
⟨some 245, (some (243, false)), .bin .gtr (.t 244) (.k (.d (.int .i64 0)))⟩,
⟨some 246, (some (243, false)), .mv (.t 245)⟩,
⟨some 247, (some (246, true)), .fieldAddr 0 (.t 20)⟩,
⟨some 248, (some (246, true)), .load none (.t 247)⟩,
⟨some 249, (some (246, true)), .mv (.t 16)⟩,
⟨some 250, (some (246, true)), .mv (.t 19)⟩,
⟨some 251, (some (246, true)), .bin .sub (.t 250) (.k (.d (.int .i64 1)))⟩,
⟨some 252, (some (246, true)), .idxAddr 3 (.t 249) (.t 251)⟩,
⟨some 253, (some (246, true)), .fieldAddr 1 (.t 252)⟩,
⟨some 254, (some (246, true)), .load none (.t 253)⟩,
⟨some 255, (some (246, true)), .bin .leq (.t 248) (.t 254)⟩,
⟨some 256, (some (243, false)), .pick (.t 246) (.t 255) (.k (.d (.bool false)))⟩,
⟨some 257, none, .pick (.t 243) (.k (.d (.bool true))) (.t 256)⟩] [19, 20, 22, 217, 218, 219, 220, 221, 222, 223, 224, 225, 226, 227, 228, 229, 230, 231, 232, 233, 234, 235, 236, 237, 238, 239, 240, 241, 242, 243, 244, 245, 246, 247, 248, 249, 250, 251, 252, 253, 254, 255, 256])
(.cond (.t 257) (.seq (.reg false [
⟨some 6, none, .mv (.k (.d (.bool false)))⟩] [])
.ret)
 .skip))
(.reg false [
⟨some 258, none, .mv (.t 18)⟩,
⟨some 259, none, .mv (.t 21)⟩,
⟨some 260, none, .append ⟨false, ty_int, 1, 8⟩ (.t 258) (.t 259)⟩,
⟨some 18, none, .mv (.t 260)⟩] [21, 258, 259, 260])))))
(.reg false [
⟨some 261, none, .bin .add (.t 207) (.k (.d (.int .i64 1)))⟩,
⟨some 207, none, .mv (.t 261)⟩] [261]))))

def b_law01_CalendarCovers_3 : C :=
  (.seq (.reg false [
⟨some 341, none, .bin .lss (.t 340) (.t 339)⟩] [])
(.seq (.cond (.t 341) .skip
 (.exit 5))
(.seq (.block 6 (.seq (.reg false [
⟨some 342, none, .mv (.t 340)⟩,
⟨some 33, none, .mv (.t 342)⟩] [342])
(.seq (.reg true [
⟨some 343, none, .mv (.t 31)⟩,
⟨some 344, none, .mv (.t 33)⟩,
⟨some 345, none, .idxAddr 1 (.t 343) (.t 344)⟩,
⟨some 346, none, .load none (.t 345)⟩,
⟨some 347, none, .mv (.t 9)⟩,
⟨some 348, none, .mv (.t 33)⟩,
⟨some 349, none, .idxAddr 1 (.t 347) (.t 348)⟩,
⟨some 350, none, .load none (.t 349)⟩,
⟨some 351, none, .mv (.t 8)⟩,
⟨some 352, none, .bin .add (.t 350) (.t 351)⟩,
⟨some 353, none, .bin .neq (.t 346) (.t 352)⟩] [33, 343, 344, 345, 346, 347, 348, 349, 350, 351, 352])
(.cond (.t 353) (.seq (.reg false [
⟨some 6, none, .mv (.k (.d (.bool false)))⟩] [])
.ret)
 .skip))))
(.reg false [
⟨some 354, none, .bin .add (.t 340) (.k (.d (.int .i64 1)))⟩,
⟨some 340, none, .mv (.t 354)⟩] [354]))))

/-- "turnround/turnroundlaw01.CalendarCovers" -/
def c_law01_CalendarCovers : CF := ⟨[.tmp 6],
  (.seq (.reg false [
⟨some 3, none, .box ty_api_Period (.t 0)⟩,
⟨some 4, none, .box ty_api_Period (.t 1)⟩,
⟨some 5, none, .box ty_2_int (.t 2)⟩,
⟨some 6, none, .mv (.k (.d (.bool false)))⟩] [0, 1, 2, 6])
(.seq (.reg true [
⟨some 34, none, .idxAddrA 2 1 (.t 5) (.k (.d (.int .i64 0)))⟩,
⟨some 35, none, .load none (.t 34)⟩,
⟨some 36, none, .idxAddrA 2 1 (.t 5) (.k (.d (.int .i64 1)))⟩,
⟨some 37, none, .load none (.t 36)⟩,
⟨some 7, none, .mv (.t 35)⟩,
⟨some 8, none, .mv (.t 37)⟩] [5, 34, 35, 36, 37])
(.seq (.seq (.reg false [
⟨some 38, none, .call false true (.k (.fn n_law01_awake [] [])) []⟩,
⟨some 39, none, .un .not (.t 38)⟩,
⟨some 40, none, .mv (.t 39)⟩,
⟨some 41, (some (40, false)), .load (some 3) (.t 3)⟩,
⟨some 42, (some (40, false)), .call false true (.k (.fn n_ref01_CheckPeriod [] [])) [.t 41]⟩,
⟨some 43, (some (40, false)), .bin .neq (.t 42) (.k (.d (.int .i64 0)))⟩,
⟨some 44, none, .pick (.t 40) (.k (.d (.bool true))) (.t 43)⟩,
⟨some 45, none, .mv (.t 44)⟩,
⟨some 46, (some (45, false)), .load (some 3) (.t 4)⟩,
⟨some 47, (some (45, false)), .call false true (.k (.fn n_ref01_CheckPeriod [] [])) [.t 46]⟩,
⟨some 48, (some (45, false)), .bin .neq (.t 47) (.k (.d (.int .i64 0)))⟩,
⟨some 49, none, .pick (.t 45) (.k (.d (.bool true))) (.t 48)⟩,
⟨some 50, none, .mv (.t 49)⟩,
⟨some 51, (some (50, false)), .fieldAddr 1 (.t 3)⟩,
⟨some 52, (some (50, false)), .load none (.t 51)⟩,
⟨some 53, (some (50, false)), .fieldAddr 0 (.t 3)⟩,
⟨some 54, (some (50, false)), .load none (.t 53)⟩,
⟨some 55, (some (50, false)), .bin .sub (.t 52) (.t 54)⟩,
⟨some 56, (some (50, false)), .bin .gtr (.t 55) (.k (.d (.int .i64 60)))⟩,
⟨some 57, none, .pick (.t 50) (.k (.d (.bool true))) (.t 56)⟩,
⟨some 58, none, .mv (.t 57)⟩,
⟨some 59, (some (58, false)), .fieldAddr 1 (.t 4)⟩,
⟨some 60, (some (58, false)), .load none (.t 59)⟩,
⟨some 61, (some (58, false)), .fieldAddr 0 (.t 4)⟩,
⟨some 62, (some (58, false)), .load none (.t 61)⟩,
⟨some 63, (some (58, false)), .bin .sub (.t 60) (.t 62)⟩,
⟨some 64, (some (58, false)), .bin .gtr (.t 63) (.k (.d (.int .i64 60)))⟩,
⟨some 65, none, .pick (.t 58) (.k (.d (.bool true))) (.t 64)⟩,
⟨some 66, none, .mv (.t 65)⟩,
⟨some 67, (some (66, false)), .mv (.t 7)⟩,
⟨some 68, (some (66, false)), .call false true (.k (.fn n_ref01_CheckDay [] [])) [.t 67]⟩,
⟨some 69, (some (66, false)), .bin .neq (.t 68) (.k (.d (.int .i64 0)))⟩,
⟨some 70, none, .pick (.t 66) (.k (.d (.bool true))) (.t 69)⟩,
⟨some 71, none, .mv (.t 70)⟩,
⟨some 72, (some (71, false)), .mv (.t 8)⟩,
⟨some 73, (some (71, false)), .bin .lss (.t 72) (.k (.d (.int .i64 (-1000))))⟩,
⟨some 74, none, .pick (.t 71) (.k (.d (.bool true))) (.t 73)⟩,
⟨some 75, none, .mv (.t 74)⟩,
⟨some 76, (some (75, false)), .mv (.t 8)⟩,
⟨some 77, (some (75, false)), .bin .gtr (.t 76) (.k (.d (.int .i64 1000)))⟩,
⟨some 78, none, .pick (.t 75) (.k (.d (.bool true))) (.t 77)⟩] [38, 39, 40, 41, 42, 43, 44, 45, 46, 47, 48, 49, 50, 51, 52, 53, 54, 55, 56, 57, 58, 59, 60, 61, 62, 63, 64, 65, 66, 67, 68, 69, 70, 71, 72, 73, 74, 75, 76, 77])
(.cond (.t 78) (.seq (.reg false [
⟨some 79, none, .call false true (.k (.fn n_law01_awake [] [])) []⟩,
⟨some 6, none, .mv (.t 79)⟩] [79])
.ret)
 .skip))
(.seq (.reg false [
⟨some 81, none, .load (some 3) (.t 3)⟩,
⟨some 82, none, .call false true (.k (.fn n_calendar_DaysOf [] [])) [.t 81]⟩,
⟨some 80, none, .mv (.t 82)⟩,
⟨some 83, none, .extract (.t 80) 0⟩,
⟨some 84, none, .extract (.t 80) 1⟩,
⟨some 9, none, .mv (.t 83)⟩,
⟨some 10, none, .mv (.t 84)⟩] [80, 81, 82, 83, 84])
(.seq (.reg false [
⟨some 86, none, .load (some 3) (.t 4)⟩,
⟨some 87, none, .call false true (.k (.fn n_calendar_DaysOf [] [])) [.t 86]⟩,
⟨some 85, none, .mv (.t 87)⟩,
⟨some 88, none, .extract (.t 85) 0⟩,
⟨some 89, none, .extract (.t 85) 1⟩,
⟨some 11, none, .mv (.t 88)⟩,
⟨some 12, none, .mv (.t 89)⟩] [4, 85, 86, 87, 88, 89])
(.seq (.seq (.reg false [
⟨some 90, none, .mv (.t 10)⟩,
⟨some 91, none, .mv (.t 12)⟩,
⟨some 92, none, .bin .add (.t 90) (.t 91)⟩,
⟨some 93, none, .bin .neq (.t 92) (.k (.d (.int .i64 0)))⟩,
⟨some 94, none, .mv (.t 93)⟩,
⟨some 95, (some (94, false)), .mv (.t 9)⟩,
⟨some 96, (some (94, false)), .len .slc (.t 95)⟩,
⟨some 97, (some (94, false)), .bin .gtr (.t 96) (.k (.d (.int .i64 61)))⟩,
⟨some 98, none, .pick (.t 94) (.k (.d (.bool true))) (.t 97)⟩,
⟨some 99, none, .mv (.t 98)⟩,
⟨some 100, (some (99, false)), .mv (.t 11)⟩,
⟨some 101, (some (99, false)), .len .slc (.t 100)⟩,
⟨some 102, (some (99, false)), .bin .gtr (.t 101) (.k (.d (.int .i64 61)))⟩,
⟨some 103, none, .pick (.t 99) (.k (.d (.bool true))) (.t 102)⟩,
⟨some 104, none, .mv (.t 103)⟩,
⟨some 105, (some (104, false)), .mv (.t 9)⟩,
⟨some 106, (some (104, false)), .call false true (.k (.fn n_ref01_CheckDays [] [])) [.t 105]⟩,
⟨some 107, (some (104, false)), .mv (.t 11)⟩,
⟨some 108, (some (104, false)), .call false true (.k (.fn n_ref01_CheckDays [] [])) [.t 107]⟩,
⟨some 109, (some (104, false)), .bin .add (.t 106) (.t 108)⟩,
⟨some 110, (some (104, false)), .bin .neq (.t 109) (.k (.d (.int .i64 0)))⟩,
⟨some 111, none, .pick (.t 104) (.k (.d (.bool true))) (.t 110)⟩] [10, 12, 90, 91, 92, 93, 94, 95, 96, 97, 98, 99, 100, 101, 102, 103, 104, 105, 106, 107, 108, 109, 110])
(.cond (.t 111) (.seq (.reg false [
⟨some 6, none, .mv (.k (.d (.bool false)))⟩] [])
.ret)
 .skip))
(.seq (.reg false [
⟨some 13, none, .ownNil ⟨false, ty_int, 1, 8⟩⟩] [])
(.seq (.seq (.reg false [
⟨some 14, none, .mv (.k (.d (.int .i64 0)))⟩,
⟨some 15, none, .mv (.k (.d (.int .i64 0)))⟩] [])
(.block 0 (.loop [3, 7, 8, 9, 11, 13, 14, 15] b_law01_CalendarCovers_1)))
(.seq (.reg false [
⟨some 190, none, .mkRow ⟨false, ty_int, 1, 8⟩ 0 []⟩,
⟨some 191, none, .mv (.t 13)⟩,
⟨some 192, none, .append ⟨false, ty_int, 1, 8⟩ (.t 190) (.t 191)⟩,
⟨some 193, none, .call false true (.k (.fn n_calendar_Join [] [])) [.t 192]⟩,
⟨some 189, none, .mv (.t 193)⟩,
⟨some 194, none, .extract (.t 189) 0⟩,
⟨some 195, none, .extract (.t 189) 1⟩,
⟨some 16, none, .mv (.t 194)⟩,
⟨some 17, none, .mv (.t 195)⟩] [189, 190, 191, 192, 193, 194, 195])
(.seq (.seq (.reg false [
⟨some 196, none, .mv (.t 17)⟩,
⟨some 197, none, .bin .neq (.t 196) (.k (.d (.int .i64 0)))⟩,
⟨some 198, none, .mv (.t 197)⟩,
⟨some 199, (some (198, false)), .mv (.t 16)⟩,
⟨some 200, (some (198, false)), .len .slc (.t 199)⟩,
⟨some 201, (some (198, false)), .mv (.t 13)⟩,
⟨some 202, (some (198, false)), .len .slc (.t 201)⟩,
⟨some 203, (some (198, false)), .bin .gtr (.t 200) (.t 202)⟩,
⟨some 204, none, .pick (.t 198) (.k (.d (.bool true))) (.t 203)⟩] [17, 196, 197, 198, 199, 200, 201, 202, 203])
(.cond (.t 204) (.seq (.reg false [
⟨some 6, none, .mv (.k (.d (.bool false)))⟩] [])
.ret)
 .skip))
(.seq (.reg false [
⟨some 18, none, .ownNil ⟨false, ty_int, 1, 8⟩⟩] [])
(.seq (.seq (.reg false [
⟨some 205, none, .mv (.t 16)⟩,
⟨some 206, none, .len .slc (.t 205)⟩,
⟨some 207, none, .mv (.k (.d (.int .i64 0)))⟩] [])
(.block 3 (.loop [3, 7, 8, 9, 13, 16, 18, 205, 206, 207] b_law01_CalendarCovers_2)))
(.seq (.seq (.reg false [
⟨some 262, none, .mv (.t 18)⟩,
⟨some 263, none, .mv (.t 13)⟩,
⟨some 264, none, .call false true (.k (.fn n_ref01_SameInts [] [])) [.t 262, .t 263]⟩,
⟨some 265, none, .un .not (.t 264)⟩] [13, 18, 262, 263, 264])
(.cond (.t 265) (.seq (.reg false [
⟨some 6, none, .mv (.k (.d (.bool false)))⟩] [])
.ret)
 .skip))
(.seq (.seq (.reg false [
⟨some 267, none, .load (some 3) (.t 3)⟩,
⟨some 268, none, .mv (.t 7)⟩,
⟨some 269, none, .call false true (.k (.fn n_calendar_Split [] [])) [.t 267, .t 268]⟩,
⟨some 266, none, .mv (.t 269)⟩,
⟨some 270, none, .extract (.t 266) 0⟩,
⟨some 271, none, .extract (.t 266) 1⟩,
⟨some 23, none, .alloc ty_2_api_Period [.z (.int .i64 0), .z (.int .i64 0), .z (.int .i64 0), .z (.int .i64 0), .z (.int .i64 0), .z (.int .i64 0)]⟩,
⟨none, none, .store 6 (.t 23) (.t 270)⟩,
⟨some 24, none, .mv (.t 271)⟩] [7, 266, 267, 268, 269, 270, 271])
(.seq (.reg false [
⟨some 272, none, .mv (.t 24)⟩,
⟨some 273, none, .bin .eql (.t 272) (.k (.d (.int .i64 0)))⟩] [24, 272])
(.cond (.t 273) (.seq (.reg false [
⟨some 275, none, .idxAddrA 2 3 (.t 23) (.k (.d (.int .i64 0)))⟩,
⟨some 276, none, .load (some 3) (.t 275)⟩,
⟨some 277, none, .call false true (.k (.fn n_calendar_DaysOf [] [])) [.t 276]⟩,
⟨some 274, none, .mv (.t 277)⟩,
⟨some 278, none, .extract (.t 274) 0⟩,
⟨some 279, none, .extract (.t 274) 1⟩,
⟨some 25, none, .mv (.t 278)⟩,
⟨some 26, none, .mv (.t 279)⟩] [274, 275, 276, 277, 278, 279])
(.seq (.reg false [
⟨some 281, none, .idxAddrA 2 3 (.t 23) (.k (.d (.int .i64 1)))⟩,
⟨some 282, none, .load (some 3) (.t 281)⟩,
⟨some 283, none, .call false true (.k (.fn n_calendar_DaysOf [] [])) [.t 282]⟩,
⟨some 280, none, .mv (.t 283)⟩,
⟨some 284, none, .extract (.t 280) 0⟩,
⟨some 285, none, .extract (.t 280) 1⟩,
⟨some 27, none, .mv (.t 284)⟩,
⟨some 28, none, .mv (.t 285)⟩] [23, 280, 281, 282, 283, 284, 285])
(.seq (.reg false [
⟨some 286, none, .mv (.t 26)⟩,
⟨some 287, none, .mv (.t 28)⟩,
⟨some 288, none, .bin .add (.t 286) (.t 287)⟩,
⟨some 289, none, .bin .neq (.t 288) (.k (.d (.int .i64 0)))⟩,
⟨some 290, none, .mv (.t 289)⟩,
⟨some 291, (some (290, false)), .mkRow ⟨false, ty_int, 1, 8⟩ 0 []⟩,
⟨some 292, (some (290, false)), .mv (.t 25)⟩,
⟨some 293, (some (290, false)), .append ⟨false, ty_int, 1, 8⟩ (.t 291) (.t 292)⟩,
⟨some 294, (some (290, false)), .mv (.t 27)⟩,
⟨some 295, (some (290, false)), .append ⟨false, ty_int, 1, 8⟩ (.t 293) (.t 294)⟩,
⟨some 296, (some (290, false)), .mv (.t 9)⟩,
⟨some 297, (some (290, false)), .call false true (.k (.fn n_ref01_SameInts [] [])) [.t 295, .t 296]⟩,
⟨some 298, (some (290, false)), .un .not (.t 297)⟩,
⟨some 299, none, .pick (.t 290) (.k (.d (.bool true))) (.t 298)⟩] [25, 26, 27, 28, 286, 287, 288, 289, 290, 291, 292, 293, 294, 295, 296, 297, 298])
(.cond (.t 299) (.seq (.reg false [
⟨some 6, none, .mv (.k (.d (.bool false)))⟩] [])
.ret)
 .skip))))
 .skip)))
(.seq (.reg false [
⟨some 301, none, .load (some 3) (.t 3)⟩,
⟨some 302, none, .mv (.t 8)⟩,
⟨some 303, none, .call false true (.k (.fn n_calendar_Shift [] [])) [.t 301, .t 302]⟩,
⟨some 300, none, .mv (.t 303)⟩,
⟨some 304, none, .extract (.t 300) 0⟩,
⟨some 305, none, .extract (.t 300) 1⟩,
⟨some 29, none, .alloc ty_api_Period [.z (.int .i64 0), .z (.int .i64 0), .z (.int .i64 0)]⟩,
⟨none, none, .store 3 (.t 29) (.t 304)⟩,
⟨some 30, none, .mv (.t 305)⟩] [300, 301, 302, 303, 304, 305])
(.seq (.seq (.reg false [
⟨some 306, none, .mv (.t 30)⟩,
⟨some 307, none, .bin .neq (.t 306) (.k (.d (.int .i64 0)))⟩] [306])
(.cond (.t 307) (.seq (.reg false [
⟨some 308, none, .mv (.t 30)⟩,
⟨some 309, none, .bin .eql (.t 308) (.k (.d (.int .i64 30)))⟩,
⟨some 310, none, .mv (.t 309)⟩,
⟨some 311, (some (310, true)), .fieldAddr 0 (.t 3)⟩,
⟨some 312, (some (310, true)), .load none (.t 311)⟩,
⟨some 313, (some (310, true)), .mv (.t 8)⟩,
⟨some 314, (some (310, true)), .bin .add (.t 312) (.t 313)⟩,
⟨some 315, (some (310, true)), .bin .lss (.t 314) (.k (.d (.int .i64 0)))⟩,
⟨some 316, (some (310, true)), .mv (.t 315)⟩,
⟨some 317, (some (316, false)), .fieldAddr 1 (.t 3)⟩,
⟨some 318, (some (316, false)), .load none (.t 317)⟩,
⟨some 319, (some (316, false)), .mv (.t 8)⟩,
⟨some 320, (some (316, false)), .bin .add (.t 318) (.t 319)⟩,
⟨some 321, (some (316, false)), .bin .gtr (.t 320) (.k (.d (.int .i64 99999)))⟩,
⟨some 322, (some (310, true)), .pick (.t 316) (.k (.d (.bool true))) (.t 321)⟩,
⟨some 323, none, .pick (.t 310) (.t 322) (.k (.d (.bool false)))⟩,
⟨some 6, none, .mv (.t 323)⟩] [3, 8, 30, 308, 309, 310, 311, 312, 313, 314, 315, 316, 317, 318, 319, 320, 321, 322, 323])
.ret)
 .skip))
(.seq (.reg false [
⟨some 325, none, .load (some 3) (.t 29)⟩,
⟨some 326, none, .call false true (.k (.fn n_calendar_DaysOf [] [])) [.t 325]⟩,
⟨some 324, none, .mv (.t 326)⟩,
⟨some 327, none, .extract (.t 324) 0⟩,
⟨some 328, none, .extract (.t 324) 1⟩,
⟨some 31, none, .mv (.t 327)⟩,
⟨some 32, none, .mv (.t 328)⟩] [29, 324, 325, 326, 327, 328])
(.seq (.seq (.reg false [
⟨some 329, none, .mv (.t 32)⟩,
⟨some 330, none, .bin .neq (.t 329) (.k (.d (.int .i64 0)))⟩,
⟨some 331, none, .mv (.t 330)⟩,
⟨some 332, (some (331, false)), .mv (.t 31)⟩,
⟨some 333, (some (331, false)), .len .slc (.t 332)⟩,
⟨some 334, (some (331, false)), .mv (.t 9)⟩,
⟨some 335, (some (331, false)), .len .slc (.t 334)⟩,
⟨some 336, (some (331, false)), .bin .neq (.t 333) (.t 335)⟩,
⟨some 337, none, .pick (.t 331) (.k (.d (.bool true))) (.t 336)⟩] [32, 329, 330, 331, 332, 333, 334, 335, 336])
(.cond (.t 337) (.seq (.reg false [
⟨some 6, none, .mv (.k (.d (.bool false)))⟩] [])
.ret)
 .skip))
(.seq (.seq (.reg false [
⟨some 338, none, .mv (.t 31)⟩,
⟨some 339, none, .len .slc (.t 338)⟩,
⟨some 340, none, .mv (.k (.d (.int .i64 0)))⟩] [338])
(.block 5 (.loop [8, 9, 31, 339, 340] b_law01_CalendarCovers_3)))
(.seq (.reg false [
⟨some 6, none, .mv (.k (.d (.bool true)))⟩] [])
.ret))))))))))))))))))))⟩

/-- "turnround/turnroundlaw01.CalendarTiles" -/
def c_law01_CalendarTiles : CF := ⟨[.tmp 6],
  (.seq (.reg false [
⟨some 3, none, .box ty_calendar_Season (.t 0)⟩,
⟨some 6, none, .mv (.k (.d (.bool false)))⟩] [0, 6])
(.seq (.seq (.reg false [
⟨some 25, none, .call false true (.k (.fn n_law01_awake [] [])) []⟩,
⟨some 26, none, .un .not (.t 25)⟩,
⟨some 27, none, .mv (.t 26)⟩,
⟨some 28, (some (27, false)), .load (some 2) (.t 3)⟩,
⟨some 29, (some (27, false)), .call false true (.k (.fn n_ref01_CheckSeason [] [])) [.t 28]⟩,
⟨some 30, (some (27, false)), .bin .neq (.t 29) (.k (.d (.int .i64 0)))⟩,
⟨some 31, none, .pick (.t 27) (.k (.d (.bool true))) (.t 30)⟩,
⟨some 32, none, .mv (.t 31)⟩,
⟨some 33, (some (32, false)), .mv (.t 2)⟩,
⟨some 34, (some (32, false)), .call false true (.k (.fn n_ref01_CheckRange [] [])) [.t 33, .k (.d (.int .i64 2000)), .k (.d (.int .i64 2272))]⟩,
⟨some 35, (some (32, false)), .bin .neq (.t 34) (.k (.d (.int .i64 0)))⟩,
⟨some 36, none, .pick (.t 32) (.k (.d (.bool true))) (.t 35)⟩] [25, 26, 27, 28, 29, 30, 31, 32, 33, 34, 35])
(.cond (.t 36) (.seq (.reg false [
⟨some 37, none, .call false true (.k (.fn n_law01_awake [] [])) []⟩,
⟨some 6, none, .mv (.t 37)⟩] [37])
.ret)
 .skip))
(.seq (.reg false [
⟨some 39, none, .load (some 2) (.t 3)⟩,
⟨some 40, none, .call false true (.k (.fn n_calendar_Span [] [])) [.t 39]⟩,
⟨some 38, none, .mv (.t 40)⟩,
⟨some 41, none, .extract (.t 38) 0⟩,
⟨some 42, none, .extract (.t 38) 1⟩,
⟨some 7, none, .alloc ty_api_Period [.z (.int .i64 0), .z (.int .i64 0), .z (.int .i64 0)]⟩,
⟨none, none, .store 3 (.t 7) (.t 41)⟩,
⟨some 8, none, .mv (.t 42)⟩] [38, 39, 40, 41, 42])
(.seq (.seq (.reg false [
⟨some 43, none, .mv (.t 8)⟩,
⟨some 44, none, .bin .neq (.t 43) (.k (.d (.int .i64 0)))⟩,
⟨some 45, none, .mv (.t 44)⟩,
⟨some 46, (some (45, false)), .load (some 3) (.t 7)⟩,
⟨some 47, (some (45, false)), .call false true (.k (.fn n_ref01_CheckPeriod [] [])) [.t 46]⟩,
⟨some 48, (some (45, false)), .bin .neq (.t 47) (.k (.d (.int .i64 0)))⟩,
⟨some 49, none, .pick (.t 45) (.k (.d (.bool true))) (.t 48)⟩,
⟨some 50, none, .mv (.t 49)⟩,
⟨some 51, (some (50, false)), .fieldAddr 2 (.t 7)⟩,
⟨some 52, (some (50, false)), .load none (.t 51)⟩,
⟨some 53, (some (50, false)), .bin .neq (.t 52) (.k (.d (.int .i64 127)))⟩,
⟨some 54, none, .pick (.t 50) (.k (.d (.bool true))) (.t 53)⟩,
⟨some 55, none, .mv (.t 54)⟩,
⟨some 56, (some (55, false)), .fieldAddr 1 (.t 7)⟩,
⟨some 57, (some (55, false)), .load none (.t 56)⟩,
⟨some 58, (some (55, false)), .bin .add (.t 57) (.k (.d (.int .i64 1)))⟩,
⟨some 59, (some (55, false)), .fieldAddr 0 (.t 7)⟩,
⟨some 60, (some (55, false)), .load none (.t 59)⟩,
⟨some 61, (some (55, false)), .bin .sub (.t 58) (.t 60)⟩,
⟨some 62, (some (55, false)), .bin .rem (.t 61) (.k (.d (.int .i64 7)))⟩,
⟨some 63, (some (55, false)), .bin .neq (.t 62) (.k (.d (.int .i64 0)))⟩,
⟨some 64, none, .pick (.t 55) (.k (.d (.bool true))) (.t 63)⟩,
⟨some 65, none, .mv (.t 64)⟩,
⟨some 66, (some (65, false)), .fieldAddr 1 (.t 7)⟩,
⟨some 67, (some (65, false)), .load none (.t 66)⟩,
⟨some 68, (some (65, false)), .fieldAddr 0 (.t 7)⟩,
⟨some 69, (some (65, false)), .load none (.t 68)⟩,
⟨some 70, (some (65, false)), .bin .sub (.t 67) (.t 69)⟩,
⟨some 71, (some (65, false)), .bin .lss (.t 70) (.k (.d (.int .i64 140)))⟩,
⟨some 72, none, .pick (.t 65) (.k (.d (.bool true))) (.t 71)⟩,
⟨some 73, none, .mv (.t 72)⟩,
⟨some 74, (some (73, false)), .fieldAddr 1 (.t 7)⟩,
⟨some 75, (some (73, false)), .load none (.t 74)⟩,
⟨some 76, (some (73, false)), .fieldAddr 0 (.t 7)⟩,
⟨some 77, (some (73, false)), .load none (.t 76)⟩,
⟨some 78, (some (73, false)), .bin .sub (.t 75) (.t 77)⟩,
⟨some 79, (some (73, false)), .bin .gtr (.t 78) (.k (.d (.int .i64 224)))⟩,
⟨some 80, none, .pick (.t 73) (.k (.d (.bool true))) (.t 79)⟩,
⟨some 81, none, .mv (.t 80)⟩,
⟨some 82, (some (81, false)), .fieldAddr 0 (.t 7)⟩,
⟨some 83, (some (81, false)), .load none (.t 82)⟩,
⟨some 84, (some (81, false)), .bin .add (.t 83) (.k (.d (.int .i64 5)))⟩,
⟨some 85, (some (81, false)), .bin .rem (.t 84) (.k (.d (.int .i64 7)))⟩,
⟨some 86, (some (81, false)), .bin .neq (.t 85) (.k (.d (.int .i64 6)))⟩,
⟨some 87, none, .pick (.t 81) (.k (.d (.bool true))) (.t 86)⟩] [8, 43, 44, 45, 46, 47, 48, 49, 50, 51, 52, 53, 54, 55, 56, 57, 58, 59, 60, 61, 62, 63, 64, 65, 66, 67, 68, 69, 70, 71, 72, 73, 74, 75, 76, 77, 78, 79, 80, 81, 82, 83, 84, 85, 86])
(.cond (.t 87) (.seq (.reg false [
⟨some 6, none, .mv (.k (.d (.bool false)))⟩] [])
.ret)
 .skip))
(.seq (.reg true [
⟨some 88, none, .fieldAddr 0 (.t 7)⟩,
⟨some 89, none, .load none (.t 88)⟩,
⟨some 90, none, .mv (.t 1)⟩,
⟨some 91, none, .conv .i64 (.t 90)⟩,
⟨some 92, none, .fieldAddr 1 (.t 7)⟩,
⟨some 93, none, .load none (.t 92)⟩,
⟨some 94, none, .bin .add (.t 93) (.k (.d (.int .i64 1)))⟩,
⟨some 95, none, .fieldAddr 0 (.t 7)⟩,
⟨some 96, none, .load none (.t 95)⟩,
⟨some 97, none, .bin .sub (.t 94) (.t 96)⟩,
⟨some 98, none, .bin .rem (.t 91) (.t 97)⟩,
⟨some 99, none, .bin .add (.t 89) (.t 98)⟩,
⟨some 9, none, .mv (.t 99)⟩] [1, 88, 89, 90, 91, 92, 93, 94, 95, 96, 97, 98, 99])
(.seq (.reg false [
⟨some 101, none, .mv (.t 9)⟩,
⟨some 102, none, .call false true (.k (.fn n_calendar_SeasonOf [] [])) [.t 101]⟩,
⟨some 100, none, .mv (.t 102)⟩,
⟨some 103, none, .extract (.t 100) 0⟩,
⟨some 104, none, .extract (.t 100) 1⟩,
⟨some 10, none, .alloc ty_calendar_Season [.z (.int .i64 0), .z (.str [])]⟩,
⟨none, none, .store 2 (.t 10) (.t 103)⟩,
⟨some 11, none, .mv (.t 104)⟩] [100, 101, 102, 103, 104])
(.seq (.seq (.reg false [
⟨some 105, none, .mv (.t 11)⟩,
⟨some 106, none, .bin .neq (.t 105) (.k (.d (.int .i64 0)))⟩,
⟨some 107, none, .mv (.t 106)⟩,
⟨some 108, (some (107, false)), .load (some 2) (.t 10)⟩,
⟨some 109, (some (107, false)), .load (some 2) (.t 3)⟩,
⟨some 110, (some (107, false)), .eqv (some [.int, .str]) true (.t 108) (.t 109)⟩,
⟨some 111, none, .pick (.t 107) (.k (.d (.bool true))) (.t 110)⟩] [10, 11, 105, 106, 107, 108, 109, 110])
(.cond (.t 111) (.seq (.reg false [
⟨some 6, none, .mv (.k (.d (.bool false)))⟩] [])
.ret)
 .skip))
(.seq (.reg false [
⟨some 113, none, .load (some 2) (.t 3)⟩,
⟨some 114, none, .call false true (.k (.fn n_calendar_Next [] [])) [.t 113]⟩,
⟨some 112, none, .mv (.t 114)⟩,
⟨some 115, none, .extract (.t 112) 0⟩,
⟨some 116, none, .extract (.t 112) 1⟩,
⟨some 12, none, .alloc ty_calendar_Season [.z (.int .i64 0), .z (.str [])]⟩,
⟨none, none, .store 2 (.t 12) (.t 115)⟩,
⟨some 13, none, .mv (.t 116)⟩] [112, 113, 114, 115, 116])
(.seq (.seq (.reg false [
⟨some 117, none, .mv (.t 13)⟩,
⟨some 118, none, .bin .eql (.t 117) (.k (.d (.int .i64 0)))⟩] [117])
(.cond (.t 118) (.seq (.reg false [
⟨some 120, none, .load (some 2) (.t 12)⟩,
⟨some 121, none, .call false true (.k (.fn n_calendar_Span [] [])) [.t 120]⟩,
⟨some 119, none, .mv (.t 121)⟩,
⟨some 122, none, .extract (.t 119) 0⟩,
⟨some 123, none, .extract (.t 119) 1⟩,
⟨some 14, none, .alloc ty_api_Period [.z (.int .i64 0), .z (.int .i64 0), .z (.int .i64 0)]⟩,
⟨none, none, .store 3 (.t 14) (.t 122)⟩,
⟨some 15, none, .mv (.t 123)⟩] [119, 120, 121, 122, 123])
(.seq (.reg false [
⟨some 125, none, .load (some 2) (.t 12)⟩,
⟨some 126, none, .call false true (.k (.fn n_calendar_Previous [] [])) [.t 125]⟩,
⟨some 124, none, .mv (.t 126)⟩,
⟨some 127, none, .extract (.t 124) 0⟩,
⟨some 128, none, .extract (.t 124) 1⟩,
⟨some 16, none, .alloc ty_calendar_Season [.z (.int .i64 0), .z (.str [])]⟩,
⟨none, none, .store 2 (.t 16) (.t 127)⟩,
⟨some 17, none, .mv (.t 128)⟩] [12, 124, 125, 126, 127, 128])
(.seq (.reg false [
⟨some 129, none, .mv (.t 15)⟩,
⟨some 130, none, .mv (.t 17)⟩,
⟨some 131, none, .bin .add (.t 129) (.t 130)⟩,
⟨some 132, none, .bin .neq (.t 131) (.k (.d (.int .i64 0)))⟩,
⟨some 133, none, .mv (.t 132)⟩,
⟨some 134, (some (133, false)), .fieldAddr 0 (.t 14)⟩,
⟨some 135, (some (133, false)), .load none (.t 134)⟩,
⟨some 136, (some (133, false)), .fieldAddr 1 (.t 7)⟩,
⟨some 137, (some (133, false)), .load none (.t 136)⟩,
⟨some 138, (some (133, false)), .bin .add (.t 137) (.k (.d (.int .i64 1)))⟩,
⟨some 139, (some (133, false)), .bin .neq (.t 135) (.t 138)⟩,
⟨some 140, none, .pick (.t 133) (.k (.d (.bool true))) (.t 139)⟩,
⟨some 141, none, .mv (.t 140)⟩,
⟨some 142, (some (141, false)), .load (some 2) (.t 16)⟩,
⟨some 143, (some (141, false)), .load (some 2) (.t 3)⟩,
⟨some 144, (some (141, false)), .eqv (some [.int, .str]) true (.t 142) (.t 143)⟩,
⟨some 145, none, .pick (.t 141) (.k (.d (.bool true))) (.t 144)⟩] [14, 15, 16, 17, 129, 130, 131, 132, 133, 134, 135, 136, 137, 138, 139, 140, 141, 142, 143, 144])
(.cond (.t 145) (.seq (.reg false [
⟨some 6, none, .mv (.k (.d (.bool false)))⟩] [])
.ret)
 .skip))))
 (.seq (.reg false [
⟨some 146, none, .mv (.t 13)⟩,
⟨some 147, none, .bin .neq (.t 146) (.k (.d (.int .i64 7)))⟩,
⟨some 148, none, .mv (.t 147)⟩,
⟨some 149, (some (148, false)), .load (some 2) (.t 3)⟩,
⟨some 150, (some (148, false)), .build [.z (.int .i64 0), .z (.str [])] [(0, 1, .k (.d (.int .i64 2272))), (1, 1, .k (.d (.str [87])))]⟩,
⟨some 151, (some (148, false)), .eqv (some [.int, .str]) true (.t 149) (.t 150)⟩,
⟨some 152, none, .pick (.t 148) (.k (.d (.bool true))) (.t 151)⟩] [13, 146, 147, 148, 149, 150, 151])
(.cond (.t 152) (.seq (.reg false [
⟨some 6, none, .mv (.k (.d (.bool false)))⟩] [])
.ret)
 .skip))))
(.seq (.reg false [
⟨some 153, none, .mv (.t 2)⟩,
⟨some 154, none, .fieldAddr 1 (.t 3)⟩,
⟨some 155, none, .load none (.t 154)⟩,
⟨some 156, none, .build [.z (.int .i64 0), .z (.str [])] [(0, 1, .t 153), (1, 1, .t 155)]⟩,
⟨some 18, none, .alloc ty_calendar_Season [.z (.int .i64 0), .z (.str [])]⟩,
⟨none, none, .store 2 (.t 18) (.t 156)⟩] [2, 153, 154, 155, 156])
(.seq (.reg false [
⟨some 158, none, .mv (.t 9)⟩,
⟨some 159, none, .load (some 2) (.t 18)⟩,
⟨some 160, none, .call false true (.k (.fn n_calendar_Equivalent [] [])) [.t 158, .t 159]⟩,
⟨some 157, none, .mv (.t 160)⟩,
⟨some 161, none, .extract (.t 157) 0⟩,
⟨some 162, none, .extract (.t 157) 1⟩,
⟨some 19, none, .mv (.t 161)⟩,
⟨some 20, none, .mv (.t 162)⟩] [157, 158, 159, 160, 161, 162])
(.seq (.seq (.reg false [
⟨some 163, none, .mv (.t 20)⟩,
⟨some 164, none, .bin .neq (.t 163) (.k (.d (.int .i64 0)))⟩] [163])
(.cond (.t 164) (.seq (.reg false [
⟨some 165, none, .mv (.t 20)⟩,
⟨some 166, none, .bin .eql (.t 165) (.k (.d (.int .i64 7)))⟩,
⟨some 167, none, .mv (.t 166)⟩,
⟨some 168, (some (167, true)), .mv (.t 9)⟩,
⟨some 169, (some (167, true)), .fieldAddr 0 (.t 7)⟩,
⟨some 170, (some (167, true)), .load none (.t 169)⟩,
⟨some 171, (some (167, true)), .bin .sub (.t 168) (.t 170)⟩,
⟨some 172, (some (167, true)), .bin .geq (.t 171) (.k (.d (.int .i64 147)))⟩,
⟨some 173, none, .pick (.t 167) (.t 172) (.k (.d (.bool false)))⟩,
⟨some 6, none, .mv (.t 173)⟩] [7, 9, 20, 165, 166, 167, 168, 169, 170, 171, 172, 173])
.ret)
 .skip))
(.seq (.reg false [
⟨some 175, none, .mv (.t 19)⟩,
⟨some 176, none, .load (some 2) (.t 3)⟩,
⟨some 177, none, .call false true (.k (.fn n_calendar_Equivalent [] [])) [.t 175, .t 176]⟩,
⟨some 174, none, .mv (.t 177)⟩,
⟨some 178, none, .extract (.t 174) 0⟩,
⟨some 179, none, .extract (.t 174) 1⟩,
⟨some 21, none, .mv (.t 178)⟩,
⟨some 22, none, .mv (.t 179)⟩] [3, 174, 175, 176, 177, 178, 179])
(.seq (.reg false [
⟨some 181, none, .mv (.t 19)⟩,
⟨some 182, none, .call false true (.k (.fn n_calendar_SeasonOf [] [])) [.t 181]⟩,
⟨some 180, none, .mv (.t 182)⟩,
⟨some 183, none, .extract (.t 180) 0⟩,
⟨some 184, none, .extract (.t 180) 1⟩,
⟨some 23, none, .alloc ty_calendar_Season [.z (.int .i64 0), .z (.str [])]⟩,
⟨none, none, .store 2 (.t 23) (.t 183)⟩,
⟨some 24, none, .mv (.t 184)⟩] [180, 181, 182, 183, 184])
(.seq (.reg false [
⟨some 185, none, .mv (.t 22)⟩,
⟨some 186, none, .mv (.t 24)⟩,
⟨some 187, none, .bin .add (.t 185) (.t 186)⟩,
⟨some 188, none, .bin .eql (.t 187) (.k (.d (.int .i64 0)))⟩,
⟨some 189, none, .mv (.t 188)⟩,
⟨some 190, (some (189, true)), .mv (.t 21)⟩,
⟨some 191, (some (189, true)), .mv (.t 9)⟩,
⟨some 192, (some (189, true)), .bin .eql (.t 190) (.t 191)⟩,
⟨some 193, none, .pick (.t 189) (.t 192) (.k (.d (.bool false)))⟩,
⟨some 194, none, .mv (.t 193)⟩,
⟨some 195, (some (194, true)), .load (some 2) (.t 23)⟩,
⟨some 196, (some (194, true)), .load (some 2) (.t 18)⟩,
⟨some 197, (some (194, true)), .eqv (some [.int, .str]) false (.t 195) (.t 196)⟩,
⟨some 198, none, .pick (.t 194) (.t 197) (.k (.d (.bool false)))⟩,
⟨some 199, none, .mv (.t 198)⟩,
⟨some 200, (some (199, true)), .mv (.t 19)⟩,
⟨some 201, (some (199, true)), .mv (.t 9)⟩,
⟨some 202, (some (199, true)), .bin .sub (.t 200) (.t 201)⟩,
⟨some 203, (some (199, true)), .bin .rem (.t 202) (.k (.d (.int .i64 7)))⟩,
⟨some 204, (some (199, true)), .bin .eql (.t 203) (.k (.d (.int .i64 0)))⟩,
⟨some 205, none, .pick (.t 199) (.t 204) (.k (.d (.bool false)))⟩,
⟨some 6, none, .mv (.t 205)⟩] [9, 18, 19, 21, 22, 23, 24, 185, 186, 187, 188, 189, 190, 191, 192, 193, 194, 195, 196, 197, 198, 199, 200, 201, 202, 203, 204, 205])
.ret)))))))))))))))⟩

/-- "turnround/turnroundlaw01.awake" -/
def c_law01_awake : CF := ⟨[.tmp 0],
  (.seq (.reg false [
⟨some 0, none, .mv (.k (.d (.bool false)))⟩] [0])
(.seq (.reg false [
⟨some 36, none, .call false true (.k (.fn n_calendar_Day [] [])) [.k (.d (.int .i64 2026)), .k (.d (.int .i64 3)), .k (.d (.int .i64 29))]⟩,
⟨some 35, none, .mv (.t 36)⟩,
⟨some 37, none, .extract (.t 35) 0⟩,
⟨some 38, none, .extract (.t 35) 1⟩,
⟨some 1, none, .mv (.t 37)⟩,
⟨some 2, none, .mv (.t 38)⟩] [35, 36, 37, 38])
(.seq (.reg false [
⟨some 40, none, .call false true (.k (.fn n_calendar_Weekday [] [])) [.k (.d (.int .i64 9584))]⟩,
⟨some 39, none, .mv (.t 40)⟩,
⟨some 41, none, .extract (.t 39) 0⟩,
⟨some 42, none, .extract (.t 39) 1⟩,
⟨some 3, none, .mv (.t 41)⟩,
⟨some 4, none, .mv (.t 42)⟩] [39, 40, 41, 42])
(.seq (.reg false [
⟨some 44, none, .call false true (.k (.fn n_calendar_PrintDate [] [])) [.k (.d (.int .i64 59))]⟩,
⟨some 43, none, .mv (.t 44)⟩,
⟨some 45, none, .extract (.t 43) 0⟩,
⟨some 46, none, .extract (.t 43) 1⟩,
⟨some 5, none, .mv (.t 45)⟩,
⟨some 6, none, .mv (.t 46)⟩] [43, 44, 45, 46])
(.seq (.reg false [
⟨some 48, none, .call false true (.k (.fn n_calendar_Day [] [])) [.k (.d (.int .i64 2026)), .k (.d (.int .i64 2)), .k (.d (.int .i64 30))]⟩,
⟨some 47, none, .mv (.t 48)⟩,
⟨some 49, none, .extract (.t 47) 0⟩,
⟨some 50, none, .extract (.t 47) 1⟩,
⟨some 7, none, .mv (.t 49)⟩,
⟨some 8, none, .mv (.t 50)⟩] [7, 47, 48, 49, 50])
(.seq (.reg false [
⟨some 52, none, .build [.z (.int .i64 0), .z (.int .i64 0), .z (.int .i64 0)] [(0, 1, .k (.d (.int .i64 0))), (1, 1, .k (.d (.int .i64 9))), (2, 1, .k (.d (.int .i64 96)))]⟩,
⟨some 53, none, .call false true (.k (.fn n_calendar_DaysOf [] [])) [.t 52]⟩,
⟨some 51, none, .mv (.t 53)⟩,
⟨some 54, none, .extract (.t 51) 0⟩,
⟨some 55, none, .extract (.t 51) 1⟩,
⟨some 9, none, .mv (.t 54)⟩,
⟨some 10, none, .mv (.t 55)⟩] [51, 52, 53, 54, 55])
(.seq (.reg false [
⟨some 57, none, .build [.z (.int .i64 0), .z (.int .i64 0), .z (.int .i64 0)] [(0, 1, .k (.d (.int .i64 0))), (1, 1, .k (.d (.int .i64 9))), (2, 1, .k (.d (.int .i64 96)))]⟩,
⟨some 58, none, .build [.z (.int .i64 0), .z (.int .i64 0), .z (.int .i64 0)] [(0, 1, .k (.d (.int .i64 1))), (1, 1, .k (.d (.int .i64 8))), (2, 1, .k (.d (.int .i64 64)))]⟩,
⟨some 59, none, .call false true (.k (.fn n_calendar_Meet [] [])) [.t 57, .t 58]⟩,
⟨some 56, none, .mv (.t 59)⟩,
⟨some 60, none, .extract (.t 56) 0⟩,
⟨some 61, none, .extract (.t 56) 1⟩,
⟨some 11, none, .mv (.t 60)⟩,
⟨some 12, none, .mv (.t 61)⟩] [56, 57, 58, 59, 60, 61])
(.seq (.reg false [
⟨some 63, none, .build [.z (.int .i64 0), .z (.int .i64 0), .z (.int .i64 0)] [(0, 1, .k (.d (.int .i64 0))), (1, 1, .k (.d (.int .i64 9))), (2, 1, .k (.d (.int .i64 96)))]⟩,
⟨some 64, none, .call false true (.k (.fn n_calendar_Shift [] [])) [.t 63, .k (.d (.int .i64 2))]⟩,
⟨some 62, none, .mv (.t 64)⟩,
⟨some 65, none, .extract (.t 62) 0⟩,
⟨some 66, none, .extract (.t 62) 1⟩,
⟨some 13, none, .alloc ty_api_Period [.z (.int .i64 0), .z (.int .i64 0), .z (.int .i64 0)]⟩,
⟨none, none, .store 3 (.t 13) (.t 65)⟩,
⟨some 14, none, .mv (.t 66)⟩] [62, 63, 64, 65, 66])
(.seq (.reg false [
⟨some 68, none, .mkList 1 4 [.k (.d (.int .i64 0)), .k (.d (.int .i64 1)), .k (.d (.int .i64 7)), .k (.d (.int .i64 8))]⟩,
⟨some 69, none, .call false true (.k (.fn n_calendar_Join [] [])) [.t 68]⟩,
⟨some 67, none, .mv (.t 69)⟩,
⟨some 70, none, .extract (.t 67) 0⟩,
⟨some 71, none, .extract (.t 67) 1⟩,
⟨some 15, none, .mv (.t 70)⟩,
⟨some 16, none, .mv (.t 71)⟩] [67, 68, 69, 70, 71])
(.seq (.reg false [
⟨some 73, none, .call false true (.k (.fn n_calendar_PrintMask [] [])) [.k (.d (.int .i64 96))]⟩,
⟨some 72, none, .mv (.t 73)⟩,
⟨some 74, none, .extract (.t 72) 0⟩,
⟨some 75, none, .extract (.t 72) 1⟩,
⟨some 17, none, .mv (.t 74)⟩,
⟨some 18, none, .mv (.t 75)⟩] [72, 73, 74, 75])
(.seq (.seq (.reg false [
⟨some 76, none, .mv (.t 2)⟩,
⟨some 77, none, .mv (.t 4)⟩,
⟨some 78, none, .bin .add (.t 76) (.t 77)⟩,
⟨some 79, none, .mv (.t 6)⟩,
⟨some 80, none, .bin .add (.t 78) (.t 79)⟩,
⟨some 81, none, .mv (.t 10)⟩,
⟨some 82, none, .bin .add (.t 80) (.t 81)⟩,
⟨some 83, none, .mv (.t 12)⟩,
⟨some 84, none, .bin .add (.t 82) (.t 83)⟩,
⟨some 85, none, .mv (.t 14)⟩,
⟨some 86, none, .bin .add (.t 84) (.t 85)⟩,
⟨some 87, none, .mv (.t 16)⟩,
⟨some 88, none, .bin .add (.t 86) (.t 87)⟩,
⟨some 89, none, .mv (.t 18)⟩,
⟨some 90, none, .bin .add (.t 88) (.t 89)⟩,
⟨some 91, none, .bin .neq (.t 90) (.k (.d (.int .i64 0)))⟩,
⟨some 92, none, .mv (.t 91)⟩,
⟨some 93, (some (92, false)), .mv (.t 1)⟩,
⟨some 94, (some (92, false)), .bin .neq (.t 93) (.k (.d (.int .i64 9584)))⟩,
⟨some 95, none, .pick (.t 92) (.k (.d (.bool true))) (.t 94)⟩,
⟨some 96, none, .mv (.t 95)⟩,
⟨some 97, (some (96, false)), .mv (.t 3)⟩,
⟨some 98, (some (96, false)), .bin .neq (.t 97) (.k (.d (.int .i64 6)))⟩,
⟨some 99, none, .pick (.t 96) (.k (.d (.bool true))) (.t 98)⟩,
⟨some 100, none, .mv (.t 99)⟩,
⟨some 101, (some (100, false)), .mv (.t 5)⟩,
⟨some 102, (some (100, false)), .bin .neq (.t 101) (.k (.d (.str [50, 48, 48, 48, 45, 48, 50, 45, 50, 57])))⟩,
⟨some 103, none, .pick (.t 100) (.k (.d (.bool true))) (.t 102)⟩,
⟨some 104, none, .mv (.t 103)⟩,
⟨some 105, (some (104, false)), .mv (.t 8)⟩,
⟨some 106, (some (104, false)), .bin .neq (.t 105) (.k (.d (.int .i64 7)))⟩,
⟨some 107, none, .pick (.t 104) (.k (.d (.bool true))) (.t 106)⟩,
⟨some 108, none, .mv (.t 107)⟩,
⟨some 109, (some (108, false)), .mv (.t 9)⟩,
⟨some 110, (some (108, false)), .mkList 1 4 [.k (.d (.int .i64 0)), .k (.d (.int .i64 1)), .k (.d (.int .i64 7)), .k (.d (.int .i64 8))]⟩,
⟨some 111, (some (108, false)), .call false true (.k (.fn n_ref01_SameInts [] [])) [.t 109, .t 110]⟩,
⟨some 112, (some (108, false)), .un .not (.t 111)⟩,
⟨some 113, none, .pick (.t 108) (.k (.d (.bool true))) (.t 112)⟩,
⟨some 114, none, .mv (.t 113)⟩,
⟨some 115, (some (114, false)), .mv (.t 11)⟩,
⟨some 116, (some (114, false)), .mkList 1 2 [.k (.d (.int .i64 1)), .k (.d (.int .i64 8))]⟩,
⟨some 117, (some (114, false)), .call false true (.k (.fn n_ref01_SameInts [] [])) [.t 115, .t 116]⟩,
⟨some 118, (some (114, false)), .un .not (.t 117)⟩,
⟨some 119, none, .pick (.t 114) (.k (.d (.bool true))) (.t 118)⟩,
⟨some 120, none, .mv (.t 119)⟩,
⟨some 121, (some (120, false)), .load (some 3) (.t 13)⟩,
⟨some 122, (some (120, false)), .build [.z (.int .i64 0), .z (.int .i64 0), .z (.int .i64 0)] [(0, 1, .k (.d (.int .i64 2))), (1, 1, .k (.d (.int .i64 11))), (2, 1, .k (.d (.int .i64 3)))]⟩,
⟨some 123, (some (120, false)), .eqv (some [.int, .int, .int]) true (.t 121) (.t 122)⟩,
⟨some 124, none, .pick (.t 120) (.k (.d (.bool true))) (.t 123)⟩,
⟨some 125, none, .mv (.t 124)⟩,
⟨some 126, (some (125, false)), .mv (.t 15)⟩,
⟨some 127, (some (125, false)), .build [.z (.int .i64 0), .z (.int .i64 0), .z (.int .i64 0)] [(0, 1, .k (.d (.int .i64 0))), (1, 1, .k (.d (.int .i64 8))), (2, 1, .k (.d (.int .i64 96)))]⟩,
⟨some 128, (some (125, false)), .mkList 3 1 [.t 127]⟩,
⟨some 129, (some (125, false)), .call false true (.k (.fn n_ref01_SamePeriods [] [])) [.t 126, .t 128]⟩,
⟨some 130, (some (125, false)), .un .not (.t 129)⟩,
⟨some 131, none, .pick (.t 125) (.k (.d (.bool true))) (.t 130)⟩,
⟨some 132, none, .mv (.t 131)⟩,
⟨some 133, (some (132, false)), .mv (.t 17)⟩,
⟨some 134, (some (132, false)), .bin .neq (.t 133) (.k (.d (.str [48, 48, 48, 48, 48, 54, 55])))⟩,
⟨some 135, none, .pick (.t 132) (.k (.d (.bool true))) (.t 134)⟩] [1, 2, 3, 4, 5, 6, 8, 9, 10, 11, 12, 13, 14, 15, 16, 17, 18, 76, 77, 78, 79, 80, 81, 82, 83, 84, 85, 86, 87, 88, 89, 90, 91, 92, 93, 94, 95, 96, 97, 98, 99, 100, 101, 102, 103, 104, 105, 106, 107, 108, 109, 110, 111, 112, 113, 114, 115, 116, 117, 118, 119, 120, 121, 122, 123, 124, 125, 126, 127, 128, 129, 130, 131, 132, 133, 134])
(.cond (.t 135) (.seq (.reg false [
⟨some 0, none, .mv (.k (.d (.bool false)))⟩] [])
.ret)
 .skip))
(.seq (.reg false [
⟨some 137, none, .build [.z (.int .i64 0), .z (.str [])] [(0, 1, .k (.d (.int .i64 2026))), (1, 1, .k (.d (.str [83])))]⟩,
⟨some 138, none, .call false true (.k (.fn n_calendar_Span [] [])) [.t 137]⟩,
⟨some 136, none, .mv (.t 138)⟩,
⟨some 139, none, .extract (.t 136) 0⟩,
⟨some 140, none, .extract (.t 136) 1⟩,
⟨some 19, none, .alloc ty_api_Period [.z (.int .i64 0), .z (.int .i64 0), .z (.int .i64 0)]⟩,
⟨none, none, .store 3 (.t 19) (.t 139)⟩,
⟨some 20, none, .mv (.t 140)⟩] [136, 137, 138, 139, 140])
(.seq (.reg false [
⟨some 142, none, .build [.z (.int .i64 0), .z (.str [])] [(0, 1, .k (.d (.int .i64 2025))), (1, 1, .k (.d (.str [83])))]⟩,
⟨some 143, none, .call false true (.k (.fn n_calendar_Equivalent [] [])) [.k (.d (.int .i64 9594)), .t 142]⟩,
⟨some 141, none, .mv (.t 143)⟩,
⟨some 144, none, .extract (.t 141) 0⟩,
⟨some 145, none, .extract (.t 141) 1⟩,
⟨some 21, none, .mv (.t 144)⟩,
⟨some 22, none, .mv (.t 145)⟩] [141, 142, 143, 144, 145])
(.seq (.reg false [
⟨some 147, none, .call false true (.k (.fn n_calendar_Summer [] [])) [.k (.d (.int .i64 60)), .k (.d (.int .i64 2026)), .k (.d (.int .i64 2026))]⟩,
⟨some 146, none, .mv (.t 147)⟩,
⟨some 148, none, .extract (.t 146) 0⟩,
⟨some 149, none, .extract (.t 146) 1⟩,
⟨some 23, none, .alloc ty_calendar_Zone [.z (.int .i64 0), .z (.list 0 [])]⟩,
⟨none, none, .store 2 (.t 23) (.t 148)⟩,
⟨some 24, none, .mv (.t 149)⟩] [146, 147, 148, 149])
(.seq (.reg false [
⟨some 151, none, .load (some 2) (.t 23)⟩,
⟨some 152, none, .call false true (.k (.fn n_calendar_Local [] [])) [.t 151, .k (.d (.int .i64 13801019))]⟩,
⟨some 150, none, .mv (.t 152)⟩,
⟨some 153, none, .extract (.t 150) 0⟩,
⟨some 154, none, .extract (.t 150) 1⟩,
⟨some 25, none, .mv (.t 153)⟩,
⟨some 26, none, .mv (.t 154)⟩] [150, 151, 152, 153, 154])
(.seq (.reg false [
⟨some 156, none, .load (some 2) (.t 23)⟩,
⟨some 157, none, .call false true (.k (.fn n_calendar_Local [] [])) [.t 156, .k (.d (.int .i64 13801020))]⟩,
⟨some 155, none, .mv (.t 157)⟩,
⟨some 158, none, .extract (.t 155) 0⟩,
⟨some 159, none, .extract (.t 155) 1⟩,
⟨some 27, none, .mv (.t 158)⟩,
⟨some 28, none, .mv (.t 159)⟩] [155, 156, 157, 158, 159])
(.seq (.reg false [
⟨some 161, none, .load (some 2) (.t 23)⟩,
⟨some 162, none, .call false true (.k (.fn n_calendar_Universal [] [])) [.t 161, .k (.d (.int .i64 13801100))]⟩,
⟨some 160, none, .mv (.t 162)⟩,
⟨some 163, none, .extract (.t 160) 0⟩,
⟨some 164, none, .extract (.t 160) 1⟩,
⟨some 29, none, .mv (.t 163)⟩,
⟨some 30, none, .mv (.t 164)⟩] [29, 160, 161, 162, 163, 164])
(.seq (.reg false [
⟨some 166, none, .load (some 2) (.t 23)⟩,
⟨some 167, none, .call false true (.k (.fn n_calendar_Universal [] [])) [.t 166, .k (.d (.int .i64 14103510))]⟩,
⟨some 165, none, .mv (.t 167)⟩,
⟨some 168, none, .extract (.t 165) 0⟩,
⟨some 169, none, .extract (.t 165) 1⟩,
⟨some 31, none, .mv (.t 168)⟩,
⟨some 32, none, .mv (.t 169)⟩] [165, 166, 167, 168, 169])
(.seq (.reg false [
⟨some 171, none, .call false true (.k (.fn n_calendar_Draw [] [])) [.k (.d (.int .i64 1)), .k (.d (.int .i64 3))]⟩,
⟨some 170, none, .mv (.t 171)⟩,
⟨some 172, none, .extract (.t 170) 0⟩,
⟨some 173, none, .extract (.t 170) 1⟩,
⟨some 33, none, .mv (.t 172)⟩,
⟨some 34, none, .mv (.t 173)⟩] [170, 171, 172, 173])
(.seq (.seq (.reg false [
⟨some 174, none, .mv (.t 20)⟩,
⟨some 175, none, .mv (.t 22)⟩,
⟨some 176, none, .bin .add (.t 174) (.t 175)⟩,
⟨some 177, none, .mv (.t 24)⟩,
⟨some 178, none, .bin .add (.t 176) (.t 177)⟩,
⟨some 179, none, .mv (.t 26)⟩,
⟨some 180, none, .bin .add (.t 178) (.t 179)⟩,
⟨some 181, none, .mv (.t 28)⟩,
⟨some 182, none, .bin .add (.t 180) (.t 181)⟩,
⟨some 183, none, .mv (.t 32)⟩,
⟨some 184, none, .bin .add (.t 182) (.t 183)⟩,
⟨some 185, none, .mv (.t 34)⟩,
⟨some 186, none, .bin .add (.t 184) (.t 185)⟩,
⟨some 187, none, .bin .neq (.t 186) (.k (.d (.int .i64 0)))⟩,
⟨some 188, none, .mv (.t 187)⟩,
⟨some 189, (some (188, false)), .fieldAddr 1 (.t 23)⟩,
⟨some 190, (some (188, false)), .load none (.t 189)⟩,
⟨some 191, (some (188, false)), .len .slc (.t 190)⟩,
⟨some 192, (some (188, false)), .bin .neq (.t 191) (.k (.d (.int .i64 2)))⟩,
⟨some 193, none, .pick (.t 188) (.k (.d (.bool true))) (.t 192)⟩,
⟨some 194, none, .mv (.t 193)⟩,
⟨some 195, (some (194, false)), .fieldAddr 1 (.t 23)⟩,
⟨some 196, (some (194, false)), .load none (.t 195)⟩,
⟨some 197, (some (194, false)), .idxAddr 2 (.t 196) (.k (.d (.int .i64 1)))⟩,
⟨some 198, (some (194, false)), .load (some 2) (.t 197)⟩,
⟨some 199, (some (194, false)), .build [.z (.int .i64 0), .z (.int .i64 0)] [(0, 1, .k (.d (.int .i64 14103420))), (1, 1, .k (.d (.int .i64 60)))]⟩,
⟨some 200, (some (194, false)), .eqv (some [.int, .int]) true (.t 198) (.t 199)⟩,
⟨some 201, none, .pick (.t 194) (.k (.d (.bool true))) (.t 200)⟩] [20, 22, 23, 24, 26, 28, 32, 34, 174, 175, 176, 177, 178, 179, 180, 181, 182, 183, 184, 185, 186, 187, 188, 189, 190, 191, 192, 193, 194, 195, 196, 197, 198, 199, 200])
(.cond (.t 201) (.seq (.reg false [
⟨some 0, none, .mv (.k (.d (.bool false)))⟩] [])
.ret)
 .skip))
(.seq (.reg false [
⟨some 202, none, .load (some 3) (.t 19)⟩,
⟨some 203, none, .build [.z (.int .i64 0), .z (.int .i64 0), .z (.int .i64 0)] [(0, 1, .k (.d (.int .i64 9584))), (1, 1, .k (.d (.int .i64 9793))), (2, 1, .k (.d (.int .i64 127)))]⟩,
⟨some 204, none, .eqv (some [.int, .int, .int]) false (.t 202) (.t 203)⟩,
⟨some 205, none, .mv (.t 204)⟩,
⟨some 206, (some (205, true)), .mv (.t 21)⟩,
⟨some 207, (some (205, true)), .bin .eql (.t 206) (.k (.d (.int .i64 9230)))⟩,
⟨some 208, none, .pick (.t 205) (.t 207) (.k (.d (.bool false)))⟩,
⟨some 209, none, .mv (.t 208)⟩,
⟨some 210, (some (209, true)), .mv (.t 25)⟩,
⟨some 211, (some (209, true)), .bin .eql (.t 210) (.k (.d (.int .i64 13801079)))⟩,
⟨some 212, none, .pick (.t 209) (.t 211) (.k (.d (.bool false)))⟩,
⟨some 213, none, .mv (.t 212)⟩,
⟨some 214, (some (213, true)), .mv (.t 27)⟩,
⟨some 215, (some (213, true)), .bin .eql (.t 214) (.k (.d (.int .i64 13801140)))⟩,
⟨some 216, none, .pick (.t 213) (.t 215) (.k (.d (.bool false)))⟩,
⟨some 217, none, .mv (.t 216)⟩,
⟨some 218, (some (217, true)), .mv (.t 30)⟩,
⟨some 219, (some (217, true)), .bin .eql (.t 218) (.k (.d (.int .i64 7)))⟩,
⟨some 220, none, .pick (.t 217) (.t 219) (.k (.d (.bool false)))⟩,
⟨some 221, none, .mv (.t 220)⟩,
⟨some 222, (some (221, true)), .mv (.t 31)⟩,
⟨some 223, (some (221, true)), .mkList 1 2 [.k (.d (.int .i64 14103390)), .k (.d (.int .i64 14103450))]⟩,
⟨some 224, (some (221, true)), .call false true (.k (.fn n_ref01_SameInts [] [])) [.t 222, .t 223]⟩,
⟨some 225, none, .pick (.t 221) (.t 224) (.k (.d (.bool false)))⟩,
⟨some 226, none, .mv (.t 225)⟩,
⟨some 227, (some (226, true)), .mv (.t 33)⟩,
⟨some 228, (some (226, true)), .mkList 1 3 [.k (.d (.int .i64 2)), .k (.d (.int .i64 0)), .k (.d (.int .i64 1))]⟩,
⟨some 229, (some (226, true)), .call false true (.k (.fn n_ref01_SameInts [] [])) [.t 227, .t 228]⟩,
⟨some 230, none, .pick (.t 226) (.t 229) (.k (.d (.bool false)))⟩,
⟨some 0, none, .mv (.t 230)⟩] [19, 21, 25, 27, 30, 31, 33, 202, 203, 204, 205, 206, 207, 208, 209, 210, 211, 212, 213, 214, 215, 216, 217, 218, 219, 220, 221, 222, 223, 224, 225, 226, 227, 228, 229, 230])
.ret)))))))))))))))))))))⟩

def b_calendar_Join_1 : C :=
  (.seq (.reg false [
⟨some 22, none, .bin .lss (.t 21) (.t 20)⟩] [])
(.seq (.cond (.t 22) .skip
 (.exit 0))
(.seq (.block 1 (.seq (.reg false [
⟨some 23, none, .mv (.t 21)⟩,
⟨some 24, none, .idxAddr 1 (.t 19) (.t 21)⟩,
⟨some 25, none, .load none (.t 24)⟩,
⟨some 4, none, .mv (.t 23)⟩,
⟨some 5, none, .mv (.t 25)⟩] [23, 24, 25])
(.seq (.reg false [
⟨some 26, none, .mv (.t 5)⟩,
⟨some 27, none, .call false true (.k (.fn n_calendar_checkDay [] [])) [.t 26]⟩,
⟨some 28, none, .mv (.t 4)⟩,
⟨some 29, none, .bin .gtr (.t 28) (.k (.d (.int .i64 0)))⟩,
⟨some 30, none, .mv (.t 29)⟩,
⟨some 31, (some (30, true)), .mv (.t 5)⟩,
⟨some 32, (some (30, true)), .mv (.t 0)⟩,
⟨some 33, (some (30, true)), .mv (.t 4)⟩,
⟨some 34, (some (30, true)), .bin .sub (.t 33) (.k (.d (.int .i64 1)))⟩,
⟨some 35, (some (30, true)), .minmax true [.k (.d (.int .i64 0)), .t 34]⟩,
⟨some 36, (some (30, true)), .idxAddr 1 (.t 32) (.t 35)⟩,
⟨some 37, (some (30, true)), .load none (.t 36)⟩,
⟨some 38, (some (30, true)), .bin .leq (.t 31) (.t 37)⟩,
⟨some 39, none, .pick (.t 30) (.t 38) (.k (.d (.bool false)))⟩,
⟨some 40, none, .call false true (.k (.fn n_calendar_when [] [])) [.t 39, .k (.d (.int .i64 11))]⟩,
⟨some 41, none, .mkList 1 2 [.t 27, .t 40]⟩,
⟨some 42, none, .call false true (.k (.fn n_calendar_first [] [])) [.t 41]⟩,
⟨some 6, none, .mv (.t 42)⟩] [4, 5, 26, 27, 28, 29, 30, 31, 32, 33, 34, 35, 36, 37, 38, 39, 40, 41, 42])
(.seq (.reg false [
⟨some 43, none, .mv (.t 6)⟩,
⟨some 44, none, .bin .neq (.t 43) (.k (.d (.int .i64 0)))⟩] [43])
(.cond (.t 44) (.seq (.reg false [
⟨some 45, none, .mv (.t 6)⟩,
⟨some 2, none, .mv (.k (.d (.list 0 [])))⟩,
⟨some 3, none, .mv (.t 45)⟩] [6, 45])
.ret)
 .skip)))))
(.reg false [
⟨some 46, none, .bin .add (.t 21) (.k (.d (.int .i64 1)))⟩,
⟨some 21, none, .mv (.t 46)⟩] [46]))))

def b_calendar_Join_2 : C :=
  (.seq (.reg false [
⟨some 51, none, .bin .lss (.t 50) (.t 49)⟩] [])
(.seq (.cond (.t 51) .skip
 (.exit 2))
(.seq (.block 3 (.seq (.reg false [
⟨some 52, none, .idxAddr 1 (.t 48) (.t 50)⟩,
⟨some 53, none, .load none (.t 52)⟩,
⟨some 9, none, .mv (.t 53)⟩] [52, 53])
(.reg true [
⟨some 54, none, .mv (.t 7)⟩,
⟨some 55, none, .mv (.t 9)⟩,
⟨some 56, none, .call false true (.k (.fn n_calendar_weekOf [] [])) [.t 55]⟩,
⟨some 57, none, .lookup .int (.int .i64 0) false (.t 54) (.t 56)⟩,
⟨some 58, none, .mv (.t 9)⟩,
⟨some 59, none, .call false true (.k (.fn n_calendar_weekday [] [])) [.t 58]⟩,
⟨some 60, none, .bin .shl (.k (.d (.int .i64 1))) (.t 59)⟩,
⟨some 61, none, .bin .or (.t 57) (.t 60)⟩,
⟨none, none, .mapSet .int (.t 54) (.t 56) (.t 61)⟩] [9, 54, 55, 56, 57, 58, 59, 60, 61])))
(.reg false [
⟨some 62, none, .bin .add (.t 50) (.k (.d (.int .i64 1)))⟩,
⟨some 50, none, .mv (.t 62)⟩] [62]))))

def b_calendar_Join_3 : C :=
  (.seq (.seq (.reg false [
⟨some 85, none, .mv (.t 11)⟩,
⟨some 86, none, .mv (.t 0)⟩,
⟨some 87, none, .len .slc (.t 86)⟩,
⟨some 88, none, .bin .lss (.t 85) (.t 87)⟩] [85, 86, 87])
(.cond (.t 88) .skip
 (.exit 6)))
(.seq (.block 7 (.seq (.seq (.reg false [
⟨some 91, none, .mv (.t 0)⟩,
⟨some 92, none, .mv (.t 11)⟩,
⟨some 93, none, .idxAddr 1 (.t 91) (.t 92)⟩,
⟨some 94, none, .load none (.t 93)⟩,
⟨some 95, none, .call false true (.k (.fn n_calendar_weekOf [] [])) [.t 94]⟩,
⟨some 15, none, .mv (.t 95)⟩] [91, 92, 93, 94, 95])
(.block 8 (.seq (.reg false [
⟨some 97, none, .mv (.t 15)⟩,
⟨some 98, none, .mv (.t 14)⟩,
⟨some 99, none, .bin .eql (.t 97) (.t 98)⟩,
⟨some 96, none, .mv (.t 99)⟩] [97, 98, 99])
(.cond (.t 96) .skip
 (.seq (.reg false [
⟨some 101, none, .mv (.t 15)⟩,
⟨some 102, none, .mv (.t 14)⟩,
⟨some 103, none, .bin .add (.t 102) (.k (.d (.int .i64 1)))⟩,
⟨some 104, none, .bin .eql (.t 101) (.t 103)⟩,
⟨some 105, none, .mv (.t 104)⟩,
⟨some 106, (some (105, true)), .mv (.t 7)⟩,
⟨some 107, (some (105, true)), .mv (.t 15)⟩,
⟨some 108, (some (105, true)), .lookup .int (.int .i64 0) false (.t 106) (.t 107)⟩,
⟨some 109, (some (105, true)), .fieldAddr 2 (.t 13)⟩,
⟨some 110, (some (105, true)), .load none (.t 109)⟩,
⟨some 111, (some (105, true)), .bin .eql (.t 108) (.t 110)⟩,
⟨some 112, none, .pick (.t 105) (.t 111) (.k (.d (.bool false)))⟩,
⟨some 113, none, .mv (.t 112)⟩,
⟨some 114, (some (113, true)), .mv (.t 15)⟩,
⟨some 115, (some (113, true)), .mv (.t 12)⟩,
⟨some 116, (some (113, true)), .bin .sub (.t 114) (.t 115)⟩,
⟨some 117, (some (113, true)), .bin .lss (.t 116) (.k (.d (.int .i64 57)))⟩,
⟨some 118, none, .pick (.t 113) (.t 117) (.k (.d (.bool false)))⟩,
⟨some 100, none, .mv (.t 118)⟩] [14, 101, 102, 103, 104, 105, 106, 107, 108, 109, 110, 111, 112, 113, 114, 115, 116, 117, 118])
(.cond (.t 100) (.reg false [
⟨some 119, none, .mv (.t 15)⟩,
⟨some 14, none, .mv (.t 119)⟩] [15, 119])
 (.exit 6)))))))
(.reg false [
⟨some 120, none, .mv (.t 0)⟩,
⟨some 121, none, .mv (.t 11)⟩,
⟨some 122, none, .idxAddr 1 (.t 120) (.t 121)⟩,
⟨some 123, none, .load none (.t 122)⟩,
⟨some 124, none, .fieldAddr 1 (.t 13)⟩,
⟨none, none, .store 1 (.t 124) (.t 123)⟩] [120, 121, 122, 123, 124])))
(.reg false [
⟨some 89, none, .mv (.t 11)⟩,
⟨some 90, none, .bin .add (.t 89) (.k (.d (.int .i64 1)))⟩,
⟨some 11, none, .mv (.t 90)⟩] [89, 90])))

def b_calendar_Join_4 : C :=
  (.seq (.seq (.reg false [
⟨some 63, none, .mv (.t 11)⟩,
⟨some 64, none, .mv (.t 0)⟩,
⟨some 65, none, .len .slc (.t 64)⟩,
⟨some 66, none, .bin .lss (.t 63) (.t 65)⟩] [63, 64, 65])
(.cond (.t 66) .skip
 (.exit 4)))
(.block 5 (.scope (.seq (.reg false [
⟨some 67, none, .mv (.t 0)⟩,
⟨some 68, none, .mv (.t 11)⟩,
⟨some 69, none, .idxAddr 1 (.t 67) (.t 68)⟩,
⟨some 70, none, .load none (.t 69)⟩,
⟨some 71, none, .call false true (.k (.fn n_calendar_weekOf [] [])) [.t 70]⟩,
⟨some 12, none, .mv (.t 71)⟩] [67, 68, 69, 70, 71])
(.seq (.reg true [
⟨some 72, none, .mv (.t 0)⟩,
⟨some 73, none, .mv (.t 11)⟩,
⟨some 74, none, .idxAddr 1 (.t 72) (.t 73)⟩,
⟨some 75, none, .load none (.t 74)⟩,
⟨some 76, none, .mv (.t 0)⟩,
⟨some 77, none, .mv (.t 11)⟩,
⟨some 78, none, .idxAddr 1 (.t 76) (.t 77)⟩,
⟨some 79, none, .load none (.t 78)⟩,
⟨some 80, none, .mv (.t 7)⟩,
⟨some 81, none, .mv (.t 12)⟩,
⟨some 82, none, .lookup .int (.int .i64 0) false (.t 80) (.t 81)⟩,
⟨some 83, none, .build [.z (.int .i64 0), .z (.int .i64 0), .z (.int .i64 0)] [(0, 1, .t 75), (1, 1, .t 79), (2, 1, .t 82)]⟩,
⟨some 13, none, .alloc ty_api_Period [.z (.int .i64 0), .z (.int .i64 0), .z (.int .i64 0)]⟩,
⟨none, none, .store 3 (.t 13) (.t 83)⟩] [72, 73, 74, 75, 76, 77, 78, 79, 80, 81, 82, 83])
(.seq (.reg false [
⟨some 84, none, .mv (.t 12)⟩,
⟨some 14, none, .mv (.t 84)⟩] [84])
(.seq .label
(.seq (.block 6 (.loop [0, 7, 10, 11, 12, 13, 14] b_calendar_Join_3))
(.reg false [
⟨some 125, none, .mv (.t 10)⟩,
⟨some 126, none, .load (some 3) (.t 13)⟩,
⟨some 127, none, .mkList 3 1 [.t 126]⟩,
⟨some 128, none, .append ⟨false, ty_api_Period, 3, 24⟩ (.t 125) (.t 127)⟩,
⟨some 10, none, .mv (.t 128)⟩] [13, 125, 126, 127, 128])))))))))

/-- "turnround/calendar.Join" -/
def c_calendar_Join : CF := ⟨[.tmp 2, .tmp 3],
  (.seq (.reg false [
⟨some 2, none, .mv (.k (.d (.list 0 [])))⟩,
⟨some 3, none, .mv (.k (.d (.int .i64 0)))⟩] [2, 3])
(.seq (.seq (.reg false [
⟨some 16, none, .mv (.t 0)⟩,
⟨some 17, none, .len .slc (.t 16)⟩,
⟨some 18, none, .bin .gtr (.t 17) (.k (.d (.int .i64 512)))⟩] [16, 17])
(.cond (.t 18) (.seq (.reg false [
⟨some 2, none, .mv (.k (.d (.list 0 [])))⟩,
⟨some 3, none, .mv (.k (.d (.int .i64 5)))⟩] [])
.ret)
 .skip))
(.seq (.seq (.reg false [
⟨some 19, none, .mv (.t 0)⟩,
⟨some 20, none, .len .slc (.t 19)⟩,
⟨some 21, none, .mv (.k (.d (.int .i64 0)))⟩] [])
(.block 0 (.loop [0, 19, 20, 21] b_calendar_Join_1)))
(.seq (.reg false [
⟨some 47, none, .mkMap⟩,
⟨some 7, none, .mv (.t 47)⟩] [47])
(.seq (.seq (.reg false [
⟨some 48, none, .mv (.t 0)⟩,
⟨some 49, none, .len .slc (.t 48)⟩,
⟨some 50, none, .mv (.k (.d (.int .i64 0)))⟩] [])
(.block 2 (.loop [0, 7, 48, 49, 50] b_calendar_Join_2)))
(.seq (.reg false [
⟨some 10, none, .ownNil ⟨false, ty_api_Period, 3, 24⟩⟩] [])
(.seq (.seq (.reg false [
⟨some 11, none, .mv (.k (.d (.int .i64 0)))⟩] [])
(.block 4 (.loop [0, 7, 10, 11] b_calendar_Join_4)))
(.seq (.reg false [
⟨some 129, none, .mv (.t 10)⟩,
⟨some 130, none, .call false true (.k (.fn n_slices_Clip_Lapi_Period_api_Period [] [])) [.t 129]⟩,
⟨some 2, none, .mv (.t 130)⟩,
⟨some 3, none, .mv (.k (.d (.int .i64 0)))⟩] [10, 129, 130])
.ret))))))))⟩

def b_ref01_CheckDays_1 : C :=
  (.seq (.seq (.reg false [
⟨some 7, none, .mv (.t 3)⟩,
⟨some 8, none, .mv (.t 0)⟩,
⟨some 9, none, .len .slc (.t 8)⟩,
⟨some 10, none, .bin .lss (.t 7) (.t 9)⟩] [7, 8, 9])
(.cond (.t 10) .skip
 (.exit 0)))
(.seq (.block 1 (.seq (.seq (.reg false [
⟨some 13, none, .mv (.t 0)⟩,
⟨some 14, none, .mv (.t 3)⟩,
⟨some 15, none, .idxAddr 1 (.t 13) (.t 14)⟩,
⟨some 16, none, .load none (.t 15)⟩,
⟨some 17, none, .call false true (.k (.fn n_ref01_CheckDay [] [])) [.t 16]⟩,
⟨some 18, none, .bin .neq (.t 17) (.k (.d (.int .i64 0)))⟩] [13, 14, 15, 16, 17])
(.cond (.t 18) (.seq (.reg false [
⟨some 2, none, .mv (.k (.d (.int .i64 3)))⟩] [])
.ret)
 .skip))
(.seq (.reg true [
⟨some 19, none, .mv (.t 3)⟩,
⟨some 20, none, .bin .gtr (.t 19) (.k (.d (.int .i64 0)))⟩,
⟨some 21, none, .mv (.t 20)⟩,
⟨some 22, (some (21, true)), .mv (.t 0)⟩,
⟨some 23, (some (21, true)), .mv (.t 3)⟩,
⟨some 24, (some (21, true)), .idxAddr 1 (.t 22) (.t 23)⟩,
⟨some 25, (some (21, true)), .load none (.t 24)⟩,
⟨some 26, (some (21, true)), .mv (.t 0)⟩,
⟨some 27, (some (21, true)), .mv (.t 3)⟩,
⟨some 28, (some (21, true)), .bin .sub (.t 27) (.k (.d (.int .i64 1)))⟩,
⟨some 29, (some (21, true)), .idxAddr 1 (.t 26) (.t 28)⟩,
⟨some 30, (some (21, true)), .load none (.t 29)⟩,
⟨some 31, (some (21, true)), .bin .leq (.t 25) (.t 30)⟩,
⟨some 32, none, .pick (.t 21) (.t 31) (.k (.d (.bool false)))⟩] [19, 20, 21, 22, 23, 24, 25, 26, 27, 28, 29, 30, 31])
(.cond (.t 32) (.seq (.reg false [
⟨some 2, none, .mv (.k (.d (.int .i64 11)))⟩] [])
.ret)
 .skip))))
(.reg false [
⟨some 11, none, .mv (.t 3)⟩,
⟨some 12, none, .bin .add (.t 11) (.k (.d (.int .i64 1)))⟩,
⟨some 3, none, .mv (.t 12)⟩] [11, 12])))

/-- "turnround/turnroundref01.CheckDays" -/
def c_ref01_CheckDays : CF := ⟨[.tmp 2],
  (.seq (.reg false [
⟨some 2, none, .mv (.k (.d (.int .i64 0)))⟩] [2])
(.seq (.seq (.reg false [
⟨some 4, none, .mv (.t 0)⟩,
⟨some 5, none, .len .slc (.t 4)⟩,
⟨some 6, none, .bin .gtr (.t 5) (.k (.d (.int .i64 512)))⟩] [4, 5])
(.cond (.t 6) (.seq (.reg false [
⟨some 2, none, .mv (.k (.d (.int .i64 5)))⟩] [])
.ret)
 .skip))
(.seq (.seq (.reg false [
⟨some 3, none, .mv (.k (.d (.int .i64 0)))⟩] [])
(.block 0 (.loop [0, 3] b_ref01_CheckDays_1)))
(.seq (.reg false [
⟨some 2, none, .mv (.k (.d (.int .i64 0)))⟩] [])
.ret))))⟩

def b_ref01_SamePeriods_1 : C :=
  (.seq (.seq (.reg false [
⟨some 11, none, .mv (.t 5)⟩,
⟨some 12, none, .mv (.t 0)⟩,
⟨some 13, none, .len .slc (.t 12)⟩,
⟨some 14, none, .bin .lss (.t 11) (.t 13)⟩] [11, 12, 13])
(.cond (.t 14) .skip
 (.exit 0)))
(.seq (.block 1 (.seq (.reg true [
⟨some 17, none, .mv (.t 0)⟩,
⟨some 18, none, .mv (.t 5)⟩,
⟨some 19, none, .idxAddr 3 (.t 17) (.t 18)⟩,
⟨some 20, none, .load (some 3) (.t 19)⟩,
⟨some 21, none, .mv (.t 1)⟩,
⟨some 22, none, .mv (.t 5)⟩,
⟨some 23, none, .idxAddr 3 (.t 21) (.t 22)⟩,
⟨some 24, none, .load (some 3) (.t 23)⟩,
⟨some 25, none, .eqv (some [.int, .int, .int]) true (.t 20) (.t 24)⟩] [17, 18, 19, 20, 21, 22, 23, 24])
(.cond (.t 25) (.seq (.reg false [
⟨some 4, none, .mv (.k (.d (.bool false)))⟩] [])
.ret)
 .skip)))
(.reg false [
⟨some 15, none, .mv (.t 5)⟩,
⟨some 16, none, .bin .add (.t 15) (.k (.d (.int .i64 1)))⟩,
⟨some 5, none, .mv (.t 16)⟩] [15, 16])))

/-- "turnround/turnroundref01.SamePeriods" -/
def c_ref01_SamePeriods : CF := ⟨[.tmp 4],
  (.seq (.reg false [
⟨some 4, none, .mv (.k (.d (.bool false)))⟩] [4])
(.seq (.seq (.reg false [
⟨some 6, none, .mv (.t 0)⟩,
⟨some 7, none, .len .slc (.t 6)⟩,
⟨some 8, none, .mv (.t 1)⟩,
⟨some 9, none, .len .slc (.t 8)⟩,
⟨some 10, none, .bin .neq (.t 7) (.t 9)⟩] [6, 7, 8, 9])
(.cond (.t 10) (.seq (.reg false [
⟨some 4, none, .mv (.k (.d (.bool false)))⟩] [])
.ret)
 .skip))
(.seq (.seq (.reg false [
⟨some 5, none, .mv (.k (.d (.int .i64 0)))⟩] [])
(.block 0 (.loop [0, 1, 5] b_ref01_SamePeriods_1)))
(.seq (.reg false [
⟨some 4, none, .mv (.k (.d (.bool true)))⟩] [])
.ret))))⟩

def b_ref01_Join_1 : C :=
  (.seq (.seq (.reg false [
⟨some 8, none, .mv (.t 5)⟩,
⟨some 9, none, .mv (.t 0)⟩,
⟨some 10, none, .len .slc (.t 9)⟩,
⟨some 11, none, .bin .lss (.t 8) (.t 10)⟩] [8, 9, 10])
(.cond (.t 11) .skip
 (.exit 0)))
(.seq (.block 1 (.seq (.reg false [
⟨some 14, none, .mv (.t 0)⟩,
⟨some 15, none, .mv (.t 5)⟩,
⟨some 16, none, .idxAddr 1 (.t 14) (.t 15)⟩,
⟨some 17, none, .load none (.t 16)⟩,
⟨some 18, none, .call false true (.k (.fn n_ref01_Week [] [])) [.t 17]⟩,
⟨some 6, none, .mv (.t 18)⟩] [14, 15, 16, 17, 18])
(.seq (.seq (.reg false [
⟨some 19, none, .mv (.t 5)⟩,
⟨some 20, none, .bin .gtr (.t 19) (.k (.d (.int .i64 0)))⟩,
⟨some 21, none, .mv (.t 20)⟩,
⟨some 22, (some (21, true)), .mv (.t 0)⟩,
⟨some 23, (some (21, true)), .mv (.t 5)⟩,
⟨some 24, (some (21, true)), .bin .sub (.t 23) (.k (.d (.int .i64 1)))⟩,
⟨some 25, (some (21, true)), .idxAddr 1 (.t 22) (.t 24)⟩,
⟨some 26, (some (21, true)), .load none (.t 25)⟩,
⟨some 27, (some (21, true)), .call false true (.k (.fn n_ref01_Week [] [])) [.t 26]⟩,
⟨some 28, (some (21, true)), .mv (.t 6)⟩,
⟨some 29, (some (21, true)), .bin .eql (.t 27) (.t 28)⟩,
⟨some 30, none, .pick (.t 21) (.t 29) (.k (.d (.bool false)))⟩] [19, 20, 21, 22, 23, 24, 25, 26, 27, 28, 29])
(.cond (.t 30) (.seq (.reg false [
⟨some 31, none, .mv (.t 3)⟩,
⟨some 32, none, .mv (.t 3)⟩,
⟨some 33, none, .len .slc (.t 32)⟩,
⟨some 34, none, .bin .sub (.t 33) (.k (.d (.int .i64 1)))⟩,
⟨some 35, none, .mv (.t 0)⟩,
⟨some 36, none, .mv (.t 5)⟩,
⟨some 37, none, .idxAddr 1 (.t 35) (.t 36)⟩,
⟨some 38, none, .load none (.t 37)⟩,
⟨some 39, none, .idxAddr 3 (.t 31) (.t 34)⟩,
⟨some 40, none, .fieldAddr 1 (.t 39)⟩,
⟨none, none, .store 1 (.t 40) (.t 38)⟩] [31, 32, 33, 34, 35, 36, 37, 38, 39, 40])
(.exit 1))
 .skip))
(.seq (.reg false [
⟨some 41, none, .mv (.t 0)⟩,
⟨some 42, none, .mv (.t 6)⟩,
⟨some 43, none, .call false true (.k (.fn n_ref01_weekMask [] [])) [.t 41, .t 42]⟩,
⟨some 7, none, .mv (.t 43)⟩] [41, 42, 43])
(.seq (.seq (.reg false [
⟨some 44, none, .mv (.t 5)⟩,
⟨some 45, none, .bin .gtr (.t 44) (.k (.d (.int .i64 0)))⟩,
⟨some 46, none, .mv (.t 45)⟩,
⟨some 47, (some (46, true)), .mv (.t 0)⟩,
⟨some 48, (some (46, true)), .mv (.t 5)⟩,
⟨some 49, (some (46, true)), .bin .sub (.t 48) (.k (.d (.int .i64 1)))⟩,
⟨some 50, (some (46, true)), .idxAddr 1 (.t 47) (.t 49)⟩,
⟨some 51, (some (46, true)), .load none (.t 50)⟩,
⟨some 52, (some (46, true)), .call false true (.k (.fn n_ref01_Week [] [])) [.t 51]⟩,
⟨some 53, (some (46, true)), .mv (.t 6)⟩,
⟨some 54, (some (46, true)), .bin .sub (.t 53) (.k (.d (.int .i64 1)))⟩,
⟨some 55, (some (46, true)), .bin .eql (.t 52) (.t 54)⟩,
⟨some 56, none, .pick (.t 46) (.t 55) (.k (.d (.bool false)))⟩,
⟨some 57, none, .mv (.t 56)⟩,
⟨some 58, (some (57, true)), .mv (.t 3)⟩,
⟨some 59, (some (57, true)), .mv (.t 3)⟩,
⟨some 60, (some (57, true)), .len .slc (.t 59)⟩,
⟨some 61, (some (57, true)), .bin .sub (.t 60) (.k (.d (.int .i64 1)))⟩,
⟨some 62, (some (57, true)), .idxAddr 3 (.t 58) (.t 61)⟩,
⟨some 63, (some (57, true)), .fieldAddr 2 (.t 62)⟩,
⟨some 64, (some (57, true)), .load none (.t 63)⟩,
⟨some 65, (some (57, true)), .mv (.t 7)⟩,
⟨some 66, (some (57, true)), .bin .eql (.t 64) (.t 65)⟩,
⟨some 67, none, .pick (.t 57) (.t 66) (.k (.d (.bool false)))⟩,
⟨some 68, none, .mv (.t 67)⟩,
⟨some 69, (some (68, true)), .mv (.t 4)⟩,
⟨some 70, (some (68, true)), .bin .lss (.t 69) (.k (.d (.int .i64 57)))⟩,
⟨some 71, none, .pick (.t 68) (.t 70) (.k (.d (.bool false)))⟩] [6, 44, 45, 46, 47, 48, 49, 50, 51, 52, 53, 54, 55, 56, 57, 58, 59, 60, 61, 62, 63, 64, 65, 66, 67, 68, 69, 70])
(.cond (.t 71) (.seq (.reg false [
⟨some 72, none, .mv (.t 3)⟩,
⟨some 73, none, .mv (.t 3)⟩,
⟨some 74, none, .len .slc (.t 73)⟩,
⟨some 75, none, .bin .sub (.t 74) (.k (.d (.int .i64 1)))⟩,
⟨some 76, none, .mv (.t 0)⟩,
⟨some 77, none, .mv (.t 5)⟩,
⟨some 78, none, .idxAddr 1 (.t 76) (.t 77)⟩,
⟨some 79, none, .load none (.t 78)⟩,
⟨some 80, none, .idxAddr 3 (.t 72) (.t 75)⟩,
⟨some 81, none, .fieldAddr 1 (.t 80)⟩,
⟨none, none, .store 1 (.t 81) (.t 79)⟩] [72, 73, 74, 75, 76, 77, 78, 79, 80, 81])
(.seq (.reg false [
⟨some 82, none, .mv (.t 4)⟩,
⟨some 83, none, .bin .add (.t 82) (.k (.d (.int .i64 1)))⟩,
⟨some 4, none, .mv (.t 83)⟩] [82, 83])
(.exit 1)))
 .skip))
(.seq (.reg true [
⟨some 84, none, .mv (.t 3)⟩,
⟨some 85, none, .mv (.t 0)⟩,
⟨some 86, none, .mv (.t 5)⟩,
⟨some 87, none, .idxAddr 1 (.t 85) (.t 86)⟩,
⟨some 88, none, .load none (.t 87)⟩,
⟨some 89, none, .mv (.t 0)⟩,
⟨some 90, none, .mv (.t 5)⟩,
⟨some 91, none, .idxAddr 1 (.t 89) (.t 90)⟩,
⟨some 92, none, .load none (.t 91)⟩,
⟨some 93, none, .mv (.t 7)⟩,
⟨some 94, none, .build [.z (.int .i64 0), .z (.int .i64 0), .z (.int .i64 0)] [(0, 1, .t 88), (1, 1, .t 92), (2, 1, .t 93)]⟩,
⟨some 95, none, .mkList 3 1 [.t 94]⟩,
⟨some 96, none, .append ⟨true, ty_api_Period, 3, 24⟩ (.t 84) (.t 95)⟩,
⟨some 3, none, .mv (.t 96)⟩] [7, 84, 85, 86, 87, 88, 89, 90, 91, 92, 93, 94, 95, 96])
(.reg false [
⟨some 4, none, .mv (.k (.d (.int .i64 1)))⟩] [])))))))
(.reg false [
⟨some 12, none, .mv (.t 5)⟩,
⟨some 13, none, .bin .add (.t 12) (.k (.d (.int .i64 1)))⟩,
⟨some 5, none, .mv (.t 13)⟩] [12, 13])))

/-- "turnround/turnroundref01.Join" -/
def c_ref01_Join : CF := ⟨[.tmp 2],
  (.seq (.reg false [
⟨some 2, none, .ownNil ⟨true, ty_api_Period, 3, 24⟩⟩] [2])
(.seq (.reg false [
⟨some 3, none, .ownNil ⟨true, ty_api_Period, 3, 24⟩⟩] [])
(.seq (.reg false [
⟨some 4, none, .mv (.k (.d (.int .i64 0)))⟩] [])
(.seq (.seq (.reg false [
⟨some 5, none, .mv (.k (.d (.int .i64 0)))⟩] [])
(.block 0 (.loop [0, 3, 4, 5] b_ref01_Join_1)))
(.seq (.reg false [
⟨some 97, none, .mv (.t 3)⟩,
⟨some 2, none, .mv (.t 97)⟩] [3, 97])
.ret)))))⟩

def b_law01_zone_1 : C :=
  (.seq (.reg false [
⟨some 13, none, .bin .lss (.t 12) (.t 11)⟩] [])
(.seq (.cond (.t 13) .skip
 (.exit 0))
(.seq (.block 1 (.seq (.reg false [
⟨some 14, none, .idxAddr 2 (.t 10) (.t 12)⟩,
⟨some 15, none, .load (some 2) (.t 14)⟩,
⟨some 5, none, .alloc ty_calendar_Change [.z (.int .i64 0), .z (.int .i64 0)]⟩,
⟨none, none, .store 2 (.t 5) (.t 15)⟩] [14, 15])
(.reg false [
⟨some 16, none, .fieldAddr 1 (.t 3)⟩,
⟨some 17, none, .load none (.t 16)⟩,
⟨some 18, none, .load (some 2) (.t 5)⟩,
⟨some 19, none, .mkList 2 1 [.t 18]⟩,
⟨some 20, none, .append ⟨false, ty_turnroundref01_Change, 2, 16⟩ (.t 17) (.t 19)⟩,
⟨some 21, none, .fieldAddr 1 (.t 3)⟩,
⟨none, none, .store 1 (.t 21) (.t 20)⟩] [5, 16, 17, 18, 19, 20, 21])))
(.reg false [
⟨some 22, none, .bin .add (.t 12) (.k (.d (.int .i64 1)))⟩,
⟨some 12, none, .mv (.t 22)⟩] [22]))))

/-- "turnround/turnroundlaw01.zone" -/
def c_law01_zone : CF := ⟨[.cell 2 (some 2)],
  (.seq (.reg false [
⟨some 1, none, .box ty_calendar_Zone (.t 0)⟩,
⟨some 2, none, .alloc ty_turnroundref01_Zone [.z (.int .i64 0), .own ⟨false, ty_turnroundref01_Change, 2, 16⟩]⟩] [0])
(.seq (.reg false [
⟨some 6, none, .fieldAddr 0 (.t 1)⟩,
⟨some 7, none, .load none (.t 6)⟩,
⟨some 8, none, .build [.z (.int .i64 0), .own ⟨false, ty_turnroundref01_Change, 2, 16⟩] [(0, 1, .t 7)]⟩,
⟨some 3, none, .alloc ty_turnroundref01_Zone [.z (.int .i64 0), .own ⟨false, ty_turnroundref01_Change, 2, 16⟩]⟩,
⟨none, none, .store 2 (.t 3) (.t 8)⟩] [6, 7, 8])
(.seq (.seq (.reg false [
⟨some 9, none, .fieldAddr 1 (.t 1)⟩,
⟨some 10, none, .load none (.t 9)⟩,
⟨some 11, none, .len .slc (.t 10)⟩,
⟨some 12, none, .mv (.k (.d (.int .i64 0)))⟩] [1, 9])
(.block 0 (.loop [2, 3, 10, 11, 12] b_law01_zone_1)))
(.seq (.reg false [
⟨some 23, none, .load (some 2) (.t 3)⟩,
⟨none, none, .store 2 (.t 2) (.t 23)⟩] [3, 23])
.ret))))⟩

/-- "turnround/turnroundref01.ShortZone" -/
def c_ref01_ShortZone : CF := ⟨[.tmp 4],
  (.seq (.reg false [
⟨some 2, none, .box ty_turnroundref01_Zone (.t 0)⟩,
⟨some 4, none, .mv (.k (.d (.bool false)))⟩] [0, 4])
(.seq (.reg false [
⟨some 5, none, .fieldAddr 1 (.t 2)⟩,
⟨some 6, none, .load none (.t 5)⟩,
⟨some 7, none, .len .slc (.t 6)⟩,
⟨some 8, none, .mv (.t 1)⟩,
⟨some 9, none, .bin .leq (.t 7) (.t 8)⟩,
⟨some 10, none, .mv (.t 9)⟩,
⟨some 11, (some (10, false)), .fieldAddr 1 (.t 2)⟩,
⟨some 12, (some (10, false)), .load none (.t 11)⟩,
⟨some 13, (some (10, false)), .len .slc (.t 12)⟩,
⟨some 14, (some (10, false)), .bin .gtr (.t 13) (.k (.d (.int .i64 64)))⟩,
⟨some 15, (some (10, false)), .mv (.t 14)⟩,
⟨some 16, (some (15, true)), .fieldAddr 1 (.t 2)⟩,
⟨some 17, (some (15, true)), .load none (.t 16)⟩,
⟨some 18, (some (15, true)), .len .slc (.t 17)⟩,
⟨some 19, (some (15, true)), .bin .leq (.t 18) (.k (.d (.int .i64 66)))⟩,
⟨some 20, (some (10, false)), .pick (.t 15) (.t 19) (.k (.d (.bool false)))⟩,
⟨some 21, none, .pick (.t 10) (.k (.d (.bool true))) (.t 20)⟩,
⟨some 4, none, .mv (.t 21)⟩] [1, 2, 5, 6, 7, 8, 9, 10, 11, 12, 13, 14, 15, 16, 17, 18, 19, 20, 21])
.ret))⟩

def b_ref01_CheckZone_1 : C :=
  (.seq (.seq (.reg false [
⟨some 16, none, .mv (.t 4)⟩,
⟨some 17, none, .fieldAddr 1 (.t 1)⟩,
⟨some 18, none, .load none (.t 17)⟩,
⟨some 19, none, .len .slc (.t 18)⟩,
⟨some 20, none, .bin .lss (.t 16) (.t 19)⟩] [16, 17, 18, 19])
(.cond (.t 20) .skip
 (.exit 0)))
(.seq (.block 1 (.seq (.reg false [
⟨some 23, none, .fieldAddr 1 (.t 1)⟩,
⟨some 24, none, .load none (.t 23)⟩,
⟨some 25, none, .mv (.t 4)⟩,
⟨some 26, none, .idxAddr 2 (.t 24) (.t 25)⟩,
⟨some 27, none, .load (some 2) (.t 26)⟩,
⟨some 5, none, .alloc ty_turnroundref01_Change [.z (.int .i64 0), .z (.int .i64 0)]⟩,
⟨none, none, .store 2 (.t 5) (.t 27)⟩] [23, 24, 25, 26, 27])
(.seq (.seq (.reg false [
⟨some 28, none, .fieldAddr 0 (.t 5)⟩,
⟨some 29, none, .load none (.t 28)⟩,
⟨some 30, none, .call false true (.k (.fn n_ref01_CheckMoment [] [])) [.t 29]⟩,
⟨some 31, none, .bin .neq (.t 30) (.k (.d (.int .i64 0)))⟩,
⟨some 32, none, .mv (.t 31)⟩,
⟨some 33, (some (32, false)), .fieldAddr 1 (.t 5)⟩,
⟨some 34, (some (32, false)), .load none (.t 33)⟩,
⟨some 35, (some (32, false)), .call false true (.k (.fn n_ref01_CheckRange [] [])) [.t 34, .k (.d (.int .i64 (-720))), .k (.d (.int .i64 840))]⟩,
⟨some 36, (some (32, false)), .bin .neq (.t 35) (.k (.d (.int .i64 0)))⟩,
⟨some 37, none, .pick (.t 32) (.k (.d (.bool true))) (.t 36)⟩] [28, 29, 30, 31, 32, 33, 34, 35, 36])
(.cond (.t 37) (.seq (.reg false [
⟨some 2, none, .mv (.k (.d (.int .i64 3)))⟩] [])
.ret)
 .skip))
(.seq (.seq (.reg false [
⟨some 38, none, .fieldAddr 1 (.t 5)⟩,
⟨some 39, none, .load none (.t 38)⟩,
⟨some 40, none, .mv (.t 3)⟩,
⟨some 41, none, .bin .sub (.t 39) (.t 40)⟩,
⟨some 42, none, .bin .gtr (.t 41) (.k (.d (.int .i64 180)))⟩,
⟨some 43, none, .mv (.t 42)⟩,
⟨some 44, (some (43, false)), .mv (.t 3)⟩,
⟨some 45, (some (43, false)), .fieldAddr 1 (.t 5)⟩,
⟨some 46, (some (43, false)), .load none (.t 45)⟩,
⟨some 47, (some (43, false)), .bin .sub (.t 44) (.t 46)⟩,
⟨some 48, (some (43, false)), .bin .gtr (.t 47) (.k (.d (.int .i64 180)))⟩,
⟨some 49, none, .pick (.t 43) (.k (.d (.bool true))) (.t 48)⟩] [3, 38, 39, 40, 41, 42, 43, 44, 45, 46, 47, 48])
(.cond (.t 49) (.seq (.reg false [
⟨some 2, none, .mv (.k (.d (.int .i64 4)))⟩] [])
.ret)
 .skip))
(.seq (.seq (.reg true [
⟨some 50, none, .mv (.t 4)⟩,
⟨some 51, none, .bin .gtr (.t 50) (.k (.d (.int .i64 0)))⟩,
⟨some 52, none, .mv (.t 51)⟩,
⟨some 53, (some (52, true)), .fieldAddr 0 (.t 5)⟩,
⟨some 54, (some (52, true)), .load none (.t 53)⟩,
⟨some 55, (some (52, true)), .fieldAddr 1 (.t 1)⟩,
⟨some 56, (some (52, true)), .load none (.t 55)⟩,
⟨some 57, (some (52, true)), .mv (.t 4)⟩,
⟨some 58, (some (52, true)), .bin .sub (.t 57) (.k (.d (.int .i64 1)))⟩,
⟨some 59, (some (52, true)), .idxAddr 2 (.t 56) (.t 58)⟩,
⟨some 60, (some (52, true)), .fieldAddr 0 (.t 59)⟩,
⟨some 61, (some (52, true)), .load none (.t 60)⟩,
⟨some 62, (some (52, true)), .bin .sub (.t 54) (.t 61)⟩,
⟨some 63, (some (52, true)), .bin .lss (.t 62) (.k (.d (.int .i64 1440)))⟩,
⟨some 64, none, .pick (.t 52) (.t 63) (.k (.d (.bool false)))⟩] [50, 51, 52, 53, 54, 55, 56, 57, 58, 59, 60, 61, 62, 63])
(.cond (.t 64) (.seq (.reg false [
⟨some 2, none, .mv (.k (.d (.int .i64 11)))⟩] [])
.ret)
 .skip))
(.reg false [
⟨some 65, none, .fieldAddr 1 (.t 5)⟩,
⟨some 66, none, .load none (.t 65)⟩,
⟨some 3, none, .mv (.t 66)⟩] [5, 65, 66]))))))
(.reg false [
⟨some 21, none, .mv (.t 4)⟩,
⟨some 22, none, .bin .add (.t 21) (.k (.d (.int .i64 1)))⟩,
⟨some 4, none, .mv (.t 22)⟩] [21, 22])))

/-- "turnround/turnroundref01.CheckZone" -/
def c_ref01_CheckZone : CF := ⟨[.tmp 2],
  (.seq (.reg false [
⟨some 1, none, .box ty_turnroundref01_Zone (.t 0)⟩,
⟨some 2, none, .mv (.k (.d (.int .i64 0)))⟩] [0, 2])
(.seq (.seq (.reg false [
⟨some 6, none, .fieldAddr 0 (.t 1)⟩,
⟨some 7, none, .load none (.t 6)⟩,
⟨some 8, none, .call false true (.k (.fn n_ref01_CheckRange [] [])) [.t 7, .k (.d (.int .i64 (-720))), .k (.d (.int .i64 840))]⟩,
⟨some 9, none, .bin .neq (.t 8) (.k (.d (.int .i64 0)))⟩] [6, 7, 8])
(.cond (.t 9) (.seq (.reg false [
⟨some 2, none, .mv (.k (.d (.int .i64 3)))⟩] [])
.ret)
 .skip))
(.seq (.seq (.reg false [
⟨some 10, none, .fieldAddr 1 (.t 1)⟩,
⟨some 11, none, .load none (.t 10)⟩,
⟨some 12, none, .len .slc (.t 11)⟩,
⟨some 13, none, .bin .gtr (.t 12) (.k (.d (.int .i64 64)))⟩] [10, 11, 12])
(.cond (.t 13) (.seq (.reg false [
⟨some 2, none, .mv (.k (.d (.int .i64 5)))⟩] [])
.ret)
 .skip))
(.seq (.reg false [
⟨some 14, none, .fieldAddr 0 (.t 1)⟩,
⟨some 15, none, .load none (.t 14)⟩,
⟨some 3, none, .mv (.t 15)⟩] [14, 15])
(.seq (.seq (.reg false [
⟨some 4, none, .mv (.k (.d (.int .i64 0)))⟩] [])
(.block 0 (.loop [1, 3, 4] b_ref01_CheckZone_1)))
(.seq (.reg false [
⟨some 2, none, .mv (.k (.d (.int .i64 0)))⟩] [])
.ret))))))⟩

/-- "turnround/turnroundref01.CheckMoment" -/
def c_ref01_CheckMoment : CF := ⟨[.tmp 2],
  (.seq (.reg false [
⟨some 2, none, .mv (.k (.d (.int .i64 0)))⟩] [2])
(.seq (.reg false [
⟨some 3, none, .mv (.t 0)⟩,
⟨some 4, none, .call false true (.k (.fn n_ref01_CheckRange [] [])) [.t 3, .k (.d (.int .i64 0)), .k (.d (.int .i64 143999999))]⟩,
⟨some 2, none, .mv (.t 4)⟩] [0, 3, 4])
.ret))⟩

/-- "turnround/turnroundref01.CheckRange" -/
def c_ref01_CheckRange : CF := ⟨[.tmp 6],
  (.seq (.reg false [
⟨some 6, none, .mv (.k (.d (.int .i64 0)))⟩] [6])
(.seq (.seq (.reg false [
⟨some 7, none, .mv (.t 0)⟩,
⟨some 8, none, .mv (.t 1)⟩,
⟨some 9, none, .bin .lss (.t 7) (.t 8)⟩,
⟨some 10, none, .mv (.t 9)⟩,
⟨some 11, (some (10, false)), .mv (.t 0)⟩,
⟨some 12, (some (10, false)), .mv (.t 2)⟩,
⟨some 13, (some (10, false)), .bin .gtr (.t 11) (.t 12)⟩,
⟨some 14, none, .pick (.t 10) (.k (.d (.bool true))) (.t 13)⟩] [0, 1, 2, 7, 8, 9, 10, 11, 12, 13])
(.cond (.t 14) (.seq (.reg false [
⟨some 6, none, .mv (.k (.d (.int .i64 3)))⟩] [])
.ret)
 .skip))
(.seq (.reg false [
⟨some 6, none, .mv (.k (.d (.int .i64 0)))⟩] [])
.ret)))⟩

/-- "turnround/calendar.Local" -/
def c_calendar_Local : CF := ⟨[.tmp 4, .tmp 5],
  (.seq (.reg false [
⟨some 2, none, .box ty_calendar_Zone (.t 0)⟩,
⟨some 4, none, .mv (.k (.d (.int .i64 0)))⟩,
⟨some 5, none, .mv (.k (.d (.int .i64 0)))⟩] [0, 4, 5])
(.seq (.seq (.reg false [
⟨some 8, none, .load (some 2) (.t 2)⟩,
⟨some 9, none, .call false true (.k (.fn n_calendar_CheckZone [] [])) [.t 8]⟩,
⟨some 10, none, .mv (.t 1)⟩,
⟨some 11, none, .call false true (.k (.fn n_calendar_checkMoment [] [])) [.t 10]⟩,
⟨some 12, none, .mkList 1 2 [.t 9, .t 11]⟩,
⟨some 13, none, .call false true (.k (.fn n_calendar_first [] [])) [.t 12]⟩,
⟨some 6, none, .mv (.t 13)⟩] [8, 9, 10, 11, 12, 13])
(.seq (.reg false [
⟨some 14, none, .mv (.t 6)⟩,
⟨some 15, none, .bin .neq (.t 14) (.k (.d (.int .i64 0)))⟩] [14])
(.cond (.t 15) (.seq (.reg false [
⟨some 16, none, .mv (.t 6)⟩,
⟨some 4, none, .mv (.k (.d (.int .i64 0)))⟩,
⟨some 5, none, .mv (.t 16)⟩] [6, 16])
.ret)
 .skip)))
(.seq (.reg false [
⟨some 17, none, .mv (.t 1)⟩,
⟨some 18, none, .load (some 2) (.t 2)⟩,
⟨some 19, none, .mv (.t 1)⟩,
⟨some 20, none, .call false true (.k (.fn n_calendar_Zone_at [] [])) [.t 18, .t 19]⟩,
⟨some 21, none, .bin .add (.t 17) (.t 20)⟩,
⟨some 7, none, .mv (.t 21)⟩] [1, 2, 17, 18, 19, 20, 21])
(.seq (.seq (.reg false [
⟨some 22, none, .mv (.t 7)⟩,
⟨some 23, none, .call false true (.k (.fn n_calendar_checkMoment [] [])) [.t 22]⟩,
⟨some 24, none, .bin .neq (.t 23) (.k (.d (.int .i64 0)))⟩] [22, 23])
(.cond (.t 24) (.seq (.reg false [
⟨some 4, none, .mv (.k (.d (.int .i64 0)))⟩,
⟨some 5, none, .mv (.k (.d (.int .i64 30)))⟩] [])
.ret)
 .skip))
(.seq (.reg false [
⟨some 25, none, .mv (.t 7)⟩,
⟨some 4, none, .mv (.t 25)⟩,
⟨some 5, none, .mv (.k (.d (.int .i64 0)))⟩] [7, 25])
.ret)))))⟩

def b_calendar_Universal_1 : C :=
  (.seq (.reg false [
⟨some 30, none, .bin .lss (.t 29) (.t 28)⟩] [])
(.seq (.cond (.t 30) .skip
 (.exit 0))
(.seq (.block 1 (.seq (.reg false [
⟨some 31, none, .idxAddr 2 (.t 27) (.t 29)⟩,
⟨some 32, none, .load (some 2) (.t 31)⟩,
⟨some 9, none, .alloc ty_calendar_Change [.z (.int .i64 0), .z (.int .i64 0)]⟩,
⟨none, none, .store 2 (.t 9) (.t 32)⟩] [31, 32])
(.reg false [
⟨some 33, none, .mv (.t 7)⟩,
⟨some 34, none, .fieldAddr 1 (.t 9)⟩,
⟨some 35, none, .load none (.t 34)⟩,
⟨some 36, none, .mkList 1 1 [.t 35]⟩,
⟨some 37, none, .append ⟨false, ty_int, 1, 8⟩ (.t 33) (.t 36)⟩,
⟨some 7, none, .mv (.t 37)⟩] [9, 33, 34, 35, 36, 37])))
(.reg false [
⟨some 38, none, .bin .add (.t 29) (.k (.d (.int .i64 1)))⟩,
⟨some 29, none, .mv (.t 38)⟩] [38]))))

def b_calendar_Universal_2 : C :=
  (.seq (.reg false [
⟨some 42, none, .bin .lss (.t 41) (.t 40)⟩] [])
(.seq (.cond (.t 42) .skip
 (.exit 2))
(.seq (.block 3 (.seq (.reg false [
⟨some 43, none, .idxAddr 1 (.t 39) (.t 41)⟩,
⟨some 44, none, .load none (.t 43)⟩,
⟨some 12, none, .mv (.t 44)⟩] [43, 44])
(.seq (.reg false [
⟨some 45, none, .mv (.t 1)⟩,
⟨some 46, none, .mv (.t 12)⟩,
⟨some 47, none, .bin .sub (.t 45) (.t 46)⟩,
⟨some 13, none, .mv (.t 47)⟩] [45, 46, 47])
(.seq (.reg false [
⟨some 48, none, .mv (.t 13)⟩,
⟨some 49, none, .call false true (.k (.fn n_calendar_checkMoment [] [])) [.t 48]⟩,
⟨some 50, none, .bin .eql (.t 49) (.k (.d (.int .i64 0)))⟩,
⟨some 51, none, .mv (.t 50)⟩,
⟨some 52, (some (51, true)), .load (some 2) (.t 2)⟩,
⟨some 53, (some (51, true)), .mv (.t 13)⟩,
⟨some 54, (some (51, true)), .call false true (.k (.fn n_calendar_Zone_at [] [])) [.t 52, .t 53]⟩,
⟨some 55, (some (51, true)), .mv (.t 12)⟩,
⟨some 56, (some (51, true)), .bin .eql (.t 54) (.t 55)⟩,
⟨some 57, none, .pick (.t 51) (.t 56) (.k (.d (.bool false)))⟩] [12, 48, 49, 50, 51, 52, 53, 54, 55, 56])
(.cond (.t 57) (.reg false [
⟨some 58, none, .mv (.t 10)⟩,
⟨some 59, none, .mv (.t 13)⟩,
⟨some 60, none, .mkList 1 1 [.t 59]⟩,
⟨some 61, none, .append ⟨true, ty_int, 1, 8⟩ (.t 58) (.t 60)⟩,
⟨some 10, none, .mv (.t 61)⟩] [13, 58, 59, 60, 61])
 .skip)))))
(.reg false [
⟨some 62, none, .bin .add (.t 41) (.k (.d (.int .i64 1)))⟩,
⟨some 41, none, .mv (.t 62)⟩] [62]))))

/-- "turnround/calendar.Universal" -/
def c_calendar_Universal : CF := ⟨[.tmp 4, .tmp 5],
  (.seq (.reg false [
⟨some 2, none, .box ty_calendar_Zone (.t 0)⟩,
⟨some 4, none, .ownNil ⟨true, ty_int, 1, 8⟩⟩,
⟨some 5, none, .mv (.k (.d (.int .i64 0)))⟩] [0, 4, 5])
(.seq (.seq (.reg false [
⟨some 14, none, .load (some 2) (.t 2)⟩,
⟨some 15, none, .call false true (.k (.fn n_calendar_CheckZone [] [])) [.t 14]⟩,
⟨some 16, none, .mv (.t 1)⟩,
⟨some 17, none, .call false true (.k (.fn n_calendar_checkMoment [] [])) [.t 16]⟩,
⟨some 18, none, .mkList 1 2 [.t 15, .t 17]⟩,
⟨some 19, none, .call false true (.k (.fn n_calendar_first [] [])) [.t 18]⟩,
⟨some 6, none, .mv (.t 19)⟩] [14, 15, 16, 17, 18, 19])
(.seq (.reg false [
⟨some 20, none, .mv (.t 6)⟩,
⟨some 21, none, .bin .neq (.t 20) (.k (.d (.int .i64 0)))⟩] [20])
(.cond (.t 21) (.seq (.reg false [
⟨some 22, none, .mv (.t 6)⟩,
⟨some 4, none, .ownNil ⟨true, ty_int, 1, 8⟩⟩,
⟨some 5, none, .mv (.t 22)⟩] [6, 22])
.ret)
 .skip)))
(.seq (.reg false [
⟨some 23, none, .fieldAddr 0 (.t 2)⟩,
⟨some 24, none, .load none (.t 23)⟩,
⟨some 25, none, .mkRow ⟨false, ty_int, 1, 8⟩ 1 [.t 24]⟩,
⟨some 7, none, .mv (.t 25)⟩] [23, 24, 25])
(.seq (.seq (.reg false [
⟨some 26, none, .fieldAddr 1 (.t 2)⟩,
⟨some 27, none, .load none (.t 26)⟩,
⟨some 28, none, .len .slc (.t 27)⟩,
⟨some 29, none, .mv (.k (.d (.int .i64 0)))⟩] [26])
(.block 0 (.loop [1, 2, 7, 27, 28, 29] b_calendar_Universal_1)))
(.seq (.reg false [
⟨some 10, none, .ownNil ⟨true, ty_int, 1, 8⟩⟩] [])
(.seq (.seq (.reg false [
⟨some 39, none, .mv (.t 7)⟩,
⟨some 40, none, .len .slc (.t 39)⟩,
⟨some 41, none, .mv (.k (.d (.int .i64 0)))⟩] [7])
(.block 2 (.loop [1, 2, 10, 39, 40, 41] b_calendar_Universal_2)))
(.seq (.reg false [
⟨some 63, none, .mv (.t 10)⟩,
⟨some 64, none, .call true true (.k (.fn n_slices_Sort_Lint_int [] [])) [.t 63]⟩] [63, 64])
(.seq (.reg false [
⟨some 65, none, .mv (.t 10)⟩,
⟨some 66, none, .call true false (.k (.fn n_slices_Compact_Lint_int [] [])) [.t 65]⟩,
⟨some 10, none, .mv (.t 66)⟩] [65, 66])
(.seq (.reg false [
⟨some 67, none, .mv (.t 10)⟩,
⟨some 68, none, .mv (.t 10)⟩,
⟨some 69, none, .len .slc (.t 68)⟩,
⟨some 70, none, .bin .eql (.t 69) (.k (.d (.int .i64 0)))⟩,
⟨some 71, none, .call false true (.k (.fn n_calendar_when [] [])) [.t 70, .k (.d (.int .i64 7))]⟩,
⟨some 4, none, .mv (.t 67)⟩,
⟨some 5, none, .mv (.t 71)⟩] [10, 67, 68, 69, 70, 71])
.ret)))))))))⟩

def b_ref01_HasInt_1 : C :=
  (.seq (.seq (.reg false [
⟨some 6, none, .mv (.t 5)⟩,
⟨some 7, none, .mv (.t 0)⟩,
⟨some 8, none, .len .slc (.t 7)⟩,
⟨some 9, none, .bin .lss (.t 6) (.t 8)⟩] [6, 7, 8])
(.cond (.t 9) .skip
 (.exit 0)))
(.seq (.block 1 (.seq (.reg false [
⟨some 12, none, .mv (.t 0)⟩,
⟨some 13, none, .mv (.t 5)⟩,
⟨some 14, none, .idxAddr 1 (.t 12) (.t 13)⟩,
⟨some 15, none, .load none (.t 14)⟩,
⟨some 16, none, .mv (.t 1)⟩,
⟨some 17, none, .bin .eql (.t 15) (.t 16)⟩] [12, 13, 14, 15, 16])
(.cond (.t 17) (.seq (.reg false [
⟨some 4, none, .mv (.k (.d (.bool true)))⟩] [])
.ret)
 .skip)))
(.reg false [
⟨some 10, none, .mv (.t 5)⟩,
⟨some 11, none, .bin .add (.t 10) (.k (.d (.int .i64 1)))⟩,
⟨some 5, none, .mv (.t 11)⟩] [10, 11])))

/-- "turnround/turnroundref01.HasInt" -/
def c_ref01_HasInt : CF := ⟨[.tmp 4],
  (.seq (.reg false [
⟨some 4, none, .mv (.k (.d (.bool false)))⟩] [4])
(.seq (.seq (.reg false [
⟨some 5, none, .mv (.k (.d (.int .i64 0)))⟩] [])
(.block 0 (.loop [0, 1, 5] b_ref01_HasInt_1)))
(.seq (.reg false [
⟨some 4, none, .mv (.k (.d (.bool false)))⟩] [])
.ret)))⟩

def b_calendar_Summer_1 : C :=
  (.seq (.reg false [
⟨some 40, none, .bin .lss (.t 39) (.t 38)⟩] [])
(.seq (.cond (.t 40) .skip
 (.exit 0))
(.seq (.block 1 (.seq (.reg false [
⟨some 41, none, .mv (.t 39)⟩,
⟨some 10, none, .mv (.t 41)⟩] [41])
(.reg true [
⟨some 42, none, .fieldAddr 1 (.t 9)⟩,
⟨some 43, none, .load none (.t 42)⟩,
⟨some 44, none, .mv (.t 1)⟩,
⟨some 45, none, .mv (.t 10)⟩,
⟨some 46, none, .bin .add (.t 44) (.t 45)⟩,
⟨some 47, none, .call false true (.k (.fn n_calendar_lastSunday [] [])) [.t 46, .k (.d (.int .i64 3))]⟩,
⟨some 48, none, .bin .mul (.k (.d (.int .i64 1440))) (.t 47)⟩,
⟨some 49, none, .bin .add (.t 48) (.k (.d (.int .i64 60)))⟩,
⟨some 50, none, .mv (.t 0)⟩,
⟨some 51, none, .bin .add (.t 50) (.k (.d (.int .i64 60)))⟩,
⟨some 52, none, .build [.z (.int .i64 0), .z (.int .i64 0)] [(0, 1, .t 49), (1, 1, .t 51)]⟩,
⟨some 53, none, .mv (.t 1)⟩,
⟨some 54, none, .mv (.t 10)⟩,
⟨some 55, none, .bin .add (.t 53) (.t 54)⟩,
⟨some 56, none, .call false true (.k (.fn n_calendar_lastSunday [] [])) [.t 55, .k (.d (.int .i64 10))]⟩,
⟨some 57, none, .bin .mul (.k (.d (.int .i64 1440))) (.t 56)⟩,
⟨some 58, none, .bin .add (.t 57) (.k (.d (.int .i64 60)))⟩,
⟨some 59, none, .mv (.t 0)⟩,
⟨some 60, none, .build [.z (.int .i64 0), .z (.int .i64 0)] [(0, 1, .t 58), (1, 1, .t 59)]⟩,
⟨some 61, none, .mkList 2 2 [.t 52, .t 60]⟩,
⟨some 62, none, .append ⟨false, ty_calendar_Change, 2, 16⟩ (.t 43) (.t 61)⟩,
⟨some 63, none, .fieldAddr 1 (.t 9)⟩,
⟨none, none, .store 1 (.t 63) (.t 62)⟩] [10, 42, 43, 44, 45, 46, 47, 48, 49, 50, 51, 52, 53, 54, 55, 56, 57, 58, 59, 60, 61, 62, 63])))
(.reg false [
⟨some 64, none, .bin .add (.t 39) (.k (.d (.int .i64 1)))⟩,
⟨some 39, none, .mv (.t 64)⟩] [64]))))

/-- "turnround/calendar.Summer" -/
def c_calendar_Summer : CF := ⟨[.cell 6 (some 2), .tmp 7],
  (.seq (.reg false [
⟨some 6, none, .alloc ty_calendar_Zone [.z (.int .i64 0), .own ⟨false, ty_calendar_Change, 2, 16⟩]⟩,
⟨some 7, none, .mv (.k (.d (.int .i64 0)))⟩] [7])
(.seq (.seq (.reg false [
⟨some 11, none, .mv (.t 0)⟩,
⟨some 12, none, .call false true (.k (.fn n_calendar_within [] [])) [.t 11, .k (.d (.int .i64 (-720))), .k (.d (.int .i64 780))]⟩,
⟨some 13, none, .mv (.t 1)⟩,
⟨some 14, none, .call false true (.k (.fn n_calendar_within [] [])) [.t 13, .k (.d (.int .i64 2000)), .k (.d (.int .i64 2272))]⟩,
⟨some 15, none, .mv (.t 2)⟩,
⟨some 16, none, .call false true (.k (.fn n_calendar_within [] [])) [.t 15, .k (.d (.int .i64 2000)), .k (.d (.int .i64 2272))]⟩,
⟨some 17, none, .mv (.t 2)⟩,
⟨some 18, none, .mv (.t 1)⟩,
⟨some 19, none, .bin .lss (.t 17) (.t 18)⟩,
⟨some 20, none, .call false true (.k (.fn n_calendar_when [] [])) [.t 19, .k (.d (.int .i64 11))]⟩,
⟨some 21, none, .mkList 1 4 [.t 12, .t 14, .t 16, .t 20]⟩,
⟨some 22, none, .call false true (.k (.fn n_calendar_first [] [])) [.t 21]⟩,
⟨some 8, none, .mv (.t 22)⟩] [11, 12, 13, 14, 15, 16, 17, 18, 19, 20, 21, 22])
(.seq (.reg false [
⟨some 23, none, .mv (.t 8)⟩,
⟨some 24, none, .bin .neq (.t 23) (.k (.d (.int .i64 0)))⟩] [23])
(.cond (.t 24) (.seq (.reg false [
⟨some 25, none, .build [.z (.int .i64 0), .own ⟨false, ty_calendar_Change, 2, 16⟩] []⟩,
⟨some 26, none, .mv (.t 8)⟩,
⟨none, none, .store 2 (.t 6) (.t 25)⟩,
⟨some 7, none, .mv (.t 26)⟩] [8, 25, 26])
.ret)
 .skip)))
(.seq (.seq (.reg false [
⟨some 27, none, .mv (.t 2)⟩,
⟨some 28, none, .mv (.t 1)⟩,
⟨some 29, none, .bin .sub (.t 27) (.t 28)⟩,
⟨some 30, none, .bin .add (.t 29) (.k (.d (.int .i64 1)))⟩,
⟨some 31, none, .bin .gtr (.t 30) (.k (.d (.int .i64 32)))⟩] [27, 28, 29, 30])
(.cond (.t 31) (.seq (.reg false [
⟨some 32, none, .build [.z (.int .i64 0), .own ⟨false, ty_calendar_Change, 2, 16⟩] []⟩,
⟨none, none, .store 2 (.t 6) (.t 32)⟩,
⟨some 7, none, .mv (.k (.d (.int .i64 5)))⟩] [32])
.ret)
 .skip))
(.seq (.reg false [
⟨some 33, none, .mv (.t 0)⟩,
⟨some 34, none, .build [.z (.int .i64 0), .own ⟨false, ty_calendar_Change, 2, 16⟩] [(0, 1, .t 33)]⟩,
⟨some 9, none, .alloc ty_calendar_Zone [.z (.int .i64 0), .own ⟨false, ty_calendar_Change, 2, 16⟩]⟩,
⟨none, none, .store 2 (.t 9) (.t 34)⟩] [33, 34])
(.seq (.seq (.reg false [
⟨some 35, none, .mv (.t 2)⟩,
⟨some 36, none, .mv (.t 1)⟩,
⟨some 37, none, .bin .sub (.t 35) (.t 36)⟩,
⟨some 38, none, .bin .add (.t 37) (.k (.d (.int .i64 1)))⟩,
⟨some 39, none, .mv (.k (.d (.int .i64 0)))⟩] [2, 35, 36, 37])
(.block 0 (.loop [0, 1, 6, 9, 38, 39] b_calendar_Summer_1)))
(.seq (.reg false [
⟨some 65, none, .load (some 2) (.t 9)⟩,
⟨none, none, .store 2 (.t 6) (.t 65)⟩,
⟨some 7, none, .mv (.k (.d (.int .i64 0)))⟩] [9, 65])
.ret))))))⟩

/-- "turnround/calendar.Span" -/
def c_calendar_Span : CF := ⟨[.cell 2 (some 3), .tmp 3],
  (.seq (.reg false [
⟨some 1, none, .box ty_calendar_Season (.t 0)⟩,
⟨some 2, none, .alloc ty_api_Period [.z (.int .i64 0), .z (.int .i64 0), .z (.int .i64 0)]⟩,
⟨some 3, none, .mv (.k (.d (.int .i64 0)))⟩] [0, 3])
(.seq (.seq (.reg false [
⟨some 5, none, .load (some 2) (.t 1)⟩,
⟨some 6, none, .call false true (.k (.fn n_calendar_CheckSeason [] [])) [.t 5]⟩,
⟨some 4, none, .mv (.t 6)⟩] [5, 6])
(.seq (.reg false [
⟨some 7, none, .mv (.t 4)⟩,
⟨some 8, none, .bin .neq (.t 7) (.k (.d (.int .i64 0)))⟩] [7])
(.cond (.t 8) (.seq (.reg false [
⟨some 9, none, .build [.z (.int .i64 0), .z (.int .i64 0), .z (.int .i64 0)] []⟩,
⟨some 10, none, .mv (.t 4)⟩,
⟨none, none, .store 3 (.t 2) (.t 9)⟩,
⟨some 3, none, .mv (.t 10)⟩] [4, 9, 10])
.ret)
 .skip)))
(.seq (.reg true [
⟨some 11, none, .load (some 2) (.t 1)⟩,
⟨some 12, none, .call false true (.k (.fn n_calendar_Season_begin [] [])) [.t 11]⟩,
⟨some 13, none, .load (some 2) (.t 1)⟩,
⟨some 14, none, .call false true (.k (.fn n_calendar_Season_next [] [])) [.t 13]⟩,
⟨some 15, none, .call false true (.k (.fn n_calendar_Season_begin [] [])) [.t 14]⟩,
⟨some 16, none, .bin .sub (.t 15) (.k (.d (.int .i64 1)))⟩,
⟨some 17, none, .build [.z (.int .i64 0), .z (.int .i64 0), .z (.int .i64 0)] [(0, 1, .t 12), (1, 1, .t 16), (2, 1, .k (.d (.int .i64 127)))]⟩,
⟨none, none, .store 3 (.t 2) (.t 17)⟩,
⟨some 3, none, .mv (.k (.d (.int .i64 0)))⟩] [1, 11, 12, 13, 14, 15, 16, 17])
.ret)))⟩

/-- "turnround/turnroundref01.CheckDraw" -/
def c_ref01_CheckDraw : CF := ⟨[.tmp 4],
  (.seq (.reg false [
⟨some 4, none, .mv (.k (.d (.int .i64 0)))⟩] [4])
(.seq (.seq (.reg false [
⟨some 5, none, .mv (.t 0)⟩,
⟨some 6, none, .call false true (.k (.fn n_ref01_CheckRange [] [])) [.t 5, .k (.d (.int .i64 1)), .k (.d (.int .i64 2147483646))]⟩,
⟨some 7, none, .bin .neq (.t 6) (.k (.d (.int .i64 0)))⟩,
⟨some 8, none, .mv (.t 7)⟩,
⟨some 9, (some (8, false)), .mv (.t 1)⟩,
⟨some 10, (some (8, false)), .call false true (.k (.fn n_ref01_CheckRange [] [])) [.t 9, .k (.d (.int .i64 0)), .k (.d (.int .i64 256))]⟩,
⟨some 11, (some (8, false)), .bin .neq (.t 10) (.k (.d (.int .i64 0)))⟩,
⟨some 12, none, .pick (.t 8) (.k (.d (.bool true))) (.t 11)⟩] [0, 1, 5, 6, 7, 8, 9, 10, 11])
(.cond (.t 12) (.seq (.reg false [
⟨some 4, none, .mv (.k (.d (.int .i64 3)))⟩] [])
.ret)
 .skip))
(.seq (.reg false [
⟨some 4, none, .mv (.k (.d (.int .i64 0)))⟩] [])
.ret)))⟩

def b_calendar_Draw_1 : C :=
  (.seq (.reg false [
⟨some 24, none, .bin .lss (.t 23) (.t 22)⟩] [])
(.seq (.cond (.t 24) .skip
 (.exit 0))
(.seq (.block 1 (.seq (.reg false [
⟨some 25, none, .mv (.t 23)⟩,
⟨some 8, none, .mv (.t 25)⟩] [25])
(.reg false [
⟨some 26, none, .mv (.t 7)⟩,
⟨some 27, none, .mv (.t 8)⟩,
⟨some 28, none, .mkList 1 1 [.t 27]⟩,
⟨some 29, none, .append ⟨false, ty_int, 1, 8⟩ (.t 26) (.t 28)⟩,
⟨some 7, none, .mv (.t 29)⟩] [8, 26, 27, 28, 29])))
(.reg false [
⟨some 30, none, .bin .add (.t 23) (.k (.d (.int .i64 1)))⟩,
⟨some 23, none, .mv (.t 30)⟩] [30]))))

def b_calendar_Draw_2 : C :=
  (.seq (.seq (.reg false [
⟨some 39, none, .mv (.t 11)⟩,
⟨some 40, none, .bin .gtr (.t 39) (.k (.d (.int .i64 0)))⟩] [39])
(.cond (.t 40) .skip
 (.exit 2)))
(.seq (.block 3 (.seq (.reg false [
⟨some 43, none, .mv (.t 10)⟩,
⟨some 44, none, .bin .mul (.k (.d (.int .i64 48271))) (.t 43)⟩,
⟨some 45, none, .bin .rem (.t 44) (.k (.d (.int .i64 2147483647)))⟩,
⟨some 10, none, .mv (.t 45)⟩] [43, 44, 45])
(.seq (.reg false [
⟨some 46, none, .mv (.t 10)⟩,
⟨some 47, none, .mv (.t 11)⟩,
⟨some 48, none, .bin .add (.t 47) (.k (.d (.int .i64 1)))⟩,
⟨some 49, none, .bin .rem (.t 46) (.t 48)⟩,
⟨some 12, none, .mv (.t 49)⟩] [46, 47, 48, 49])
(.reg true [
⟨some 50, none, .mv (.t 9)⟩,
⟨some 51, none, .mv (.t 11)⟩,
⟨some 52, none, .mv (.t 9)⟩,
⟨some 53, none, .mv (.t 12)⟩,
⟨some 54, none, .mv (.t 9)⟩,
⟨some 55, none, .mv (.t 12)⟩,
⟨some 56, none, .idxAddr 1 (.t 54) (.t 55)⟩,
⟨some 57, none, .load none (.t 56)⟩,
⟨some 58, none, .mv (.t 9)⟩,
⟨some 59, none, .mv (.t 11)⟩,
⟨some 60, none, .idxAddr 1 (.t 58) (.t 59)⟩,
⟨some 61, none, .load none (.t 60)⟩,
⟨some 62, none, .idxAddr 1 (.t 50) (.t 51)⟩,
⟨none, none, .store 1 (.t 62) (.t 57)⟩,
⟨some 63, none, .idxAddr 1 (.t 52) (.t 53)⟩,
⟨none, none, .store 1 (.t 63) (.t 61)⟩] [12, 50, 51, 52, 53, 54, 55, 56, 57, 58, 59, 60, 61, 62, 63]))))
(.reg false [
⟨some 41, none, .mv (.t 11)⟩,
⟨some 42, none, .bin .sub (.t 41) (.k (.d (.int .i64 1)))⟩,
⟨some 11, none, .mv (.t 42)⟩] [41, 42])))

/-- "turnround/calendar.Draw" -/
def c_calendar_Draw : CF := ⟨[.tmp 4, .tmp 5],
  (.seq (.reg false [
⟨some 4, none, .ownNil ⟨true, ty_int, 1, 8⟩⟩,
⟨some 5, none, .mv (.k (.d (.int .i64 0)))⟩] [4, 5])
(.seq (.seq (.reg false [
⟨some 13, none, .mv (.t 0)⟩,
⟨some 14, none, .call false true (.k (.fn n_calendar_within [] [])) [.t 13, .k (.d (.int .i64 1)), .k (.d (.int .i64 2147483646))]⟩,
⟨some 15, none, .mv (.t 1)⟩,
⟨some 16, none, .call false true (.k (.fn n_calendar_within [] [])) [.t 15, .k (.d (.int .i64 0)), .k (.d (.int .i64 256))]⟩,
⟨some 17, none, .mkList 1 2 [.t 14, .t 16]⟩,
⟨some 18, none, .call false true (.k (.fn n_calendar_first [] [])) [.t 17]⟩,
⟨some 6, none, .mv (.t 18)⟩] [13, 14, 15, 16, 17, 18])
(.seq (.reg false [
⟨some 19, none, .mv (.t 6)⟩,
⟨some 20, none, .bin .neq (.t 19) (.k (.d (.int .i64 0)))⟩] [19])
(.cond (.t 20) (.seq (.reg false [
⟨some 21, none, .mv (.t 6)⟩,
⟨some 4, none, .ownNil ⟨true, ty_int, 1, 8⟩⟩,
⟨some 5, none, .mv (.t 21)⟩] [6, 21])
.ret)
 .skip)))
(.seq (.reg false [
⟨some 7, none, .ownNil ⟨false, ty_int, 1, 8⟩⟩] [])
(.seq (.seq (.reg false [
⟨some 22, none, .mv (.t 1)⟩,
⟨some 23, none, .mv (.k (.d (.int .i64 0)))⟩] [])
(.block 0 (.loop [0, 1, 7, 22, 23] b_calendar_Draw_1)))
(.seq (.reg false [
⟨some 31, none, .mv (.t 1)⟩,
⟨some 32, none, .makeRow ⟨true, ty_int, 1, 8⟩ [.int .i64 0] (.t 31)⟩,
⟨some 9, none, .mv (.t 32)⟩] [31, 32])
(.seq (.reg false [
⟨some 33, none, .mv (.t 9)⟩,
⟨some 34, none, .mv (.t 7)⟩,
⟨some 35, none, .copy 1 (.t 33) (.t 34)⟩] [7, 33, 34, 35])
(.seq (.reg false [
⟨some 36, none, .mv (.t 0)⟩,
⟨some 10, none, .mv (.t 36)⟩] [0, 36])
(.seq (.seq (.reg false [
⟨some 37, none, .mv (.t 1)⟩,
⟨some 38, none, .bin .sub (.t 37) (.k (.d (.int .i64 1)))⟩,
⟨some 11, none, .mv (.t 38)⟩] [1, 37, 38])
(.block 2 (.loop [9, 10, 11] b_calendar_Draw_2)))
(.seq (.reg false [
⟨some 64, none, .mv (.t 9)⟩,
⟨some 4, none, .mv (.t 64)⟩,
⟨some 5, none, .mv (.k (.d (.int .i64 0)))⟩] [9, 64])
.ret)))))))))⟩

def b_ref01_IsOrder_1 : C :=
  (.seq (.seq (.reg false [
⟨some 25, none, .mv (.t 4)⟩,
⟨some 26, none, .mv (.t 3)⟩,
⟨some 27, none, .bin .lss (.t 25) (.t 26)⟩] [25, 26])
(.cond (.t 27) .skip
 (.exit 2)))
(.seq (.block 3 (.seq (.reg true [
⟨some 30, none, .mv (.t 0)⟩,
⟨some 31, none, .mv (.t 4)⟩,
⟨some 32, none, .idxAddr 1 (.t 30) (.t 31)⟩,
⟨some 33, none, .load none (.t 32)⟩,
⟨some 34, none, .mv (.t 0)⟩,
⟨some 35, none, .mv (.t 3)⟩,
⟨some 36, none, .idxAddr 1 (.t 34) (.t 35)⟩,
⟨some 37, none, .load none (.t 36)⟩,
⟨some 38, none, .bin .eql (.t 33) (.t 37)⟩] [30, 31, 32, 33, 34, 35, 36, 37])
(.cond (.t 38) (.seq (.reg false [
⟨some 2, none, .mv (.k (.d (.bool false)))⟩] [])
.ret)
 .skip)))
(.reg false [
⟨some 28, none, .mv (.t 4)⟩,
⟨some 29, none, .bin .add (.t 28) (.k (.d (.int .i64 1)))⟩,
⟨some 4, none, .mv (.t 29)⟩] [28, 29])))

def b_ref01_IsOrder_2 : C :=
  (.seq (.seq (.reg false [
⟨some 5, none, .mv (.t 3)⟩,
⟨some 6, none, .mv (.t 0)⟩,
⟨some 7, none, .len .slc (.t 6)⟩,
⟨some 8, none, .bin .lss (.t 5) (.t 7)⟩] [5, 6, 7])
(.cond (.t 8) .skip
 (.exit 0)))
(.seq (.block 1 (.seq (.seq (.reg false [
⟨some 11, none, .mv (.t 0)⟩,
⟨some 12, none, .mv (.t 3)⟩,
⟨some 13, none, .idxAddr 1 (.t 11) (.t 12)⟩,
⟨some 14, none, .load none (.t 13)⟩,
⟨some 15, none, .bin .lss (.t 14) (.k (.d (.int .i64 0)))⟩,
⟨some 16, none, .mv (.t 15)⟩,
⟨some 17, (some (16, false)), .mv (.t 0)⟩,
⟨some 18, (some (16, false)), .mv (.t 3)⟩,
⟨some 19, (some (16, false)), .idxAddr 1 (.t 17) (.t 18)⟩,
⟨some 20, (some (16, false)), .load none (.t 19)⟩,
⟨some 21, (some (16, false)), .mv (.t 0)⟩,
⟨some 22, (some (16, false)), .len .slc (.t 21)⟩,
⟨some 23, (some (16, false)), .bin .geq (.t 20) (.t 22)⟩,
⟨some 24, none, .pick (.t 16) (.k (.d (.bool true))) (.t 23)⟩] [11, 12, 13, 14, 15, 16, 17, 18, 19, 20, 21, 22, 23])
(.cond (.t 24) (.seq (.reg false [
⟨some 2, none, .mv (.k (.d (.bool false)))⟩] [])
.ret)
 .skip))
(.seq (.reg false [
⟨some 4, none, .mv (.k (.d (.int .i64 0)))⟩] [])
(.block 2 (.loop [0, 3, 4] b_ref01_IsOrder_1)))))
(.reg false [
⟨some 9, none, .mv (.t 3)⟩,
⟨some 10, none, .bin .add (.t 9) (.k (.d (.int .i64 1)))⟩,
⟨some 3, none, .mv (.t 10)⟩] [9, 10])))

/-- "turnround/turnroundref01.IsOrder" -/
def c_ref01_IsOrder : CF := ⟨[.tmp 2],
  (.seq (.reg false [
⟨some 2, none, .mv (.k (.d (.bool false)))⟩] [2])
(.seq (.seq (.reg false [
⟨some 3, none, .mv (.k (.d (.int .i64 0)))⟩] [])
(.block 0 (.loop [0, 3] b_ref01_IsOrder_2)))
(.seq (.reg false [
⟨some 2, none, .mv (.k (.d (.bool true)))⟩] [])
.ret)))⟩

def b_ref01_SameInts_1 : C :=
  (.seq (.seq (.reg false [
⟨some 11, none, .mv (.t 5)⟩,
⟨some 12, none, .mv (.t 0)⟩,
⟨some 13, none, .len .slc (.t 12)⟩,
⟨some 14, none, .bin .lss (.t 11) (.t 13)⟩] [11, 12, 13])
(.cond (.t 14) .skip
 (.exit 0)))
(.seq (.block 1 (.seq (.reg true [
⟨some 17, none, .mv (.t 0)⟩,
⟨some 18, none, .mv (.t 5)⟩,
⟨some 19, none, .idxAddr 1 (.t 17) (.t 18)⟩,
⟨some 20, none, .load none (.t 19)⟩,
⟨some 21, none, .mv (.t 1)⟩,
⟨some 22, none, .mv (.t 5)⟩,
⟨some 23, none, .idxAddr 1 (.t 21) (.t 22)⟩,
⟨some 24, none, .load none (.t 23)⟩,
⟨some 25, none, .bin .neq (.t 20) (.t 24)⟩] [17, 18, 19, 20, 21, 22, 23, 24])
(.cond (.t 25) (.seq (.reg false [
⟨some 4, none, .mv (.k (.d (.bool false)))⟩] [])
.ret)
 .skip)))
(.reg false [
⟨some 15, none, .mv (.t 5)⟩,
⟨some 16, none, .bin .add (.t 15) (.k (.d (.int .i64 1)))⟩,
⟨some 5, none, .mv (.t 16)⟩] [15, 16])))

/-- "turnround/turnroundref01.SameInts" -/
def c_ref01_SameInts : CF := ⟨[.tmp 4],
  (.seq (.reg false [
⟨some 4, none, .mv (.k (.d (.bool false)))⟩] [4])
(.seq (.seq (.reg false [
⟨some 6, none, .mv (.t 0)⟩,
⟨some 7, none, .len .slc (.t 6)⟩,
⟨some 8, none, .mv (.t 1)⟩,
⟨some 9, none, .len .slc (.t 8)⟩,
⟨some 10, none, .bin .neq (.t 7) (.t 9)⟩] [6, 7, 8, 9])
(.cond (.t 10) (.seq (.reg false [
⟨some 4, none, .mv (.k (.d (.bool false)))⟩] [])
.ret)
 .skip))
(.seq (.seq (.reg false [
⟨some 5, none, .mv (.k (.d (.int .i64 0)))⟩] [])
(.block 0 (.loop [0, 1, 5] b_ref01_SameInts_1)))
(.seq (.reg false [
⟨some 4, none, .mv (.k (.d (.bool true)))⟩] [])
.ret))))⟩

/-- "turnround/calendar.Split" -/
def c_calendar_Split : CF := ⟨[.cell 4 (some 6), .tmp 5],
  (.seq (.reg false [
⟨some 2, none, .box ty_api_Period (.t 0)⟩,
⟨some 4, none, .alloc ty_2_api_Period [.z (.int .i64 0), .z (.int .i64 0), .z (.int .i64 0), .z (.int .i64 0), .z (.int .i64 0), .z (.int .i64 0)]⟩,
⟨some 5, none, .mv (.k (.d (.int .i64 0)))⟩] [0, 5])
(.seq (.seq (.reg false [
⟨some 7, none, .load (some 3) (.t 2)⟩,
⟨some 8, none, .call false true (.k (.fn n_calendar_CheckPeriod [] [])) [.t 7]⟩,
⟨some 6, none, .mv (.t 8)⟩] [7, 8])
(.seq (.reg false [
⟨some 9, none, .mv (.t 6)⟩,
⟨some 10, none, .bin .neq (.t 9) (.k (.d (.int .i64 0)))⟩] [9])
(.cond (.t 10) (.seq (.reg false [
⟨some 11, none, .build [.z (.int .i64 0), .z (.int .i64 0), .z (.int .i64 0), .z (.int .i64 0), .z (.int .i64 0), .z (.int .i64 0)] []⟩,
⟨some 12, none, .mv (.t 6)⟩,
⟨none, none, .store 6 (.t 4) (.t 11)⟩,
⟨some 5, none, .mv (.t 12)⟩] [6, 11, 12])
.ret)
 .skip)))
(.seq (.seq (.reg false [
⟨some 13, none, .mv (.t 1)⟩,
⟨some 14, none, .fieldAddr 0 (.t 2)⟩,
⟨some 15, none, .load none (.t 14)⟩,
⟨some 16, none, .bin .leq (.t 13) (.t 15)⟩,
⟨some 17, none, .mv (.t 16)⟩,
⟨some 18, (some (17, false)), .mv (.t 1)⟩,
⟨some 19, (some (17, false)), .fieldAddr 1 (.t 2)⟩,
⟨some 20, (some (17, false)), .load none (.t 19)⟩,
⟨some 21, (some (17, false)), .bin .gtr (.t 18) (.t 20)⟩,
⟨some 22, none, .pick (.t 17) (.k (.d (.bool true))) (.t 21)⟩] [13, 14, 15, 16, 17, 18, 19, 20, 21])
(.cond (.t 22) (.seq (.reg false [
⟨some 23, none, .build [.z (.int .i64 0), .z (.int .i64 0), .z (.int .i64 0), .z (.int .i64 0), .z (.int .i64 0), .z (.int .i64 0)] []⟩,
⟨none, none, .store 6 (.t 4) (.t 23)⟩,
⟨some 5, none, .mv (.k (.d (.int .i64 30)))⟩] [23])
.ret)
 .skip))
(.seq (.reg false [
⟨some 24, none, .fieldAddr 0 (.t 2)⟩,
⟨some 25, none, .load none (.t 24)⟩,
⟨some 26, none, .mv (.t 1)⟩,
⟨some 27, none, .bin .sub (.t 26) (.k (.d (.int .i64 1)))⟩,
⟨some 28, none, .fieldAddr 2 (.t 2)⟩,
⟨some 29, none, .load none (.t 28)⟩,
⟨some 30, none, .build [.z (.int .i64 0), .z (.int .i64 0), .z (.int .i64 0)] [(0, 1, .t 25), (1, 1, .t 27), (2, 1, .t 29)]⟩,
⟨some 31, none, .mv (.t 1)⟩,
⟨some 32, none, .fieldAddr 1 (.t 2)⟩,
⟨some 33, none, .load none (.t 32)⟩,
⟨some 34, none, .fieldAddr 2 (.t 2)⟩,
⟨some 35, none, .load none (.t 34)⟩,
⟨some 36, none, .build [.z (.int .i64 0), .z (.int .i64 0), .z (.int .i64 0)] [(0, 1, .t 31), (1, 1, .t 33), (2, 1, .t 35)]⟩,
⟨some 37, none, .build [.z (.int .i64 0), .z (.int .i64 0), .z (.int .i64 0), .z (.int .i64 0), .z (.int .i64 0), .z (.int .i64 0)] [(0, 3, .t 30), (3, 3, .t 36)]⟩,
⟨none, none, .store 6 (.t 4) (.t 37)⟩,
⟨some 5, none, .mv (.k (.d (.int .i64 0)))⟩] [1, 2, 24, 25, 26, 27, 28, 29, 30, 31, 32, 33, 34, 35, 36, 37])
.ret))))⟩

/-- "turnround/calendar.Shift" -/
def c_calendar_Shift : CF := ⟨[.cell 4 (some 3), .tmp 5],
  (.seq (.reg false [
⟨some 2, none, .box ty_api_Period (.t 0)⟩,
⟨some 4, none, .alloc ty_api_Period [.z (.int .i64 0), .z (.int .i64 0), .z (.int .i64 0)]⟩,
⟨some 5, none, .mv (.k (.d (.int .i64 0)))⟩] [0, 5])
(.seq (.seq (.reg false [
⟨some 9, none, .load (some 3) (.t 2)⟩,
⟨some 10, none, .call false true (.k (.fn n_calendar_CheckPeriod [] [])) [.t 9]⟩,
⟨some 11, none, .mv (.t 1)⟩,
⟨some 12, none, .call false true (.k (.fn n_calendar_within [] [])) [.t 11, .k (.d (.int .i64 (-99999))), .k (.d (.int .i64 99999))]⟩,
⟨some 13, none, .mkList 1 2 [.t 10, .t 12]⟩,
⟨some 14, none, .call false true (.k (.fn n_calendar_first [] [])) [.t 13]⟩,
⟨some 6, none, .mv (.t 14)⟩] [9, 10, 11, 12, 13, 14])
(.seq (.reg false [
⟨some 15, none, .mv (.t 6)⟩,
⟨some 16, none, .bin .neq (.t 15) (.k (.d (.int .i64 0)))⟩] [15])
(.cond (.t 16) (.seq (.reg false [
⟨some 17, none, .build [.z (.int .i64 0), .z (.int .i64 0), .z (.int .i64 0)] []⟩,
⟨some 18, none, .mv (.t 6)⟩,
⟨none, none, .store 3 (.t 4) (.t 17)⟩,
⟨some 5, none, .mv (.t 18)⟩] [6, 17, 18])
.ret)
 .skip)))
(.seq (.seq (.reg false [
⟨some 19, none, .fieldAddr 0 (.t 2)⟩,
⟨some 20, none, .load none (.t 19)⟩,
⟨some 21, none, .mv (.t 1)⟩,
⟨some 22, none, .bin .add (.t 20) (.t 21)⟩,
⟨some 23, none, .bin .lss (.t 22) (.k (.d (.int .i64 0)))⟩,
⟨some 24, none, .mv (.t 23)⟩,
⟨some 25, (some (24, false)), .fieldAddr 1 (.t 2)⟩,
⟨some 26, (some (24, false)), .load none (.t 25)⟩,
⟨some 27, (some (24, false)), .mv (.t 1)⟩,
⟨some 28, (some (24, false)), .bin .add (.t 26) (.t 27)⟩,
⟨some 29, (some (24, false)), .bin .gtr (.t 28) (.k (.d (.int .i64 99999)))⟩,
⟨some 30, none, .pick (.t 24) (.k (.d (.bool true))) (.t 29)⟩] [19, 20, 21, 22, 23, 24, 25, 26, 27, 28, 29])
(.cond (.t 30) (.seq (.reg false [
⟨some 31, none, .build [.z (.int .i64 0), .z (.int .i64 0), .z (.int .i64 0)] []⟩,
⟨none, none, .store 3 (.t 4) (.t 31)⟩,
⟨some 5, none, .mv (.k (.d (.int .i64 30)))⟩] [31])
.ret)
 .skip))
(.seq (.reg false [
⟨some 32, none, .mv (.t 1)⟩,
⟨some 33, none, .bin .rem (.t 32) (.k (.d (.int .i64 7)))⟩,
⟨some 34, none, .bin .add (.t 33) (.k (.d (.int .i64 7)))⟩,
⟨some 35, none, .bin .rem (.t 34) (.k (.d (.int .i64 7)))⟩,
⟨some 7, none, .mv (.t 35)⟩] [32, 33, 34, 35])
(.seq (.reg true [
⟨some 36, none, .fieldAddr 2 (.t 2)⟩,
⟨some 37, none, .load none (.t 36)⟩,
⟨some 38, none, .mv (.t 7)⟩,
⟨some 39, none, .bin .shl (.t 37) (.t 38)⟩,
⟨some 40, none, .fieldAddr 2 (.t 2)⟩,
⟨some 41, none, .load none (.t 40)⟩,
⟨some 42, none, .mv (.t 7)⟩,
⟨some 43, none, .bin .sub (.k (.d (.int .i64 7))) (.t 42)⟩,
⟨some 44, none, .bin .shr (.t 41) (.t 43)⟩,
⟨some 45, none, .bin .or (.t 39) (.t 44)⟩,
⟨some 46, none, .bin .and (.t 45) (.k (.d (.int .i64 127)))⟩,
⟨some 8, none, .mv (.t 46)⟩] [7, 36, 37, 38, 39, 40, 41, 42, 43, 44, 45, 46])
(.seq (.reg false [
⟨some 47, none, .fieldAddr 0 (.t 2)⟩,
⟨some 48, none, .load none (.t 47)⟩,
⟨some 49, none, .mv (.t 1)⟩,
⟨some 50, none, .bin .add (.t 48) (.t 49)⟩,
⟨some 51, none, .fieldAddr 1 (.t 2)⟩,
⟨some 52, none, .load none (.t 51)⟩,
⟨some 53, none, .mv (.t 1)⟩,
⟨some 54, none, .bin .add (.t 52) (.t 53)⟩,
⟨some 55, none, .mv (.t 8)⟩,
⟨some 56, none, .build [.z (.int .i64 0), .z (.int .i64 0), .z (.int .i64 0)] [(0, 1, .t 50), (1, 1, .t 54), (2, 1, .t 55)]⟩,
⟨none, none, .store 3 (.t 4) (.t 56)⟩,
⟨some 5, none, .mv (.k (.d (.int .i64 0)))⟩] [1, 2, 8, 47, 48, 49, 50, 51, 52, 53, 54, 55, 56])
.ret))))))⟩

/-- "turnround/turnroundref01.CheckPeriod" -/
def c_ref01_CheckPeriod : CF := ⟨[.tmp 2],
  (.seq (.reg false [
⟨some 1, none, .box ty_api_Period (.t 0)⟩,
⟨some 2, none, .mv (.k (.d (.int .i64 0)))⟩] [0, 2])
(.seq (.seq (.reg false [
⟨some 3, none, .fieldAddr 0 (.t 1)⟩,
⟨some 4, none, .load none (.t 3)⟩,
⟨some 5, none, .call false true (.k (.fn n_ref01_CheckDay [] [])) [.t 4]⟩,
⟨some 6, none, .bin .neq (.t 5) (.k (.d (.int .i64 0)))⟩,
⟨some 7, none, .mv (.t 6)⟩,
⟨some 8, (some (7, false)), .fieldAddr 1 (.t 1)⟩,
⟨some 9, (some (7, false)), .load none (.t 8)⟩,
⟨some 10, (some (7, false)), .call false true (.k (.fn n_ref01_CheckDay [] [])) [.t 9]⟩,
⟨some 11, (some (7, false)), .bin .neq (.t 10) (.k (.d (.int .i64 0)))⟩,
⟨some 12, none, .pick (.t 7) (.k (.d (.bool true))) (.t 11)⟩] [3, 4, 5, 6, 7, 8, 9, 10, 11])
(.cond (.t 12) (.seq (.reg false [
⟨some 2, none, .mv (.k (.d (.int .i64 3)))⟩] [])
.ret)
 .skip))
(.seq (.seq (.reg false [
⟨some 13, none, .fieldAddr 1 (.t 1)⟩,
⟨some 14, none, .load none (.t 13)⟩,
⟨some 15, none, .fieldAddr 0 (.t 1)⟩,
⟨some 16, none, .load none (.t 15)⟩,
⟨some 17, none, .bin .lss (.t 14) (.t 16)⟩] [13, 14, 15, 16])
(.cond (.t 17) (.seq (.reg false [
⟨some 2, none, .mv (.k (.d (.int .i64 11)))⟩] [])
.ret)
 .skip))
(.seq (.seq (.reg false [
⟨some 18, none, .fieldAddr 1 (.t 1)⟩,
⟨some 19, none, .load none (.t 18)⟩,
⟨some 20, none, .fieldAddr 0 (.t 1)⟩,
⟨some 21, none, .load none (.t 20)⟩,
⟨some 22, none, .bin .sub (.t 19) (.t 21)⟩,
⟨some 23, none, .bin .gtr (.t 22) (.k (.d (.int .i64 400)))⟩] [18, 19, 20, 21, 22])
(.cond (.t 23) (.seq (.reg false [
⟨some 2, none, .mv (.k (.d (.int .i64 4)))⟩] [])
.ret)
 .skip))
(.seq (.reg false [
⟨some 24, none, .fieldAddr 2 (.t 1)⟩,
⟨some 25, none, .load none (.t 24)⟩,
⟨some 26, none, .call false true (.k (.fn n_ref01_CheckRange [] [])) [.t 25, .k (.d (.int .i64 1)), .k (.d (.int .i64 127))]⟩,
⟨some 2, none, .mv (.t 26)⟩] [1, 24, 25, 26])
.ret)))))⟩

/-- "turnround/turnroundlaw01.first" -/
def c_law01_first : CF := ⟨[.tmp 2],
  (.seq (.reg false [
⟨some 2, none, .mv (.k (.d (.int .i64 0)))⟩] [2])
(.seq (.reg false [
⟨some 3, none, .mv (.t 0)⟩,
⟨some 4, none, .call false true (.k (.fn n_ref01_First [] [])) [.t 3]⟩,
⟨some 2, none, .mv (.t 4)⟩] [0, 3, 4])
.ret))⟩

def b_ref01_Shift_1 : C :=
  (.seq (.seq (.reg false [
⟨some 8, none, .mv (.t 7)⟩,
⟨some 9, none, .bin .lss (.t 8) (.k (.d (.int .i64 7)))⟩] [8])
(.cond (.t 9) .skip
 (.exit 0)))
(.seq (.block 1 (.seq (.seq (.reg false [
⟨some 12, none, .fieldAddr 2 (.t 2)⟩,
⟨some 13, none, .load none (.t 12)⟩,
⟨some 14, none, .mv (.t 7)⟩,
⟨some 15, none, .mv (.t 1)⟩,
⟨some 16, none, .bin .sub (.t 14) (.t 15)⟩,
⟨some 17, none, .bin .rem (.t 16) (.k (.d (.int .i64 7)))⟩,
⟨some 18, none, .bin .add (.t 17) (.k (.d (.int .i64 7)))⟩,
⟨some 19, none, .bin .rem (.t 18) (.k (.d (.int .i64 7)))⟩,
⟨some 20, none, .call false true (.k (.fn n_ref01_InMask [] [])) [.t 13, .t 19]⟩] [12, 13, 14, 15, 16, 17, 18, 19])
(.cond (.t 20) (.reg false [
⟨some 21, none, .mv (.t 5)⟩,
⟨some 22, none, .mv (.t 6)⟩,
⟨some 23, none, .bin .add (.t 21) (.t 22)⟩,
⟨some 5, none, .mv (.t 23)⟩] [21, 22, 23])
 .skip))
(.reg false [
⟨some 24, none, .mv (.t 6)⟩,
⟨some 25, none, .bin .mul (.k (.d (.int .i64 2))) (.t 24)⟩,
⟨some 6, none, .mv (.t 25)⟩] [24, 25])))
(.reg false [
⟨some 10, none, .mv (.t 7)⟩,
⟨some 11, none, .bin .add (.t 10) (.k (.d (.int .i64 1)))⟩,
⟨some 7, none, .mv (.t 11)⟩] [10, 11])))

/-- "turnround/turnroundref01.Shift" -/
def c_ref01_Shift : CF := ⟨[.cell 4 (some 3)],
  (.seq (.reg false [
⟨some 2, none, .box ty_api_Period (.t 0)⟩,
⟨some 4, none, .alloc ty_api_Period [.z (.int .i64 0), .z (.int .i64 0), .z (.int .i64 0)]⟩] [0])
(.seq (.reg false [
⟨some 5, none, .mv (.k (.d (.int .i64 0)))⟩,
⟨some 6, none, .mv (.k (.d (.int .i64 1)))⟩] [])
(.seq (.seq (.reg false [
⟨some 7, none, .mv (.k (.d (.int .i64 0)))⟩] [])
(.block 0 (.loop [1, 2, 4, 5, 6, 7] b_ref01_Shift_1)))
(.seq (.reg false [
⟨some 26, none, .fieldAddr 0 (.t 2)⟩,
⟨some 27, none, .load none (.t 26)⟩,
⟨some 28, none, .mv (.t 1)⟩,
⟨some 29, none, .bin .add (.t 27) (.t 28)⟩,
⟨some 30, none, .fieldAddr 1 (.t 2)⟩,
⟨some 31, none, .load none (.t 30)⟩,
⟨some 32, none, .mv (.t 1)⟩,
⟨some 33, none, .bin .add (.t 31) (.t 32)⟩,
⟨some 34, none, .mv (.t 5)⟩,
⟨some 35, none, .build [.z (.int .i64 0), .z (.int .i64 0), .z (.int .i64 0)] [(0, 1, .t 29), (1, 1, .t 33), (2, 1, .t 34)]⟩,
⟨none, none, .store 3 (.t 4) (.t 35)⟩] [1, 2, 5, 26, 27, 28, 29, 30, 31, 32, 33, 34, 35])
.ret))))⟩

/-- "turnround/turnroundref01.CheckDay" -/
def c_ref01_CheckDay : CF := ⟨[.tmp 2],
  (.seq (.reg false [
⟨some 2, none, .mv (.k (.d (.int .i64 0)))⟩] [2])
(.seq (.reg false [
⟨some 3, none, .mv (.t 0)⟩,
⟨some 4, none, .call false true (.k (.fn n_ref01_CheckRange [] [])) [.t 3, .k (.d (.int .i64 0)), .k (.d (.int .i64 99999))]⟩,
⟨some 2, none, .mv (.t 4)⟩] [0, 3, 4])
.ret))⟩

/-- "turnround/calendar.DaysOf" -/
def c_calendar_DaysOf : CF := ⟨[.tmp 2, .tmp 3],
  (.seq (.reg false [
⟨some 1, none, .box ty_api_Period (.t 0)⟩,
⟨some 2, none, .mv (.k (.d (.list 0 [])))⟩,
⟨some 3, none, .mv (.k (.d (.int .i64 0)))⟩] [0, 2, 3])
(.seq (.seq (.reg false [
⟨some 5, none, .load (some 3) (.t 1)⟩,
⟨some 6, none, .call false true (.k (.fn n_calendar_CheckPeriod [] [])) [.t 5]⟩,
⟨some 4, none, .mv (.t 6)⟩] [5, 6])
(.seq (.reg false [
⟨some 7, none, .mv (.t 4)⟩,
⟨some 8, none, .bin .neq (.t 7) (.k (.d (.int .i64 0)))⟩] [7])
(.cond (.t 8) (.seq (.reg false [
⟨some 9, none, .mv (.t 4)⟩,
⟨some 2, none, .mv (.k (.d (.list 0 [])))⟩,
⟨some 3, none, .mv (.t 9)⟩] [4, 9])
.ret)
 .skip)))
(.seq (.reg false [
⟨some 10, none, .load (some 3) (.t 1)⟩,
⟨some 11, none, .call false false (.k (.fn n_calendar_daysOf [] [])) [.t 10]⟩,
⟨some 12, none, .call true true (.k (.fn n_calendar_collected_int [] [])) [.t 11, .k (.fn n_calendar_DaysOf_1 [] [])]⟩,
⟨some 2, none, .mv (.t 12)⟩,
⟨some 3, none, .mv (.k (.d (.int .i64 0)))⟩] [1, 10, 11, 12])
.ret)))⟩

/-- "turnround/turnroundref01.CheckSeason" -/
def c_ref01_CheckSeason : CF := ⟨[.tmp 2],
  (.seq (.reg false [
⟨some 1, none, .box ty_turnroundref01_Season (.t 0)⟩,
⟨some 2, none, .mv (.k (.d (.int .i64 0)))⟩] [0, 2])
(.seq (.reg false [
⟨some 4, none, .fieldAddr 0 (.t 1)⟩,
⟨some 5, none, .load none (.t 4)⟩,
⟨some 6, none, .call false true (.k (.fn n_ref01_CheckRange [] [])) [.t 5, .k (.d (.int .i64 2000)), .k (.d (.int .i64 2272))]⟩,
⟨some 3, none, .mv (.t 6)⟩] [4, 5, 6])
(.seq (.seq (.reg false [
⟨some 7, none, .mv (.t 3)⟩,
⟨some 8, none, .bin .eql (.t 7) (.k (.d (.int .i64 0)))⟩,
⟨some 9, none, .mv (.t 8)⟩,
⟨some 10, (some (9, true)), .fieldAddr 1 (.t 1)⟩,
⟨some 11, (some (9, true)), .load none (.t 10)⟩,
⟨some 12, (some (9, true)), .bin .neq (.t 11) (.k (.d (.str [83])))⟩,
⟨some 13, none, .pick (.t 9) (.t 12) (.k (.d (.bool false)))⟩,
⟨some 14, none, .mv (.t 13)⟩,
⟨some 15, (some (14, true)), .fieldAddr 1 (.t 1)⟩,
⟨some 16, (some (14, true)), .load none (.t 15)⟩,
⟨some 17, (some (14, true)), .bin .neq (.t 16) (.k (.d (.str [87])))⟩,
⟨some 18, none, .pick (.t 14) (.t 17) (.k (.d (.bool false)))⟩] [1, 7, 8, 9, 10, 11, 12, 13, 14, 15, 16, 17])
(.cond (.t 18) (.reg false [
⟨some 3, none, .mv (.k (.d (.int .i64 13)))⟩] [])
 .skip))
(.seq (.reg false [
⟨some 19, none, .mv (.t 3)⟩,
⟨some 2, none, .mv (.t 19)⟩] [3, 19])
.ret))))⟩

/-- "turnround/calendar.SeasonOf" -/
def c_calendar_SeasonOf : CF := ⟨[.cell 2 (some 2), .tmp 3],
  (.seq (.reg false [
⟨some 2, none, .alloc ty_calendar_Season [.z (.int .i64 0), .z (.str [])]⟩,
⟨some 3, none, .mv (.k (.d (.int .i64 0)))⟩] [3])
(.seq (.seq (.reg false [
⟨some 6, none, .mv (.t 0)⟩,
⟨some 7, none, .call false true (.k (.fn n_calendar_checkDay [] [])) [.t 6]⟩,
⟨some 4, none, .mv (.t 7)⟩] [6, 7])
(.seq (.reg false [
⟨some 8, none, .mv (.t 4)⟩,
⟨some 9, none, .bin .neq (.t 8) (.k (.d (.int .i64 0)))⟩] [8])
(.cond (.t 9) (.seq (.reg false [
⟨some 10, none, .build [.z (.int .i64 0), .z (.str [])] []⟩,
⟨some 11, none, .mv (.t 4)⟩,
⟨none, none, .store 2 (.t 2) (.t 10)⟩,
⟨some 3, none, .mv (.t 11)⟩] [4, 10, 11])
.ret)
 .skip)))
(.seq (.seq (.reg false [
⟨some 12, none, .mv (.t 0)⟩,
⟨some 13, none, .call false true (.k (.fn n_calendar_earliest [] [])) []⟩,
⟨some 14, none, .call false true (.k (.fn n_calendar_Season_begin [] [])) [.t 13]⟩,
⟨some 15, none, .bin .lss (.t 12) (.t 14)⟩,
⟨some 16, none, .mv (.t 15)⟩,
⟨some 17, (some (16, false)), .mv (.t 0)⟩,
⟨some 18, (some (16, false)), .call false true (.k (.fn n_calendar_latest [] [])) []⟩,
⟨some 19, (some (16, false)), .call false true (.k (.fn n_calendar_Season_next [] [])) [.t 18]⟩,
⟨some 20, (some (16, false)), .call false true (.k (.fn n_calendar_Season_begin [] [])) [.t 19]⟩,
⟨some 21, (some (16, false)), .bin .geq (.t 17) (.t 20)⟩,
⟨some 22, none, .pick (.t 16) (.k (.d (.bool true))) (.t 21)⟩] [12, 13, 14, 15, 16, 17, 18, 19, 20, 21])
(.cond (.t 22) (.seq (.reg false [
⟨some 23, none, .build [.z (.int .i64 0), .z (.str [])] []⟩,
⟨none, none, .store 2 (.t 2) (.t 23)⟩,
⟨some 3, none, .mv (.k (.d (.int .i64 30)))⟩] [23])
.ret)
 .skip))
(.seq (.reg false [
⟨some 24, none, .mv (.t 0)⟩,
⟨some 25, none, .call false true (.k (.fn n_calendar_date [] [])) [.t 24]⟩,
⟨some 26, none, .idxA 3 1 none (.t 25) (.k (.d (.int .i64 0)))⟩,
⟨some 5, none, .mv (.t 26)⟩] [24, 25, 26])
(.seq (.block 0 (.seq (.reg false [
⟨some 28, none, .mv (.t 0)⟩,
⟨some 29, none, .mv (.t 5)⟩,
⟨some 30, none, .call false true (.k (.fn n_calendar_lastSunday [] [])) [.t 29, .k (.d (.int .i64 3))]⟩,
⟨some 31, none, .bin .lss (.t 28) (.t 30)⟩,
⟨some 27, none, .mv (.t 31)⟩] [28, 29, 30, 31])
(.cond (.t 27) (.seq (.reg false [
⟨some 32, none, .mv (.t 5)⟩,
⟨some 33, none, .bin .sub (.t 32) (.k (.d (.int .i64 1)))⟩,
⟨some 34, none, .build [.z (.int .i64 0), .z (.str [])] [(0, 1, .t 33), (1, 1, .k (.d (.str [87])))]⟩,
⟨none, none, .store 2 (.t 2) (.t 34)⟩,
⟨some 3, none, .mv (.k (.d (.int .i64 0)))⟩] [5, 32, 33, 34])
.ret)
 (.seq (.reg false [
⟨some 36, none, .mv (.t 0)⟩,
⟨some 37, none, .mv (.t 5)⟩,
⟨some 38, none, .call false true (.k (.fn n_calendar_lastSunday [] [])) [.t 37, .k (.d (.int .i64 10))]⟩,
⟨some 39, none, .bin .lss (.t 36) (.t 38)⟩,
⟨some 35, none, .mv (.t 39)⟩] [0, 36, 37, 38, 39])
(.cond (.t 35) (.seq (.reg false [
⟨some 40, none, .mv (.t 5)⟩,
⟨some 41, none, .build [.z (.int .i64 0), .z (.str [])] [(0, 1, .t 40), (1, 1, .k (.d (.str [83])))]⟩,
⟨none, none, .store 2 (.t 2) (.t 41)⟩,
⟨some 3, none, .mv (.k (.d (.int .i64 0)))⟩] [5, 40, 41])
.ret)
 .skip)))))
(.seq (.reg false [
⟨some 42, none, .mv (.t 5)⟩,
⟨some 43, none, .build [.z (.int .i64 0), .z (.str [])] [(0, 1, .t 42), (1, 1, .k (.d (.str [87])))]⟩,
⟨none, none, .store 2 (.t 2) (.t 43)⟩,
⟨some 3, none, .mv (.k (.d (.int .i64 0)))⟩] [5, 42, 43])
.ret))))))⟩

/-- "turnround/calendar.Next" -/
def c_calendar_Next : CF := ⟨[.cell 2 (some 2), .tmp 3],
  (.seq (.reg false [
⟨some 1, none, .box ty_calendar_Season (.t 0)⟩,
⟨some 2, none, .alloc ty_calendar_Season [.z (.int .i64 0), .z (.str [])]⟩,
⟨some 3, none, .mv (.k (.d (.int .i64 0)))⟩] [0, 3])
(.seq (.seq (.reg true [
⟨some 5, none, .load (some 2) (.t 1)⟩,
⟨some 6, none, .call false true (.k (.fn n_calendar_CheckSeason [] [])) [.t 5]⟩,
⟨some 7, none, .load (some 2) (.t 1)⟩,
⟨some 8, none, .call false true (.k (.fn n_calendar_latest [] [])) []⟩,
⟨some 9, none, .eqv (some [.int, .str]) false (.t 7) (.t 8)⟩,
⟨some 10, none, .call false true (.k (.fn n_calendar_when [] [])) [.t 9, .k (.d (.int .i64 7))]⟩,
⟨some 11, none, .mkList 1 2 [.t 6, .t 10]⟩,
⟨some 12, none, .call false true (.k (.fn n_calendar_first [] [])) [.t 11]⟩,
⟨some 4, none, .mv (.t 12)⟩] [5, 6, 7, 8, 9, 10, 11, 12])
(.seq (.reg false [
⟨some 13, none, .mv (.t 4)⟩,
⟨some 14, none, .bin .neq (.t 13) (.k (.d (.int .i64 0)))⟩] [13])
(.cond (.t 14) (.seq (.reg false [
⟨some 15, none, .build [.z (.int .i64 0), .z (.str [])] []⟩,
⟨some 16, none, .mv (.t 4)⟩,
⟨none, none, .store 2 (.t 2) (.t 15)⟩,
⟨some 3, none, .mv (.t 16)⟩] [4, 15, 16])
.ret)
 .skip)))
(.seq (.reg false [
⟨some 17, none, .load (some 2) (.t 1)⟩,
⟨some 18, none, .call false true (.k (.fn n_calendar_Season_next [] [])) [.t 17]⟩,
⟨none, none, .store 2 (.t 2) (.t 18)⟩,
⟨some 3, none, .mv (.k (.d (.int .i64 0)))⟩] [1, 17, 18])
.ret)))⟩

/-- "turnround/calendar.Previous" -/
def c_calendar_Previous : CF := ⟨[.cell 2 (some 2), .tmp 3],
  (.seq (.reg false [
⟨some 1, none, .box ty_calendar_Season (.t 0)⟩,
⟨some 2, none, .alloc ty_calendar_Season [.z (.int .i64 0), .z (.str [])]⟩,
⟨some 3, none, .mv (.k (.d (.int .i64 0)))⟩] [0, 3])
(.seq (.seq (.reg true [
⟨some 5, none, .load (some 2) (.t 1)⟩,
⟨some 6, none, .call false true (.k (.fn n_calendar_CheckSeason [] [])) [.t 5]⟩,
⟨some 7, none, .load (some 2) (.t 1)⟩,
⟨some 8, none, .call false true (.k (.fn n_calendar_earliest [] [])) []⟩,
⟨some 9, none, .eqv (some [.int, .str]) false (.t 7) (.t 8)⟩,
⟨some 10, none, .call false true (.k (.fn n_calendar_when [] [])) [.t 9, .k (.d (.int .i64 7))]⟩,
⟨some 11, none, .mkList 1 2 [.t 6, .t 10]⟩,
⟨some 12, none, .call false true (.k (.fn n_calendar_first [] [])) [.t 11]⟩,
⟨some 4, none, .mv (.t 12)⟩] [5, 6, 7, 8, 9, 10, 11, 12])
(.seq (.reg false [
⟨some 13, none, .mv (.t 4)⟩,
⟨some 14, none, .bin .neq (.t 13) (.k (.d (.int .i64 0)))⟩] [13])
(.cond (.t 14) (.seq (.reg false [
⟨some 15, none, .build [.z (.int .i64 0), .z (.str [])] []⟩,
⟨some 16, none, .mv (.t 4)⟩,
⟨none, none, .store 2 (.t 2) (.t 15)⟩,
⟨some 3, none, .mv (.t 16)⟩] [4, 15, 16])
.ret)
 .skip)))
(.seq (.seq (.reg false [
⟨some 17, none, .fieldAddr 1 (.t 1)⟩,
⟨some 18, none, .load none (.t 17)⟩,
⟨some 19, none, .bin .eql (.t 18) (.k (.d (.str [87])))⟩] [17, 18])
(.cond (.t 19) (.seq (.reg false [
⟨some 20, none, .fieldAddr 0 (.t 1)⟩,
⟨some 21, none, .load none (.t 20)⟩,
⟨some 22, none, .build [.z (.int .i64 0), .z (.str [])] [(0, 1, .t 21), (1, 1, .k (.d (.str [83])))]⟩,
⟨none, none, .store 2 (.t 2) (.t 22)⟩,
⟨some 3, none, .mv (.k (.d (.int .i64 0)))⟩] [1, 20, 21, 22])
.ret)
 .skip))
(.seq (.reg false [
⟨some 23, none, .fieldAddr 0 (.t 1)⟩,
⟨some 24, none, .load none (.t 23)⟩,
⟨some 25, none, .bin .sub (.t 24) (.k (.d (.int .i64 1)))⟩,
⟨some 26, none, .build [.z (.int .i64 0), .z (.str [])] [(0, 1, .t 25), (1, 1, .k (.d (.str [87])))]⟩,
⟨none, none, .store 2 (.t 2) (.t 26)⟩,
⟨some 3, none, .mv (.k (.d (.int .i64 0)))⟩] [1, 23, 24, 25, 26])
.ret))))⟩

/-- "turnround/calendar.Equivalent" -/
def c_calendar_Equivalent : CF := ⟨[.tmp 4, .tmp 5],
  (.seq (.reg false [
⟨some 3, none, .box ty_calendar_Season (.t 1)⟩,
⟨some 4, none, .mv (.k (.d (.int .i64 0)))⟩,
⟨some 5, none, .mv (.k (.d (.int .i64 0)))⟩] [1, 4, 5])
(.seq (.reg false [
⟨some 11, none, .mv (.t 0)⟩,
⟨some 12, none, .call false true (.k (.fn n_calendar_SeasonOf [] [])) [.t 11]⟩,
⟨some 10, none, .mv (.t 12)⟩,
⟨some 13, none, .extract (.t 10) 0⟩,
⟨some 14, none, .extract (.t 10) 1⟩,
⟨some 6, none, .alloc ty_calendar_Season [.z (.int .i64 0), .z (.str [])]⟩,
⟨none, none, .store 2 (.t 6) (.t 13)⟩,
⟨some 7, none, .mv (.t 14)⟩] [10, 11, 12, 13, 14])
(.seq (.seq (.reg true [
⟨some 15, none, .mv (.t 7)⟩,
⟨some 16, none, .load (some 2) (.t 3)⟩,
⟨some 17, none, .call false true (.k (.fn n_calendar_CheckSeason [] [])) [.t 16]⟩,
⟨some 18, none, .fieldAddr 1 (.t 6)⟩,
⟨some 19, none, .load none (.t 18)⟩,
⟨some 20, none, .fieldAddr 1 (.t 3)⟩,
⟨some 21, none, .load none (.t 20)⟩,
⟨some 22, none, .bin .neq (.t 19) (.t 21)⟩,
⟨some 23, none, .call false true (.k (.fn n_calendar_when [] [])) [.t 22, .k (.d (.int .i64 13))]⟩,
⟨some 24, none, .mkList 1 3 [.t 15, .t 17, .t 23]⟩,
⟨some 25, none, .call false true (.k (.fn n_calendar_first [] [])) [.t 24]⟩,
⟨some 8, none, .mv (.t 25)⟩] [7, 15, 16, 17, 18, 19, 20, 21, 22, 23, 24, 25])
(.seq (.reg false [
⟨some 26, none, .mv (.t 8)⟩,
⟨some 27, none, .bin .neq (.t 26) (.k (.d (.int .i64 0)))⟩] [26])
(.cond (.t 27) (.seq (.reg false [
⟨some 28, none, .mv (.t 8)⟩,
⟨some 4, none, .mv (.k (.d (.int .i64 0)))⟩,
⟨some 5, none, .mv (.t 28)⟩] [8, 28])
.ret)
 .skip)))
(.seq (.reg true [
⟨some 29, none, .load (some 2) (.t 3)⟩,
⟨some 30, none, .call false true (.k (.fn n_calendar_Season_begin [] [])) [.t 29]⟩,
⟨some 31, none, .mv (.t 0)⟩,
⟨some 32, none, .bin .add (.t 30) (.t 31)⟩,
⟨some 33, none, .load (some 2) (.t 6)⟩,
⟨some 34, none, .call false true (.k (.fn n_calendar_Season_begin [] [])) [.t 33]⟩,
⟨some 35, none, .bin .sub (.t 32) (.t 34)⟩,
⟨some 9, none, .mv (.t 35)⟩] [0, 6, 29, 30, 31, 32, 33, 34, 35])
(.seq (.seq (.reg false [
⟨some 36, none, .mv (.t 9)⟩,
⟨some 37, none, .load (some 2) (.t 3)⟩,
⟨some 38, none, .call false true (.k (.fn n_calendar_Season_next [] [])) [.t 37]⟩,
⟨some 39, none, .call false true (.k (.fn n_calendar_Season_begin [] [])) [.t 38]⟩,
⟨some 40, none, .bin .geq (.t 36) (.t 39)⟩] [3, 36, 37, 38, 39])
(.cond (.t 40) (.seq (.reg false [
⟨some 4, none, .mv (.k (.d (.int .i64 0)))⟩,
⟨some 5, none, .mv (.k (.d (.int .i64 7)))⟩] [])
.ret)
 .skip))
(.seq (.reg false [
⟨some 41, none, .mv (.t 9)⟩,
⟨some 4, none, .mv (.t 41)⟩,
⟨some 5, none, .mv (.k (.d (.int .i64 0)))⟩] [9, 41])
.ret))))))⟩

/-- "turnround/calendar.Day" -/
def c_calendar_Day : CF := ⟨[.tmp 6, .tmp 7],
  (.seq (.reg false [
⟨some 6, none, .mv (.k (.d (.int .i64 0)))⟩,
⟨some 7, none, .mv (.k (.d (.int .i64 0)))⟩] [6, 7])
(.seq (.seq (.reg false [
⟨some 10, none, .mv (.t 0)⟩,
⟨some 11, none, .call false true (.k (.fn n_calendar_within [] [])) [.t 10, .k (.d (.int .i64 2000)), .k (.d (.int .i64 2273))]⟩,
⟨some 12, none, .mv (.t 1)⟩,
⟨some 13, none, .call false true (.k (.fn n_calendar_within [] [])) [.t 12, .k (.d (.int .i64 1)), .k (.d (.int .i64 12))]⟩,
⟨some 14, none, .mv (.t 2)⟩,
⟨some 15, none, .call false true (.k (.fn n_calendar_within [] [])) [.t 14, .k (.d (.int .i64 1)), .k (.d (.int .i64 31))]⟩,
⟨some 16, none, .mkList 1 3 [.t 11, .t 13, .t 15]⟩,
⟨some 17, none, .call false true (.k (.fn n_calendar_first [] [])) [.t 16]⟩,
⟨some 8, none, .mv (.t 17)⟩] [10, 11, 12, 13, 14, 15, 16, 17])
(.seq (.reg false [
⟨some 18, none, .mv (.t 8)⟩,
⟨some 19, none, .bin .neq (.t 18) (.k (.d (.int .i64 0)))⟩] [18])
(.cond (.t 19) (.seq (.reg false [
⟨some 20, none, .mv (.t 8)⟩,
⟨some 6, none, .mv (.k (.d (.int .i64 0)))⟩,
⟨some 7, none, .mv (.t 20)⟩] [8, 20])
.ret)
 .skip)))
(.seq (.reg false [
⟨some 21, none, .mv (.t 0)⟩,
⟨some 22, none, .mv (.t 1)⟩,
⟨some 23, none, .mv (.t 2)⟩,
⟨some 24, none, .call false true (.k (.fn n_calendar_number [] [])) [.t 21, .t 22, .t 23]⟩,
⟨some 9, none, .mv (.t 24)⟩] [21, 22, 23, 24])
(.seq (.seq (.reg false [
⟨some 25, none, .mv (.t 2)⟩,
⟨some 26, none, .mv (.t 0)⟩,
⟨some 27, none, .mv (.t 1)⟩,
⟨some 28, none, .call false true (.k (.fn n_calendar_length [] [])) [.t 26, .t 27]⟩,
⟨some 29, none, .bin .gtr (.t 25) (.t 28)⟩,
⟨some 30, none, .mv (.t 29)⟩,
⟨some 31, (some (30, false)), .mv (.t 9)⟩,
⟨some 32, (some (30, false)), .bin .gtr (.t 31) (.k (.d (.int .i64 99999)))⟩,
⟨some 33, none, .pick (.t 30) (.k (.d (.bool true))) (.t 32)⟩] [0, 1, 2, 25, 26, 27, 28, 29, 30, 31, 32])
(.cond (.t 33) (.seq (.reg false [
⟨some 6, none, .mv (.k (.d (.int .i64 0)))⟩,
⟨some 7, none, .mv (.k (.d (.int .i64 7)))⟩] [])
.ret)
 .skip))
(.seq (.reg false [
⟨some 34, none, .mv (.t 9)⟩,
⟨some 6, none, .mv (.t 34)⟩,
⟨some 7, none, .mv (.k (.d (.int .i64 0)))⟩] [9, 34])
.ret)))))⟩

/-- "turnround/calendar.Weekday" -/
def c_calendar_Weekday : CF := ⟨[.tmp 2, .tmp 3],
  (.seq (.reg false [
⟨some 2, none, .mv (.k (.d (.int .i64 0)))⟩,
⟨some 3, none, .mv (.k (.d (.int .i64 0)))⟩] [2, 3])
(.seq (.seq (.reg false [
⟨some 5, none, .mv (.t 0)⟩,
⟨some 6, none, .call false true (.k (.fn n_calendar_checkDay [] [])) [.t 5]⟩,
⟨some 4, none, .mv (.t 6)⟩] [5, 6])
(.seq (.reg false [
⟨some 7, none, .mv (.t 4)⟩,
⟨some 8, none, .bin .neq (.t 7) (.k (.d (.int .i64 0)))⟩] [7])
(.cond (.t 8) (.seq (.reg false [
⟨some 9, none, .mv (.t 4)⟩,
⟨some 2, none, .mv (.k (.d (.int .i64 0)))⟩,
⟨some 3, none, .mv (.t 9)⟩] [4, 9])
.ret)
 .skip)))
(.seq (.reg false [
⟨some 10, none, .mv (.t 0)⟩,
⟨some 11, none, .call false true (.k (.fn n_calendar_weekday [] [])) [.t 10]⟩,
⟨some 2, none, .mv (.t 11)⟩,
⟨some 3, none, .mv (.k (.d (.int .i64 0)))⟩] [0, 10, 11])
.ret)))⟩

/-- "turnround/calendar.PrintDate" -/
def c_calendar_PrintDate : CF := ⟨[.tmp 2, .tmp 3],
  (.seq (.reg false [
⟨some 2, none, .mv (.k (.d (.str [])))⟩,
⟨some 3, none, .mv (.k (.d (.int .i64 0)))⟩] [2, 3])
(.seq (.seq (.reg false [
⟨some 6, none, .mv (.t 0)⟩,
⟨some 7, none, .call false true (.k (.fn n_calendar_checkDay [] [])) [.t 6]⟩,
⟨some 4, none, .mv (.t 7)⟩] [6, 7])
(.seq (.reg false [
⟨some 8, none, .mv (.t 4)⟩,
⟨some 9, none, .bin .neq (.t 8) (.k (.d (.int .i64 0)))⟩] [8])
(.cond (.t 9) (.seq (.reg false [
⟨some 10, none, .mv (.t 4)⟩,
⟨some 2, none, .mv (.k (.d (.str [])))⟩,
⟨some 3, none, .mv (.t 10)⟩] [4, 10])
.ret)
 .skip)))
(.seq (.reg false [
⟨some 11, none, .mv (.t 0)⟩,
⟨some 12, none, .call false true (.k (.fn n_calendar_date [] [])) [.t 11]⟩,
⟨some 5, none, .alloc ty_3_int [.z (.int .i64 0), .z (.int .i64 0), .z (.int .i64 0)]⟩,
⟨none, none, .store 3 (.t 5) (.t 12)⟩] [0, 11, 12])
(.seq (.reg true [
⟨some 13, none, .idxAddrA 3 1 (.t 5) (.k (.d (.int .i64 0)))⟩,
⟨some 14, none, .load none (.t 13)⟩,
⟨some 15, none, .call false true (.k (.fn n_strconv_Itoa [] [])) [.t 14]⟩,
⟨some 16, none, .bin .add (.t 15) (.k (.d (.str [45])))⟩,
⟨some 17, none, .idxAddrA 3 1 (.t 5) (.k (.d (.int .i64 1)))⟩,
⟨some 18, none, .load none (.t 17)⟩,
⟨some 19, none, .call false true (.k (.fn n_calendar_two [] [])) [.t 18]⟩,
⟨some 20, none, .bin .add (.t 16) (.t 19)⟩,
⟨some 21, none, .bin .add (.t 20) (.k (.d (.str [45])))⟩,
⟨some 22, none, .idxAddrA 3 1 (.t 5) (.k (.d (.int .i64 2)))⟩,
⟨some 23, none, .load none (.t 22)⟩,
⟨some 24, none, .call false true (.k (.fn n_calendar_two [] [])) [.t 23]⟩,
⟨some 25, none, .bin .add (.t 21) (.t 24)⟩,
⟨some 2, none, .mv (.t 25)⟩,
⟨some 3, none, .mv (.k (.d (.int .i64 0)))⟩] [5, 13, 14, 15, 16, 17, 18, 19, 20, 21, 22, 23, 24, 25])
.ret))))⟩

/-- "turnround/calendar.Meet" -/
def c_calendar_Meet : CF := ⟨[.tmp 4, .tmp 5],
  (.seq (.reg false [
⟨some 2, none, .box ty_api_Period (.t 0)⟩,
⟨some 3, none, .box ty_api_Period (.t 1)⟩,
⟨some 4, none, .mv (.k (.d (.list 0 [])))⟩,
⟨some 5, none, .mv (.k (.d (.int .i64 0)))⟩] [0, 1, 4, 5])
(.seq (.seq (.reg true [
⟨some 7, none, .load (some 3) (.t 2)⟩,
⟨some 8, none, .call false true (.k (.fn n_calendar_CheckPeriod [] [])) [.t 7]⟩,
⟨some 9, none, .load (some 3) (.t 3)⟩,
⟨some 10, none, .call false true (.k (.fn n_calendar_CheckPeriod [] [])) [.t 9]⟩,
⟨some 11, none, .mkList 1 2 [.t 8, .t 10]⟩,
⟨some 12, none, .call false true (.k (.fn n_calendar_first [] [])) [.t 11]⟩,
⟨some 6, none, .mv (.t 12)⟩] [7, 8, 9, 10, 11, 12])
(.seq (.reg false [
⟨some 13, none, .mv (.t 6)⟩,
⟨some 14, none, .bin .neq (.t 13) (.k (.d (.int .i64 0)))⟩] [13])
(.cond (.t 14) (.seq (.reg false [
⟨some 15, none, .mv (.t 6)⟩,
⟨some 4, none, .mv (.k (.d (.list 0 [])))⟩,
⟨some 5, none, .mv (.t 15)⟩] [6, 15])
.ret)
 .skip)))
(.seq (.reg false [
⟨some 16, none, .load (some 3) (.t 2)⟩,
⟨some 17, none, .call false false (.k (.fn n_calendar_daysOf [] [])) [.t 16]⟩,
⟨some 18, none, .mkFunc n_calendar_Meet_1 [] [.t 3]⟩,
⟨some 19, none, .call true true (.k (.fn n_calendar_collected_int [] [])) [.t 17, .t 18]⟩,
⟨some 4, none, .mv (.t 19)⟩,
⟨some 5, none, .mv (.k (.d (.int .i64 0)))⟩] [2, 3, 16, 17, 18, 19])
.ret)))⟩

/-- "turnround/calendar.PrintMask" -/
def c_calendar_PrintMask : CF := ⟨[.tmp 2, .tmp 3],
  (.seq (.reg false [
⟨some 2, none, .mv (.k (.d (.str [])))⟩,
⟨some 3, none, .mv (.k (.d (.int .i64 0)))⟩] [2, 3])
(.seq (.seq (.reg false [
⟨some 5, none, .mv (.t 0)⟩,
⟨some 6, none, .call false true (.k (.fn n_calendar_within [] [])) [.t 5, .k (.d (.int .i64 1)), .k (.d (.int .i64 127))]⟩,
⟨some 4, none, .mv (.t 6)⟩] [5, 6])
(.seq (.reg false [
⟨some 7, none, .mv (.t 4)⟩,
⟨some 8, none, .bin .neq (.t 7) (.k (.d (.int .i64 0)))⟩] [7])
(.cond (.t 8) (.seq (.reg false [
⟨some 9, none, .mv (.t 4)⟩,
⟨some 2, none, .mv (.k (.d (.str [])))⟩,
⟨some 3, none, .mv (.t 9)⟩] [4, 9])
.ret)
 .skip)))
(.seq (.reg false [
⟨some 10, none, .mv (.t 0)⟩,
⟨some 11, none, .call false true (.k (.fn n_calendar_printMask [] [])) [.t 10]⟩,
⟨some 2, none, .mv (.t 11)⟩,
⟨some 3, none, .mv (.k (.d (.int .i64 0)))⟩] [0, 10, 11])
.ret)))⟩

def b_calendar_first_1 : C :=
  (.seq (.reg false [
⟨some 8, none, .bin .lss (.t 7) (.t 6)⟩] [])
(.seq (.cond (.t 8) .skip
 (.exit 0))
(.seq (.block 1 (.seq (.reg false [
⟨some 9, none, .idxAddr 1 (.t 5) (.t 7)⟩,
⟨some 10, none, .load none (.t 9)⟩,
⟨some 4, none, .mv (.t 10)⟩] [9, 10])
(.seq (.reg false [
⟨some 11, none, .mv (.t 4)⟩,
⟨some 12, none, .bin .neq (.t 11) (.k (.d (.int .i64 0)))⟩] [11])
(.cond (.t 12) (.seq (.reg false [
⟨some 13, none, .mv (.t 4)⟩,
⟨some 2, none, .mv (.t 13)⟩] [4, 13])
.ret)
 .skip))))
(.reg false [
⟨some 14, none, .bin .add (.t 7) (.k (.d (.int .i64 1)))⟩,
⟨some 7, none, .mv (.t 14)⟩] [14]))))

/-- "turnround/calendar.first" -/
def c_calendar_first : CF := ⟨[.tmp 2],
  (.seq (.reg false [
⟨some 2, none, .mv (.k (.d (.int .i64 0)))⟩] [2])
(.seq (.seq (.reg false [
⟨some 5, none, .mv (.t 0)⟩,
⟨some 6, none, .len .slc (.t 5)⟩,
⟨some 7, none, .mv (.k (.d (.int .i64 0)))⟩] [0])
(.block 0 (.loop [5, 6, 7] b_calendar_first_1)))
(.seq (.reg false [
⟨some 2, none, .mv (.k (.d (.int .i64 0)))⟩] [])
.ret)))⟩

/-- "turnround/calendar.checkDay" -/
def c_calendar_checkDay : CF := ⟨[.tmp 2],
  (.seq (.reg false [
⟨some 2, none, .mv (.k (.d (.int .i64 0)))⟩] [2])
(.seq (.reg false [
⟨some 3, none, .mv (.t 0)⟩,
⟨some 4, none, .call false true (.k (.fn n_calendar_within [] [])) [.t 3, .k (.d (.int .i64 0)), .k (.d (.int .i64 99999))]⟩,
⟨some 2, none, .mv (.t 4)⟩] [0, 3, 4])
.ret))⟩

/-- "turnround/calendar.when" -/
def c_calendar_when : CF := ⟨[.tmp 4],
  (.seq (.reg false [
⟨some 4, none, .mv (.k (.d (.int .i64 0)))⟩] [4])
(.seq (.seq (.reg false [
⟨some 5, none, .mv (.t 0)⟩] [0])
(.cond (.t 5) (.seq (.reg false [
⟨some 6, none, .mv (.t 1)⟩,
⟨some 4, none, .mv (.t 6)⟩] [1, 6])
.ret)
 .skip))
(.seq (.reg false [
⟨some 4, none, .mv (.k (.d (.int .i64 0)))⟩] [])
.ret)))⟩

/-- "turnround/calendar.weekOf" -/
def c_calendar_weekOf : CF := ⟨[.tmp 2],
  (.seq (.reg false [
⟨some 2, none, .mv (.k (.d (.int .i64 0)))⟩] [2])
(.seq (.reg false [
⟨some 3, none, .mv (.t 0)⟩,
⟨some 4, none, .bin .add (.t 3) (.k (.d (.int .i64 5)))⟩,
⟨some 5, none, .bin .quo (.t 4) (.k (.d (.int .i64 7)))⟩,
⟨some 2, none, .mv (.t 5)⟩] [0, 3, 4, 5])
.ret))⟩

/-- "turnround/calendar.weekday" -/
def c_calendar_weekday : CF := ⟨[.tmp 2],
  (.seq (.reg false [
⟨some 2, none, .mv (.k (.d (.int .i64 0)))⟩] [2])
(.seq (.reg false [
⟨some 3, none, .mv (.t 0)⟩,
⟨some 4, none, .bin .add (.t 3) (.k (.d (.int .i64 5)))⟩,
⟨some 5, none, .bin .rem (.t 4) (.k (.d (.int .i64 7)))⟩,
⟨some 2, none, .mv (.t 5)⟩] [0, 3, 4, 5])
.ret))⟩

/-- "slices.Clip[[]turnround/api.Period,turnround/api.Period]" -/
def c_slices_Clip_Lapi_Period_api_Period : CF := ⟨[.tmp 2],
  (.seq (.reg false [
⟨some 2, none, .mv (.k (.d (.list 0 [])))⟩] [2])
(.seq (.reg false [
⟨some 3, none, .mv (.t 0)⟩,
⟨some 4, none, .mv (.t 0)⟩,
⟨some 5, none, .len .slc (.t 4)⟩,
⟨some 6, none, .mv (.t 0)⟩,
⟨some 7, none, .len .slc (.t 6)⟩,
⟨some 8, none, .slice 3 (.t 3) none (some (.t 5)) (some (.t 7))⟩,
⟨some 2, none, .mv (.t 8)⟩] [0, 3, 4, 5, 6, 7, 8])
.ret))⟩

/-- "turnround/turnroundref01.Week" -/
def c_ref01_Week : CF := ⟨[.tmp 2],
  (.seq (.reg false [
⟨some 2, none, .mv (.k (.d (.int .i64 0)))⟩] [2])
(.seq (.reg false [
⟨some 3, none, .mv (.t 0)⟩,
⟨some 4, none, .bin .add (.t 3) (.k (.d (.int .i64 5)))⟩,
⟨some 5, none, .bin .quo (.t 4) (.k (.d (.int .i64 7)))⟩,
⟨some 2, none, .mv (.t 5)⟩] [0, 3, 4, 5])
.ret))⟩

def b_ref01_weekMask_1 : C :=
  (.seq (.seq (.reg false [
⟨some 22, none, .mv (.t 8)⟩,
⟨some 23, none, .mv (.t 0)⟩,
⟨some 24, none, .mv (.t 6)⟩,
⟨some 25, none, .idxAddr 1 (.t 23) (.t 24)⟩,
⟨some 26, none, .load none (.t 25)⟩,
⟨some 27, none, .call false true (.k (.fn n_ref01_Weekday [] [])) [.t 26]⟩,
⟨some 28, none, .bin .lss (.t 22) (.t 27)⟩] [22, 23, 24, 25, 26, 27])
(.cond (.t 28) .skip
 (.exit 2)))
(.seq (.block 3 (.reg false [
⟨some 31, none, .mv (.t 7)⟩,
⟨some 32, none, .bin .mul (.k (.d (.int .i64 2))) (.t 31)⟩,
⟨some 7, none, .mv (.t 32)⟩] [31, 32]))
(.reg false [
⟨some 29, none, .mv (.t 8)⟩,
⟨some 30, none, .bin .add (.t 29) (.k (.d (.int .i64 1)))⟩,
⟨some 8, none, .mv (.t 30)⟩] [29, 30])))

def b_ref01_weekMask_2 : C :=
  (.seq (.seq (.reg false [
⟨some 9, none, .mv (.t 6)⟩,
⟨some 10, none, .mv (.t 0)⟩,
⟨some 11, none, .len .slc (.t 10)⟩,
⟨some 12, none, .bin .lss (.t 9) (.t 11)⟩] [9, 10, 11])
(.cond (.t 12) .skip
 (.exit 0)))
(.seq (.block 1 (.seq (.reg false [
⟨some 15, none, .mv (.t 0)⟩,
⟨some 16, none, .mv (.t 6)⟩,
⟨some 17, none, .idxAddr 1 (.t 15) (.t 16)⟩,
⟨some 18, none, .load none (.t 17)⟩,
⟨some 19, none, .call false true (.k (.fn n_ref01_Week [] [])) [.t 18]⟩,
⟨some 20, none, .mv (.t 1)⟩,
⟨some 21, none, .bin .eql (.t 19) (.t 20)⟩] [15, 16, 17, 18, 19, 20])
(.cond (.t 21) (.seq (.reg false [
⟨some 7, none, .mv (.k (.d (.int .i64 1)))⟩] [])
(.seq (.seq (.reg false [
⟨some 8, none, .mv (.k (.d (.int .i64 0)))⟩] [])
(.block 2 (.loop [0, 1, 5, 6, 7, 8] b_ref01_weekMask_1)))
(.reg false [
⟨some 33, none, .mv (.t 5)⟩,
⟨some 34, none, .mv (.t 7)⟩,
⟨some 35, none, .bin .add (.t 33) (.t 34)⟩,
⟨some 5, none, .mv (.t 35)⟩] [7, 33, 34, 35])))
 .skip)))
(.reg false [
⟨some 13, none, .mv (.t 6)⟩,
⟨some 14, none, .bin .add (.t 13) (.k (.d (.int .i64 1)))⟩,
⟨some 6, none, .mv (.t 14)⟩] [13, 14])))

/-- "turnround/turnroundref01.weekMask" -/
def c_ref01_weekMask : CF := ⟨[.tmp 4],
  (.seq (.reg false [
⟨some 4, none, .mv (.k (.d (.int .i64 0)))⟩] [4])
(.seq (.reg false [
⟨some 5, none, .mv (.k (.d (.int .i64 0)))⟩] [])
(.seq (.seq (.reg false [
⟨some 6, none, .mv (.k (.d (.int .i64 0)))⟩] [])
(.block 0 (.loop [0, 1, 5, 6] b_ref01_weekMask_2)))
(.seq (.reg false [
⟨some 36, none, .mv (.t 5)⟩,
⟨some 4, none, .mv (.t 36)⟩] [5, 36])
.ret))))⟩

def b_calendar_CheckZone_1 : C :=
  (.seq (.reg false [
⟨some 29, none, .bin .lss (.t 28) (.t 27)⟩] [])
(.seq (.cond (.t 29) .skip
 (.exit 0))
(.seq (.block 1 (.seq (.reg false [
⟨some 30, none, .mv (.t 28)⟩,
⟨some 31, none, .idxAddr 2 (.t 26) (.t 28)⟩,
⟨some 32, none, .load (some 2) (.t 31)⟩,
⟨some 6, none, .alloc ty_calendar_Change [.z (.int .i64 0), .z (.int .i64 0)]⟩,
⟨some 5, none, .mv (.t 30)⟩,
⟨none, none, .store 2 (.t 6) (.t 32)⟩] [30, 31, 32])
(.seq (.seq (.reg true [
⟨some 33, none, .fieldAddr 0 (.t 6)⟩,
⟨some 34, none, .load none (.t 33)⟩,
⟨some 35, none, .call false true (.k (.fn n_calendar_checkMoment [] [])) [.t 34]⟩,
⟨some 36, none, .fieldAddr 1 (.t 6)⟩,
⟨some 37, none, .load none (.t 36)⟩,
⟨some 38, none, .call false true (.k (.fn n_calendar_within [] [])) [.t 37, .k (.d (.int .i64 (-720))), .k (.d (.int .i64 840))]⟩,
⟨some 39, none, .mkList 1 2 [.t 35, .t 38]⟩,
⟨some 40, none, .call false true (.k (.fn n_calendar_first [] [])) [.t 39]⟩,
⟨some 7, none, .mv (.t 40)⟩] [33, 34, 35, 36, 37, 38, 39, 40])
(.seq (.reg false [
⟨some 41, none, .mv (.t 7)⟩,
⟨some 42, none, .bin .neq (.t 41) (.k (.d (.int .i64 0)))⟩] [41])
(.cond (.t 42) (.seq (.reg false [
⟨some 43, none, .mv (.t 7)⟩,
⟨some 2, none, .mv (.t 43)⟩] [7, 43])
.ret)
 .skip)))
(.seq (.reg false [
⟨some 44, none, .fieldAddr 1 (.t 6)⟩,
⟨some 45, none, .load none (.t 44)⟩,
⟨some 46, none, .mv (.t 4)⟩,
⟨some 47, none, .bin .sub (.t 45) (.t 46)⟩,
⟨some 48, none, .mv (.t 4)⟩,
⟨some 49, none, .fieldAddr 1 (.t 6)⟩,
⟨some 50, none, .load none (.t 49)⟩,
⟨some 51, none, .bin .sub (.t 48) (.t 50)⟩,
⟨some 52, none, .minmax true [.t 47, .t 51]⟩,
⟨some 8, none, .mv (.t 52)⟩] [4, 44, 45, 46, 47, 48, 49, 50, 51, 52])
(.seq (.seq (.reg true [
⟨some 53, none, .mv (.t 8)⟩,
⟨some 54, none, .bin .gtr (.t 53) (.k (.d (.int .i64 180)))⟩,
⟨some 55, none, .call false true (.k (.fn n_calendar_when [] [])) [.t 54, .k (.d (.int .i64 4))]⟩,
⟨some 56, none, .mv (.t 5)⟩,
⟨some 57, none, .bin .gtr (.t 56) (.k (.d (.int .i64 0)))⟩,
⟨some 58, none, .mv (.t 57)⟩,
⟨some 59, (some (58, true)), .fieldAddr 0 (.t 6)⟩,
⟨some 60, (some (58, true)), .load none (.t 59)⟩,
⟨some 61, (some (58, true)), .fieldAddr 1 (.t 1)⟩,
⟨some 62, (some (58, true)), .load none (.t 61)⟩,
⟨some 63, (some (58, true)), .mv (.t 5)⟩,
⟨some 64, (some (58, true)), .bin .sub (.t 63) (.k (.d (.int .i64 1)))⟩,
⟨some 65, (some (58, true)), .minmax true [.k (.d (.int .i64 0)), .t 64]⟩,
⟨some 66, (some (58, true)), .idxAddr 2 (.t 62) (.t 65)⟩,
⟨some 67, (some (58, true)), .fieldAddr 0 (.t 66)⟩,
⟨some 68, (some (58, true)), .load none (.t 67)⟩,
⟨some 69, (some (58, true)), .bin .sub (.t 60) (.t 68)⟩,
⟨some 70, (some (58, true)), .bin .lss (.t 69) (.k (.d (.int .i64 1440)))⟩,
⟨some 71, none, .pick (.t 58) (.t 70) (.k (.d (.bool false)))⟩,
⟨some 72, none, .call false true (.k (.fn n_calendar_when [] [])) [.t 71, .k (.d (.int .i64 11))]⟩,
⟨some 73, none, .mkList 1 2 [.t 55, .t 72]⟩,
⟨some 74, none, .call false true (.k (.fn n_calendar_first [] [])) [.t 73]⟩,
⟨some 9, none, .mv (.t 74)⟩] [5, 8, 53, 54, 55, 56, 57, 58, 59, 60, 61, 62, 63, 64, 65, 66, 67, 68, 69, 70, 71, 72, 73, 74])
(.seq (.reg false [
⟨some 75, none, .mv (.t 9)⟩,
⟨some 76, none, .bin .neq (.t 75) (.k (.d (.int .i64 0)))⟩] [75])
(.cond (.t 76) (.seq (.reg false [
⟨some 77, none, .mv (.t 9)⟩,
⟨some 2, none, .mv (.t 77)⟩] [9, 77])
.ret)
 .skip)))
(.reg false [
⟨some 78, none, .fieldAddr 1 (.t 6)⟩,
⟨some 79, none, .load none (.t 78)⟩,
⟨some 4, none, .mv (.t 79)⟩] [6, 78, 79]))))))
(.reg false [
⟨some 80, none, .bin .add (.t 28) (.k (.d (.int .i64 1)))⟩,
⟨some 28, none, .mv (.t 80)⟩] [80]))))

/-- "turnround/calendar.CheckZone" -/
def c_calendar_CheckZone : CF := ⟨[.tmp 2],
  (.seq (.reg false [
⟨some 1, none, .box ty_calendar_Zone (.t 0)⟩,
⟨some 2, none, .mv (.k (.d (.int .i64 0)))⟩] [0, 2])
(.seq (.seq (.reg true [
⟨some 10, none, .fieldAddr 0 (.t 1)⟩,
⟨some 11, none, .load none (.t 10)⟩,
⟨some 12, none, .call false true (.k (.fn n_calendar_within [] [])) [.t 11, .k (.d (.int .i64 (-720))), .k (.d (.int .i64 840))]⟩,
⟨some 13, none, .fieldAddr 1 (.t 1)⟩,
⟨some 14, none, .load none (.t 13)⟩,
⟨some 15, none, .len .slc (.t 14)⟩,
⟨some 16, none, .bin .gtr (.t 15) (.k (.d (.int .i64 64)))⟩,
⟨some 17, none, .call false true (.k (.fn n_calendar_when [] [])) [.t 16, .k (.d (.int .i64 5))]⟩,
⟨some 18, none, .mkList 1 2 [.t 12, .t 17]⟩,
⟨some 19, none, .call false true (.k (.fn n_calendar_first [] [])) [.t 18]⟩,
⟨some 3, none, .mv (.t 19)⟩] [10, 11, 12, 13, 14, 15, 16, 17, 18, 19])
(.seq (.reg false [
⟨some 20, none, .mv (.t 3)⟩,
⟨some 21, none, .bin .neq (.t 20) (.k (.d (.int .i64 0)))⟩] [20])
(.cond (.t 21) (.seq (.reg false [
⟨some 22, none, .mv (.t 3)⟩,
⟨some 2, none, .mv (.t 22)⟩] [3, 22])
.ret)
 .skip)))
(.seq (.reg false [
⟨some 23, none, .fieldAddr 0 (.t 1)⟩,
⟨some 24, none, .load none (.t 23)⟩,
⟨some 4, none, .mv (.t 24)⟩] [23, 24])
(.seq (.seq (.reg false [
⟨some 25, none, .fieldAddr 1 (.t 1)⟩,
⟨some 26, none, .load none (.t 25)⟩,
⟨some 27, none, .len .slc (.t 26)⟩,
⟨some 28, none, .mv (.k (.d (.int .i64 0)))⟩] [25])
(.block 0 (.loop [1, 4, 26, 27, 28] b_calendar_CheckZone_1)))
(.seq (.reg false [
⟨some 2, none, .mv (.k (.d (.int .i64 0)))⟩] [])
.ret)))))⟩

/-- "turnround/calendar.checkMoment" -/
def c_calendar_checkMoment : CF := ⟨[.tmp 2],
  (.seq (.reg false [
⟨some 2, none, .mv (.k (.d (.int .i64 0)))⟩] [2])
(.seq (.reg false [
⟨some 3, none, .mv (.t 0)⟩,
⟨some 4, none, .call false true (.k (.fn n_calendar_within [] [])) [.t 3, .k (.d (.int .i64 0)), .k (.d (.int .i64 143999999))]⟩,
⟨some 2, none, .mv (.t 4)⟩] [0, 3, 4])
.ret))⟩

def b_calendar_Zone_at_1 : C :=
  (.seq (.reg false [
⟨some 14, none, .bin .lss (.t 13) (.t 12)⟩] [])
(.seq (.cond (.t 14) .skip
 (.exit 0))
(.seq (.block 1 (.seq (.reg false [
⟨some 15, none, .idxAddr 2 (.t 11) (.t 13)⟩,
⟨some 16, none, .load (some 2) (.t 15)⟩,
⟨some 7, none, .alloc ty_calendar_Change [.z (.int .i64 0), .z (.int .i64 0)]⟩,
⟨none, none, .store 2 (.t 7) (.t 16)⟩] [15, 16])
(.seq (.reg false [
⟨some 17, none, .fieldAddr 0 (.t 7)⟩,
⟨some 18, none, .load none (.t 17)⟩,
⟨some 19, none, .mv (.t 1)⟩,
⟨some 20, none, .bin .leq (.t 18) (.t 19)⟩] [17, 18, 19])
(.cond (.t 20) (.reg false [
⟨some 21, none, .fieldAddr 1 (.t 7)⟩,
⟨some 22, none, .load none (.t 21)⟩,
⟨some 5, none, .mv (.t 22)⟩] [7, 21, 22])
 .skip))))
(.reg false [
⟨some 23, none, .bin .add (.t 13) (.k (.d (.int .i64 1)))⟩,
⟨some 13, none, .mv (.t 23)⟩] [23]))))

/-- "(turnround/calendar.Zone).at" -/
def c_calendar_Zone_at : CF := ⟨[.tmp 4],
  (.seq (.reg false [
⟨some 2, none, .box ty_calendar_Zone (.t 0)⟩,
⟨some 4, none, .mv (.k (.d (.int .i64 0)))⟩] [0, 4])
(.seq (.reg false [
⟨some 8, none, .fieldAddr 0 (.t 2)⟩,
⟨some 9, none, .load none (.t 8)⟩,
⟨some 5, none, .mv (.t 9)⟩] [8, 9])
(.seq (.seq (.reg false [
⟨some 10, none, .fieldAddr 1 (.t 2)⟩,
⟨some 11, none, .load none (.t 10)⟩,
⟨some 12, none, .len .slc (.t 11)⟩,
⟨some 13, none, .mv (.k (.d (.int .i64 0)))⟩] [2, 10])
(.block 0 (.loop [1, 5, 11, 12, 13] b_calendar_Zone_at_1)))
(.seq (.reg false [
⟨some 24, none, .mv (.t 5)⟩,
⟨some 4, none, .mv (.t 24)⟩] [5, 24])
.ret))))⟩

def b_slices_Compact_Lint_int_1 : C :=
  (.seq (.seq (.reg false [
⟨some 29, none, .mv (.t 5)⟩,
⟨some 30, none, .mv (.t 4)⟩,
⟨some 31, none, .len .slc (.t 30)⟩,
⟨some 32, none, .bin .lss (.t 29) (.t 31)⟩] [29, 30, 31])
(.cond (.t 32) .skip
 (.exit 2)))
(.seq (.block 3 (.seq (.reg true [
⟨some 35, none, .mv (.t 4)⟩,
⟨some 36, none, .mv (.t 5)⟩,
⟨some 37, none, .idxAddr 1 (.t 35) (.t 36)⟩,
⟨some 38, none, .load none (.t 37)⟩,
⟨some 39, none, .mv (.t 4)⟩,
⟨some 40, none, .mv (.t 5)⟩,
⟨some 41, none, .bin .sub (.t 40) (.k (.d (.int .i64 1)))⟩,
⟨some 42, none, .idxAddr 1 (.t 39) (.t 41)⟩,
⟨some 43, none, .load none (.t 42)⟩,
⟨some 44, none, .bin .neq (.t 38) (.t 43)⟩] [35, 36, 37, 38, 39, 40, 41, 42, 43])
(.cond (.t 44) (.seq (.reg false [
⟨some 45, none, .mv (.t 0)⟩,
⟨some 46, none, .mv (.t 3)⟩,
⟨some 47, none, .mv (.t 4)⟩,
⟨some 48, none, .mv (.t 5)⟩,
⟨some 49, none, .idxAddr 1 (.t 47) (.t 48)⟩,
⟨some 50, none, .load none (.t 49)⟩,
⟨some 51, none, .idxAddr 1 (.t 45) (.t 46)⟩,
⟨none, none, .store 1 (.t 51) (.t 50)⟩] [45, 46, 47, 48, 49, 50, 51])
(.reg false [
⟨some 52, none, .mv (.t 3)⟩,
⟨some 53, none, .bin .add (.t 52) (.k (.d (.int .i64 1)))⟩,
⟨some 3, none, .mv (.t 53)⟩] [52, 53]))
 .skip)))
(.reg false [
⟨some 33, none, .mv (.t 5)⟩,
⟨some 34, none, .bin .add (.t 33) (.k (.d (.int .i64 1)))⟩,
⟨some 5, none, .mv (.t 34)⟩] [33, 34])))

def b_slices_Compact_Lint_int_2 : C :=
  (.seq (.seq (.reg false [
⟨some 10, none, .mv (.t 3)⟩,
⟨some 11, none, .mv (.t 0)⟩,
⟨some 12, none, .len .slc (.t 11)⟩,
⟨some 13, none, .bin .lss (.t 10) (.t 12)⟩] [10, 11, 12])
(.cond (.t 13) .skip
 (.exit 0)))
(.seq (.block 1 (.seq (.reg true [
⟨some 16, none, .mv (.t 0)⟩,
⟨some 17, none, .mv (.t 3)⟩,
⟨some 18, none, .idxAddr 1 (.t 16) (.t 17)⟩,
⟨some 19, none, .load none (.t 18)⟩,
⟨some 20, none, .mv (.t 0)⟩,
⟨some 21, none, .mv (.t 3)⟩,
⟨some 22, none, .bin .sub (.t 21) (.k (.d (.int .i64 1)))⟩,
⟨some 23, none, .idxAddr 1 (.t 20) (.t 22)⟩,
⟨some 24, none, .load none (.t 23)⟩,
⟨some 25, none, .bin .eql (.t 19) (.t 24)⟩] [16, 17, 18, 19, 20, 21, 22, 23, 24])
(.cond (.t 25) (.seq (.reg false [
⟨some 26, none, .mv (.t 0)⟩,
⟨some 27, none, .mv (.t 3)⟩,
⟨some 28, none, .slice 1 (.t 26) (some (.t 27)) none none⟩,
⟨some 4, none, .mv (.t 28)⟩] [26, 27, 28])
(.seq (.seq (.reg false [
⟨some 5, none, .mv (.k (.d (.int .i64 1)))⟩] [])
(.block 2 (.loop [0, 3, 4, 5] b_slices_Compact_Lint_int_1)))
(.seq (.reg false [
⟨some 54, none, .mv (.t 0)⟩,
⟨some 55, none, .mv (.t 3)⟩,
⟨some 56, none, .slice 1 (.t 54) (some (.t 55)) none none⟩,
⟨none, none, .clear [.int .i64 0] (.t 56)⟩] [54, 55, 56])
(.seq (.reg false [
⟨some 57, none, .mv (.t 0)⟩,
⟨some 58, none, .mv (.t 3)⟩,
⟨some 59, none, .slice 1 (.t 57) none (some (.t 58)) none⟩,
⟨some 2, none, .mv (.t 59)⟩] [0, 3, 57, 58, 59])
.ret))))
 .skip)))
(.reg false [
⟨some 14, none, .mv (.t 3)⟩,
⟨some 15, none, .bin .add (.t 14) (.k (.d (.int .i64 1)))⟩,
⟨some 3, none, .mv (.t 15)⟩] [14, 15])))

/-- "slices.Compact[[]int,int]" -/
def c_slices_Compact_Lint_int : CF := ⟨[.tmp 2],
  (.seq (.reg false [
⟨some 2, none, .ownNil ⟨true, ty_int, 1, 8⟩⟩] [2])
(.seq (.seq (.reg false [
⟨some 6, none, .mv (.t 0)⟩,
⟨some 7, none, .len .slc (.t 6)⟩,
⟨some 8, none, .bin .lss (.t 7) (.k (.d (.int .i64 2)))⟩] [6, 7])
(.cond (.t 8) (.seq (.reg false [
⟨some 9, none, .mv (.t 0)⟩,
⟨some 2, none, .mv (.t 9)⟩] [0, 9])
.ret)
 .skip))
(.seq (.seq (.reg false [
⟨some 3, none, .mv (.k (.d (.int .i64 1)))⟩] [])
(.block 0 (.loop [0, 3] b_slices_Compact_Lint_int_2)))
(.seq (.reg false [
⟨some 60, none, .mv (.t 0)⟩,
⟨some 2, none, .mv (.t 60)⟩] [0, 60])
.ret))))⟩

/-- "turnround/calendar.within" -/
def c_calendar_within : CF := ⟨[.tmp 6],
  (.seq (.reg false [
⟨some 6, none, .mv (.k (.d (.int .i64 0)))⟩] [6])
(.seq (.reg false [
⟨some 7, none, .mv (.t 0)⟩,
⟨some 8, none, .mv (.t 1)⟩,
⟨some 9, none, .bin .lss (.t 7) (.t 8)⟩,
⟨some 10, none, .mv (.t 9)⟩,
⟨some 11, (some (10, false)), .mv (.t 0)⟩,
⟨some 12, (some (10, false)), .mv (.t 2)⟩,
⟨some 13, (some (10, false)), .bin .gtr (.t 11) (.t 12)⟩,
⟨some 14, none, .pick (.t 10) (.k (.d (.bool true))) (.t 13)⟩,
⟨some 15, none, .call false true (.k (.fn n_calendar_when [] [])) [.t 14, .k (.d (.int .i64 3))]⟩,
⟨some 6, none, .mv (.t 15)⟩] [0, 1, 2, 7, 8, 9, 10, 11, 12, 13, 14, 15])
.ret))⟩

/-- "turnround/calendar.lastSunday" -/
def c_calendar_lastSunday : CF := ⟨[.tmp 4],
  (.seq (.reg false [
⟨some 4, none, .mv (.k (.d (.int .i64 0)))⟩] [4])
(.seq (.reg false [
⟨some 6, none, .mv (.t 0)⟩,
⟨some 7, none, .mv (.t 1)⟩,
⟨some 8, none, .call false true (.k (.fn n_calendar_number [] [])) [.t 6, .t 7, .k (.d (.int .i64 31))]⟩,
⟨some 5, none, .mv (.t 8)⟩] [0, 1, 6, 7, 8])
(.seq (.reg false [
⟨some 9, none, .mv (.t 5)⟩,
⟨some 10, none, .mv (.t 5)⟩,
⟨some 11, none, .call false true (.k (.fn n_calendar_weekday [] [])) [.t 10]⟩,
⟨some 12, none, .bin .add (.t 11) (.k (.d (.int .i64 7)))⟩,
⟨some 13, none, .bin .sub (.t 12) (.k (.d (.int .i64 6)))⟩,
⟨some 14, none, .bin .rem (.t 13) (.k (.d (.int .i64 7)))⟩,
⟨some 15, none, .bin .sub (.t 9) (.t 14)⟩,
⟨some 4, none, .mv (.t 15)⟩] [5, 9, 10, 11, 12, 13, 14, 15])
.ret)))⟩

/-- "turnround/calendar.CheckSeason" -/
def c_calendar_CheckSeason : CF := ⟨[.tmp 2],
  (.seq (.reg false [
⟨some 1, none, .box ty_calendar_Season (.t 0)⟩,
⟨some 2, none, .mv (.k (.d (.int .i64 0)))⟩] [0, 2])
(.seq (.reg true [
⟨some 3, none, .fieldAddr 0 (.t 1)⟩,
⟨some 4, none, .load none (.t 3)⟩,
⟨some 5, none, .call false true (.k (.fn n_calendar_within [] [])) [.t 4, .k (.d (.int .i64 2000)), .k (.d (.int .i64 2272))]⟩,
⟨some 6, none, .fieldAddr 1 (.t 1)⟩,
⟨some 7, none, .load none (.t 6)⟩,
⟨some 8, none, .bin .neq (.t 7) (.k (.d (.str [83])))⟩,
⟨some 9, none, .mv (.t 8)⟩,
⟨some 10, (some (9, true)), .fieldAddr 1 (.t 1)⟩,
⟨some 11, (some (9, true)), .load none (.t 10)⟩,
⟨some 12, (some (9, true)), .bin .neq (.t 11) (.k (.d (.str [87])))⟩,
⟨some 13, none, .pick (.t 9) (.t 12) (.k (.d (.bool false)))⟩,
⟨some 14, none, .call false true (.k (.fn n_calendar_when [] [])) [.t 13, .k (.d (.int .i64 13))]⟩,
⟨some 15, none, .mkList 1 2 [.t 5, .t 14]⟩,
⟨some 16, none, .call false true (.k (.fn n_calendar_first [] [])) [.t 15]⟩,
⟨some 2, none, .mv (.t 16)⟩] [1, 3, 4, 5, 6, 7, 8, 9, 10, 11, 12, 13, 14, 15, 16])
.ret))⟩

/-- "(turnround/calendar.Season).begin" -/
def c_calendar_Season_begin : CF := ⟨[.tmp 2],
  (.seq (.reg false [
⟨some 1, none, .box ty_calendar_Season (.t 0)⟩,
⟨some 2, none, .mv (.k (.d (.int .i64 0)))⟩] [0, 2])
(.seq (.seq (.reg false [
⟨some 3, none, .fieldAddr 1 (.t 1)⟩,
⟨some 4, none, .load none (.t 3)⟩,
⟨some 5, none, .bin .eql (.t 4) (.k (.d (.str [83])))⟩] [3, 4])
(.cond (.t 5) (.seq (.reg false [
⟨some 6, none, .fieldAddr 0 (.t 1)⟩,
⟨some 7, none, .load none (.t 6)⟩,
⟨some 8, none, .call false true (.k (.fn n_calendar_lastSunday [] [])) [.t 7, .k (.d (.int .i64 3))]⟩,
⟨some 2, none, .mv (.t 8)⟩] [1, 6, 7, 8])
.ret)
 .skip))
(.seq (.reg false [
⟨some 9, none, .fieldAddr 0 (.t 1)⟩,
⟨some 10, none, .load none (.t 9)⟩,
⟨some 11, none, .call false true (.k (.fn n_calendar_lastSunday [] [])) [.t 10, .k (.d (.int .i64 10))]⟩,
⟨some 2, none, .mv (.t 11)⟩] [1, 9, 10, 11])
.ret)))⟩

/-- "(turnround/calendar.Season).next" -/
def c_calendar_Season_next : CF := ⟨[.cell 2 (some 2)],
  (.seq (.reg false [
⟨some 1, none, .box ty_calendar_Season (.t 0)⟩,
⟨some 2, none, .alloc ty_calendar_Season [.z (.int .i64 0), .z (.str [])]⟩] [0])
(.seq (.seq (.reg false [
⟨some 3, none, .fieldAddr 1 (.t 1)⟩,
⟨some 4, none, .load none (.t 3)⟩,
⟨some 5, none, .bin .eql (.t 4) (.k (.d (.str [83])))⟩] [3, 4])
(.cond (.t 5) (.seq (.reg false [
⟨some 6, none, .fieldAddr 0 (.t 1)⟩,
⟨some 7, none, .load none (.t 6)⟩,
⟨some 8, none, .build [.z (.int .i64 0), .z (.str [])] [(0, 1, .t 7), (1, 1, .k (.d (.str [87])))]⟩,
⟨none, none, .store 2 (.t 2) (.t 8)⟩] [1, 6, 7, 8])
.ret)
 .skip))
(.seq (.reg false [
⟨some 9, none, .fieldAddr 0 (.t 1)⟩,
⟨some 10, none, .load none (.t 9)⟩,
⟨some 11, none, .bin .add (.t 10) (.k (.d (.int .i64 1)))⟩,
⟨some 12, none, .build [.z (.int .i64 0), .z (.str [])] [(0, 1, .t 11), (1, 1, .k (.d (.str [83])))]⟩,
⟨none, none, .store 2 (.t 2) (.t 12)⟩] [1, 9, 10, 11, 12])
.ret)))⟩

/-- "turnround/calendar.CheckPeriod" -/
def c_calendar_CheckPeriod : CF := ⟨[.tmp 2],
  (.seq (.reg false [
⟨some 1, none, .box ty_api_Period (.t 0)⟩,
⟨some 2, none, .mv (.k (.d (.int .i64 0)))⟩] [0, 2])
(.seq (.seq (.reg true [
⟨some 4, none, .fieldAddr 0 (.t 1)⟩,
⟨some 5, none, .load none (.t 4)⟩,
⟨some 6, none, .call false true (.k (.fn n_calendar_checkDay [] [])) [.t 5]⟩,
⟨some 7, none, .fieldAddr 1 (.t 1)⟩,
⟨some 8, none, .load none (.t 7)⟩,
⟨some 9, none, .call false true (.k (.fn n_calendar_checkDay [] [])) [.t 8]⟩,
⟨some 10, none, .mkList 1 2 [.t 6, .t 9]⟩,
⟨some 11, none, .call false true (.k (.fn n_calendar_first [] [])) [.t 10]⟩,
⟨some 3, none, .mv (.t 11)⟩] [4, 5, 6, 7, 8, 9, 10, 11])
(.seq (.reg false [
⟨some 12, none, .mv (.t 3)⟩,
⟨some 13, none, .bin .neq (.t 12) (.k (.d (.int .i64 0)))⟩] [12])
(.cond (.t 13) (.seq (.reg false [
⟨some 14, none, .mv (.t 3)⟩,
⟨some 2, none, .mv (.t 14)⟩] [3, 14])
.ret)
 .skip)))
(.seq (.reg true [
⟨some 15, none, .fieldAddr 1 (.t 1)⟩,
⟨some 16, none, .load none (.t 15)⟩,
⟨some 17, none, .fieldAddr 0 (.t 1)⟩,
⟨some 18, none, .load none (.t 17)⟩,
⟨some 19, none, .bin .lss (.t 16) (.t 18)⟩,
⟨some 20, none, .call false true (.k (.fn n_calendar_when [] [])) [.t 19, .k (.d (.int .i64 11))]⟩,
⟨some 21, none, .fieldAddr 1 (.t 1)⟩,
⟨some 22, none, .load none (.t 21)⟩,
⟨some 23, none, .fieldAddr 0 (.t 1)⟩,
⟨some 24, none, .load none (.t 23)⟩,
⟨some 25, none, .bin .sub (.t 22) (.t 24)⟩,
⟨some 26, none, .bin .gtr (.t 25) (.k (.d (.int .i64 400)))⟩,
⟨some 27, none, .call false true (.k (.fn n_calendar_when [] [])) [.t 26, .k (.d (.int .i64 4))]⟩,
⟨some 28, none, .fieldAddr 2 (.t 1)⟩,
⟨some 29, none, .load none (.t 28)⟩,
⟨some 30, none, .call false true (.k (.fn n_calendar_within [] [])) [.t 29, .k (.d (.int .i64 1)), .k (.d (.int .i64 127))]⟩,
⟨some 31, none, .mkList 1 3 [.t 20, .t 27, .t 30]⟩,
⟨some 32, none, .call false true (.k (.fn n_calendar_first [] [])) [.t 31]⟩,
⟨some 2, none, .mv (.t 32)⟩] [1, 15, 16, 17, 18, 19, 20, 21, 22, 23, 24, 25, 26, 27, 28, 29, 30, 31, 32])
.ret)))⟩

def b_ref01_First_1 : C :=
  (.seq (.seq (.reg false [
⟨some 4, none, .mv (.t 3)⟩,
⟨some 5, none, .mv (.t 0)⟩,
⟨some 6, none, .len .slc (.t 5)⟩,
⟨some 7, none, .bin .lss (.t 4) (.t 6)⟩] [4, 5, 6])
(.cond (.t 7) .skip
 (.exit 0)))
(.seq (.block 1 (.seq (.reg false [
⟨some 10, none, .mv (.t 0)⟩,
⟨some 11, none, .mv (.t 3)⟩,
⟨some 12, none, .idxAddr 1 (.t 10) (.t 11)⟩,
⟨some 13, none, .load none (.t 12)⟩,
⟨some 14, none, .bin .neq (.t 13) (.k (.d (.int .i64 0)))⟩] [10, 11, 12, 13])
(.cond (.t 14) (.seq (.reg false [
⟨some 15, none, .mv (.t 0)⟩,
⟨some 16, none, .mv (.t 3)⟩,
⟨some 17, none, .idxAddr 1 (.t 15) (.t 16)⟩,
⟨some 18, none, .load none (.t 17)⟩,
⟨some 2, none, .mv (.t 18)⟩] [0, 3, 15, 16, 17, 18])
.ret)
 .skip)))
(.reg false [
⟨some 8, none, .mv (.t 3)⟩,
⟨some 9, none, .bin .add (.t 8) (.k (.d (.int .i64 1)))⟩,
⟨some 3, none, .mv (.t 9)⟩] [8, 9])))

/-- "turnround/turnroundref01.First" -/
def c_ref01_First : CF := ⟨[.tmp 2],
  (.seq (.reg false [
⟨some 2, none, .mv (.k (.d (.int .i64 0)))⟩] [2])
(.seq (.seq (.reg false [
⟨some 3, none, .mv (.k (.d (.int .i64 0)))⟩] [])
(.block 0 (.loop [0, 3] b_ref01_First_1)))
(.seq (.reg false [
⟨some 2, none, .mv (.k (.d (.int .i64 0)))⟩] [])
.ret)))⟩

def b_ref01_InMask_1 : C :=
  (.seq (.seq (.reg false [
⟨some 6, none, .mv (.t 5)⟩,
⟨some 7, none, .mv (.t 1)⟩,
⟨some 8, none, .bin .lss (.t 6) (.t 7)⟩] [6, 7])
(.cond (.t 8) .skip
 (.exit 0)))
(.seq (.block 1 (.reg false [
⟨some 11, none, .mv (.t 0)⟩,
⟨some 12, none, .bin .quo (.t 11) (.k (.d (.int .i64 2)))⟩,
⟨some 0, none, .mv (.t 12)⟩] [11, 12]))
(.reg false [
⟨some 9, none, .mv (.t 5)⟩,
⟨some 10, none, .bin .add (.t 9) (.k (.d (.int .i64 1)))⟩,
⟨some 5, none, .mv (.t 10)⟩] [9, 10])))

/-- "turnround/turnroundref01.InMask" -/
def c_ref01_InMask : CF := ⟨[.tmp 4],
  (.seq (.reg false [
⟨some 4, none, .mv (.k (.d (.bool false)))⟩] [4])
(.seq (.seq (.reg false [
⟨some 5, none, .mv (.k (.d (.int .i64 0)))⟩] [])
(.block 0 (.loop [0, 1, 5] b_ref01_InMask_1)))
(.seq (.reg false [
⟨some 13, none, .mv (.t 0)⟩,
⟨some 14, none, .bin .rem (.t 13) (.k (.d (.int .i64 2)))⟩,
⟨some 15, none, .bin .eql (.t 14) (.k (.d (.int .i64 1)))⟩,
⟨some 4, none, .mv (.t 15)⟩] [0, 13, 14, 15])
.ret)))⟩

/-- "turnround/calendar.collected[int]" -/
def c_calendar_collected_int : CF := ⟨[.tmp 4],
  (.seq (.reg false [
⟨some 3, none, .box ty_func_int_bool (.t 1)⟩,
⟨some 4, none, .ownNil ⟨false, ty_int, 1, 8⟩⟩] [1])
(.seq (.reg false [
⟨some 5, none, .alloc ty_Lint [.own ⟨false, ty_int, 1, 8⟩]⟩] [])
(.seq (.seq (.reg false [
⟨some 7, none, .mv (.t 0)⟩] [0])
(.block 0 (.rangeFn 18 (.t 7) [8] (.reg false [
⟨some 6, none, .mv (.t 8)⟩] [8])
 (.block 1 (.seq (.reg false [
⟨some 9, none, .load none (.t 3)⟩,
⟨some 10, none, .mv (.t 6)⟩,
⟨some 11, none, .call true true (.t 9) [.t 10]⟩] [3, 9, 10])
(.cond (.t 11) (.reg false [
⟨some 12, none, .load none (.t 5)⟩,
⟨some 13, none, .mv (.t 6)⟩,
⟨some 14, none, .mkList 1 1 [.t 13]⟩,
⟨some 15, none, .append ⟨false, ty_int, 1, 8⟩ (.t 12) (.t 14)⟩,
⟨none, none, .store 1 (.t 5) (.t 15)⟩] [5, 6, 12, 13, 14, 15])
 .skip))))))
(.seq (.reg false [
⟨some 16, none, .load none (.t 5)⟩,
⟨some 4, none, .mv (.t 16)⟩] [5, 16])
.ret))))⟩

/-- "turnround/calendar.daysOf" -/
def c_calendar_daysOf : CF := ⟨[.tmp 2],
  (.seq (.reg false [
⟨some 1, none, .box ty_api_Period (.t 0)⟩,
⟨some 2, none, .mv (.k (.d (.nilf)))⟩] [0, 2])
(.seq (.reg false [
⟨some 3, none, .mkFunc n_calendar_daysOf_1 [] [.t 1]⟩,
⟨some 2, none, .mv (.t 3)⟩] [1, 3])
.ret))⟩

/-- "turnround/calendar.DaysOf.1" -/
def c_calendar_DaysOf_1 : CF := ⟨[.tmp 2],
  (.seq (.reg false [
⟨some 2, none, .mv (.k (.d (.bool false)))⟩] [2])
(.seq (.reg false [
⟨some 2, none, .mv (.k (.d (.bool true)))⟩] [])
.ret))⟩

/-- "turnround/calendar.earliest" -/
def c_calendar_earliest : CF := ⟨[.cell 0 (some 2)],
  (.seq (.reg false [
⟨some 0, none, .alloc ty_calendar_Season [.z (.int .i64 0), .z (.str [])]⟩] [])
(.seq (.reg false [
⟨some 1, none, .build [.z (.int .i64 0), .z (.str [])] [(0, 1, .k (.d (.int .i64 2000))), (1, 1, .k (.d (.str [83])))]⟩,
⟨none, none, .store 2 (.t 0) (.t 1)⟩] [1])
.ret))⟩

/-- "turnround/calendar.latest" -/
def c_calendar_latest : CF := ⟨[.cell 0 (some 2)],
  (.seq (.reg false [
⟨some 0, none, .alloc ty_calendar_Season [.z (.int .i64 0), .z (.str [])]⟩] [])
(.seq (.reg false [
⟨some 1, none, .build [.z (.int .i64 0), .z (.str [])] [(0, 1, .k (.d (.int .i64 2272))), (1, 1, .k (.d (.str [87])))]⟩,
⟨none, none, .store 2 (.t 0) (.t 1)⟩] [1])
.ret))⟩

def b_calendar_date_1 : C :=
  (.seq (.seq (.reg false [
⟨some 5, none, .mv (.t 0)⟩,
⟨some 6, none, .idxAddrA 3 1 (.t 3) (.k (.d (.int .i64 0)))⟩,
⟨some 7, none, .load none (.t 6)⟩,
⟨some 8, none, .call false true (.k (.fn n_calendar_span [] [])) [.t 7]⟩,
⟨some 9, none, .bin .geq (.t 5) (.t 8)⟩] [5, 6, 7, 8])
(.cond (.t 9) .skip
 (.exit 0)))
(.block 1 (.seq (.reg false [
⟨some 10, none, .mv (.t 0)⟩,
⟨some 11, none, .idxAddrA 3 1 (.t 3) (.k (.d (.int .i64 0)))⟩,
⟨some 12, none, .load none (.t 11)⟩,
⟨some 13, none, .call false true (.k (.fn n_calendar_span [] [])) [.t 12]⟩,
⟨some 14, none, .bin .sub (.t 10) (.t 13)⟩,
⟨some 0, none, .mv (.t 14)⟩] [10, 11, 12, 13, 14])
(.reg false [
⟨some 15, none, .idxAddrA 3 1 (.t 3) (.k (.d (.int .i64 0)))⟩,
⟨some 16, none, .load none (.t 15)⟩,
⟨some 17, none, .bin .add (.t 16) (.k (.d (.int .i64 1)))⟩,
⟨some 18, none, .idxAddrA 3 1 (.t 3) (.k (.d (.int .i64 0)))⟩,
⟨none, none, .store 1 (.t 18) (.t 17)⟩] [15, 16, 17, 18]))))

def b_calendar_date_2 : C :=
  (.seq (.seq (.reg false [
⟨some 19, none, .mv (.t 0)⟩,
⟨some 20, none, .idxAddrA 3 1 (.t 3) (.k (.d (.int .i64 0)))⟩,
⟨some 21, none, .load none (.t 20)⟩,
⟨some 22, none, .idxAddrA 3 1 (.t 3) (.k (.d (.int .i64 1)))⟩,
⟨some 23, none, .load none (.t 22)⟩,
⟨some 24, none, .call false true (.k (.fn n_calendar_length [] [])) [.t 21, .t 23]⟩,
⟨some 25, none, .bin .geq (.t 19) (.t 24)⟩] [19, 20, 21, 22, 23, 24])
(.cond (.t 25) .skip
 (.exit 2)))
(.block 3 (.seq (.reg false [
⟨some 26, none, .mv (.t 0)⟩,
⟨some 27, none, .idxAddrA 3 1 (.t 3) (.k (.d (.int .i64 0)))⟩,
⟨some 28, none, .load none (.t 27)⟩,
⟨some 29, none, .idxAddrA 3 1 (.t 3) (.k (.d (.int .i64 1)))⟩,
⟨some 30, none, .load none (.t 29)⟩,
⟨some 31, none, .call false true (.k (.fn n_calendar_length [] [])) [.t 28, .t 30]⟩,
⟨some 32, none, .bin .sub (.t 26) (.t 31)⟩,
⟨some 0, none, .mv (.t 32)⟩] [26, 27, 28, 29, 30, 31, 32])
(.reg false [
⟨some 33, none, .idxAddrA 3 1 (.t 3) (.k (.d (.int .i64 1)))⟩,
⟨some 34, none, .load none (.t 33)⟩,
⟨some 35, none, .bin .add (.t 34) (.k (.d (.int .i64 1)))⟩,
⟨some 36, none, .idxAddrA 3 1 (.t 3) (.k (.d (.int .i64 1)))⟩,
⟨none, none, .store 1 (.t 36) (.t 35)⟩] [33, 34, 35, 36]))))

/-- "turnround/calendar.date" -/
def c_calendar_date : CF := ⟨[.cell 2 (some 3)],
  (.seq (.reg false [
⟨some 2, none, .alloc ty_3_int [.z (.int .i64 0), .z (.int .i64 0), .z (.int .i64 0)]⟩] [])
(.seq (.reg false [
⟨some 4, none, .build [.z (.int .i64 0), .z (.int .i64 0), .z (.int .i64 0)] [(0, 1, .k (.d (.int .i64 2000))), (1, 1, .k (.d (.int .i64 1))), (2, 1, .k (.d (.int .i64 1)))]⟩,
⟨some 3, none, .alloc ty_3_int [.z (.int .i64 0), .z (.int .i64 0), .z (.int .i64 0)]⟩,
⟨none, none, .store 3 (.t 3) (.t 4)⟩] [4])
(.seq (.block 0 (.loop [0, 2, 3] b_calendar_date_1))
(.seq (.block 2 (.loop [0, 2, 3] b_calendar_date_2))
(.seq (.reg false [
⟨some 37, none, .idxAddrA 3 1 (.t 3) (.k (.d (.int .i64 2)))⟩,
⟨some 38, none, .load none (.t 37)⟩,
⟨some 39, none, .mv (.t 0)⟩,
⟨some 40, none, .bin .add (.t 38) (.t 39)⟩,
⟨some 41, none, .idxAddrA 3 1 (.t 3) (.k (.d (.int .i64 2)))⟩,
⟨none, none, .store 1 (.t 41) (.t 40)⟩] [0, 37, 38, 39, 40, 41])
(.seq (.reg false [
⟨some 42, none, .load (some 3) (.t 3)⟩,
⟨none, none, .store 3 (.t 2) (.t 42)⟩] [3, 42])
.ret))))))⟩

def b_calendar_number_1 : C :=
  (.seq (.reg false [
⟨some 15, none, .bin .lss (.t 14) (.t 13)⟩] [])
(.seq (.cond (.t 15) .skip
 (.exit 0))
(.seq (.block 1 (.seq (.reg false [
⟨some 16, none, .mv (.t 14)⟩,
⟨some 8, none, .mv (.t 16)⟩] [16])
(.reg false [
⟨some 17, none, .mv (.t 7)⟩,
⟨some 18, none, .mv (.t 8)⟩,
⟨some 19, none, .bin .add (.k (.d (.int .i64 2000))) (.t 18)⟩,
⟨some 20, none, .call false true (.k (.fn n_calendar_span [] [])) [.t 19]⟩,
⟨some 21, none, .bin .add (.t 17) (.t 20)⟩,
⟨some 7, none, .mv (.t 21)⟩] [8, 17, 18, 19, 20, 21])))
(.reg false [
⟨some 22, none, .bin .add (.t 14) (.k (.d (.int .i64 1)))⟩,
⟨some 14, none, .mv (.t 22)⟩] [22]))))

def b_calendar_number_2 : C :=
  (.seq (.seq (.reg false [
⟨some 23, none, .mv (.t 9)⟩,
⟨some 24, none, .mv (.t 1)⟩,
⟨some 25, none, .bin .lss (.t 23) (.t 24)⟩] [23, 24])
(.cond (.t 25) .skip
 (.exit 2)))
(.seq (.block 3 (.reg false [
⟨some 28, none, .mv (.t 7)⟩,
⟨some 29, none, .mv (.t 0)⟩,
⟨some 30, none, .mv (.t 9)⟩,
⟨some 31, none, .call false true (.k (.fn n_calendar_length [] [])) [.t 29, .t 30]⟩,
⟨some 32, none, .bin .add (.t 28) (.t 31)⟩,
⟨some 7, none, .mv (.t 32)⟩] [28, 29, 30, 31, 32]))
(.reg false [
⟨some 26, none, .mv (.t 9)⟩,
⟨some 27, none, .bin .add (.t 26) (.k (.d (.int .i64 1)))⟩,
⟨some 9, none, .mv (.t 27)⟩] [26, 27])))

/-- "turnround/calendar.number" -/
def c_calendar_number : CF := ⟨[.tmp 6],
  (.seq (.reg false [
⟨some 6, none, .mv (.k (.d (.int .i64 0)))⟩] [6])
(.seq (.reg false [
⟨some 10, none, .mv (.t 2)⟩,
⟨some 11, none, .bin .sub (.t 10) (.k (.d (.int .i64 1)))⟩,
⟨some 7, none, .mv (.t 11)⟩] [2, 10, 11])
(.seq (.seq (.reg false [
⟨some 12, none, .mv (.t 0)⟩,
⟨some 13, none, .bin .sub (.t 12) (.k (.d (.int .i64 2000)))⟩,
⟨some 14, none, .mv (.k (.d (.int .i64 0)))⟩] [12])
(.block 0 (.loop [0, 1, 7, 13, 14] b_calendar_number_1)))
(.seq (.seq (.reg false [
⟨some 9, none, .mv (.k (.d (.int .i64 1)))⟩] [])
(.block 2 (.loop [0, 1, 7, 9] b_calendar_number_2)))
(.seq (.reg false [
⟨some 33, none, .mv (.t 7)⟩,
⟨some 6, none, .mv (.t 33)⟩] [7, 33])
.ret)))))⟩

/-- "turnround/calendar.length" -/
def c_calendar_length : CF := ⟨[.tmp 4],
  (.seq (.reg false [
⟨some 4, none, .mv (.k (.d (.int .i64 0)))⟩] [4])
(.seq (.seq (.reg false [
⟨some 5, none, .mv (.t 1)⟩,
⟨some 6, none, .bin .eql (.t 5) (.k (.d (.int .i64 2)))⟩,
⟨some 7, none, .mv (.t 6)⟩,
⟨some 8, (some (7, true)), .mv (.t 0)⟩,
⟨some 9, (some (7, true)), .call false true (.k (.fn n_calendar_leap [] [])) [.t 8]⟩,
⟨some 10, none, .pick (.t 7) (.t 9) (.k (.d (.bool false)))⟩] [0, 5, 6, 7, 8, 9])
(.cond (.t 10) (.seq (.reg false [
⟨some 11, none, .idxAddrA 12 1 (.k (.lptr [.int .i64 31, .int .i64 28, .int .i64 31, .int .i64 30, .int .i64 31, .int .i64 30, .int .i64 31, .int .i64 31, .int .i64 30, .int .i64 31, .int .i64 30, .int .i64 31] 0)) (.k (.d (.int .i64 1)))⟩,
⟨some 12, none, .load none (.t 11)⟩,
⟨some 13, none, .bin .add (.t 12) (.k (.d (.int .i64 1)))⟩,
⟨some 4, none, .mv (.t 13)⟩] [11, 12, 13])
.ret)
 .skip))
(.seq (.reg false [
⟨some 14, none, .mv (.t 1)⟩,
⟨some 15, none, .bin .sub (.t 14) (.k (.d (.int .i64 1)))⟩,
⟨some 16, none, .idxAddrA 12 1 (.k (.lptr [.int .i64 31, .int .i64 28, .int .i64 31, .int .i64 30, .int .i64 31, .int .i64 30, .int .i64 31, .int .i64 31, .int .i64 30, .int .i64 31, .int .i64 30, .int .i64 31] 0)) (.t 15)⟩,
⟨some 17, none, .load none (.t 16)⟩,
⟨some 4, none, .mv (.t 17)⟩] [1, 14, 15, 16, 17])
.ret)))⟩

/-- "turnround/calendar.two" -/
def c_calendar_two : CF := ⟨[.tmp 2],
  (.seq (.reg false [
⟨some 2, none, .mv (.k (.d (.str [])))⟩] [2])
(.seq (.reg false [
⟨some 3, none, .mv (.t 0)⟩,
⟨some 4, none, .bin .quo (.t 3) (.k (.d (.int .i64 10)))⟩,
⟨some 5, none, .call false true (.k (.fn n_strconv_Itoa [] [])) [.t 4]⟩,
⟨some 6, none, .mv (.t 0)⟩,
⟨some 7, none, .bin .rem (.t 6) (.k (.d (.int .i64 10)))⟩,
⟨some 8, none, .call false true (.k (.fn n_strconv_Itoa [] [])) [.t 7]⟩,
⟨some 9, none, .bin .add (.t 5) (.t 8)⟩,
⟨some 2, none, .mv (.t 9)⟩] [0, 3, 4, 5, 6, 7, 8, 9])
.ret))⟩

/-- "turnround/calendar.Meet.1" -/
def c_calendar_Meet_1 : CF := ⟨[.tmp 3],
  (.seq (.reg false [
⟨some 3, none, .mv (.k (.d (.bool false)))⟩] [3])
(.seq (.reg false [
⟨some 4, none, .load (some 3) (.t 1)⟩,
⟨some 5, none, .mv (.t 0)⟩,
⟨some 6, none, .call false true (.k (.fn n_calendar_has [] [])) [.t 4, .t 5]⟩,
⟨some 3, none, .mv (.t 6)⟩] [0, 1, 4, 5, 6])
.ret))⟩

/-- "turnround/calendar.has" -/
def c_calendar_has : CF := ⟨[.tmp 4],
  (.seq (.reg false [
⟨some 2, none, .box ty_api_Period (.t 0)⟩,
⟨some 4, none, .mv (.k (.d (.bool false)))⟩] [0, 4])
(.seq (.reg true [
⟨some 5, none, .mv (.t 1)⟩,
⟨some 6, none, .fieldAddr 0 (.t 2)⟩,
⟨some 7, none, .load none (.t 6)⟩,
⟨some 8, none, .bin .geq (.t 5) (.t 7)⟩,
⟨some 9, none, .mv (.t 8)⟩,
⟨some 10, (some (9, true)), .mv (.t 1)⟩,
⟨some 11, (some (9, true)), .fieldAddr 1 (.t 2)⟩,
⟨some 12, (some (9, true)), .load none (.t 11)⟩,
⟨some 13, (some (9, true)), .bin .leq (.t 10) (.t 12)⟩,
⟨some 14, none, .pick (.t 9) (.t 13) (.k (.d (.bool false)))⟩,
⟨some 15, none, .mv (.t 14)⟩,
⟨some 16, (some (15, true)), .fieldAddr 2 (.t 2)⟩,
⟨some 17, (some (15, true)), .load none (.t 16)⟩,
⟨some 18, (some (15, true)), .mv (.t 1)⟩,
⟨some 19, (some (15, true)), .call false true (.k (.fn n_calendar_weekday [] [])) [.t 18]⟩,
⟨some 20, (some (15, true)), .call false true (.k (.fn n_calendar_inMask [] [])) [.t 17, .t 19]⟩,
⟨some 21, none, .pick (.t 15) (.t 20) (.k (.d (.bool false)))⟩,
⟨some 4, none, .mv (.t 21)⟩] [1, 2, 5, 6, 7, 8, 9, 10, 11, 12, 13, 14, 15, 16, 17, 18, 19, 20, 21])
.ret))⟩

def b_calendar_printMask_1 : C :=
  (.seq (.reg false [
⟨some 6, none, .bin .lss (.t 5) (.k (.d (.int .i64 7)))⟩] [])
(.seq (.cond (.t 6) .skip
 (.exit 0))
(.seq (.block 1 (.seq (.reg false [
⟨some 7, none, .mv (.t 5)⟩,
⟨some 4, none, .mv (.t 7)⟩] [7])
(.seq (.seq (.reg false [
⟨some 8, none, .mv (.t 0)⟩,
⟨some 9, none, .mv (.t 4)⟩,
⟨some 10, none, .call false true (.k (.fn n_calendar_inMask [] [])) [.t 8, .t 9]⟩] [8, 9])
(.cond (.t 10) (.seq (.reg false [
⟨some 11, none, .mv (.t 4)⟩,
⟨some 12, none, .bin .add (.t 11) (.k (.d (.int .i64 1)))⟩,
⟨some 13, none, .call false true (.k (.fn n_strconv_Itoa [] [])) [.t 12]⟩,
⟨some 14, none, .call true false (.k (.fn n_strings_Builder_WriteString [] [])) [.t 3, .t 13]⟩] [4, 11, 12, 13, 14])
(.exit 1))
 .skip))
(.reg false [
⟨some 15, none, .call true false (.k (.fn n_strings_Builder_WriteByte [] [])) [.t 3, .k (.d (.int .u8 48))]⟩] [15]))))
(.reg false [
⟨some 16, none, .bin .add (.t 5) (.k (.d (.int .i64 1)))⟩,
⟨some 5, none, .mv (.t 16)⟩] [16]))))

/-- "turnround/calendar.printMask" -/
def c_calendar_printMask : CF := ⟨[.tmp 2],
  (.seq (.reg false [
⟨some 2, none, .mv (.k (.d (.str [])))⟩] [2])
(.seq (.reg false [
⟨some 3, none, .alloc ty_strings_Builder [.z .nilp, .own ⟨false, ty_uint8, 1, 1⟩]⟩] [])
(.seq (.seq (.reg false [
⟨some 5, none, .mv (.k (.d (.int .i64 0)))⟩] [])
(.block 0 (.loop [0, 3, 5] b_calendar_printMask_1)))
(.seq (.reg false [
⟨some 17, none, .call true true (.k (.fn n_strings_Builder_String [] [])) [.t 3]⟩,
⟨some 2, none, .mv (.t 17)⟩] [3, 17])
.ret))))⟩

/-- "turnround/turnroundref01.Weekday" -/
def c_ref01_Weekday : CF := ⟨[.tmp 2],
  (.seq (.reg false [
⟨some 2, none, .mv (.k (.d (.int .i64 0)))⟩] [2])
(.seq (.reg false [
⟨some 3, none, .mv (.t 0)⟩,
⟨some 4, none, .bin .add (.t 3) (.k (.d (.int .i64 5)))⟩,
⟨some 5, none, .bin .rem (.t 4) (.k (.d (.int .i64 7)))⟩,
⟨some 2, none, .mv (.t 5)⟩] [0, 3, 4, 5])
.ret))⟩

def b_calendar_daysOf_1_1 : C :=
  (.seq (.seq (.reg false [
⟨some 6, none, .mv (.t 3)⟩,
⟨some 7, none, .fieldAddr 1 (.t 1)⟩,
⟨some 8, none, .load none (.t 7)⟩,
⟨some 9, none, .bin .leq (.t 6) (.t 8)⟩] [6, 7, 8])
(.cond (.t 9) .skip
 (.exit 0)))
(.seq (.block 1 (.seq (.reg true [
⟨some 12, none, .fieldAddr 2 (.t 1)⟩,
⟨some 13, none, .load none (.t 12)⟩,
⟨some 14, none, .mv (.t 3)⟩,
⟨some 15, none, .call false true (.k (.fn n_calendar_weekday [] [])) [.t 14]⟩,
⟨some 16, none, .call false true (.k (.fn n_calendar_inMask [] [])) [.t 13, .t 15]⟩,
⟨some 17, none, .mv (.t 16)⟩,
⟨some 18, (some (17, true)), .mv (.t 0)⟩,
⟨some 19, (some (17, true)), .mv (.t 3)⟩,
⟨some 20, (some (17, true)), .call true true (.t 18) [.t 19]⟩,
⟨some 21, (some (17, true)), .un .not (.t 20)⟩,
⟨some 22, none, .pick (.t 17) (.t 21) (.k (.d (.bool false)))⟩] [12, 13, 14, 15, 16, 17, 18, 19, 20, 21])
(.cond (.t 22) .ret
 .skip)))
(.reg false [
⟨some 10, none, .mv (.t 3)⟩,
⟨some 11, none, .bin .add (.t 10) (.k (.d (.int .i64 1)))⟩,
⟨some 3, none, .mv (.t 11)⟩] [10, 11])))

/-- "turnround/calendar.daysOf.1" -/
def c_calendar_daysOf_1 : CF := ⟨[],
  (.seq (.reg false [
⟨some 4, none, .fieldAddr 0 (.t 1)⟩,
⟨some 5, none, .load none (.t 4)⟩,
⟨some 3, none, .mv (.t 5)⟩] [4, 5])
(.block 0 (.loop [0, 1, 3] b_calendar_daysOf_1_1)))⟩

/-- "turnround/calendar.inMask" -/
def c_calendar_inMask : CF := ⟨[.tmp 4],
  (.seq (.reg false [
⟨some 4, none, .mv (.k (.d (.bool false)))⟩] [4])
(.seq (.reg false [
⟨some 5, none, .mv (.t 0)⟩,
⟨some 6, none, .mv (.t 1)⟩,
⟨some 7, none, .bin .shr (.t 5) (.t 6)⟩,
⟨some 8, none, .bin .and (.t 7) (.k (.d (.int .i64 1)))⟩,
⟨some 9, none, .bin .eql (.t 8) (.k (.d (.int .i64 1)))⟩,
⟨some 4, none, .mv (.t 9)⟩] [0, 1, 5, 6, 7, 8, 9])
.ret))⟩

/-- "turnround/calendar.span" -/
def c_calendar_span : CF := ⟨[.tmp 2],
  (.seq (.reg false [
⟨some 2, none, .mv (.k (.d (.int .i64 0)))⟩] [2])
(.seq (.seq (.reg false [
⟨some 3, none, .mv (.t 0)⟩,
⟨some 4, none, .call false true (.k (.fn n_calendar_leap [] [])) [.t 3]⟩] [0, 3])
(.cond (.t 4) (.seq (.reg false [
⟨some 2, none, .mv (.k (.d (.int .i64 366)))⟩] [])
.ret)
 .skip))
(.seq (.reg false [
⟨some 2, none, .mv (.k (.d (.int .i64 365)))⟩] [])
.ret)))⟩

/-- "turnround/calendar.leap" -/
def c_calendar_leap : CF := ⟨[.tmp 2],
  (.seq (.reg false [
⟨some 2, none, .mv (.k (.d (.bool false)))⟩] [2])
(.seq (.reg false [
⟨some 3, none, .mv (.t 0)⟩,
⟨some 4, none, .bin .rem (.t 3) (.k (.d (.int .i64 4)))⟩,
⟨some 5, none, .bin .eql (.t 4) (.k (.d (.int .i64 0)))⟩,
⟨some 6, none, .mv (.t 5)⟩,
⟨some 7, (some (6, true)), .mv (.t 0)⟩,
⟨some 8, (some (6, true)), .bin .rem (.t 7) (.k (.d (.int .i64 100)))⟩,
⟨some 9, (some (6, true)), .bin .neq (.t 8) (.k (.d (.int .i64 0)))⟩,
⟨some 10, (some (6, true)), .mv (.t 9)⟩,
⟨some 11, (some (10, false)), .mv (.t 0)⟩,
⟨some 12, (some (10, false)), .bin .rem (.t 11) (.k (.d (.int .i64 400)))⟩,
⟨some 13, (some (10, false)), .bin .eql (.t 12) (.k (.d (.int .i64 0)))⟩,
⟨some 14, (some (6, true)), .pick (.t 10) (.k (.d (.bool true))) (.t 13)⟩,
⟨some 15, none, .pick (.t 6) (.t 14) (.k (.d (.bool false)))⟩,
⟨some 2, none, .mv (.t 15)⟩] [0, 3, 4, 5, 6, 7, 8, 9, 10, 11, 12, 13, 14, 15])
.ret))⟩

/-- "(*strings.Builder).WriteString" -/
def c_strings_Builder_WriteString : CF := ⟨[.tmp 4, .tmp 5],
  (.seq (.reg false [
⟨some 4, none, .mv (.k (.d (.int .i64 0)))⟩,
⟨some 5, none, .mv (.k (.d (.nili)))⟩] [4, 5])
(.seq (.reg false [
⟨some 6, none, .mv (.t 0)⟩,
⟨some 7, none, .call true true (.k (.fn n_strings_Builder_copyCheck [] [])) [.t 6]⟩] [6, 7])
(.seq (.reg false [
⟨some 8, none, .mv (.t 0)⟩,
⟨some 9, none, .mv (.t 0)⟩,
⟨some 10, none, .nilCheck (.t 9)⟩,
⟨some 11, none, .fieldAddr 1 (.t 10)⟩,
⟨some 12, none, .load none (.t 11)⟩,
⟨some 13, none, .mv (.t 1)⟩,
⟨some 14, none, .appendS ⟨false, ty_uint8, 1, 1⟩ (.t 12) (.t 13)⟩,
⟨some 15, none, .nilCheck (.t 8)⟩,
⟨some 16, none, .fieldAddr 1 (.t 15)⟩,
⟨none, none, .store 1 (.t 16) (.t 14)⟩] [0, 8, 9, 10, 11, 12, 13, 14, 15, 16])
(.seq (.reg false [
⟨some 17, none, .mv (.t 1)⟩,
⟨some 18, none, .len .str (.t 17)⟩,
⟨some 4, none, .mv (.t 18)⟩,
⟨some 5, none, .mv (.k (.d (.nili)))⟩] [1, 17, 18])
.ret))))⟩

/-- "(*strings.Builder).WriteByte" -/
def c_strings_Builder_WriteByte : CF := ⟨[.tmp 4],
  (.seq (.reg false [
⟨some 4, none, .mv (.k (.d (.nili)))⟩] [4])
(.seq (.reg false [
⟨some 5, none, .mv (.t 0)⟩,
⟨some 6, none, .call true true (.k (.fn n_strings_Builder_copyCheck [] [])) [.t 5]⟩] [5, 6])
(.seq (.reg false [
⟨some 7, none, .mv (.t 0)⟩,
⟨some 8, none, .mv (.t 0)⟩,
⟨some 9, none, .nilCheck (.t 8)⟩,
⟨some 10, none, .fieldAddr 1 (.t 9)⟩,
⟨some 11, none, .load none (.t 10)⟩,
⟨some 12, none, .mv (.t 1)⟩,
⟨some 13, none, .mkList 1 1 [.t 12]⟩,
⟨some 14, none, .append ⟨false, ty_uint8, 1, 1⟩ (.t 11) (.t 13)⟩,
⟨some 15, none, .nilCheck (.t 7)⟩,
⟨some 16, none, .fieldAddr 1 (.t 15)⟩,
⟨none, none, .store 1 (.t 16) (.t 14)⟩] [0, 1, 7, 8, 9, 10, 11, 12, 13, 14, 15, 16])
(.seq (.reg false [
⟨some 4, none, .mv (.k (.d (.nili)))⟩] [])
.ret))))⟩

/-- "cmp.Less[int]" -/
def c_cmp_Less_int : CF := ⟨[.tmp 4],
  (.seq (.reg false [
⟨some 4, none, .mv (.k (.d (.bool false)))⟩] [4])
(.seq (.reg false [
⟨some 5, none, .mv (.t 0)⟩,
⟨some 6, none, .call false true (.k (.fn n_cmp_isNaN_int [] [])) [.t 5]⟩,
⟨some 7, none, .mv (.t 6)⟩,
⟨some 8, (some (7, true)), .mv (.t 1)⟩,
⟨some 9, (some (7, true)), .call false true (.k (.fn n_cmp_isNaN_int [] [])) [.t 8]⟩,
⟨some 10, (some (7, true)), .un .not (.t 9)⟩,
⟨some 11, none, .pick (.t 7) (.t 10) (.k (.d (.bool false)))⟩,
⟨some 12, none, .mv (.t 11)⟩,
⟨some 13, (some (12, false)), .mv (.t 0)⟩,
⟨some 14, (some (12, false)), .mv (.t 1)⟩,
⟨some 15, (some (12, false)), .bin .lss (.t 13) (.t 14)⟩,
⟨some 16, none, .pick (.t 12) (.k (.d (.bool true))) (.t 15)⟩,
⟨some 4, none, .mv (.t 16)⟩] [0, 1, 5, 6, 7, 8, 9, 10, 11, 12, 13, 14, 15, 16])
.ret))⟩

/-- "cmp.isNaN[int]" -/
def c_cmp_isNaN_int : CF := ⟨[.tmp 2],
  (.seq (.reg false [
⟨some 2, none, .mv (.k (.d (.bool false)))⟩] [2])
(.seq (.reg false [
⟨some 3, none, .mv (.t 0)⟩,
⟨some 4, none, .mv (.t 0)⟩,
⟨some 5, none, .bin .neq (.t 3) (.t 4)⟩,
⟨some 2, none, .mv (.t 5)⟩] [0, 3, 4, 5])
.ret))⟩

def codes : List (Nat × CF) := [
  (n_law01_CalendarJoins, c_law01_CalendarJoins),
  (n_law01_CalendarZones, c_law01_CalendarZones),
  (n_law01_CalendarDeals, c_law01_CalendarDeals),
  (n_law01_CalendarParts, c_law01_CalendarParts),
  (n_law01_CalendarCovers, c_law01_CalendarCovers),
  (n_law01_CalendarTiles, c_law01_CalendarTiles),
  (n_law01_awake, c_law01_awake),
  (n_calendar_Join, c_calendar_Join),
  (n_ref01_CheckDays, c_ref01_CheckDays),
  (n_ref01_SamePeriods, c_ref01_SamePeriods),
  (n_ref01_Join, c_ref01_Join),
  (n_law01_zone, c_law01_zone),
  (n_ref01_ShortZone, c_ref01_ShortZone),
  (n_ref01_CheckZone, c_ref01_CheckZone),
  (n_ref01_CheckMoment, c_ref01_CheckMoment),
  (n_ref01_CheckRange, c_ref01_CheckRange),
  (n_calendar_Local, c_calendar_Local),
  (n_calendar_Universal, c_calendar_Universal),
  (n_ref01_HasInt, c_ref01_HasInt),
  (n_calendar_Summer, c_calendar_Summer),
  (n_calendar_Span, c_calendar_Span),
  (n_ref01_CheckDraw, c_ref01_CheckDraw),
  (n_calendar_Draw, c_calendar_Draw),
  (n_ref01_IsOrder, c_ref01_IsOrder),
  (n_ref01_SameInts, c_ref01_SameInts),
  (n_calendar_Split, c_calendar_Split),
  (n_calendar_Shift, c_calendar_Shift),
  (n_ref01_CheckPeriod, c_ref01_CheckPeriod),
  (n_law01_first, c_law01_first),
  (n_ref01_Shift, c_ref01_Shift),
  (n_ref01_CheckDay, c_ref01_CheckDay),
  (n_calendar_DaysOf, c_calendar_DaysOf),
  (n_ref01_CheckSeason, c_ref01_CheckSeason),
  (n_calendar_SeasonOf, c_calendar_SeasonOf),
  (n_calendar_Next, c_calendar_Next),
  (n_calendar_Previous, c_calendar_Previous),
  (n_calendar_Equivalent, c_calendar_Equivalent),
  (n_calendar_Day, c_calendar_Day),
  (n_calendar_Weekday, c_calendar_Weekday),
  (n_calendar_PrintDate, c_calendar_PrintDate),
  (n_calendar_Meet, c_calendar_Meet),
  (n_calendar_PrintMask, c_calendar_PrintMask),
  (n_calendar_first, c_calendar_first),
  (n_calendar_checkDay, c_calendar_checkDay),
  (n_calendar_when, c_calendar_when),
  (n_calendar_weekOf, c_calendar_weekOf),
  (n_calendar_weekday, c_calendar_weekday),
  (n_slices_Clip_Lapi_Period_api_Period, c_slices_Clip_Lapi_Period_api_Period),
  (n_ref01_Week, c_ref01_Week),
  (n_ref01_weekMask, c_ref01_weekMask),
  (n_calendar_CheckZone, c_calendar_CheckZone),
  (n_calendar_checkMoment, c_calendar_checkMoment),
  (n_calendar_Zone_at, c_calendar_Zone_at),
  (n_slices_Compact_Lint_int, c_slices_Compact_Lint_int),
  (n_calendar_within, c_calendar_within),
  (n_calendar_lastSunday, c_calendar_lastSunday),
  (n_calendar_CheckSeason, c_calendar_CheckSeason),
  (n_calendar_Season_begin, c_calendar_Season_begin),
  (n_calendar_Season_next, c_calendar_Season_next),
  (n_calendar_CheckPeriod, c_calendar_CheckPeriod),
  (n_ref01_First, c_ref01_First),
  (n_ref01_InMask, c_ref01_InMask),
  (n_calendar_collected_int, c_calendar_collected_int),
  (n_calendar_daysOf, c_calendar_daysOf),
  (n_calendar_DaysOf_1, c_calendar_DaysOf_1),
  (n_calendar_earliest, c_calendar_earliest),
  (n_calendar_latest, c_calendar_latest),
  (n_calendar_date, c_calendar_date),
  (n_calendar_number, c_calendar_number),
  (n_calendar_length, c_calendar_length),
  (n_calendar_two, c_calendar_two),
  (n_calendar_Meet_1, c_calendar_Meet_1),
  (n_calendar_has, c_calendar_has),
  (n_calendar_printMask, c_calendar_printMask),
  (n_ref01_Weekday, c_ref01_Weekday),
  (n_calendar_daysOf_1, c_calendar_daysOf_1),
  (n_calendar_inMask, c_calendar_inMask),
  (n_calendar_span, c_calendar_span),
  (n_calendar_leap, c_calendar_leap),
  (n_strings_Builder_WriteString, c_strings_Builder_WriteString),
  (n_strings_Builder_WriteByte, c_strings_Builder_WriteByte),
  (n_cmp_Less_int, c_cmp_Less_int),
  (n_cmp_isNaN_int, c_cmp_isNaN_int)]

def code (f : Nat) : Option CF := findC f codes

theorem code_law01_CalendarJoins : code n_law01_CalendarJoins = some c_law01_CalendarJoins := rfl
theorem code_law01_CalendarZones : code n_law01_CalendarZones = some c_law01_CalendarZones := rfl
theorem code_law01_CalendarDeals : code n_law01_CalendarDeals = some c_law01_CalendarDeals := rfl
theorem code_law01_CalendarParts : code n_law01_CalendarParts = some c_law01_CalendarParts := rfl
theorem code_law01_CalendarCovers : code n_law01_CalendarCovers = some c_law01_CalendarCovers := rfl
theorem code_law01_CalendarTiles : code n_law01_CalendarTiles = some c_law01_CalendarTiles := rfl
theorem code_law01_awake : code n_law01_awake = some c_law01_awake := rfl
theorem code_calendar_Join : code n_calendar_Join = some c_calendar_Join := rfl
theorem code_ref01_CheckDays : code n_ref01_CheckDays = some c_ref01_CheckDays := rfl
theorem code_ref01_SamePeriods : code n_ref01_SamePeriods = some c_ref01_SamePeriods := rfl
theorem code_ref01_Join : code n_ref01_Join = some c_ref01_Join := rfl
theorem code_law01_zone : code n_law01_zone = some c_law01_zone := rfl
theorem code_ref01_ShortZone : code n_ref01_ShortZone = some c_ref01_ShortZone := rfl
theorem code_ref01_CheckZone : code n_ref01_CheckZone = some c_ref01_CheckZone := rfl
theorem code_ref01_CheckMoment : code n_ref01_CheckMoment = some c_ref01_CheckMoment := rfl
theorem code_ref01_CheckRange : code n_ref01_CheckRange = some c_ref01_CheckRange := rfl
theorem code_calendar_Local : code n_calendar_Local = some c_calendar_Local := rfl
theorem code_calendar_Universal : code n_calendar_Universal = some c_calendar_Universal := rfl
theorem code_ref01_HasInt : code n_ref01_HasInt = some c_ref01_HasInt := rfl
theorem code_calendar_Summer : code n_calendar_Summer = some c_calendar_Summer := rfl
theorem code_calendar_Span : code n_calendar_Span = some c_calendar_Span := rfl
theorem code_ref01_CheckDraw : code n_ref01_CheckDraw = some c_ref01_CheckDraw := rfl
theorem code_calendar_Draw : code n_calendar_Draw = some c_calendar_Draw := rfl
theorem code_ref01_IsOrder : code n_ref01_IsOrder = some c_ref01_IsOrder := rfl
theorem code_ref01_SameInts : code n_ref01_SameInts = some c_ref01_SameInts := rfl
theorem code_calendar_Split : code n_calendar_Split = some c_calendar_Split := rfl
theorem code_calendar_Shift : code n_calendar_Shift = some c_calendar_Shift := rfl
theorem code_ref01_CheckPeriod : code n_ref01_CheckPeriod = some c_ref01_CheckPeriod := rfl
theorem code_law01_first : code n_law01_first = some c_law01_first := rfl
theorem code_ref01_Shift : code n_ref01_Shift = some c_ref01_Shift := rfl
theorem code_ref01_CheckDay : code n_ref01_CheckDay = some c_ref01_CheckDay := rfl
theorem code_calendar_DaysOf : code n_calendar_DaysOf = some c_calendar_DaysOf := rfl
theorem code_ref01_CheckSeason : code n_ref01_CheckSeason = some c_ref01_CheckSeason := rfl
theorem code_calendar_SeasonOf : code n_calendar_SeasonOf = some c_calendar_SeasonOf := rfl
theorem code_calendar_Next : code n_calendar_Next = some c_calendar_Next := rfl
theorem code_calendar_Previous : code n_calendar_Previous = some c_calendar_Previous := rfl
theorem code_calendar_Equivalent : code n_calendar_Equivalent = some c_calendar_Equivalent := rfl
theorem code_calendar_Day : code n_calendar_Day = some c_calendar_Day := rfl
theorem code_calendar_Weekday : code n_calendar_Weekday = some c_calendar_Weekday := rfl
theorem code_calendar_PrintDate : code n_calendar_PrintDate = some c_calendar_PrintDate := rfl
theorem code_calendar_Meet : code n_calendar_Meet = some c_calendar_Meet := rfl
theorem code_calendar_PrintMask : code n_calendar_PrintMask = some c_calendar_PrintMask := rfl
theorem code_calendar_first : code n_calendar_first = some c_calendar_first := rfl
theorem code_calendar_checkDay : code n_calendar_checkDay = some c_calendar_checkDay := rfl
theorem code_calendar_when : code n_calendar_when = some c_calendar_when := rfl
theorem code_calendar_weekOf : code n_calendar_weekOf = some c_calendar_weekOf := rfl
theorem code_calendar_weekday : code n_calendar_weekday = some c_calendar_weekday := rfl
theorem code_slices_Clip_Lapi_Period_api_Period : code n_slices_Clip_Lapi_Period_api_Period = some c_slices_Clip_Lapi_Period_api_Period := rfl
theorem code_ref01_Week : code n_ref01_Week = some c_ref01_Week := rfl
theorem code_ref01_weekMask : code n_ref01_weekMask = some c_ref01_weekMask := rfl
theorem code_calendar_CheckZone : code n_calendar_CheckZone = some c_calendar_CheckZone := rfl
theorem code_calendar_checkMoment : code n_calendar_checkMoment = some c_calendar_checkMoment := rfl
theorem code_calendar_Zone_at : code n_calendar_Zone_at = some c_calendar_Zone_at := rfl
theorem code_slices_Compact_Lint_int : code n_slices_Compact_Lint_int = some c_slices_Compact_Lint_int := rfl
theorem code_calendar_within : code n_calendar_within = some c_calendar_within := rfl
theorem code_calendar_lastSunday : code n_calendar_lastSunday = some c_calendar_lastSunday := rfl
theorem code_calendar_CheckSeason : code n_calendar_CheckSeason = some c_calendar_CheckSeason := rfl
theorem code_calendar_Season_begin : code n_calendar_Season_begin = some c_calendar_Season_begin := rfl
theorem code_calendar_Season_next : code n_calendar_Season_next = some c_calendar_Season_next := rfl
theorem code_calendar_CheckPeriod : code n_calendar_CheckPeriod = some c_calendar_CheckPeriod := rfl
theorem code_ref01_First : code n_ref01_First = some c_ref01_First := rfl
theorem code_ref01_InMask : code n_ref01_InMask = some c_ref01_InMask := rfl
theorem code_calendar_collected_int : code n_calendar_collected_int = some c_calendar_collected_int := rfl
theorem code_calendar_daysOf : code n_calendar_daysOf = some c_calendar_daysOf := rfl
theorem code_calendar_DaysOf_1 : code n_calendar_DaysOf_1 = some c_calendar_DaysOf_1 := rfl
theorem code_calendar_earliest : code n_calendar_earliest = some c_calendar_earliest := rfl
theorem code_calendar_latest : code n_calendar_latest = some c_calendar_latest := rfl
theorem code_calendar_date : code n_calendar_date = some c_calendar_date := rfl
theorem code_calendar_number : code n_calendar_number = some c_calendar_number := rfl
theorem code_calendar_length : code n_calendar_length = some c_calendar_length := rfl
theorem code_calendar_two : code n_calendar_two = some c_calendar_two := rfl
theorem code_calendar_Meet_1 : code n_calendar_Meet_1 = some c_calendar_Meet_1 := rfl
theorem code_calendar_has : code n_calendar_has = some c_calendar_has := rfl
theorem code_calendar_printMask : code n_calendar_printMask = some c_calendar_printMask := rfl
theorem code_ref01_Weekday : code n_ref01_Weekday = some c_ref01_Weekday := rfl
theorem code_calendar_daysOf_1 : code n_calendar_daysOf_1 = some c_calendar_daysOf_1 := rfl
theorem code_calendar_inMask : code n_calendar_inMask = some c_calendar_inMask := rfl
theorem code_calendar_span : code n_calendar_span = some c_calendar_span := rfl
theorem code_calendar_leap : code n_calendar_leap = some c_calendar_leap := rfl
theorem code_strings_Builder_WriteString : code n_strings_Builder_WriteString = some c_strings_Builder_WriteString := rfl
theorem code_strings_Builder_WriteByte : code n_strings_Builder_WriteByte = some c_strings_Builder_WriteByte := rfl
theorem code_cmp_Less_int : code n_cmp_Less_int = some c_cmp_Less_int := rfl
theorem code_cmp_isNaN_int : code n_cmp_isNaN_int = some c_cmp_isNaN_int := rfl

def globs : Globs := [(0, [.int .i64 31, .int .i64 28, .int .i64 31, .int .i64 30, .int .i64 31, .int .i64 30, .int .i64 31, .int .i64 31, .int .i64 30, .int .i64 31, .int .i64 30, .int .i64 31]), (1, [.int .u64 1, .int .u64 10, .int .u64 100, .int .u64 1000, .int .u64 10000, .int .u64 100000, .int .u64 1000000, .int .u64 10000000, .int .u64 100000000, .int .u64 1000000000, .int .u64 10000000000, .int .u64 100000000000, .int .u64 1000000000000, .int .u64 10000000000000, .int .u64 100000000000000, .int .u64 1000000000000000, .int .u64 10000000000000000, .int .u64 100000000000000000, .int .u64 1000000000000000000, .int .u64 10000000000000000000])]

end Go.Proofs.YtlboecjgelnabaaDoor.Co
