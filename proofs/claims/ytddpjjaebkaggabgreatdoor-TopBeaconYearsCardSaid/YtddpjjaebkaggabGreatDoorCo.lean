/-
  The functions of the seat in the evaluator's syntax (printed by a program of mine; checked in a text that follows).
-/
import Derived.Test.YtddpjjaebkaggabGreatDoorEvE
namespace Go.Proofs.YtddpjjaebkaggabGreatDoor.Co
open Go.Evl

def n_top_TopBeaconNoons : Nat := 3
def n_top_TopBeaconYears : Nat := 4
def n_top_TopBeaconMasks : Nat := 5
def n_calendar_Summer : Nat := 6
def n_calendar_Day : Nat := 7
def n_calendar_Span : Nat := 8
def n_calendar_Universal : Nat := 9
def n_calendar_Local : Nat := 10
def n_top_beaconDay : Nat := 11
def n_ref01_CheckDay : Nat := 12
def n_calendar_PrintDate : Nat := 13
def n_calendar_Date : Nat := 14
def n_calendar_Weekday : Nat := 15
def n_ref01_CheckPeriod : Nat := 16
def n_calendar_DaysOf : Nat := 17
def n_calendar_Meet : Nat := 18
def n_ref01_HasInt : Nat := 19
def n_calendar_Join : Nat := 20
def n_calendar_Count : Nat := 21
def n_calendar_first : Nat := 22
def n_calendar_within : Nat := 23
def n_calendar_when : Nat := 24
def n_calendar_lastSunday : Nat := 25
def n_calendar_number : Nat := 26
def n_calendar_length : Nat := 27
def n_calendar_CheckSeason : Nat := 28
def n_calendar_Season_begin : Nat := 29
def n_calendar_Season_next : Nat := 30
def n_calendar_CheckZone : Nat := 31
def n_calendar_checkMoment : Nat := 32
def n_calendar_Zone_at : Nat := 33
def n_slices_Compact_Lint_int : Nat := 35
def n_calendar_ParseDate : Nat := 36
def n_calendar_SeasonOf : Nat := 37
def n_ref01_SameInts : Nat := 38
def n_ref01_CheckRange : Nat := 39
def n_calendar_checkDay : Nat := 40
def n_calendar_date : Nat := 41
def n_calendar_two : Nat := 43
def n_calendar_weekday : Nat := 44
def n_calendar_CheckPeriod : Nat := 45
def n_calendar_collected_int : Nat := 46
def n_calendar_daysOf : Nat := 47
def n_calendar_DaysOf_1 : Nat := 48
def n_calendar_Meet_1 : Nat := 49
def n_calendar_has : Nat := 50
def n_calendar_weekOf : Nat := 51
def n_slices_Clip_Lapi_Period_api_Period : Nat := 52
def n_calendar_span : Nat := 53
def n_calendar_leap : Nat := 54
def n_calendar_digits : Nat := 57
def n_calendar_earliest : Nat := 59
def n_calendar_latest : Nat := 60
def n_calendar_daysOf_1 : Nat := 62
def n_calendar_inMask : Nat := 63
def n_cmp_Less_int : Nat := 70
def n_cmp_isNaN_int : Nat := 84
def n_strings_IndexByte : Nat := 120
def n_slices_Sort_Lint_int : Nat := 34
def n_strconv_Itoa : Nat := 42
def n_strconv_Atoi : Nat := 58
def n_strings_Trim : Nat := 75
def n_internal_stringslite_IndexByte : Nat := 124
def ty_int : Nat := 3
def ty_calendar_Zone : Nat := 25
def ty_api_Period : Nat := 32
def ty_calendar_Season : Nat := 36
def ty_Lint : Nat := 37
def ty_3_int : Nat := 46
def ty_calendar_Change : Nat := 65
def ty_func_int_bool : Nat := 85

def b_top_TopBeaconNoons_1 : C :=
  (.seq (.reg false [
tq 67 (.bin .lss (.t 66) (.t 65))] [])
(.seq (.cond (.t 67) .skip
 (.exit 0))
(.seq (.block 1 (.seq (.reg false [
tq 68 (.idxAddr 1 (.t 64) (.t 66)),
ld 69 68,
tq 16 (.mv (.t 69))] [68, 69])
(.seq (.reg false [
tq 71 (.load (some 2) (.t 9)),
tq 72 (.mv (.t 16)),
tq 73 (.bin .sub (.t 72) (kq 1)),
tq 74 (.bin .mul (kq 1440) (.t 73)),
tq 75 (.bin .add (.t 74) (kq 720)),
tq 76 (.call false true (.k (.fn n_calendar_Universal [] [])) [.t 71, .t 75]),
tq 70 (.mv (.t 76)),
tq 77 (.extract (.t 70) 0),
tq 78 (.extract (.t 70) 1),
tq 17 (.mv (.t 77)),
tq 18 (.mv (.t 78))] [70, 71, 72, 73, 74, 75, 76, 77, 78])
(.seq (.reg false [
tq 80 (.load (some 2) (.t 9)),
tq 81 (.mv (.t 16)),
tq 82 (.bin .mul (kq 1440) (.t 81)),
tq 83 (.bin .add (.t 82) (kq 720)),
tq 84 (.call false true (.k (.fn n_calendar_Universal [] [])) [.t 80, .t 83]),
tq 79 (.mv (.t 84)),
tq 85 (.extract (.t 79) 0),
tq 86 (.extract (.t 79) 1),
tq 19 (.mv (.t 85)),
tq 20 (.mv (.t 86))] [79, 80, 81, 82, 83, 84, 85, 86])
(.seq (.seq (.reg false [
tq 87 (.mv (.t 18)),
tq 88 (.mv (.t 20)),
tq 89 (.bin .add (.t 87) (.t 88)),
tq 90 (.bin .neq (.t 89) (kq 0)),
tq 91 (.mv (.t 90)),
⟨some 92, (some (91, false)), .mv (.t 17)⟩,
⟨some 93, (some (91, false)), .len .slc (.t 92)⟩,
⟨some 94, (some (91, false)), .bin .neq (.t 93) (kq 1)⟩,
tq 95 (.pick (.t 91) (.k (.d (.bool true))) (.t 94)),
tq 96 (.mv (.t 95)),
⟨some 97, (some (96, false)), .mv (.t 19)⟩,
⟨some 98, (some (96, false)), .len .slc (.t 97)⟩,
⟨some 99, (some (96, false)), .bin .neq (.t 98) (kq 1)⟩,
tq 100 (.pick (.t 96) (.k (.d (.bool true))) (.t 99))] [18, 20, 87, 88, 89, 90, 91, 92, 93, 94, 95, 96, 97, 98, 99])
(.cond (.t 100) (.seq (.reg false [
tq 6 (.mv (.k (.d (.bool false))))] [])
.ret)
 .skip))
(.seq (.reg false [
tq 21 (.mv (kq 1440))] [])
(.seq (.seq (.reg false [
tq 101 (.mv (.t 16))] [])
(.block 2 (.seq (.reg false [
fa 103 0 13,
ld 104 103,
tq 105 (.bin .eql (.t 101) (.t 104)),
tq 102 (.mv (.t 105))] [103, 104, 105])
(.cond (.t 102) (.reg false [
tq 21 (.mv (kq 1380))] [])
 (.seq (.reg false [
fa 107 1 13,
ld 108 107,
tq 109 (.bin .add (.t 108) (kq 1)),
tq 110 (.bin .eql (.t 101) (.t 109)),
tq 106 (.mv (.t 110))] [101, 107, 108, 109, 110])
(.cond (.t 106) (.reg false [
tq 21 (.mv (kq 1500))] [])
 .skip))))))
(.seq (.reg true [
tq 112 (.load (some 2) (.t 9)),
tq 113 (.mv (.t 19)),
tq 114 (.idxAddr 1 (.t 113) (kq 0)),
ld 115 114,
tq 116 (.call false true (.k (.fn n_calendar_Local [] [])) [.t 112, .t 115]),
tq 111 (.mv (.t 116)),
tq 117 (.extract (.t 111) 0),
tq 118 (.extract (.t 111) 1),
tq 22 (.mv (.t 117)),
tq 23 (.mv (.t 118))] [111, 112, 113, 114, 115, 116, 117, 118])
(.seq (.reg true [
tq 119 (.mv (.t 19)),
tq 120 (.idxAddr 1 (.t 119) (kq 0)),
ld 121 120,
tq 122 (.mv (.t 17)),
tq 123 (.idxAddr 1 (.t 122) (kq 0)),
ld 124 123,
tq 125 (.bin .sub (.t 121) (.t 124)),
tq 126 (.mv (.t 21)),
tq 127 (.bin .neq (.t 125) (.t 126)),
tq 128 (.mv (.t 127)),
⟨some 129, (some (128, false)), .mv (.t 23)⟩,
⟨some 130, (some (128, false)), .bin .neq (.t 129) (kq 0)⟩,
tq 131 (.pick (.t 128) (.k (.d (.bool true))) (.t 130)),
tq 132 (.mv (.t 131)),
⟨some 133, (some (132, false)), .mv (.t 22)⟩,
⟨some 134, (some (132, false)), .mv (.t 16)⟩,
⟨some 135, (some (132, false)), .bin .mul (kq 1440) (.t 134)⟩,
⟨some 136, (some (132, false)), .bin .add (.t 135) (kq 720)⟩,
⟨some 137, (some (132, false)), .bin .neq (.t 133) (.t 136)⟩,
tq 138 (.pick (.t 132) (.k (.d (.bool true))) (.t 137))] [16, 17, 19, 21, 22, 23, 119, 120, 121, 122, 123, 124, 125, 126, 127, 128, 129, 130, 131, 132, 133, 134, 135, 136, 137])
(.cond (.t 138) (.seq (.reg false [
tq 6 (.mv (.k (.d (.bool false))))] [])
.ret)
 .skip))))))))))
(.reg false [
tq 139 (.bin .add (.t 66) (kq 1)),
tq 66 (.mv (.t 139))] [139]))))

def c_top_TopBeaconNoons : CF := ⟨[.tmp 6],
  (.seq (.reg false [
tq 6 (.mv (.k (.d (.bool false))))] [6])
(.seq (.reg false [
tq 24 (.mv (.t 1)),
tq 25 (.conv .i64 (.t 24)),
tq 26 (.bin .rem (.t 25) (kq 272)),
tq 27 (.bin .add (kq 2000) (.t 26)),
tq 7 (.mv (.t 27))] [1, 24, 25, 26, 27])
(.seq (.reg false [
tq 28 (.mv (.t 0)),
tq 29 (.bin .rem (.t 28) (kq 600)),
tq 8 (.mv (.t 29))] [0, 28, 29])
(.seq (.reg false [
tq 31 (.mv (.t 8)),
tq 32 (.mv (.t 7)),
tq 33 (.mv (.t 7)),
tq 34 (.call false true (.k (.fn n_calendar_Summer [] [])) [.t 31, .t 32, .t 33]),
tq 30 (.mv (.t 34)),
tq 35 (.extract (.t 30) 0),
tq 36 (.extract (.t 30) 1),
tq 9 (.alloc ty_calendar_Zone [.z (.int .i64 0), .z (.list 0 [])]),
⟨none, none, .store 2 (.t 9) (.t 35)⟩,
tq 10 (.mv (.t 36))] [8, 30, 31, 32, 33, 34, 35, 36])
(.seq (.reg false [
tq 38 (.mv (.t 7)),
tq 39 (.call false true (.k (.fn n_calendar_Day [] [])) [.t 38, kq 1, kq 2]),
tq 37 (.mv (.t 39)),
tq 40 (.extract (.t 37) 0),
tq 41 (.extract (.t 37) 1),
tq 11 (.mv (.t 40)),
tq 12 (.mv (.t 41))] [37, 38, 39, 40, 41])
(.seq (.reg false [
tq 43 (.mv (.t 7)),
tq 44 (.build [.z (.int .i64 0), .z (.str [])] [(0, 1, .t 43), (1, 1, .k (.d (.str [83])))]),
tq 45 (.call false true (.k (.fn n_calendar_Span [] [])) [.t 44]),
tq 42 (.mv (.t 45)),
tq 46 (.extract (.t 42) 0),
tq 47 (.extract (.t 42) 1),
tq 13 (.alloc ty_api_Period [.z (.int .i64 0), .z (.int .i64 0), .z (.int .i64 0)]),
⟨none, none, .store 3 (.t 13) (.t 46)⟩,
tq 14 (.mv (.t 47))] [7, 42, 43, 44, 45, 46, 47])
(.seq (.seq (.reg false [
tq 48 (.mv (.t 10)),
tq 49 (.mv (.t 12)),
tq 50 (.bin .add (.t 48) (.t 49)),
tq 51 (.mv (.t 14)),
tq 52 (.bin .add (.t 50) (.t 51)),
tq 53 (.bin .neq (.t 52) (kq 0))] [10, 12, 14, 48, 49, 50, 51, 52])
(.cond (.t 53) (.seq (.reg false [
tq 6 (.mv (.k (.d (.bool false))))] [])
.ret)
 .skip))
(.seq (.seq (.reg false [
tq 54 (.mv (.t 11)),
tq 55 (.mv (.t 2)),
tq 56 (.conv .i64 (.t 55)),
tq 57 (.bin .rem (.t 56) (kq 362)),
tq 58 (.bin .add (.t 54) (.t 57)),
fa 59 0 13,
ld 60 59,
fa 61 1 13,
ld 62 61,
tq 63 (.bin .add (.t 62) (kq 1)),
tq 64 (.mkList 1 3 [.t 58, .t 60, .t 63]),
tq 65 (.len .slc (.t 64)),
tq 66 (.mv (kq 0))] [2, 11, 54, 55, 56, 57, 58, 59, 60, 61, 62, 63])
(.block 0 (.loop [9, 13, 64, 65, 66] b_top_TopBeaconNoons_1)))
(.seq (.reg false [
tq 140 (.call false true (.k (.fn n_top_beaconDay [] [])) []),
tq 6 (.mv (.t 140))] [140])
.ret)))))))))⟩

def b_top_TopBeaconYears_1 : C :=
  (.seq (.seq (.reg false [
tq 127 (.mv (.t 23)),
tq 128 (.bin .leq (.t 127) (kq 31))] [127])
(.cond (.t 128) .skip
 (.exit 2)))
(.seq (.block 3 (.seq (.reg false [
tq 132 (.mv (.t 19)),
tq 133 (.mv (.t 21)),
tq 134 (.mv (.t 23)),
tq 135 (.call false true (.k (.fn n_calendar_Day [] [])) [.t 132, .t 133, .t 134]),
tq 131 (.mv (.t 135)),
tq 136 (.extract (.t 131) 0),
tq 137 (.extract (.t 131) 1),
tq 24 (.mv (.t 136)),
tq 25 (.mv (.t 137))] [24, 131, 132, 133, 134, 135, 136, 137])
(.seq (.reg false [
tq 138 (.mv (.t 25)),
tq 139 (.bin .eql (.t 138) (kq 0))] [25, 138])
(.cond (.t 139) (.reg false [
tq 140 (.mv (.t 23)),
tq 22 (.mv (.t 140))] [140])
 .skip))))
(.reg false [
tq 129 (.mv (.t 23)),
tq 130 (.bin .add (.t 129) (kq 1)),
tq 23 (.mv (.t 130))] [129, 130])))

def b_top_TopBeaconYears_2 : C :=
  (.seq (.seq (.reg false [
tq 123 (.mv (.t 21)),
tq 124 (.bin .leq (.t 123) (kq 12))] [123])
(.cond (.t 124) .skip
 (.exit 0)))
(.seq (.block 1 (.seq (.reg false [
tq 22 (.mv (kq 0))] [])
(.seq (.seq (.reg false [
tq 23 (.mv (kq 28))] [])
(.block 2 (.loop [19, 20, 21, 22, 23] b_top_TopBeaconYears_1)))
(.reg false [
tq 141 (.mv (.t 20)),
tq 142 (.mv (.t 22)),
tq 143 (.bin .add (.t 141) (.t 142)),
tq 20 (.mv (.t 143))] [22, 141, 142, 143]))))
(.reg false [
tq 125 (.mv (.t 21)),
tq 126 (.bin .add (.t 125) (kq 1)),
tq 21 (.mv (.t 126))] [125, 126])))

def c_top_TopBeaconYears : CF := ⟨[.tmp 6],
  (.seq (.reg false [
tq 6 (.mv (.k (.d (.bool false))))] [6])
(.seq (.seq (.reg false [
tq 30 (.mv (.t 0)),
tq 31 (.call false true (.k (.fn n_ref01_CheckDay [] [])) [.t 30]),
tq 32 (.bin .neq (.t 31) (kq 0)),
tq 33 (.mv (.t 32)),
⟨some 34, (some (33, false)), .mv (.t 1)⟩,
⟨some 35, (some (33, false)), .call false true (.k (.fn n_ref01_CheckDay [] [])) [.t 34]⟩,
⟨some 36, (some (33, false)), .bin .neq (.t 35) (kq 0)⟩,
tq 37 (.pick (.t 33) (.k (.d (.bool true))) (.t 36))] [30, 31, 32, 33, 34, 35, 36])
(.cond (.t 37) (.seq (.reg false [
tq 38 (.call false true (.k (.fn n_top_beaconDay [] [])) []),
tq 6 (.mv (.t 38))] [38])
.ret)
 .skip))
(.seq (.reg false [
tq 40 (.mv (.t 0)),
tq 41 (.call false true (.k (.fn n_calendar_PrintDate [] [])) [.t 40]),
tq 39 (.mv (.t 41)),
tq 42 (.extract (.t 39) 0),
tq 43 (.extract (.t 39) 1),
tq 7 (.mv (.t 42)),
tq 8 (.mv (.t 43))] [39, 40, 41, 42, 43])
(.seq (.reg false [
tq 45 (.mv (.t 1)),
tq 46 (.call false true (.k (.fn n_calendar_PrintDate [] [])) [.t 45]),
tq 44 (.mv (.t 46)),
tq 47 (.extract (.t 44) 0),
tq 48 (.extract (.t 44) 1),
tq 9 (.mv (.t 47)),
tq 10 (.mv (.t 48))] [44, 45, 46, 47, 48])
(.seq (.seq (.reg false [
tq 49 (.mv (.t 8)),
tq 50 (.mv (.t 10)),
tq 51 (.bin .add (.t 49) (.t 50)),
tq 52 (.bin .neq (.t 51) (kq 0)),
tq 53 (.mv (.t 52)),
⟨some 54, (some (53, false)), .mv (.t 7)⟩,
⟨some 55, (some (53, false)), .mv (.t 9)⟩,
⟨some 56, (some (53, false)), .bin .lss (.t 54) (.t 55)⟩,
⟨some 57, (some (53, false)), .mv (.t 0)⟩,
⟨some 58, (some (53, false)), .mv (.t 1)⟩,
⟨some 59, (some (53, false)), .bin .lss (.t 57) (.t 58)⟩,
⟨some 60, (some (53, false)), .eqv none true (.t 56) (.t 59)⟩,
tq 61 (.pick (.t 53) (.k (.d (.bool true))) (.t 60)),
tq 62 (.mv (.t 61)),
⟨some 63, (some (62, false)), .mv (.t 7)⟩,
⟨some 64, (some (62, false)), .mv (.t 9)⟩,
⟨some 65, (some (62, false)), .bin .eql (.t 63) (.t 64)⟩,
⟨some 66, (some (62, false)), .mv (.t 0)⟩,
⟨some 67, (some (62, false)), .mv (.t 1)⟩,
⟨some 68, (some (62, false)), .bin .eql (.t 66) (.t 67)⟩,
⟨some 69, (some (62, false)), .eqv none true (.t 65) (.t 68)⟩,
tq 70 (.pick (.t 62) (.k (.d (.bool true))) (.t 69))] [1, 7, 8, 9, 10, 49, 50, 51, 52, 53, 54, 55, 56, 57, 58, 59, 60, 61, 62, 63, 64, 65, 66, 67, 68, 69])
(.cond (.t 70) (.seq (.reg false [
tq 6 (.mv (.k (.d (.bool false))))] [])
.ret)
 .skip))
(.seq (.reg false [
tq 72 (.mv (.t 0)),
tq 73 (.call false true (.k (.fn n_calendar_Date [] [])) [.t 72]),
tq 71 (.mv (.t 73)),
tq 74 (.extract (.t 71) 0),
tq 75 (.extract (.t 71) 1),
tq 11 (.alloc ty_3_int [.z (.int .i64 0), .z (.int .i64 0), .z (.int .i64 0)]),
⟨none, none, .store 3 (.t 11) (.t 74)⟩,
tq 12 (.mv (.t 75))] [71, 72, 73, 74, 75])
(.seq (.seq (.reg false [
tq 76 (.mv (.t 12)),
tq 77 (.bin .neq (.t 76) (kq 0))] [12, 76])
(.cond (.t 77) (.seq (.reg false [
tq 6 (.mv (.k (.d (.bool false))))] [])
.ret)
 .skip))
(.seq (.seq (.reg false [
tq 78 (.idxAddrA 3 1 (.t 11) (kq 0)),
ld 79 78,
tq 80 (.bin .leq (.t 79) (kq 2071))] [78, 79])
(.cond (.t 80) (.seq (.reg false [
tq 82 (.idxAddrA 3 1 (.t 11) (kq 0)),
ld 83 82,
tq 84 (.bin .add (.t 83) (kq 28)),
tq 85 (.idxAddrA 3 1 (.t 11) (kq 1)),
ld 86 85,
tq 87 (.idxAddrA 3 1 (.t 11) (kq 2)),
ld 88 87,
tq 89 (.call false true (.k (.fn n_calendar_Day [] [])) [.t 84, .t 86, .t 88]),
tq 81 (.mv (.t 89)),
tq 90 (.extract (.t 81) 0),
tq 91 (.extract (.t 81) 1),
tq 13 (.mv (.t 90)),
tq 14 (.mv (.t 91))] [11, 81, 82, 83, 84, 85, 86, 87, 88, 89, 90, 91])
(.seq (.reg false [
tq 93 (.mv (.t 0)),
tq 94 (.call false true (.k (.fn n_calendar_Weekday [] [])) [.t 93]),
tq 92 (.mv (.t 94)),
tq 95 (.extract (.t 92) 0),
tq 96 (.extract (.t 92) 1),
tq 15 (.mv (.t 95)),
tq 16 (.mv (.t 96))] [92, 93, 94, 95, 96])
(.seq (.reg false [
tq 98 (.mv (.t 13)),
tq 99 (.call false true (.k (.fn n_calendar_Weekday [] [])) [.t 98]),
tq 97 (.mv (.t 99)),
tq 100 (.extract (.t 97) 0),
tq 101 (.extract (.t 97) 1),
tq 17 (.mv (.t 100)),
tq 18 (.mv (.t 101))] [97, 98, 99, 100, 101])
(.seq (.reg false [
tq 102 (.mv (.t 14)),
tq 103 (.mv (.t 16)),
tq 104 (.bin .add (.t 102) (.t 103)),
tq 105 (.mv (.t 18)),
tq 106 (.bin .add (.t 104) (.t 105)),
tq 107 (.bin .neq (.t 106) (kq 0)),
tq 108 (.mv (.t 107)),
⟨some 109, (some (108, false)), .mv (.t 13)⟩,
⟨some 110, (some (108, false)), .mv (.t 0)⟩,
⟨some 111, (some (108, false)), .bin .add (.t 110) (kq 10227)⟩,
⟨some 112, (some (108, false)), .bin .neq (.t 109) (.t 111)⟩,
tq 113 (.pick (.t 108) (.k (.d (.bool true))) (.t 112)),
tq 114 (.mv (.t 113)),
⟨some 115, (some (114, false)), .mv (.t 17)⟩,
⟨some 116, (some (114, false)), .mv (.t 15)⟩,
⟨some 117, (some (114, false)), .bin .neq (.t 115) (.t 116)⟩,
tq 118 (.pick (.t 114) (.k (.d (.bool true))) (.t 117))] [0, 13, 14, 15, 16, 17, 18, 102, 103, 104, 105, 106, 107, 108, 109, 110, 111, 112, 113, 114, 115, 116, 117])
(.cond (.t 118) (.seq (.reg false [
tq 6 (.mv (.k (.d (.bool false))))] [])
.ret)
 .skip)))))
 .skip))
(.seq (.reg false [
tq 119 (.mv (.t 2)),
tq 120 (.conv .i64 (.t 119)),
tq 121 (.bin .rem (.t 120) (kq 273)),
tq 122 (.bin .add (kq 2000) (.t 121)),
tq 19 (.mv (.t 122))] [2, 119, 120, 121, 122])
(.seq (.reg false [
tq 20 (.mv (kq 0))] [])
(.seq (.seq (.reg false [
tq 21 (.mv (kq 1))] [])
(.block 0 (.loop [19, 20, 21] b_top_TopBeaconYears_2)))
(.seq (.reg false [
tq 145 (.mv (.t 19)),
tq 146 (.call false true (.k (.fn n_calendar_Day [] [])) [.t 145, kq 1, kq 1]),
tq 144 (.mv (.t 146)),
tq 147 (.extract (.t 144) 0),
tq 148 (.extract (.t 144) 1),
tq 26 (.mv (.t 147)),
tq 27 (.mv (.t 148))] [144, 145, 146, 147, 148])
(.seq (.reg false [
tq 150 (.mv (.t 19)),
tq 151 (.bin .add (.t 150) (kq 1)),
tq 152 (.call false true (.k (.fn n_calendar_Day [] [])) [.t 151, kq 1, kq 1]),
tq 149 (.mv (.t 152)),
tq 153 (.extract (.t 149) 0),
tq 154 (.extract (.t 149) 1),
tq 28 (.mv (.t 153)),
tq 29 (.mv (.t 154))] [19, 149, 150, 151, 152, 153, 154])
(.seq (.reg false [
tq 155 (.mv (.t 27)),
tq 156 (.mv (.t 29)),
tq 157 (.bin .add (.t 155) (.t 156)),
tq 158 (.bin .eql (.t 157) (kq 0)),
tq 159 (.mv (.t 158)),
⟨some 160, (some (159, true)), .mv (.t 20)⟩,
⟨some 161, (some (159, true)), .mv (.t 28)⟩,
⟨some 162, (some (159, true)), .mv (.t 26)⟩,
⟨some 163, (some (159, true)), .bin .sub (.t 161) (.t 162)⟩,
⟨some 164, (some (159, true)), .bin .eql (.t 160) (.t 163)⟩,
tq 165 (.pick (.t 159) (.t 164) (.k (.d (.bool false)))),
tq 166 (.mv (.t 165)),
⟨some 167, (some (166, true)), .mv (.t 20)⟩,
⟨some 168, (some (166, true)), .bin .eql (.t 167) (kq 365)⟩,
⟨some 169, (some (166, true)), .mv (.t 168)⟩,
⟨some 170, (some (169, false)), .mv (.t 20)⟩,
⟨some 171, (some (169, false)), .bin .eql (.t 170) (kq 366)⟩,
⟨some 172, (some (166, true)), .pick (.t 169) (.k (.d (.bool true))) (.t 171)⟩,
tq 173 (.pick (.t 166) (.t 172) (.k (.d (.bool false)))),
tq 174 (.mv (.t 173)),
⟨some 175, (some (174, true)), .call false true (.k (.fn n_top_beaconDay [] [])) []⟩,
tq 176 (.pick (.t 174) (.t 175) (.k (.d (.bool false)))),
tq 6 (.mv (.t 176))] [20, 26, 27, 28, 29, 155, 156, 157, 158, 159, 160, 161, 162, 163, 164, 165, 166, 167, 168, 169, 170, 171, 172, 173, 174, 175, 176])
.ret))))))))))))))⟩

def b_top_TopBeaconMasks_1 : C :=
  (.seq (.seq (.reg false [
tq 112 (.mv (.t 16)),
tq 113 (.mv (.t 15)),
tq 114 (.bin .leq (.t 112) (.t 113))] [112, 113])
(.cond (.t 114) .skip
 (.exit 0)))
(.seq (.block 1 (.seq (.reg false [
tq 117 (.mv (.t 7)),
tq 118 (.mv (.t 16)),
tq 119 (.call false true (.k (.fn n_ref01_HasInt [] [])) [.t 117, .t 118]),
tq 120 (.mv (.t 119)),
⟨some 121, (some (120, false)), .mv (.t 9)⟩,
⟨some 122, (some (120, false)), .mv (.t 16)⟩,
⟨some 123, (some (120, false)), .call false true (.k (.fn n_ref01_HasInt [] [])) [.t 121, .t 122]⟩,
tq 124 (.pick (.t 120) (.k (.d (.bool true))) (.t 123))] [117, 118, 119, 120, 121, 122, 123])
(.cond (.t 124) (.reg false [
tq 125 (.mv (.t 13)),
tq 126 (.mv (.t 16)),
tq 127 (.mkList 1 1 [.t 126]),
tq 128 (.append ⟨false, ty_int, 1, 8⟩ (.t 125) (.t 127)),
tq 13 (.mv (.t 128))] [125, 126, 127, 128])
 .skip)))
(.reg false [
tq 115 (.mv (.t 16)),
tq 116 (.bin .add (.t 115) (kq 1)),
tq 16 (.mv (.t 116))] [115, 116])))

def b_top_TopBeaconMasks_2 : C :=
  (.seq (.reg false [
tq 148 (.bin .lss (.t 147) (.t 146))] [])
(.seq (.cond (.t 148) .skip
 (.exit 2))
(.seq (.block 3 (.seq (.reg false [
tq 149 (.idxAddr 3 (.t 145) (.t 147)),
tq 150 (.load (some 3) (.t 149)),
tq 21 (.alloc ty_api_Period [.z (.int .i64 0), .z (.int .i64 0), .z (.int .i64 0)]),
⟨none, none, .store 3 (.t 21) (.t 150)⟩] [149, 150])
(.seq (.reg false [
tq 152 (.load (some 3) (.t 21)),
tq 153 (.call false true (.k (.fn n_calendar_Count [] [])) [.t 152]),
tq 151 (.mv (.t 153)),
tq 154 (.extract (.t 151) 0),
tq 155 (.extract (.t 151) 1),
tq 22 (.mv (.t 154)),
tq 23 (.mv (.t 155))] [21, 151, 152, 153, 154, 155])
(.seq (.seq (.reg false [
tq 156 (.mv (.t 23)),
tq 157 (.bin .neq (.t 156) (kq 0))] [23, 156])
(.cond (.t 157) (.seq (.reg false [
tq 6 (.mv (.k (.d (.bool false))))] [])
.ret)
 .skip))
(.reg false [
tq 158 (.mv (.t 19)),
tq 159 (.mv (.t 22)),
tq 160 (.bin .add (.t 158) (.t 159)),
tq 19 (.mv (.t 160))] [22, 158, 159, 160])))))
(.reg false [
tq 161 (.bin .add (.t 147) (kq 1)),
tq 147 (.mv (.t 161))] [161]))))

def b_top_TopBeaconMasks_3 : C :=
  (.seq (.reg false [
tq 189 (.bin .lss (.t 188) (.t 187))] [])
(.seq (.cond (.t 189) .skip
 (.exit 4))
(.seq (.block 5 (.seq (.reg false [
tq 190 (.mv (.t 188)),
tq 191 (.idxAddr 1 (.t 186) (.t 188)),
ld 192 191,
tq 26 (.mv (.t 190)),
tq 27 (.mv (.t 192))] [190, 191, 192])
(.seq (.seq (.reg false [
tq 193 (.mv (.t 27)),
tq 194 (.bin .eql (.t 193) (kq 0))] [193])
(.cond (.t 194) (.exit 5)
 .skip))
(.seq (.reg false [
fa 196 0 3,
ld 197 196,
fa 198 1 3,
ld 199 198,
tq 200 (.mv (.t 27)),
tq 201 (.build [.z (.int .i64 0), .z (.int .i64 0), .z (.int .i64 0)] [(0, 1, .t 197), (1, 1, .t 199), (2, 1, .t 200)]),
tq 202 (.call false true (.k (.fn n_calendar_Count [] [])) [.t 201]),
tq 195 (.mv (.t 202)),
tq 203 (.extract (.t 195) 0),
tq 204 (.extract (.t 195) 1),
tq 28 (.mv (.t 203)),
tq 29 (.mv (.t 204))] [27, 195, 196, 197, 198, 199, 200, 201, 202, 203, 204])
(.seq (.seq (.reg false [
tq 205 (.mv (.t 29)),
tq 206 (.bin .neq (.t 205) (kq 0))] [29, 205])
(.cond (.t 206) (.seq (.reg false [
tq 6 (.mv (.k (.d (.bool false))))] [])
.ret)
 .skip))
(.reg false [
tq 207 (.mv (.t 26)),
tq 208 (.mv (.t 28)),
tq 209 (.idxAddrA 3 1 (.t 25) (.t 207)),
⟨none, none, .store 1 (.t 209) (.t 208)⟩] [26, 28, 207, 208, 209]))))))
(.reg false [
tq 210 (.bin .add (.t 188) (kq 1)),
tq 188 (.mv (.t 210))] [210]))))

def b_top_TopBeaconMasks_4 : C :=
  (.seq (.reg false [
tq 228 (.bin .lss (.t 227) (kq 7))] [])
(.seq (.cond (.t 228) .skip
 (.exit 6))
(.seq (.block 7 (.seq (.reg false [
tq 229 (.mv (.t 227)),
tq 30 (.mv (.t 229))] [229])
(.seq (.reg true [
fa 231 0 3,
ld 232 231,
fa 233 0 3,
ld 234 233,
tq 235 (.bin .add (.t 234) (kq 6)),
tq 236 (.mv (.t 30)),
tq 237 (.bin .shl (kq 1) (.t 236)),
tq 238 (.build [.z (.int .i64 0), .z (.int .i64 0), .z (.int .i64 0)] [(0, 1, .t 232), (1, 1, .t 235), (2, 1, .t 237)]),
tq 239 (.call false true (.k (.fn n_calendar_Count [] [])) [.t 238]),
tq 230 (.mv (.t 239)),
tq 240 (.extract (.t 230) 0),
tq 241 (.extract (.t 230) 1),
tq 31 (.mv (.t 240)),
tq 32 (.mv (.t 241))] [30, 230, 231, 232, 233, 234, 235, 236, 237, 238, 239, 240, 241])
(.seq (.reg false [
tq 242 (.mv (.t 32)),
tq 243 (.bin .neq (.t 242) (kq 0)),
tq 244 (.mv (.t 243)),
⟨some 245, (some (244, false)), .mv (.t 31)⟩,
⟨some 246, (some (244, false)), .bin .neq (.t 245) (kq 1)⟩,
tq 247 (.pick (.t 244) (.k (.d (.bool true))) (.t 246))] [31, 32, 242, 243, 244, 245, 246])
(.cond (.t 247) (.seq (.reg false [
tq 6 (.mv (.k (.d (.bool false))))] [])
.ret)
 .skip)))))
(.reg false [
tq 248 (.bin .add (.t 227) (kq 1)),
tq 227 (.mv (.t 248))] [248]))))

def c_top_TopBeaconMasks : CF := ⟨[.tmp 6],
  (.seq (.reg false [
tq 3 (.box ty_api_Period (.t 0)),
tq 4 (.box ty_api_Period (.t 1)),
tq 6 (.mv (.k (.d (.bool false))))] [0, 1, 6])
(.seq (.seq (.reg false [
tq 33 (.load (some 3) (.t 3)),
tq 34 (.call false true (.k (.fn n_ref01_CheckPeriod [] [])) [.t 33]),
tq 35 (.bin .neq (.t 34) (kq 0)),
tq 36 (.mv (.t 35)),
⟨some 37, (some (36, false)), .load (some 3) (.t 4)⟩,
⟨some 38, (some (36, false)), .call false true (.k (.fn n_ref01_CheckPeriod [] [])) [.t 37]⟩,
⟨some 39, (some (36, false)), .bin .neq (.t 38) (kq 0)⟩,
tq 40 (.pick (.t 36) (.k (.d (.bool true))) (.t 39)),
tq 41 (.mv (.t 40)),
⟨some 42, (some (41, false)), .fieldAddr 1 (.t 3)⟩,
⟨some 43, (some (41, false)), .load none (.t 42)⟩,
⟨some 44, (some (41, false)), .fieldAddr 0 (.t 3)⟩,
⟨some 45, (some (41, false)), .load none (.t 44)⟩,
⟨some 46, (some (41, false)), .bin .sub (.t 43) (.t 45)⟩,
⟨some 47, (some (41, false)), .bin .gtr (.t 46) (kq 60)⟩,
tq 48 (.pick (.t 41) (.k (.d (.bool true))) (.t 47)),
tq 49 (.mv (.t 48)),
⟨some 50, (some (49, false)), .fieldAddr 1 (.t 4)⟩,
⟨some 51, (some (49, false)), .load none (.t 50)⟩,
⟨some 52, (some (49, false)), .fieldAddr 0 (.t 4)⟩,
⟨some 53, (some (49, false)), .load none (.t 52)⟩,
⟨some 54, (some (49, false)), .bin .sub (.t 51) (.t 53)⟩,
⟨some 55, (some (49, false)), .bin .gtr (.t 54) (kq 60)⟩,
tq 56 (.pick (.t 49) (.k (.d (.bool true))) (.t 55))] [33, 34, 35, 36, 37, 38, 39, 40, 41, 42, 43, 44, 45, 46, 47, 48, 49, 50, 51, 52, 53, 54, 55])
(.cond (.t 56) (.seq (.reg false [
tq 57 (.call false true (.k (.fn n_top_beaconDay [] [])) []),
tq 6 (.mv (.t 57))] [57])
.ret)
 .skip))
(.seq (.reg false [
tq 59 (.load (some 3) (.t 3)),
tq 60 (.call false true (.k (.fn n_calendar_DaysOf [] [])) [.t 59]),
tq 58 (.mv (.t 60)),
tq 61 (.extract (.t 58) 0),
tq 62 (.extract (.t 58) 1),
tq 7 (.mv (.t 61)),
tq 8 (.mv (.t 62))] [58, 59, 60, 61, 62])
(.seq (.reg false [
tq 64 (.load (some 3) (.t 4)),
tq 65 (.call false true (.k (.fn n_calendar_DaysOf [] [])) [.t 64]),
tq 63 (.mv (.t 65)),
tq 66 (.extract (.t 63) 0),
tq 67 (.extract (.t 63) 1),
tq 9 (.mv (.t 66)),
tq 10 (.mv (.t 67))] [63, 64, 65, 66, 67])
(.seq (.reg false [
tq 69 (.load (some 3) (.t 3)),
tq 70 (.load (some 3) (.t 4)),
tq 71 (.call false true (.k (.fn n_calendar_Meet [] [])) [.t 69, .t 70]),
tq 68 (.mv (.t 71)),
tq 72 (.extract (.t 68) 0),
tq 73 (.extract (.t 68) 1),
tq 11 (.mv (.t 72)),
tq 12 (.mv (.t 73))] [68, 69, 70, 71, 72, 73])
(.seq (.seq (.reg false [
tq 74 (.mv (.t 8)),
tq 75 (.mv (.t 10)),
tq 76 (.bin .add (.t 74) (.t 75)),
tq 77 (.mv (.t 12)),
tq 78 (.bin .add (.t 76) (.t 77)),
tq 79 (.bin .neq (.t 78) (kq 0)),
tq 80 (.mv (.t 79)),
⟨some 81, (some (80, false)), .mv (.t 7)⟩,
⟨some 82, (some (80, false)), .len .slc (.t 81)⟩,
⟨some 83, (some (80, false)), .bin .gtr (.t 82) (kq 61)⟩,
tq 84 (.pick (.t 80) (.k (.d (.bool true))) (.t 83)),
tq 85 (.mv (.t 84)),
⟨some 86, (some (85, false)), .mv (.t 9)⟩,
⟨some 87, (some (85, false)), .len .slc (.t 86)⟩,
⟨some 88, (some (85, false)), .bin .gtr (.t 87) (kq 61)⟩,
tq 89 (.pick (.t 85) (.k (.d (.bool true))) (.t 88))] [8, 10, 12, 74, 75, 76, 77, 78, 79, 80, 81, 82, 83, 84, 85, 86, 87, 88])
(.cond (.t 89) (.seq (.reg false [
tq 6 (.mv (.k (.d (.bool false))))] [])
.ret)
 .skip))
(.seq (.reg false [
tq 13 (.ownNil ⟨false, ty_int, 1, 8⟩)] [])
(.seq (.reg true [
fa 90 0 3,
ld 91 90,
fa 92 0 4,
ld 93 92,
tq 94 (.minmax false [.t 91, .t 93]),
fa 95 1 3,
ld 96 95,
fa 97 1 4,
ld 98 97,
tq 99 (.minmax true [.t 96, .t 98]),
tq 14 (.mv (.t 94)),
tq 15 (.mv (.t 99))] [4, 90, 91, 92, 93, 94, 95, 96, 97, 98, 99])
(.seq (.seq (.reg false [
tq 100 (.mv (.t 15)),
tq 101 (.mv (.t 14)),
tq 102 (.bin .sub (.t 100) (.t 101)),
tq 103 (.bin .gtr (.t 102) (kq 200))] [100, 101, 102])
(.cond (.t 103) (.seq (.reg true [
fa 104 0 3,
ld 105 104,
fa 106 1 3,
ld 107 106,
tq 14 (.mv (.t 105)),
tq 15 (.mv (.t 107))] [104, 105, 106, 107])
(.seq (.seq (.reg false [
tq 108 (.mv (.t 11)),
tq 109 (.len .slc (.t 108)),
tq 110 (.bin .neq (.t 109) (kq 0))] [108, 109])
(.cond (.t 110) (.seq (.reg false [
tq 6 (.mv (.k (.d (.bool false))))] [])
.ret)
 .skip))
(.reg false [
tq 9 (.mv (.k (.d (.list 0 []))))] [])))
 .skip))
(.seq (.seq (.reg false [
tq 111 (.mv (.t 14)),
tq 16 (.mv (.t 111))] [14, 111])
(.block 0 (.loop [2, 3, 7, 9, 11, 13, 15, 16] b_top_TopBeaconMasks_1)))
(.seq (.reg false [
tq 130 (.mkRow ⟨false, ty_int, 1, 8⟩ 0 []),
tq 131 (.mv (.t 13)),
tq 132 (.append ⟨false, ty_int, 1, 8⟩ (.t 130) (.t 131)),
tq 133 (.call false true (.k (.fn n_calendar_Join [] [])) [.t 132]),
tq 129 (.mv (.t 133)),
tq 134 (.extract (.t 129) 0),
tq 135 (.extract (.t 129) 1),
tq 17 (.mv (.t 134)),
tq 18 (.mv (.t 135))] [129, 130, 131, 132, 133, 134, 135])
(.seq (.seq (.reg false [
tq 136 (.mv (.t 18)),
tq 137 (.bin .neq (.t 136) (kq 0)),
tq 138 (.mv (.t 137)),
⟨some 139, (some (138, false)), .mv (.t 17)⟩,
⟨some 140, (some (138, false)), .len .slc (.t 139)⟩,
⟨some 141, (some (138, false)), .mv (.t 13)⟩,
⟨some 142, (some (138, false)), .len .slc (.t 141)⟩,
⟨some 143, (some (138, false)), .bin .gtr (.t 140) (.t 142)⟩,
tq 144 (.pick (.t 138) (.k (.d (.bool true))) (.t 143))] [13, 18, 136, 137, 138, 139, 140, 141, 142, 143])
(.cond (.t 144) (.seq (.reg false [
tq 6 (.mv (.k (.d (.bool false))))] [])
.ret)
 .skip))
(.seq (.reg false [
tq 19 (.mv (kq 0))] [])
(.seq (.seq (.reg false [
tq 145 (.mv (.t 17)),
tq 146 (.len .slc (.t 145)),
tq 147 (.mv (kq 0))] [17])
(.block 2 (.loop [2, 3, 7, 9, 11, 19, 145, 146, 147] b_top_TopBeaconMasks_2)))
(.seq (.seq (.reg false [
tq 162 (.mv (.t 19)),
tq 163 (.mv (.t 7)),
tq 164 (.len .slc (.t 163)),
tq 165 (.mv (.t 9)),
tq 166 (.len .slc (.t 165)),
tq 167 (.bin .add (.t 164) (.t 166)),
tq 168 (.mv (.t 11)),
tq 169 (.len .slc (.t 168)),
tq 170 (.bin .sub (.t 167) (.t 169)),
tq 171 (.bin .neq (.t 162) (.t 170))] [9, 11, 19, 162, 163, 164, 165, 166, 167, 168, 169, 170])
(.cond (.t 171) (.seq (.reg false [
tq 6 (.mv (.k (.d (.bool false))))] [])
.ret)
 .skip))
(.seq (.reg false [
tq 172 (.mv (.t 2)),
tq 173 (.conv .i64 (.t 172)),
tq 174 (.bin .rem (.t 173) (kq 127)),
tq 175 (.bin .add (kq 1) (.t 174)),
tq 24 (.mv (.t 175))] [2, 172, 173, 174, 175])
(.seq (.reg false [
tq 176 (.build [.z (.int .i64 0), .z (.int .i64 0), .z (.int .i64 0)] []),
tq 25 (.alloc ty_3_int [.z (.int .i64 0), .z (.int .i64 0), .z (.int .i64 0)]),
⟨none, none, .store 3 (.t 25) (.t 176)⟩] [176])
(.seq (.seq (.reg false [
tq 177 (.mv (.t 24)),
fa 178 2 3,
ld 179 178,
tq 180 (.mv (.t 24)),
tq 181 (.bin .or (.t 179) (.t 180)),
fa 182 2 3,
ld 183 182,
tq 184 (.mv (.t 24)),
tq 185 (.bin .and (.t 183) (.t 184)),
tq 186 (.mkList 1 3 [.t 177, .t 181, .t 185]),
tq 187 (.len .slc (.t 186)),
tq 188 (.mv (kq 0))] [24, 177, 178, 179, 180, 181, 182, 183, 184, 185])
(.block 4 (.loop [3, 7, 25, 186, 187, 188] b_top_TopBeaconMasks_3)))
(.seq (.seq (.reg false [
tq 211 (.mv (.t 7)),
tq 212 (.len .slc (.t 211)),
tq 213 (.idxAddrA 3 1 (.t 25) (kq 0)),
ld 214 213,
tq 215 (.bin .add (.t 212) (.t 214)),
tq 216 (.idxAddrA 3 1 (.t 25) (kq 1)),
ld 217 216,
tq 218 (.idxAddrA 3 1 (.t 25) (kq 2)),
ld 219 218,
tq 220 (.bin .add (.t 217) (.t 219)),
tq 221 (.bin .neq (.t 215) (.t 220))] [7, 25, 211, 212, 213, 214, 215, 216, 217, 218, 219, 220])
(.cond (.t 221) (.seq (.reg false [
tq 6 (.mv (.k (.d (.bool false))))] [])
.ret)
 .skip))
(.seq (.seq (.reg false [
fa 222 0 3,
ld 223 222,
tq 224 (.bin .add (.t 223) (kq 6)),
tq 225 (.bin .gtr (.t 224) (kq 99999))] [222, 223, 224])
(.cond (.t 225) (.seq (.reg false [
tq 226 (.call false true (.k (.fn n_top_beaconDay [] [])) []),
tq 6 (.mv (.t 226))] [226])
.ret)
 .skip))
(.seq (.seq (.reg false [
tq 227 (.mv (kq 0))] [])
(.block 6 (.loop [3, 227] b_top_TopBeaconMasks_4)))
(.seq (.reg false [
tq 249 (.call false true (.k (.fn n_top_beaconDay [] [])) []),
tq 6 (.mv (.t 249))] [249])
.ret))))))))))))))))))))))⟩

def b_calendar_Summer_1 : C :=
  (.seq (.reg false [
tq 40 (.bin .lss (.t 39) (.t 38))] [])
(.seq (.cond (.t 40) .skip
 (.exit 0))
(.seq (.block 1 (.seq (.reg false [
tq 41 (.mv (.t 39)),
tq 10 (.mv (.t 41))] [41])
(.reg true [
fa 42 1 9,
ld 43 42,
tq 44 (.mv (.t 1)),
tq 45 (.mv (.t 10)),
tq 46 (.bin .add (.t 44) (.t 45)),
tq 47 (.call false true (.k (.fn n_calendar_lastSunday [] [])) [.t 46, kq 3]),
tq 48 (.bin .mul (kq 1440) (.t 47)),
tq 49 (.bin .add (.t 48) (kq 60)),
tq 50 (.mv (.t 0)),
tq 51 (.bin .add (.t 50) (kq 60)),
tq 52 (.build [.z (.int .i64 0), .z (.int .i64 0)] [(0, 1, .t 49), (1, 1, .t 51)]),
tq 53 (.mv (.t 1)),
tq 54 (.mv (.t 10)),
tq 55 (.bin .add (.t 53) (.t 54)),
tq 56 (.call false true (.k (.fn n_calendar_lastSunday [] [])) [.t 55, kq 10]),
tq 57 (.bin .mul (kq 1440) (.t 56)),
tq 58 (.bin .add (.t 57) (kq 60)),
tq 59 (.mv (.t 0)),
tq 60 (.build [.z (.int .i64 0), .z (.int .i64 0)] [(0, 1, .t 58), (1, 1, .t 59)]),
tq 61 (.mkList 2 2 [.t 52, .t 60]),
tq 62 (.append ⟨false, ty_calendar_Change, 2, 16⟩ (.t 43) (.t 61)),
fa 63 1 9,
⟨none, none, .store 1 (.t 63) (.t 62)⟩] [10, 42, 43, 44, 45, 46, 47, 48, 49, 50, 51, 52, 53, 54, 55, 56, 57, 58, 59, 60, 61, 62, 63])))
(.reg false [
tq 64 (.bin .add (.t 39) (kq 1)),
tq 39 (.mv (.t 64))] [64]))))

def c_calendar_Summer : CF := ⟨[.cell 6 (some 2), .tmp 7],
  (.seq (.reg false [
tq 6 (.alloc ty_calendar_Zone [.z (.int .i64 0), .own ⟨false, ty_calendar_Change, 2, 16⟩]),
tq 7 (.mv (kq 0))] [7])
(.seq (.seq (.reg false [
tq 11 (.mv (.t 0)),
tq 12 (.call false true (.k (.fn n_calendar_within [] [])) [.t 11, kq (-720), kq 780]),
tq 13 (.mv (.t 1)),
tq 14 (.call false true (.k (.fn n_calendar_within [] [])) [.t 13, kq 2000, kq 2272]),
tq 15 (.mv (.t 2)),
tq 16 (.call false true (.k (.fn n_calendar_within [] [])) [.t 15, kq 2000, kq 2272]),
tq 17 (.mv (.t 2)),
tq 18 (.mv (.t 1)),
tq 19 (.bin .lss (.t 17) (.t 18)),
tq 20 (.call false true (.k (.fn n_calendar_when [] [])) [.t 19, kq 11]),
tq 21 (.mkList 1 4 [.t 12, .t 14, .t 16, .t 20]),
tq 22 (.call false true (.k (.fn n_calendar_first [] [])) [.t 21]),
tq 8 (.mv (.t 22))] [11, 12, 13, 14, 15, 16, 17, 18, 19, 20, 21, 22])
(.seq (.reg false [
tq 23 (.mv (.t 8)),
tq 24 (.bin .neq (.t 23) (kq 0))] [23])
(.cond (.t 24) (.seq (.reg false [
tq 25 (.build [.z (.int .i64 0), .own ⟨false, ty_calendar_Change, 2, 16⟩] []),
tq 26 (.mv (.t 8)),
⟨none, none, .store 2 (.t 6) (.t 25)⟩,
tq 7 (.mv (.t 26))] [8, 25, 26])
.ret)
 .skip)))
(.seq (.seq (.reg false [
tq 27 (.mv (.t 2)),
tq 28 (.mv (.t 1)),
tq 29 (.bin .sub (.t 27) (.t 28)),
tq 30 (.bin .add (.t 29) (kq 1)),
tq 31 (.bin .gtr (.t 30) (kq 32))] [27, 28, 29, 30])
(.cond (.t 31) (.seq (.reg false [
tq 32 (.build [.z (.int .i64 0), .own ⟨false, ty_calendar_Change, 2, 16⟩] []),
⟨none, none, .store 2 (.t 6) (.t 32)⟩,
tq 7 (.mv (kq 5))] [32])
.ret)
 .skip))
(.seq (.reg false [
tq 33 (.mv (.t 0)),
tq 34 (.build [.z (.int .i64 0), .own ⟨false, ty_calendar_Change, 2, 16⟩] [(0, 1, .t 33)]),
tq 9 (.alloc ty_calendar_Zone [.z (.int .i64 0), .own ⟨false, ty_calendar_Change, 2, 16⟩]),
⟨none, none, .store 2 (.t 9) (.t 34)⟩] [33, 34])
(.seq (.seq (.reg false [
tq 35 (.mv (.t 2)),
tq 36 (.mv (.t 1)),
tq 37 (.bin .sub (.t 35) (.t 36)),
tq 38 (.bin .add (.t 37) (kq 1)),
tq 39 (.mv (kq 0))] [2, 35, 36, 37])
(.block 0 (.loop [0, 1, 6, 9, 38, 39] b_calendar_Summer_1)))
(.seq (.reg false [
tq 65 (.load (some 2) (.t 9)),
⟨none, none, .store 2 (.t 6) (.t 65)⟩,
tq 7 (.mv (kq 0))] [9, 65])
.ret))))))⟩

def c_calendar_Day : CF := ⟨[.tmp 6, .tmp 7],
  (.seq (.reg false [
tq 6 (.mv (kq 0)),
tq 7 (.mv (kq 0))] [6, 7])
(.seq (.seq (.reg false [
tq 10 (.mv (.t 0)),
tq 11 (.call false true (.k (.fn n_calendar_within [] [])) [.t 10, kq 2000, kq 2273]),
tq 12 (.mv (.t 1)),
tq 13 (.call false true (.k (.fn n_calendar_within [] [])) [.t 12, kq 1, kq 12]),
tq 14 (.mv (.t 2)),
tq 15 (.call false true (.k (.fn n_calendar_within [] [])) [.t 14, kq 1, kq 31]),
tq 16 (.mkList 1 3 [.t 11, .t 13, .t 15]),
tq 17 (.call false true (.k (.fn n_calendar_first [] [])) [.t 16]),
tq 8 (.mv (.t 17))] [10, 11, 12, 13, 14, 15, 16, 17])
(.seq (.reg false [
tq 18 (.mv (.t 8)),
tq 19 (.bin .neq (.t 18) (kq 0))] [18])
(.cond (.t 19) (.seq (.reg false [
tq 20 (.mv (.t 8)),
tq 6 (.mv (kq 0)),
tq 7 (.mv (.t 20))] [8, 20])
.ret)
 .skip)))
(.seq (.reg false [
tq 21 (.mv (.t 0)),
tq 22 (.mv (.t 1)),
tq 23 (.mv (.t 2)),
tq 24 (.call false true (.k (.fn n_calendar_number [] [])) [.t 21, .t 22, .t 23]),
tq 9 (.mv (.t 24))] [21, 22, 23, 24])
(.seq (.seq (.reg false [
tq 25 (.mv (.t 2)),
tq 26 (.mv (.t 0)),
tq 27 (.mv (.t 1)),
tq 28 (.call false true (.k (.fn n_calendar_length [] [])) [.t 26, .t 27]),
tq 29 (.bin .gtr (.t 25) (.t 28)),
tq 30 (.mv (.t 29)),
⟨some 31, (some (30, false)), .mv (.t 9)⟩,
⟨some 32, (some (30, false)), .bin .gtr (.t 31) (kq 99999)⟩,
tq 33 (.pick (.t 30) (.k (.d (.bool true))) (.t 32))] [0, 1, 2, 25, 26, 27, 28, 29, 30, 31, 32])
(.cond (.t 33) (.seq (.reg false [
tq 6 (.mv (kq 0)),
tq 7 (.mv (kq 7))] [])
.ret)
 .skip))
(.seq (.reg false [
tq 34 (.mv (.t 9)),
tq 6 (.mv (.t 34)),
tq 7 (.mv (kq 0))] [9, 34])
.ret)))))⟩

def c_calendar_Span : CF := ⟨[.cell 2 (some 3), .tmp 3],
  (.seq (.reg false [
tq 1 (.box ty_calendar_Season (.t 0)),
tq 2 (.alloc ty_api_Period [.z (.int .i64 0), .z (.int .i64 0), .z (.int .i64 0)]),
tq 3 (.mv (kq 0))] [0, 3])
(.seq (.seq (.reg false [
tq 5 (.load (some 2) (.t 1)),
tq 6 (.call false true (.k (.fn n_calendar_CheckSeason [] [])) [.t 5]),
tq 4 (.mv (.t 6))] [5, 6])
(.seq (.reg false [
tq 7 (.mv (.t 4)),
tq 8 (.bin .neq (.t 7) (kq 0))] [7])
(.cond (.t 8) (.seq (.reg false [
tq 9 (.build [.z (.int .i64 0), .z (.int .i64 0), .z (.int .i64 0)] []),
tq 10 (.mv (.t 4)),
⟨none, none, .store 3 (.t 2) (.t 9)⟩,
tq 3 (.mv (.t 10))] [4, 9, 10])
.ret)
 .skip)))
(.seq (.reg true [
tq 11 (.load (some 2) (.t 1)),
tq 12 (.call false true (.k (.fn n_calendar_Season_begin [] [])) [.t 11]),
tq 13 (.load (some 2) (.t 1)),
tq 14 (.call false true (.k (.fn n_calendar_Season_next [] [])) [.t 13]),
tq 15 (.call false true (.k (.fn n_calendar_Season_begin [] [])) [.t 14]),
tq 16 (.bin .sub (.t 15) (kq 1)),
tq 17 (.build [.z (.int .i64 0), .z (.int .i64 0), .z (.int .i64 0)] [(0, 1, .t 12), (1, 1, .t 16), (2, 1, kq 127)]),
⟨none, none, .store 3 (.t 2) (.t 17)⟩,
tq 3 (.mv (kq 0))] [1, 11, 12, 13, 14, 15, 16, 17])
.ret)))⟩

def b_calendar_Universal_1 : C :=
  (.seq (.reg false [
tq 30 (.bin .lss (.t 29) (.t 28))] [])
(.seq (.cond (.t 30) .skip
 (.exit 0))
(.seq (.block 1 (.seq (.reg false [
tq 31 (.idxAddr 2 (.t 27) (.t 29)),
tq 32 (.load (some 2) (.t 31)),
tq 9 (.alloc ty_calendar_Change [.z (.int .i64 0), .z (.int .i64 0)]),
⟨none, none, .store 2 (.t 9) (.t 32)⟩] [31, 32])
(.reg false [
tq 33 (.mv (.t 7)),
fa 34 1 9,
ld 35 34,
tq 36 (.mkList 1 1 [.t 35]),
tq 37 (.append ⟨false, ty_int, 1, 8⟩ (.t 33) (.t 36)),
tq 7 (.mv (.t 37))] [9, 33, 34, 35, 36, 37])))
(.reg false [
tq 38 (.bin .add (.t 29) (kq 1)),
tq 29 (.mv (.t 38))] [38]))))

def b_calendar_Universal_2 : C :=
  (.seq (.reg false [
tq 42 (.bin .lss (.t 41) (.t 40))] [])
(.seq (.cond (.t 42) .skip
 (.exit 2))
(.seq (.block 3 (.seq (.reg false [
tq 43 (.idxAddr 1 (.t 39) (.t 41)),
ld 44 43,
tq 12 (.mv (.t 44))] [43, 44])
(.seq (.reg false [
tq 45 (.mv (.t 1)),
tq 46 (.mv (.t 12)),
tq 47 (.bin .sub (.t 45) (.t 46)),
tq 13 (.mv (.t 47))] [45, 46, 47])
(.seq (.reg false [
tq 48 (.mv (.t 13)),
tq 49 (.call false true (.k (.fn n_calendar_checkMoment [] [])) [.t 48]),
tq 50 (.bin .eql (.t 49) (kq 0)),
tq 51 (.mv (.t 50)),
⟨some 52, (some (51, true)), .load (some 2) (.t 2)⟩,
⟨some 53, (some (51, true)), .mv (.t 13)⟩,
⟨some 54, (some (51, true)), .call false true (.k (.fn n_calendar_Zone_at [] [])) [.t 52, .t 53]⟩,
⟨some 55, (some (51, true)), .mv (.t 12)⟩,
⟨some 56, (some (51, true)), .bin .eql (.t 54) (.t 55)⟩,
tq 57 (.pick (.t 51) (.t 56) (.k (.d (.bool false))))] [12, 48, 49, 50, 51, 52, 53, 54, 55, 56])
(.cond (.t 57) (.reg false [
tq 58 (.mv (.t 10)),
tq 59 (.mv (.t 13)),
tq 60 (.mkList 1 1 [.t 59]),
tq 61 (.append ⟨true, ty_int, 1, 8⟩ (.t 58) (.t 60)),
tq 10 (.mv (.t 61))] [13, 58, 59, 60, 61])
 .skip)))))
(.reg false [
tq 62 (.bin .add (.t 41) (kq 1)),
tq 41 (.mv (.t 62))] [62]))))

def c_calendar_Universal : CF := ⟨[.tmp 4, .tmp 5],
  (.seq (.reg false [
tq 2 (.box ty_calendar_Zone (.t 0)),
tq 4 (.ownNil ⟨true, ty_int, 1, 8⟩),
tq 5 (.mv (kq 0))] [0, 4, 5])
(.seq (.seq (.reg false [
tq 14 (.load (some 2) (.t 2)),
tq 15 (.call false true (.k (.fn n_calendar_CheckZone [] [])) [.t 14]),
tq 16 (.mv (.t 1)),
tq 17 (.call false true (.k (.fn n_calendar_checkMoment [] [])) [.t 16]),
tq 18 (.mkList 1 2 [.t 15, .t 17]),
tq 19 (.call false true (.k (.fn n_calendar_first [] [])) [.t 18]),
tq 6 (.mv (.t 19))] [14, 15, 16, 17, 18, 19])
(.seq (.reg false [
tq 20 (.mv (.t 6)),
tq 21 (.bin .neq (.t 20) (kq 0))] [20])
(.cond (.t 21) (.seq (.reg false [
tq 22 (.mv (.t 6)),
tq 4 (.ownNil ⟨true, ty_int, 1, 8⟩),
tq 5 (.mv (.t 22))] [6, 22])
.ret)
 .skip)))
(.seq (.reg false [
fa 23 0 2,
ld 24 23,
tq 25 (.mkRow ⟨false, ty_int, 1, 8⟩ 1 [.t 24]),
tq 7 (.mv (.t 25))] [23, 24, 25])
(.seq (.seq (.reg false [
fa 26 1 2,
ld 27 26,
tq 28 (.len .slc (.t 27)),
tq 29 (.mv (kq 0))] [26])
(.block 0 (.loop [1, 2, 7, 27, 28, 29] b_calendar_Universal_1)))
(.seq (.reg false [
tq 10 (.ownNil ⟨true, ty_int, 1, 8⟩)] [])
(.seq (.seq (.reg false [
tq 39 (.mv (.t 7)),
tq 40 (.len .slc (.t 39)),
tq 41 (.mv (kq 0))] [7])
(.block 2 (.loop [1, 2, 10, 39, 40, 41] b_calendar_Universal_2)))
(.seq (.reg false [
tq 63 (.mv (.t 10)),
tq 64 (.call true true (.k (.fn n_slices_Sort_Lint_int [] [])) [.t 63])] [63, 64])
(.seq (.reg false [
tq 65 (.mv (.t 10)),
tq 66 (.call true false (.k (.fn n_slices_Compact_Lint_int [] [])) [.t 65]),
tq 10 (.mv (.t 66))] [65, 66])
(.seq (.reg false [
tq 67 (.mv (.t 10)),
tq 68 (.mv (.t 10)),
tq 69 (.len .slc (.t 68)),
tq 70 (.bin .eql (.t 69) (kq 0)),
tq 71 (.call false true (.k (.fn n_calendar_when [] [])) [.t 70, kq 7]),
tq 4 (.mv (.t 67)),
tq 5 (.mv (.t 71))] [10, 67, 68, 69, 70, 71])
.ret)))))))))⟩

def c_calendar_Local : CF := ⟨[.tmp 4, .tmp 5],
  (.seq (.reg false [
tq 2 (.box ty_calendar_Zone (.t 0)),
tq 4 (.mv (kq 0)),
tq 5 (.mv (kq 0))] [0, 4, 5])
(.seq (.seq (.reg false [
tq 8 (.load (some 2) (.t 2)),
tq 9 (.call false true (.k (.fn n_calendar_CheckZone [] [])) [.t 8]),
tq 10 (.mv (.t 1)),
tq 11 (.call false true (.k (.fn n_calendar_checkMoment [] [])) [.t 10]),
tq 12 (.mkList 1 2 [.t 9, .t 11]),
tq 13 (.call false true (.k (.fn n_calendar_first [] [])) [.t 12]),
tq 6 (.mv (.t 13))] [8, 9, 10, 11, 12, 13])
(.seq (.reg false [
tq 14 (.mv (.t 6)),
tq 15 (.bin .neq (.t 14) (kq 0))] [14])
(.cond (.t 15) (.seq (.reg false [
tq 16 (.mv (.t 6)),
tq 4 (.mv (kq 0)),
tq 5 (.mv (.t 16))] [6, 16])
.ret)
 .skip)))
(.seq (.reg false [
tq 17 (.mv (.t 1)),
tq 18 (.load (some 2) (.t 2)),
tq 19 (.mv (.t 1)),
tq 20 (.call false true (.k (.fn n_calendar_Zone_at [] [])) [.t 18, .t 19]),
tq 21 (.bin .add (.t 17) (.t 20)),
tq 7 (.mv (.t 21))] [1, 2, 17, 18, 19, 20, 21])
(.seq (.seq (.reg false [
tq 22 (.mv (.t 7)),
tq 23 (.call false true (.k (.fn n_calendar_checkMoment [] [])) [.t 22]),
tq 24 (.bin .neq (.t 23) (kq 0))] [22, 23])
(.cond (.t 24) (.seq (.reg false [
tq 4 (.mv (kq 0)),
tq 5 (.mv (kq 30))] [])
.ret)
 .skip))
(.seq (.reg false [
tq 25 (.mv (.t 7)),
tq 4 (.mv (.t 25)),
tq 5 (.mv (kq 0))] [7, 25])
.ret)))))⟩

def c_top_beaconDay : CF := ⟨[.tmp 0],
  (.seq (.reg false [
tq 0 (.mv (.k (.d (.bool false))))] [0])
(.seq (.reg false [
tq 14 (.call false true (.k (.fn n_calendar_ParseDate [] [])) [.k (.d (.str [50, 48, 50, 54, 45, 48, 51, 45, 50, 57]))]),
tq 13 (.mv (.t 14)),
tq 15 (.extract (.t 13) 0),
tq 16 (.extract (.t 13) 1),
tq 1 (.mv (.t 15)),
tq 2 (.mv (.t 16))] [13, 14, 15, 16])
(.seq (.reg false [
tq 18 (.mv (.t 1)),
tq 19 (.call false true (.k (.fn n_calendar_SeasonOf [] [])) [.t 18]),
tq 17 (.mv (.t 19)),
tq 20 (.extract (.t 17) 0),
tq 21 (.extract (.t 17) 1),
tq 3 (.alloc ty_calendar_Season [.z (.int .i64 0), .z (.str [])]),
⟨none, none, .store 2 (.t 3) (.t 20)⟩,
tq 4 (.mv (.t 21))] [17, 18, 19, 20, 21])
(.seq (.reg false [
tq 23 (.load (some 2) (.t 3)),
tq 24 (.call false true (.k (.fn n_calendar_Span [] [])) [.t 23]),
tq 22 (.mv (.t 24)),
tq 25 (.extract (.t 22) 0),
tq 26 (.extract (.t 22) 1),
tq 5 (.alloc ty_api_Period [.z (.int .i64 0), .z (.int .i64 0), .z (.int .i64 0)]),
⟨none, none, .store 3 (.t 5) (.t 25)⟩,
tq 6 (.mv (.t 26))] [22, 23, 24, 25, 26])
(.seq (.reg false [
tq 28 (.load (some 3) (.t 5)),
tq 29 (.call false true (.k (.fn n_calendar_Count [] [])) [.t 28]),
tq 27 (.mv (.t 29)),
tq 30 (.extract (.t 27) 0),
tq 31 (.extract (.t 27) 1),
tq 7 (.mv (.t 30)),
tq 8 (.mv (.t 31))] [5, 27, 28, 29, 30, 31])
(.seq (.reg false [
tq 33 (.call false true (.k (.fn n_calendar_Summer [] [])) [kq 60, kq 2026, kq 2026]),
tq 32 (.mv (.t 33)),
tq 34 (.extract (.t 32) 0),
tq 35 (.extract (.t 32) 1),
tq 9 (.alloc ty_calendar_Zone [.z (.int .i64 0), .z (.list 0 [])]),
⟨none, none, .store 2 (.t 9) (.t 34)⟩,
tq 10 (.mv (.t 35))] [32, 33, 34, 35])
(.seq (.reg false [
tq 37 (.load (some 2) (.t 9)),
tq 38 (.mv (.t 1)),
tq 39 (.bin .mul (kq 1440) (.t 38)),
tq 40 (.bin .add (.t 39) (kq 720)),
tq 41 (.call false true (.k (.fn n_calendar_Universal [] [])) [.t 37, .t 40]),
tq 36 (.mv (.t 41)),
tq 42 (.extract (.t 36) 0),
tq 43 (.extract (.t 36) 1),
tq 11 (.mv (.t 42)),
tq 12 (.mv (.t 43))] [9, 36, 37, 38, 39, 40, 41, 42, 43])
(.seq (.reg false [
tq 44 (.mv (.t 2)),
tq 45 (.mv (.t 4)),
tq 46 (.bin .add (.t 44) (.t 45)),
tq 47 (.mv (.t 6)),
tq 48 (.bin .add (.t 46) (.t 47)),
tq 49 (.mv (.t 8)),
tq 50 (.bin .add (.t 48) (.t 49)),
tq 51 (.mv (.t 10)),
tq 52 (.bin .add (.t 50) (.t 51)),
tq 53 (.mv (.t 12)),
tq 54 (.bin .add (.t 52) (.t 53)),
tq 55 (.bin .eql (.t 54) (kq 0)),
tq 56 (.mv (.t 55)),
⟨some 57, (some (56, true)), .mv (.t 1)⟩,
⟨some 58, (some (56, true)), .bin .eql (.t 57) (kq 9584)⟩,
tq 59 (.pick (.t 56) (.t 58) (.k (.d (.bool false)))),
tq 60 (.mv (.t 59)),
⟨some 61, (some (60, true)), .load (some 2) (.t 3)⟩,
⟨some 62, (some (60, true)), .build [.z (.int .i64 0), .z (.str [])] [(0, 1, kq 2026), (1, 1, .k (.d (.str [83])))]⟩,
⟨some 63, (some (60, true)), .eqv (some [.int, .str]) false (.t 61) (.t 62)⟩,
tq 64 (.pick (.t 60) (.t 63) (.k (.d (.bool false)))),
tq 65 (.mv (.t 64)),
⟨some 66, (some (65, true)), .mv (.t 7)⟩,
⟨some 67, (some (65, true)), .bin .eql (.t 66) (kq 210)⟩,
tq 68 (.pick (.t 65) (.t 67) (.k (.d (.bool false)))),
tq 69 (.mv (.t 68)),
⟨some 70, (some (69, true)), .mv (.t 11)⟩,
⟨some 71, (some (69, true)), .mkList 1 1 [kq 13801560]⟩,
⟨some 72, (some (69, true)), .call false true (.k (.fn n_ref01_SameInts [] [])) [.t 70, .t 71]⟩,
tq 73 (.pick (.t 69) (.t 72) (.k (.d (.bool false)))),
tq 0 (.mv (.t 73))] [1, 2, 3, 4, 6, 7, 8, 10, 11, 12, 44, 45, 46, 47, 48, 49, 50, 51, 52, 53, 54, 55, 56, 57, 58, 59, 60, 61, 62, 63, 64, 65, 66, 67, 68, 69, 70, 71, 72, 73])
.ret))))))))⟩

def c_ref01_CheckDay : CF := ⟨[.tmp 2],
  (.seq (.reg false [
tq 2 (.mv (kq 0))] [2])
(.seq (.reg false [
tq 3 (.mv (.t 0)),
tq 4 (.call false true (.k (.fn n_ref01_CheckRange [] [])) [.t 3, kq 0, kq 99999]),
tq 2 (.mv (.t 4))] [0, 3, 4])
.ret))⟩

def c_calendar_PrintDate : CF := ⟨[.tmp 2, .tmp 3],
  (.seq (.reg false [
tq 2 (.mv (.k (.d (.str [])))),
tq 3 (.mv (kq 0))] [2, 3])
(.seq (.seq (.reg false [
tq 6 (.mv (.t 0)),
tq 7 (.call false true (.k (.fn n_calendar_checkDay [] [])) [.t 6]),
tq 4 (.mv (.t 7))] [6, 7])
(.seq (.reg false [
tq 8 (.mv (.t 4)),
tq 9 (.bin .neq (.t 8) (kq 0))] [8])
(.cond (.t 9) (.seq (.reg false [
tq 10 (.mv (.t 4)),
tq 2 (.mv (.k (.d (.str [])))),
tq 3 (.mv (.t 10))] [4, 10])
.ret)
 .skip)))
(.seq (.reg false [
tq 11 (.mv (.t 0)),
tq 12 (.call false true (.k (.fn n_calendar_date [] [])) [.t 11]),
tq 5 (.alloc ty_3_int [.z (.int .i64 0), .z (.int .i64 0), .z (.int .i64 0)]),
⟨none, none, .store 3 (.t 5) (.t 12)⟩] [0, 11, 12])
(.seq (.reg true [
tq 13 (.idxAddrA 3 1 (.t 5) (kq 0)),
ld 14 13,
tq 15 (.call false true (.k (.fn n_strconv_Itoa [] [])) [.t 14]),
tq 16 (.bin .add (.t 15) (.k (.d (.str [45])))),
tq 17 (.idxAddrA 3 1 (.t 5) (kq 1)),
ld 18 17,
tq 19 (.call false true (.k (.fn n_calendar_two [] [])) [.t 18]),
tq 20 (.bin .add (.t 16) (.t 19)),
tq 21 (.bin .add (.t 20) (.k (.d (.str [45])))),
tq 22 (.idxAddrA 3 1 (.t 5) (kq 2)),
ld 23 22,
tq 24 (.call false true (.k (.fn n_calendar_two [] [])) [.t 23]),
tq 25 (.bin .add (.t 21) (.t 24)),
tq 2 (.mv (.t 25)),
tq 3 (.mv (kq 0))] [5, 13, 14, 15, 16, 17, 18, 19, 20, 21, 22, 23, 24, 25])
.ret))))⟩

def c_calendar_Date : CF := ⟨[.cell 2 (some 3), .tmp 3],
  (.seq (.reg false [
tq 2 (.alloc ty_3_int [.z (.int .i64 0), .z (.int .i64 0), .z (.int .i64 0)]),
tq 3 (.mv (kq 0))] [3])
(.seq (.seq (.reg false [
tq 5 (.mv (.t 0)),
tq 6 (.call false true (.k (.fn n_calendar_checkDay [] [])) [.t 5]),
tq 4 (.mv (.t 6))] [5, 6])
(.seq (.reg false [
tq 7 (.mv (.t 4)),
tq 8 (.bin .neq (.t 7) (kq 0))] [7])
(.cond (.t 8) (.seq (.reg false [
tq 9 (.build [.z (.int .i64 0), .z (.int .i64 0), .z (.int .i64 0)] []),
tq 10 (.mv (.t 4)),
⟨none, none, .store 3 (.t 2) (.t 9)⟩,
tq 3 (.mv (.t 10))] [4, 9, 10])
.ret)
 .skip)))
(.seq (.reg false [
tq 11 (.mv (.t 0)),
tq 12 (.call false true (.k (.fn n_calendar_date [] [])) [.t 11]),
⟨none, none, .store 3 (.t 2) (.t 12)⟩,
tq 3 (.mv (kq 0))] [0, 11, 12])
.ret)))⟩

def c_calendar_Weekday : CF := ⟨[.tmp 2, .tmp 3],
  (.seq (.reg false [
tq 2 (.mv (kq 0)),
tq 3 (.mv (kq 0))] [2, 3])
(.seq (.seq (.reg false [
tq 5 (.mv (.t 0)),
tq 6 (.call false true (.k (.fn n_calendar_checkDay [] [])) [.t 5]),
tq 4 (.mv (.t 6))] [5, 6])
(.seq (.reg false [
tq 7 (.mv (.t 4)),
tq 8 (.bin .neq (.t 7) (kq 0))] [7])
(.cond (.t 8) (.seq (.reg false [
tq 9 (.mv (.t 4)),
tq 2 (.mv (kq 0)),
tq 3 (.mv (.t 9))] [4, 9])
.ret)
 .skip)))
(.seq (.reg false [
tq 10 (.mv (.t 0)),
tq 11 (.call false true (.k (.fn n_calendar_weekday [] [])) [.t 10]),
tq 2 (.mv (.t 11)),
tq 3 (.mv (kq 0))] [0, 10, 11])
.ret)))⟩

def c_ref01_CheckPeriod : CF := ⟨[.tmp 2],
  (.seq (.reg false [
tq 1 (.box ty_api_Period (.t 0)),
tq 2 (.mv (kq 0))] [0, 2])
(.seq (.seq (.reg false [
fa 3 0 1,
ld 4 3,
tq 5 (.call false true (.k (.fn n_ref01_CheckDay [] [])) [.t 4]),
tq 6 (.bin .neq (.t 5) (kq 0)),
tq 7 (.mv (.t 6)),
⟨some 8, (some (7, false)), .fieldAddr 1 (.t 1)⟩,
⟨some 9, (some (7, false)), .load none (.t 8)⟩,
⟨some 10, (some (7, false)), .call false true (.k (.fn n_ref01_CheckDay [] [])) [.t 9]⟩,
⟨some 11, (some (7, false)), .bin .neq (.t 10) (kq 0)⟩,
tq 12 (.pick (.t 7) (.k (.d (.bool true))) (.t 11))] [3, 4, 5, 6, 7, 8, 9, 10, 11])
(.cond (.t 12) (.seq (.reg false [
tq 2 (.mv (kq 3))] [])
.ret)
 .skip))
(.seq (.seq (.reg false [
fa 13 1 1,
ld 14 13,
fa 15 0 1,
ld 16 15,
tq 17 (.bin .lss (.t 14) (.t 16))] [13, 14, 15, 16])
(.cond (.t 17) (.seq (.reg false [
tq 2 (.mv (kq 11))] [])
.ret)
 .skip))
(.seq (.seq (.reg false [
fa 18 1 1,
ld 19 18,
fa 20 0 1,
ld 21 20,
tq 22 (.bin .sub (.t 19) (.t 21)),
tq 23 (.bin .gtr (.t 22) (kq 400))] [18, 19, 20, 21, 22])
(.cond (.t 23) (.seq (.reg false [
tq 2 (.mv (kq 4))] [])
.ret)
 .skip))
(.seq (.reg false [
fa 24 2 1,
ld 25 24,
tq 26 (.call false true (.k (.fn n_ref01_CheckRange [] [])) [.t 25, kq 1, kq 127]),
tq 2 (.mv (.t 26))] [1, 24, 25, 26])
.ret)))))⟩

def c_calendar_DaysOf : CF := ⟨[.tmp 2, .tmp 3],
  (.seq (.reg false [
tq 1 (.box ty_api_Period (.t 0)),
tq 2 (.mv (.k (.d (.list 0 [])))),
tq 3 (.mv (kq 0))] [0, 2, 3])
(.seq (.seq (.reg false [
tq 5 (.load (some 3) (.t 1)),
tq 6 (.call false true (.k (.fn n_calendar_CheckPeriod [] [])) [.t 5]),
tq 4 (.mv (.t 6))] [5, 6])
(.seq (.reg false [
tq 7 (.mv (.t 4)),
tq 8 (.bin .neq (.t 7) (kq 0))] [7])
(.cond (.t 8) (.seq (.reg false [
tq 9 (.mv (.t 4)),
tq 2 (.mv (.k (.d (.list 0 [])))),
tq 3 (.mv (.t 9))] [4, 9])
.ret)
 .skip)))
(.seq (.reg false [
tq 10 (.load (some 3) (.t 1)),
tq 11 (.call false false (.k (.fn n_calendar_daysOf [] [])) [.t 10]),
tq 12 (.call true true (.k (.fn n_calendar_collected_int [] [])) [.t 11, .k (.fn n_calendar_DaysOf_1 [] [])]),
tq 2 (.mv (.t 12)),
tq 3 (.mv (kq 0))] [1, 10, 11, 12])
.ret)))⟩

def c_calendar_Meet : CF := ⟨[.tmp 4, .tmp 5],
  (.seq (.reg false [
tq 2 (.box ty_api_Period (.t 0)),
tq 3 (.box ty_api_Period (.t 1)),
tq 4 (.mv (.k (.d (.list 0 [])))),
tq 5 (.mv (kq 0))] [0, 1, 4, 5])
(.seq (.seq (.reg true [
tq 7 (.load (some 3) (.t 2)),
tq 8 (.call false true (.k (.fn n_calendar_CheckPeriod [] [])) [.t 7]),
tq 9 (.load (some 3) (.t 3)),
tq 10 (.call false true (.k (.fn n_calendar_CheckPeriod [] [])) [.t 9]),
tq 11 (.mkList 1 2 [.t 8, .t 10]),
tq 12 (.call false true (.k (.fn n_calendar_first [] [])) [.t 11]),
tq 6 (.mv (.t 12))] [7, 8, 9, 10, 11, 12])
(.seq (.reg false [
tq 13 (.mv (.t 6)),
tq 14 (.bin .neq (.t 13) (kq 0))] [13])
(.cond (.t 14) (.seq (.reg false [
tq 15 (.mv (.t 6)),
tq 4 (.mv (.k (.d (.list 0 [])))),
tq 5 (.mv (.t 15))] [6, 15])
.ret)
 .skip)))
(.seq (.reg false [
tq 16 (.load (some 3) (.t 2)),
tq 17 (.call false false (.k (.fn n_calendar_daysOf [] [])) [.t 16]),
tq 18 (.mkFunc n_calendar_Meet_1 [] [.t 3]),
tq 19 (.call true true (.k (.fn n_calendar_collected_int [] [])) [.t 17, .t 18]),
tq 4 (.mv (.t 19)),
tq 5 (.mv (kq 0))] [2, 3, 16, 17, 18, 19])
.ret)))⟩

def b_ref01_HasInt_1 : C :=
  (.seq (.seq (.reg false [
tq 6 (.mv (.t 5)),
tq 7 (.mv (.t 0)),
tq 8 (.len .slc (.t 7)),
tq 9 (.bin .lss (.t 6) (.t 8))] [6, 7, 8])
(.cond (.t 9) .skip
 (.exit 0)))
(.seq (.block 1 (.seq (.reg false [
tq 12 (.mv (.t 0)),
tq 13 (.mv (.t 5)),
tq 14 (.idxAddr 1 (.t 12) (.t 13)),
ld 15 14,
tq 16 (.mv (.t 1)),
tq 17 (.bin .eql (.t 15) (.t 16))] [12, 13, 14, 15, 16])
(.cond (.t 17) (.seq (.reg false [
tq 4 (.mv (.k (.d (.bool true))))] [])
.ret)
 .skip)))
(.reg false [
tq 10 (.mv (.t 5)),
tq 11 (.bin .add (.t 10) (kq 1)),
tq 5 (.mv (.t 11))] [10, 11])))

def c_ref01_HasInt : CF := ⟨[.tmp 4],
  (.seq (.reg false [
tq 4 (.mv (.k (.d (.bool false))))] [4])
(.seq (.seq (.reg false [
tq 5 (.mv (kq 0))] [])
(.block 0 (.loop [0, 1, 5] b_ref01_HasInt_1)))
(.seq (.reg false [
tq 4 (.mv (.k (.d (.bool false))))] [])
.ret)))⟩

def b_calendar_Join_1 : C :=
  (.seq (.reg false [
tq 22 (.bin .lss (.t 21) (.t 20))] [])
(.seq (.cond (.t 22) .skip
 (.exit 0))
(.seq (.block 1 (.seq (.reg false [
tq 23 (.mv (.t 21)),
tq 24 (.idxAddr 1 (.t 19) (.t 21)),
ld 25 24,
tq 4 (.mv (.t 23)),
tq 5 (.mv (.t 25))] [23, 24, 25])
(.seq (.reg false [
tq 26 (.mv (.t 5)),
tq 27 (.call false true (.k (.fn n_calendar_checkDay [] [])) [.t 26]),
tq 28 (.mv (.t 4)),
tq 29 (.bin .gtr (.t 28) (kq 0)),
tq 30 (.mv (.t 29)),
⟨some 31, (some (30, true)), .mv (.t 5)⟩,
⟨some 32, (some (30, true)), .mv (.t 0)⟩,
⟨some 33, (some (30, true)), .mv (.t 4)⟩,
⟨some 34, (some (30, true)), .bin .sub (.t 33) (kq 1)⟩,
⟨some 35, (some (30, true)), .minmax true [kq 0, .t 34]⟩,
⟨some 36, (some (30, true)), .idxAddr 1 (.t 32) (.t 35)⟩,
⟨some 37, (some (30, true)), .load none (.t 36)⟩,
⟨some 38, (some (30, true)), .bin .leq (.t 31) (.t 37)⟩,
tq 39 (.pick (.t 30) (.t 38) (.k (.d (.bool false)))),
tq 40 (.call false true (.k (.fn n_calendar_when [] [])) [.t 39, kq 11]),
tq 41 (.mkList 1 2 [.t 27, .t 40]),
tq 42 (.call false true (.k (.fn n_calendar_first [] [])) [.t 41]),
tq 6 (.mv (.t 42))] [4, 5, 26, 27, 28, 29, 30, 31, 32, 33, 34, 35, 36, 37, 38, 39, 40, 41, 42])
(.seq (.reg false [
tq 43 (.mv (.t 6)),
tq 44 (.bin .neq (.t 43) (kq 0))] [43])
(.cond (.t 44) (.seq (.reg false [
tq 45 (.mv (.t 6)),
tq 2 (.mv (.k (.d (.list 0 [])))),
tq 3 (.mv (.t 45))] [6, 45])
.ret)
 .skip)))))
(.reg false [
tq 46 (.bin .add (.t 21) (kq 1)),
tq 21 (.mv (.t 46))] [46]))))

def b_calendar_Join_2 : C :=
  (.seq (.reg false [
tq 51 (.bin .lss (.t 50) (.t 49))] [])
(.seq (.cond (.t 51) .skip
 (.exit 2))
(.seq (.block 3 (.seq (.reg false [
tq 52 (.idxAddr 1 (.t 48) (.t 50)),
ld 53 52,
tq 9 (.mv (.t 53))] [52, 53])
(.reg true [
tq 54 (.mv (.t 7)),
tq 55 (.mv (.t 9)),
tq 56 (.call false true (.k (.fn n_calendar_weekOf [] [])) [.t 55]),
tq 57 (.lookup .int (.int .i64 0) false (.t 54) (.t 56)),
tq 58 (.mv (.t 9)),
tq 59 (.call false true (.k (.fn n_calendar_weekday [] [])) [.t 58]),
tq 60 (.bin .shl (kq 1) (.t 59)),
tq 61 (.bin .or (.t 57) (.t 60)),
⟨none, none, .mapSet .int (.t 54) (.t 56) (.t 61)⟩] [9, 54, 55, 56, 57, 58, 59, 60, 61])))
(.reg false [
tq 62 (.bin .add (.t 50) (kq 1)),
tq 50 (.mv (.t 62))] [62]))))

def b_calendar_Join_3 : C :=
  (.seq (.seq (.reg false [
tq 85 (.mv (.t 11)),
tq 86 (.mv (.t 0)),
tq 87 (.len .slc (.t 86)),
tq 88 (.bin .lss (.t 85) (.t 87))] [85, 86, 87])
(.cond (.t 88) .skip
 (.exit 6)))
(.seq (.block 7 (.seq (.seq (.reg false [
tq 91 (.mv (.t 0)),
tq 92 (.mv (.t 11)),
tq 93 (.idxAddr 1 (.t 91) (.t 92)),
ld 94 93,
tq 95 (.call false true (.k (.fn n_calendar_weekOf [] [])) [.t 94]),
tq 15 (.mv (.t 95))] [91, 92, 93, 94, 95])
(.block 8 (.seq (.reg false [
tq 97 (.mv (.t 15)),
tq 98 (.mv (.t 14)),
tq 99 (.bin .eql (.t 97) (.t 98)),
tq 96 (.mv (.t 99))] [97, 98, 99])
(.cond (.t 96) .skip
 (.seq (.reg false [
tq 101 (.mv (.t 15)),
tq 102 (.mv (.t 14)),
tq 103 (.bin .add (.t 102) (kq 1)),
tq 104 (.bin .eql (.t 101) (.t 103)),
tq 105 (.mv (.t 104)),
⟨some 106, (some (105, true)), .mv (.t 7)⟩,
⟨some 107, (some (105, true)), .mv (.t 15)⟩,
⟨some 108, (some (105, true)), .lookup .int (.int .i64 0) false (.t 106) (.t 107)⟩,
⟨some 109, (some (105, true)), .fieldAddr 2 (.t 13)⟩,
⟨some 110, (some (105, true)), .load none (.t 109)⟩,
⟨some 111, (some (105, true)), .bin .eql (.t 108) (.t 110)⟩,
tq 112 (.pick (.t 105) (.t 111) (.k (.d (.bool false)))),
tq 113 (.mv (.t 112)),
⟨some 114, (some (113, true)), .mv (.t 15)⟩,
⟨some 115, (some (113, true)), .mv (.t 12)⟩,
⟨some 116, (some (113, true)), .bin .sub (.t 114) (.t 115)⟩,
⟨some 117, (some (113, true)), .bin .lss (.t 116) (kq 57)⟩,
tq 118 (.pick (.t 113) (.t 117) (.k (.d (.bool false)))),
tq 100 (.mv (.t 118))] [14, 101, 102, 103, 104, 105, 106, 107, 108, 109, 110, 111, 112, 113, 114, 115, 116, 117, 118])
(.cond (.t 100) (.reg false [
tq 119 (.mv (.t 15)),
tq 14 (.mv (.t 119))] [15, 119])
 (.exit 6)))))))
(.reg false [
tq 120 (.mv (.t 0)),
tq 121 (.mv (.t 11)),
tq 122 (.idxAddr 1 (.t 120) (.t 121)),
ld 123 122,
fa 124 1 13,
⟨none, none, .store 1 (.t 124) (.t 123)⟩] [120, 121, 122, 123, 124])))
(.reg false [
tq 89 (.mv (.t 11)),
tq 90 (.bin .add (.t 89) (kq 1)),
tq 11 (.mv (.t 90))] [89, 90])))

def b_calendar_Join_4 : C :=
  (.seq (.seq (.reg false [
tq 63 (.mv (.t 11)),
tq 64 (.mv (.t 0)),
tq 65 (.len .slc (.t 64)),
tq 66 (.bin .lss (.t 63) (.t 65))] [63, 64, 65])
(.cond (.t 66) .skip
 (.exit 4)))
(.block 5 (.scope (.seq (.reg false [
tq 67 (.mv (.t 0)),
tq 68 (.mv (.t 11)),
tq 69 (.idxAddr 1 (.t 67) (.t 68)),
ld 70 69,
tq 71 (.call false true (.k (.fn n_calendar_weekOf [] [])) [.t 70]),
tq 12 (.mv (.t 71))] [67, 68, 69, 70, 71])
(.seq (.reg true [
tq 72 (.mv (.t 0)),
tq 73 (.mv (.t 11)),
tq 74 (.idxAddr 1 (.t 72) (.t 73)),
ld 75 74,
tq 76 (.mv (.t 0)),
tq 77 (.mv (.t 11)),
tq 78 (.idxAddr 1 (.t 76) (.t 77)),
ld 79 78,
tq 80 (.mv (.t 7)),
tq 81 (.mv (.t 12)),
tq 82 (.lookup .int (.int .i64 0) false (.t 80) (.t 81)),
tq 83 (.build [.z (.int .i64 0), .z (.int .i64 0), .z (.int .i64 0)] [(0, 1, .t 75), (1, 1, .t 79), (2, 1, .t 82)]),
tq 13 (.alloc ty_api_Period [.z (.int .i64 0), .z (.int .i64 0), .z (.int .i64 0)]),
⟨none, none, .store 3 (.t 13) (.t 83)⟩] [72, 73, 74, 75, 76, 77, 78, 79, 80, 81, 82, 83])
(.seq (.reg false [
tq 84 (.mv (.t 12)),
tq 14 (.mv (.t 84))] [84])
(.seq .label
(.seq (.block 6 (.loop [0, 7, 10, 11, 12, 13, 14] b_calendar_Join_3))
(.reg false [
tq 125 (.mv (.t 10)),
tq 126 (.load (some 3) (.t 13)),
tq 127 (.mkList 3 1 [.t 126]),
tq 128 (.append ⟨false, ty_api_Period, 3, 24⟩ (.t 125) (.t 127)),
tq 10 (.mv (.t 128))] [13, 125, 126, 127, 128])))))))))

def c_calendar_Join : CF := ⟨[.tmp 2, .tmp 3],
  (.seq (.reg false [
tq 2 (.mv (.k (.d (.list 0 [])))),
tq 3 (.mv (kq 0))] [2, 3])
(.seq (.seq (.reg false [
tq 16 (.mv (.t 0)),
tq 17 (.len .slc (.t 16)),
tq 18 (.bin .gtr (.t 17) (kq 512))] [16, 17])
(.cond (.t 18) (.seq (.reg false [
tq 2 (.mv (.k (.d (.list 0 [])))),
tq 3 (.mv (kq 5))] [])
.ret)
 .skip))
(.seq (.seq (.reg false [
tq 19 (.mv (.t 0)),
tq 20 (.len .slc (.t 19)),
tq 21 (.mv (kq 0))] [])
(.block 0 (.loop [0, 19, 20, 21] b_calendar_Join_1)))
(.seq (.reg false [
tq 47 (.mkMap),
tq 7 (.mv (.t 47))] [47])
(.seq (.seq (.reg false [
tq 48 (.mv (.t 0)),
tq 49 (.len .slc (.t 48)),
tq 50 (.mv (kq 0))] [])
(.block 2 (.loop [0, 7, 48, 49, 50] b_calendar_Join_2)))
(.seq (.reg false [
tq 10 (.ownNil ⟨false, ty_api_Period, 3, 24⟩)] [])
(.seq (.seq (.reg false [
tq 11 (.mv (kq 0))] [])
(.block 4 (.loop [0, 7, 10, 11] b_calendar_Join_4)))
(.seq (.reg false [
tq 129 (.mv (.t 10)),
tq 130 (.call false true (.k (.fn n_slices_Clip_Lapi_Period_api_Period [] [])) [.t 129]),
tq 2 (.mv (.t 130)),
tq 3 (.mv (kq 0))] [10, 129, 130])
.ret))))))))⟩

def c_calendar_Count : CF := ⟨[.tmp 2, .tmp 3],
  (.seq (.reg false [
tq 1 (.box ty_api_Period (.t 0)),
tq 2 (.mv (kq 0)),
tq 3 (.mv (kq 0))] [0, 2, 3])
(.seq (.reg false [
tq 7 (.load (some 3) (.t 1)),
tq 8 (.call false true (.k (.fn n_calendar_DaysOf [] [])) [.t 7]),
tq 6 (.mv (.t 8)),
tq 9 (.extract (.t 6) 0),
tq 10 (.extract (.t 6) 1),
tq 4 (.mv (.t 9)),
tq 5 (.mv (.t 10))] [1, 6, 7, 8, 9, 10])
(.seq (.reg false [
tq 11 (.mv (.t 4)),
tq 12 (.len .slc (.t 11)),
tq 13 (.mv (.t 5)),
tq 2 (.mv (.t 12)),
tq 3 (.mv (.t 13))] [4, 5, 11, 12, 13])
.ret)))⟩

def b_calendar_first_1 : C :=
  (.seq (.reg false [
tq 8 (.bin .lss (.t 7) (.t 6))] [])
(.seq (.cond (.t 8) .skip
 (.exit 0))
(.seq (.block 1 (.seq (.reg false [
tq 9 (.idxAddr 1 (.t 5) (.t 7)),
ld 10 9,
tq 4 (.mv (.t 10))] [9, 10])
(.seq (.reg false [
tq 11 (.mv (.t 4)),
tq 12 (.bin .neq (.t 11) (kq 0))] [11])
(.cond (.t 12) (.seq (.reg false [
tq 13 (.mv (.t 4)),
tq 2 (.mv (.t 13))] [4, 13])
.ret)
 .skip))))
(.reg false [
tq 14 (.bin .add (.t 7) (kq 1)),
tq 7 (.mv (.t 14))] [14]))))

def c_calendar_first : CF := ⟨[.tmp 2],
  (.seq (.reg false [
tq 2 (.mv (kq 0))] [2])
(.seq (.seq (.reg false [
tq 5 (.mv (.t 0)),
tq 6 (.len .slc (.t 5)),
tq 7 (.mv (kq 0))] [0])
(.block 0 (.loop [5, 6, 7] b_calendar_first_1)))
(.seq (.reg false [
tq 2 (.mv (kq 0))] [])
.ret)))⟩

def c_calendar_within : CF := ⟨[.tmp 6],
  (.seq (.reg false [
tq 6 (.mv (kq 0))] [6])
(.seq (.reg false [
tq 7 (.mv (.t 0)),
tq 8 (.mv (.t 1)),
tq 9 (.bin .lss (.t 7) (.t 8)),
tq 10 (.mv (.t 9)),
⟨some 11, (some (10, false)), .mv (.t 0)⟩,
⟨some 12, (some (10, false)), .mv (.t 2)⟩,
⟨some 13, (some (10, false)), .bin .gtr (.t 11) (.t 12)⟩,
tq 14 (.pick (.t 10) (.k (.d (.bool true))) (.t 13)),
tq 15 (.call false true (.k (.fn n_calendar_when [] [])) [.t 14, kq 3]),
tq 6 (.mv (.t 15))] [0, 1, 2, 7, 8, 9, 10, 11, 12, 13, 14, 15])
.ret))⟩

def c_calendar_when : CF := ⟨[.tmp 4],
  (.seq (.reg false [
tq 4 (.mv (kq 0))] [4])
(.seq (.seq (.reg false [
tq 5 (.mv (.t 0))] [0])
(.cond (.t 5) (.seq (.reg false [
tq 6 (.mv (.t 1)),
tq 4 (.mv (.t 6))] [1, 6])
.ret)
 .skip))
(.seq (.reg false [
tq 4 (.mv (kq 0))] [])
.ret)))⟩

def c_calendar_lastSunday : CF := ⟨[.tmp 4],
  (.seq (.reg false [
tq 4 (.mv (kq 0))] [4])
(.seq (.reg false [
tq 6 (.mv (.t 0)),
tq 7 (.mv (.t 1)),
tq 8 (.call false true (.k (.fn n_calendar_number [] [])) [.t 6, .t 7, kq 31]),
tq 5 (.mv (.t 8))] [0, 1, 6, 7, 8])
(.seq (.reg false [
tq 9 (.mv (.t 5)),
tq 10 (.mv (.t 5)),
tq 11 (.call false true (.k (.fn n_calendar_weekday [] [])) [.t 10]),
tq 12 (.bin .add (.t 11) (kq 7)),
tq 13 (.bin .sub (.t 12) (kq 6)),
tq 14 (.bin .rem (.t 13) (kq 7)),
tq 15 (.bin .sub (.t 9) (.t 14)),
tq 4 (.mv (.t 15))] [5, 9, 10, 11, 12, 13, 14, 15])
.ret)))⟩

def b_calendar_number_1 : C :=
  (.seq (.reg false [
tq 15 (.bin .lss (.t 14) (.t 13))] [])
(.seq (.cond (.t 15) .skip
 (.exit 0))
(.seq (.block 1 (.seq (.reg false [
tq 16 (.mv (.t 14)),
tq 8 (.mv (.t 16))] [16])
(.reg false [
tq 17 (.mv (.t 7)),
tq 18 (.mv (.t 8)),
tq 19 (.bin .add (kq 2000) (.t 18)),
tq 20 (.call false true (.k (.fn n_calendar_span [] [])) [.t 19]),
tq 21 (.bin .add (.t 17) (.t 20)),
tq 7 (.mv (.t 21))] [8, 17, 18, 19, 20, 21])))
(.reg false [
tq 22 (.bin .add (.t 14) (kq 1)),
tq 14 (.mv (.t 22))] [22]))))

def b_calendar_number_2 : C :=
  (.seq (.seq (.reg false [
tq 23 (.mv (.t 9)),
tq 24 (.mv (.t 1)),
tq 25 (.bin .lss (.t 23) (.t 24))] [23, 24])
(.cond (.t 25) .skip
 (.exit 2)))
(.seq (.block 3 (.reg false [
tq 28 (.mv (.t 7)),
tq 29 (.mv (.t 0)),
tq 30 (.mv (.t 9)),
tq 31 (.call false true (.k (.fn n_calendar_length [] [])) [.t 29, .t 30]),
tq 32 (.bin .add (.t 28) (.t 31)),
tq 7 (.mv (.t 32))] [28, 29, 30, 31, 32]))
(.reg false [
tq 26 (.mv (.t 9)),
tq 27 (.bin .add (.t 26) (kq 1)),
tq 9 (.mv (.t 27))] [26, 27])))

def c_calendar_number : CF := ⟨[.tmp 6],
  (.seq (.reg false [
tq 6 (.mv (kq 0))] [6])
(.seq (.reg false [
tq 10 (.mv (.t 2)),
tq 11 (.bin .sub (.t 10) (kq 1)),
tq 7 (.mv (.t 11))] [2, 10, 11])
(.seq (.seq (.reg false [
tq 12 (.mv (.t 0)),
tq 13 (.bin .sub (.t 12) (kq 2000)),
tq 14 (.mv (kq 0))] [12])
(.block 0 (.loop [0, 1, 7, 13, 14] b_calendar_number_1)))
(.seq (.seq (.reg false [
tq 9 (.mv (kq 1))] [])
(.block 2 (.loop [0, 1, 7, 9] b_calendar_number_2)))
(.seq (.reg false [
tq 33 (.mv (.t 7)),
tq 6 (.mv (.t 33))] [7, 33])
.ret)))))⟩

def c_calendar_length : CF := ⟨[.tmp 4],
  (.seq (.reg false [
tq 4 (.mv (kq 0))] [4])
(.seq (.seq (.reg false [
tq 5 (.mv (.t 1)),
tq 6 (.bin .eql (.t 5) (kq 2)),
tq 7 (.mv (.t 6)),
⟨some 8, (some (7, true)), .mv (.t 0)⟩,
⟨some 9, (some (7, true)), .call false true (.k (.fn n_calendar_leap [] [])) [.t 8]⟩,
tq 10 (.pick (.t 7) (.t 9) (.k (.d (.bool false))))] [0, 5, 6, 7, 8, 9])
(.cond (.t 10) (.seq (.reg false [
tq 11 (.idxAddrA 12 1 (.k (.lptr [.int .i64 31, .int .i64 28, .int .i64 31, .int .i64 30, .int .i64 31, .int .i64 30, .int .i64 31, .int .i64 31, .int .i64 30, .int .i64 31, .int .i64 30, .int .i64 31] 0)) (kq 1)),
ld 12 11,
tq 13 (.bin .add (.t 12) (kq 1)),
tq 4 (.mv (.t 13))] [11, 12, 13])
.ret)
 .skip))
(.seq (.reg false [
tq 14 (.mv (.t 1)),
tq 15 (.bin .sub (.t 14) (kq 1)),
tq 16 (.idxAddrA 12 1 (.k (.lptr [.int .i64 31, .int .i64 28, .int .i64 31, .int .i64 30, .int .i64 31, .int .i64 30, .int .i64 31, .int .i64 31, .int .i64 30, .int .i64 31, .int .i64 30, .int .i64 31] 0)) (.t 15)),
ld 17 16,
tq 4 (.mv (.t 17))] [1, 14, 15, 16, 17])
.ret)))⟩

def c_calendar_CheckSeason : CF := ⟨[.tmp 2],
  (.seq (.reg false [
tq 1 (.box ty_calendar_Season (.t 0)),
tq 2 (.mv (kq 0))] [0, 2])
(.seq (.reg true [
fa 3 0 1,
ld 4 3,
tq 5 (.call false true (.k (.fn n_calendar_within [] [])) [.t 4, kq 2000, kq 2272]),
fa 6 1 1,
ld 7 6,
tq 8 (.bin .neq (.t 7) (.k (.d (.str [83])))),
tq 9 (.mv (.t 8)),
⟨some 10, (some (9, true)), .fieldAddr 1 (.t 1)⟩,
⟨some 11, (some (9, true)), .load none (.t 10)⟩,
⟨some 12, (some (9, true)), .bin .neq (.t 11) (.k (.d (.str [87])))⟩,
tq 13 (.pick (.t 9) (.t 12) (.k (.d (.bool false)))),
tq 14 (.call false true (.k (.fn n_calendar_when [] [])) [.t 13, kq 13]),
tq 15 (.mkList 1 2 [.t 5, .t 14]),
tq 16 (.call false true (.k (.fn n_calendar_first [] [])) [.t 15]),
tq 2 (.mv (.t 16))] [1, 3, 4, 5, 6, 7, 8, 9, 10, 11, 12, 13, 14, 15, 16])
.ret))⟩

def c_calendar_Season_begin : CF := ⟨[.tmp 2],
  (.seq (.reg false [
tq 1 (.box ty_calendar_Season (.t 0)),
tq 2 (.mv (kq 0))] [0, 2])
(.seq (.seq (.reg false [
fa 3 1 1,
ld 4 3,
tq 5 (.bin .eql (.t 4) (.k (.d (.str [83]))))] [3, 4])
(.cond (.t 5) (.seq (.reg false [
fa 6 0 1,
ld 7 6,
tq 8 (.call false true (.k (.fn n_calendar_lastSunday [] [])) [.t 7, kq 3]),
tq 2 (.mv (.t 8))] [1, 6, 7, 8])
.ret)
 .skip))
(.seq (.reg false [
fa 9 0 1,
ld 10 9,
tq 11 (.call false true (.k (.fn n_calendar_lastSunday [] [])) [.t 10, kq 10]),
tq 2 (.mv (.t 11))] [1, 9, 10, 11])
.ret)))⟩

def c_calendar_Season_next : CF := ⟨[.cell 2 (some 2)],
  (.seq (.reg false [
tq 1 (.box ty_calendar_Season (.t 0)),
tq 2 (.alloc ty_calendar_Season [.z (.int .i64 0), .z (.str [])])] [0])
(.seq (.seq (.reg false [
fa 3 1 1,
ld 4 3,
tq 5 (.bin .eql (.t 4) (.k (.d (.str [83]))))] [3, 4])
(.cond (.t 5) (.seq (.reg false [
fa 6 0 1,
ld 7 6,
tq 8 (.build [.z (.int .i64 0), .z (.str [])] [(0, 1, .t 7), (1, 1, .k (.d (.str [87])))]),
⟨none, none, .store 2 (.t 2) (.t 8)⟩] [1, 6, 7, 8])
.ret)
 .skip))
(.seq (.reg false [
fa 9 0 1,
ld 10 9,
tq 11 (.bin .add (.t 10) (kq 1)),
tq 12 (.build [.z (.int .i64 0), .z (.str [])] [(0, 1, .t 11), (1, 1, .k (.d (.str [83])))]),
⟨none, none, .store 2 (.t 2) (.t 12)⟩] [1, 9, 10, 11, 12])
.ret)))⟩

def b_calendar_CheckZone_1 : C :=
  (.seq (.reg false [
tq 29 (.bin .lss (.t 28) (.t 27))] [])
(.seq (.cond (.t 29) .skip
 (.exit 0))
(.seq (.block 1 (.seq (.reg false [
tq 30 (.mv (.t 28)),
tq 31 (.idxAddr 2 (.t 26) (.t 28)),
tq 32 (.load (some 2) (.t 31)),
tq 6 (.alloc ty_calendar_Change [.z (.int .i64 0), .z (.int .i64 0)]),
tq 5 (.mv (.t 30)),
⟨none, none, .store 2 (.t 6) (.t 32)⟩] [30, 31, 32])
(.seq (.seq (.reg true [
fa 33 0 6,
ld 34 33,
tq 35 (.call false true (.k (.fn n_calendar_checkMoment [] [])) [.t 34]),
fa 36 1 6,
ld 37 36,
tq 38 (.call false true (.k (.fn n_calendar_within [] [])) [.t 37, kq (-720), kq 840]),
tq 39 (.mkList 1 2 [.t 35, .t 38]),
tq 40 (.call false true (.k (.fn n_calendar_first [] [])) [.t 39]),
tq 7 (.mv (.t 40))] [33, 34, 35, 36, 37, 38, 39, 40])
(.seq (.reg false [
tq 41 (.mv (.t 7)),
tq 42 (.bin .neq (.t 41) (kq 0))] [41])
(.cond (.t 42) (.seq (.reg false [
tq 43 (.mv (.t 7)),
tq 2 (.mv (.t 43))] [7, 43])
.ret)
 .skip)))
(.seq (.reg false [
fa 44 1 6,
ld 45 44,
tq 46 (.mv (.t 4)),
tq 47 (.bin .sub (.t 45) (.t 46)),
tq 48 (.mv (.t 4)),
fa 49 1 6,
ld 50 49,
tq 51 (.bin .sub (.t 48) (.t 50)),
tq 52 (.minmax true [.t 47, .t 51]),
tq 8 (.mv (.t 52))] [4, 44, 45, 46, 47, 48, 49, 50, 51, 52])
(.seq (.seq (.reg true [
tq 53 (.mv (.t 8)),
tq 54 (.bin .gtr (.t 53) (kq 180)),
tq 55 (.call false true (.k (.fn n_calendar_when [] [])) [.t 54, kq 4]),
tq 56 (.mv (.t 5)),
tq 57 (.bin .gtr (.t 56) (kq 0)),
tq 58 (.mv (.t 57)),
⟨some 59, (some (58, true)), .fieldAddr 0 (.t 6)⟩,
⟨some 60, (some (58, true)), .load none (.t 59)⟩,
⟨some 61, (some (58, true)), .fieldAddr 1 (.t 1)⟩,
⟨some 62, (some (58, true)), .load none (.t 61)⟩,
⟨some 63, (some (58, true)), .mv (.t 5)⟩,
⟨some 64, (some (58, true)), .bin .sub (.t 63) (kq 1)⟩,
⟨some 65, (some (58, true)), .minmax true [kq 0, .t 64]⟩,
⟨some 66, (some (58, true)), .idxAddr 2 (.t 62) (.t 65)⟩,
⟨some 67, (some (58, true)), .fieldAddr 0 (.t 66)⟩,
⟨some 68, (some (58, true)), .load none (.t 67)⟩,
⟨some 69, (some (58, true)), .bin .sub (.t 60) (.t 68)⟩,
⟨some 70, (some (58, true)), .bin .lss (.t 69) (kq 1440)⟩,
tq 71 (.pick (.t 58) (.t 70) (.k (.d (.bool false)))),
tq 72 (.call false true (.k (.fn n_calendar_when [] [])) [.t 71, kq 11]),
tq 73 (.mkList 1 2 [.t 55, .t 72]),
tq 74 (.call false true (.k (.fn n_calendar_first [] [])) [.t 73]),
tq 9 (.mv (.t 74))] [5, 8, 53, 54, 55, 56, 57, 58, 59, 60, 61, 62, 63, 64, 65, 66, 67, 68, 69, 70, 71, 72, 73, 74])
(.seq (.reg false [
tq 75 (.mv (.t 9)),
tq 76 (.bin .neq (.t 75) (kq 0))] [75])
(.cond (.t 76) (.seq (.reg false [
tq 77 (.mv (.t 9)),
tq 2 (.mv (.t 77))] [9, 77])
.ret)
 .skip)))
(.reg false [
fa 78 1 6,
ld 79 78,
tq 4 (.mv (.t 79))] [6, 78, 79]))))))
(.reg false [
tq 80 (.bin .add (.t 28) (kq 1)),
tq 28 (.mv (.t 80))] [80]))))

def c_calendar_CheckZone : CF := ⟨[.tmp 2],
  (.seq (.reg false [
tq 1 (.box ty_calendar_Zone (.t 0)),
tq 2 (.mv (kq 0))] [0, 2])
(.seq (.seq (.reg true [
fa 10 0 1,
ld 11 10,
tq 12 (.call false true (.k (.fn n_calendar_within [] [])) [.t 11, kq (-720), kq 840]),
fa 13 1 1,
ld 14 13,
tq 15 (.len .slc (.t 14)),
tq 16 (.bin .gtr (.t 15) (kq 64)),
tq 17 (.call false true (.k (.fn n_calendar_when [] [])) [.t 16, kq 5]),
tq 18 (.mkList 1 2 [.t 12, .t 17]),
tq 19 (.call false true (.k (.fn n_calendar_first [] [])) [.t 18]),
tq 3 (.mv (.t 19))] [10, 11, 12, 13, 14, 15, 16, 17, 18, 19])
(.seq (.reg false [
tq 20 (.mv (.t 3)),
tq 21 (.bin .neq (.t 20) (kq 0))] [20])
(.cond (.t 21) (.seq (.reg false [
tq 22 (.mv (.t 3)),
tq 2 (.mv (.t 22))] [3, 22])
.ret)
 .skip)))
(.seq (.reg false [
fa 23 0 1,
ld 24 23,
tq 4 (.mv (.t 24))] [23, 24])
(.seq (.seq (.reg false [
fa 25 1 1,
ld 26 25,
tq 27 (.len .slc (.t 26)),
tq 28 (.mv (kq 0))] [25])
(.block 0 (.loop [1, 4, 26, 27, 28] b_calendar_CheckZone_1)))
(.seq (.reg false [
tq 2 (.mv (kq 0))] [])
.ret)))))⟩

def c_calendar_checkMoment : CF := ⟨[.tmp 2],
  (.seq (.reg false [
tq 2 (.mv (kq 0))] [2])
(.seq (.reg false [
tq 3 (.mv (.t 0)),
tq 4 (.call false true (.k (.fn n_calendar_within [] [])) [.t 3, kq 0, kq 143999999]),
tq 2 (.mv (.t 4))] [0, 3, 4])
.ret))⟩

def b_calendar_Zone_at_1 : C :=
  (.seq (.reg false [
tq 14 (.bin .lss (.t 13) (.t 12))] [])
(.seq (.cond (.t 14) .skip
 (.exit 0))
(.seq (.block 1 (.seq (.reg false [
tq 15 (.idxAddr 2 (.t 11) (.t 13)),
tq 16 (.load (some 2) (.t 15)),
tq 7 (.alloc ty_calendar_Change [.z (.int .i64 0), .z (.int .i64 0)]),
⟨none, none, .store 2 (.t 7) (.t 16)⟩] [15, 16])
(.seq (.reg false [
fa 17 0 7,
ld 18 17,
tq 19 (.mv (.t 1)),
tq 20 (.bin .leq (.t 18) (.t 19))] [17, 18, 19])
(.cond (.t 20) (.reg false [
fa 21 1 7,
ld 22 21,
tq 5 (.mv (.t 22))] [7, 21, 22])
 .skip))))
(.reg false [
tq 23 (.bin .add (.t 13) (kq 1)),
tq 13 (.mv (.t 23))] [23]))))

def c_calendar_Zone_at : CF := ⟨[.tmp 4],
  (.seq (.reg false [
tq 2 (.box ty_calendar_Zone (.t 0)),
tq 4 (.mv (kq 0))] [0, 4])
(.seq (.reg false [
fa 8 0 2,
ld 9 8,
tq 5 (.mv (.t 9))] [8, 9])
(.seq (.seq (.reg false [
fa 10 1 2,
ld 11 10,
tq 12 (.len .slc (.t 11)),
tq 13 (.mv (kq 0))] [2, 10])
(.block 0 (.loop [1, 5, 11, 12, 13] b_calendar_Zone_at_1)))
(.seq (.reg false [
tq 24 (.mv (.t 5)),
tq 4 (.mv (.t 24))] [5, 24])
.ret))))⟩

def b_slices_Compact_Lint_int_1 : C :=
  (.seq (.seq (.reg false [
tq 29 (.mv (.t 5)),
tq 30 (.mv (.t 4)),
tq 31 (.len .slc (.t 30)),
tq 32 (.bin .lss (.t 29) (.t 31))] [29, 30, 31])
(.cond (.t 32) .skip
 (.exit 2)))
(.seq (.block 3 (.seq (.reg true [
tq 35 (.mv (.t 4)),
tq 36 (.mv (.t 5)),
tq 37 (.idxAddr 1 (.t 35) (.t 36)),
ld 38 37,
tq 39 (.mv (.t 4)),
tq 40 (.mv (.t 5)),
tq 41 (.bin .sub (.t 40) (kq 1)),
tq 42 (.idxAddr 1 (.t 39) (.t 41)),
ld 43 42,
tq 44 (.bin .neq (.t 38) (.t 43))] [35, 36, 37, 38, 39, 40, 41, 42, 43])
(.cond (.t 44) (.seq (.reg false [
tq 45 (.mv (.t 0)),
tq 46 (.mv (.t 3)),
tq 47 (.mv (.t 4)),
tq 48 (.mv (.t 5)),
tq 49 (.idxAddr 1 (.t 47) (.t 48)),
ld 50 49,
tq 51 (.idxAddr 1 (.t 45) (.t 46)),
⟨none, none, .store 1 (.t 51) (.t 50)⟩] [45, 46, 47, 48, 49, 50, 51])
(.reg false [
tq 52 (.mv (.t 3)),
tq 53 (.bin .add (.t 52) (kq 1)),
tq 3 (.mv (.t 53))] [52, 53]))
 .skip)))
(.reg false [
tq 33 (.mv (.t 5)),
tq 34 (.bin .add (.t 33) (kq 1)),
tq 5 (.mv (.t 34))] [33, 34])))

def b_slices_Compact_Lint_int_2 : C :=
  (.seq (.seq (.reg false [
tq 10 (.mv (.t 3)),
tq 11 (.mv (.t 0)),
tq 12 (.len .slc (.t 11)),
tq 13 (.bin .lss (.t 10) (.t 12))] [10, 11, 12])
(.cond (.t 13) .skip
 (.exit 0)))
(.seq (.block 1 (.seq (.reg true [
tq 16 (.mv (.t 0)),
tq 17 (.mv (.t 3)),
tq 18 (.idxAddr 1 (.t 16) (.t 17)),
ld 19 18,
tq 20 (.mv (.t 0)),
tq 21 (.mv (.t 3)),
tq 22 (.bin .sub (.t 21) (kq 1)),
tq 23 (.idxAddr 1 (.t 20) (.t 22)),
ld 24 23,
tq 25 (.bin .eql (.t 19) (.t 24))] [16, 17, 18, 19, 20, 21, 22, 23, 24])
(.cond (.t 25) (.seq (.reg false [
tq 26 (.mv (.t 0)),
tq 27 (.mv (.t 3)),
tq 28 (.slice 1 (.t 26) (some (.t 27)) none none),
tq 4 (.mv (.t 28))] [26, 27, 28])
(.seq (.seq (.reg false [
tq 5 (.mv (kq 1))] [])
(.block 2 (.loop [0, 3, 4, 5] b_slices_Compact_Lint_int_1)))
(.seq (.reg false [
tq 54 (.mv (.t 0)),
tq 55 (.mv (.t 3)),
tq 56 (.slice 1 (.t 54) (some (.t 55)) none none),
⟨none, none, .clear [.int .i64 0] (.t 56)⟩] [54, 55, 56])
(.seq (.reg false [
tq 57 (.mv (.t 0)),
tq 58 (.mv (.t 3)),
tq 59 (.slice 1 (.t 57) none (some (.t 58)) none),
tq 2 (.mv (.t 59))] [0, 3, 57, 58, 59])
.ret))))
 .skip)))
(.reg false [
tq 14 (.mv (.t 3)),
tq 15 (.bin .add (.t 14) (kq 1)),
tq 3 (.mv (.t 15))] [14, 15])))

def c_slices_Compact_Lint_int : CF := ⟨[.tmp 2],
  (.seq (.reg false [
tq 2 (.ownNil ⟨true, ty_int, 1, 8⟩)] [2])
(.seq (.seq (.reg false [
tq 6 (.mv (.t 0)),
tq 7 (.len .slc (.t 6)),
tq 8 (.bin .lss (.t 7) (kq 2))] [6, 7])
(.cond (.t 8) (.seq (.reg false [
tq 9 (.mv (.t 0)),
tq 2 (.mv (.t 9))] [0, 9])
.ret)
 .skip))
(.seq (.seq (.reg false [
tq 3 (.mv (kq 1))] [])
(.block 0 (.loop [0, 3] b_slices_Compact_Lint_int_2)))
(.seq (.reg false [
tq 60 (.mv (.t 0)),
tq 2 (.mv (.t 60))] [0, 60])
.ret))))⟩

def c_calendar_ParseDate : CF := ⟨[.tmp 2, .tmp 3],
  (.seq (.reg false [
tq 2 (.mv (kq 0)),
tq 3 (.mv (kq 0))] [2, 3])
(.seq (.seq (.reg true [
tq 10 (.mv (.t 0)),
tq 11 (.len .str (.t 10)),
tq 12 (.bin .neq (.t 11) (kq 10)),
tq 13 (.mv (.t 12)),
⟨some 14, (some (13, false)), .mv (.t 0)⟩,
⟨some 15, (some (13, false)), .idxS (.t 14) (kq 4)⟩,
⟨some 16, (some (13, false)), .bin .neq (.t 15) (.k (.d (.int .u8 45)))⟩,
tq 17 (.pick (.t 13) (.k (.d (.bool true))) (.t 16)),
tq 18 (.mv (.t 17)),
⟨some 19, (some (18, false)), .mv (.t 0)⟩,
⟨some 20, (some (18, false)), .idxS (.t 19) (kq 7)⟩,
⟨some 21, (some (18, false)), .bin .neq (.t 20) (.k (.d (.int .u8 45)))⟩,
tq 22 (.pick (.t 18) (.k (.d (.bool true))) (.t 21)),
tq 23 (.mv (.t 22)),
⟨some 24, (some (23, false)), .mv (.t 0)⟩,
⟨some 25, (some (23, false)), .sliceS (.t 24) none (some (kq 4))⟩,
⟨some 26, (some (23, false)), .mv (.t 0)⟩,
⟨some 27, (some (23, false)), .sliceS (.t 26) (some (kq 5)) (some (kq 7))⟩,
⟨some 28, (some (23, false)), .bin .add (.t 25) (.t 27)⟩,
⟨some 29, (some (23, false)), .mv (.t 0)⟩,
⟨some 30, (some (23, false)), .sliceS (.t 29) (some (kq 8)) none⟩,
⟨some 31, (some (23, false)), .bin .add (.t 28) (.t 30)⟩,
⟨some 32, (some (23, false)), .call false true (.k (.fn n_calendar_digits [] [])) [.t 31]⟩,
⟨some 33, (some (23, false)), .un .not (.t 32)⟩,
tq 34 (.pick (.t 23) (.k (.d (.bool true))) (.t 33))] [10, 11, 12, 13, 14, 15, 16, 17, 18, 19, 20, 21, 22, 23, 24, 25, 26, 27, 28, 29, 30, 31, 32, 33])
(.cond (.t 34) (.seq (.reg false [
tq 2 (.mv (kq 0)),
tq 3 (.mv (kq 25))] [])
.ret)
 .skip))
(.seq (.reg false [
tq 36 (.mv (.t 0)),
tq 37 (.sliceS (.t 36) none (some (kq 4))),
tq 38 (.call false false (.k (.fn n_strconv_Atoi [] [])) [.t 37]),
tq 35 (.mv (.t 38)),
tq 39 (.extract (.t 35) 0),
tq 40 (.extract (.t 35) 1),
tq 4 (.mv (.t 39)),
tq 5 (.mv (.t 40))] [5, 35, 36, 37, 38, 39, 40])
(.seq (.reg false [
tq 42 (.mv (.t 0)),
tq 43 (.sliceS (.t 42) (some (kq 5)) (some (kq 7))),
tq 44 (.call false false (.k (.fn n_strconv_Atoi [] [])) [.t 43]),
tq 41 (.mv (.t 44)),
tq 45 (.extract (.t 41) 0),
tq 46 (.extract (.t 41) 1),
tq 6 (.mv (.t 45)),
tq 7 (.mv (.t 46))] [7, 41, 42, 43, 44, 45, 46])
(.seq (.reg false [
tq 48 (.mv (.t 0)),
tq 49 (.sliceS (.t 48) (some (kq 8)) none),
tq 50 (.call false false (.k (.fn n_strconv_Atoi [] [])) [.t 49]),
tq 47 (.mv (.t 50)),
tq 51 (.extract (.t 47) 0),
tq 52 (.extract (.t 47) 1),
tq 8 (.mv (.t 51)),
tq 9 (.mv (.t 52))] [0, 9, 47, 48, 49, 50, 51, 52])
(.seq (.reg false [
tq 53 (.mv (.t 4)),
tq 54 (.mv (.t 6)),
tq 55 (.mv (.t 8)),
tq 56 (.call false true (.k (.fn n_calendar_Day [] [])) [.t 53, .t 54, .t 55]),
tq 57 (.extract (.t 56) 0),
tq 58 (.extract (.t 56) 1),
tq 2 (.mv (.t 57)),
tq 3 (.mv (.t 58))] [4, 6, 8, 53, 54, 55, 56, 57, 58])
.ret))))))⟩

def c_calendar_SeasonOf : CF := ⟨[.cell 2 (some 2), .tmp 3],
  (.seq (.reg false [
tq 2 (.alloc ty_calendar_Season [.z (.int .i64 0), .z (.str [])]),
tq 3 (.mv (kq 0))] [3])
(.seq (.seq (.reg false [
tq 6 (.mv (.t 0)),
tq 7 (.call false true (.k (.fn n_calendar_checkDay [] [])) [.t 6]),
tq 4 (.mv (.t 7))] [6, 7])
(.seq (.reg false [
tq 8 (.mv (.t 4)),
tq 9 (.bin .neq (.t 8) (kq 0))] [8])
(.cond (.t 9) (.seq (.reg false [
tq 10 (.build [.z (.int .i64 0), .z (.str [])] []),
tq 11 (.mv (.t 4)),
⟨none, none, .store 2 (.t 2) (.t 10)⟩,
tq 3 (.mv (.t 11))] [4, 10, 11])
.ret)
 .skip)))
(.seq (.seq (.reg false [
tq 12 (.mv (.t 0)),
tq 13 (.call false true (.k (.fn n_calendar_earliest [] [])) []),
tq 14 (.call false true (.k (.fn n_calendar_Season_begin [] [])) [.t 13]),
tq 15 (.bin .lss (.t 12) (.t 14)),
tq 16 (.mv (.t 15)),
⟨some 17, (some (16, false)), .mv (.t 0)⟩,
⟨some 18, (some (16, false)), .call false true (.k (.fn n_calendar_latest [] [])) []⟩,
⟨some 19, (some (16, false)), .call false true (.k (.fn n_calendar_Season_next [] [])) [.t 18]⟩,
⟨some 20, (some (16, false)), .call false true (.k (.fn n_calendar_Season_begin [] [])) [.t 19]⟩,
⟨some 21, (some (16, false)), .bin .geq (.t 17) (.t 20)⟩,
tq 22 (.pick (.t 16) (.k (.d (.bool true))) (.t 21))] [12, 13, 14, 15, 16, 17, 18, 19, 20, 21])
(.cond (.t 22) (.seq (.reg false [
tq 23 (.build [.z (.int .i64 0), .z (.str [])] []),
⟨none, none, .store 2 (.t 2) (.t 23)⟩,
tq 3 (.mv (kq 30))] [23])
.ret)
 .skip))
(.seq (.reg false [
tq 24 (.mv (.t 0)),
tq 25 (.call false true (.k (.fn n_calendar_date [] [])) [.t 24]),
tq 26 (.idxA 3 1 none (.t 25) (kq 0)),
tq 5 (.mv (.t 26))] [24, 25, 26])
(.seq (.block 0 (.seq (.reg false [
tq 28 (.mv (.t 0)),
tq 29 (.mv (.t 5)),
tq 30 (.call false true (.k (.fn n_calendar_lastSunday [] [])) [.t 29, kq 3]),
tq 31 (.bin .lss (.t 28) (.t 30)),
tq 27 (.mv (.t 31))] [28, 29, 30, 31])
(.cond (.t 27) (.seq (.reg false [
tq 32 (.mv (.t 5)),
tq 33 (.bin .sub (.t 32) (kq 1)),
tq 34 (.build [.z (.int .i64 0), .z (.str [])] [(0, 1, .t 33), (1, 1, .k (.d (.str [87])))]),
⟨none, none, .store 2 (.t 2) (.t 34)⟩,
tq 3 (.mv (kq 0))] [5, 32, 33, 34])
.ret)
 (.seq (.reg false [
tq 36 (.mv (.t 0)),
tq 37 (.mv (.t 5)),
tq 38 (.call false true (.k (.fn n_calendar_lastSunday [] [])) [.t 37, kq 10]),
tq 39 (.bin .lss (.t 36) (.t 38)),
tq 35 (.mv (.t 39))] [0, 36, 37, 38, 39])
(.cond (.t 35) (.seq (.reg false [
tq 40 (.mv (.t 5)),
tq 41 (.build [.z (.int .i64 0), .z (.str [])] [(0, 1, .t 40), (1, 1, .k (.d (.str [83])))]),
⟨none, none, .store 2 (.t 2) (.t 41)⟩,
tq 3 (.mv (kq 0))] [5, 40, 41])
.ret)
 .skip)))))
(.seq (.reg false [
tq 42 (.mv (.t 5)),
tq 43 (.build [.z (.int .i64 0), .z (.str [])] [(0, 1, .t 42), (1, 1, .k (.d (.str [87])))]),
⟨none, none, .store 2 (.t 2) (.t 43)⟩,
tq 3 (.mv (kq 0))] [5, 42, 43])
.ret))))))⟩

def b_ref01_SameInts_1 : C :=
  (.seq (.seq (.reg false [
tq 11 (.mv (.t 5)),
tq 12 (.mv (.t 0)),
tq 13 (.len .slc (.t 12)),
tq 14 (.bin .lss (.t 11) (.t 13))] [11, 12, 13])
(.cond (.t 14) .skip
 (.exit 0)))
(.seq (.block 1 (.seq (.reg true [
tq 17 (.mv (.t 0)),
tq 18 (.mv (.t 5)),
tq 19 (.idxAddr 1 (.t 17) (.t 18)),
ld 20 19,
tq 21 (.mv (.t 1)),
tq 22 (.mv (.t 5)),
tq 23 (.idxAddr 1 (.t 21) (.t 22)),
ld 24 23,
tq 25 (.bin .neq (.t 20) (.t 24))] [17, 18, 19, 20, 21, 22, 23, 24])
(.cond (.t 25) (.seq (.reg false [
tq 4 (.mv (.k (.d (.bool false))))] [])
.ret)
 .skip)))
(.reg false [
tq 15 (.mv (.t 5)),
tq 16 (.bin .add (.t 15) (kq 1)),
tq 5 (.mv (.t 16))] [15, 16])))

def c_ref01_SameInts : CF := ⟨[.tmp 4],
  (.seq (.reg false [
tq 4 (.mv (.k (.d (.bool false))))] [4])
(.seq (.seq (.reg false [
tq 6 (.mv (.t 0)),
tq 7 (.len .slc (.t 6)),
tq 8 (.mv (.t 1)),
tq 9 (.len .slc (.t 8)),
tq 10 (.bin .neq (.t 7) (.t 9))] [6, 7, 8, 9])
(.cond (.t 10) (.seq (.reg false [
tq 4 (.mv (.k (.d (.bool false))))] [])
.ret)
 .skip))
(.seq (.seq (.reg false [
tq 5 (.mv (kq 0))] [])
(.block 0 (.loop [0, 1, 5] b_ref01_SameInts_1)))
(.seq (.reg false [
tq 4 (.mv (.k (.d (.bool true))))] [])
.ret))))⟩

def c_ref01_CheckRange : CF := ⟨[.tmp 6],
  (.seq (.reg false [
tq 6 (.mv (kq 0))] [6])
(.seq (.seq (.reg false [
tq 7 (.mv (.t 0)),
tq 8 (.mv (.t 1)),
tq 9 (.bin .lss (.t 7) (.t 8)),
tq 10 (.mv (.t 9)),
⟨some 11, (some (10, false)), .mv (.t 0)⟩,
⟨some 12, (some (10, false)), .mv (.t 2)⟩,
⟨some 13, (some (10, false)), .bin .gtr (.t 11) (.t 12)⟩,
tq 14 (.pick (.t 10) (.k (.d (.bool true))) (.t 13))] [0, 1, 2, 7, 8, 9, 10, 11, 12, 13])
(.cond (.t 14) (.seq (.reg false [
tq 6 (.mv (kq 3))] [])
.ret)
 .skip))
(.seq (.reg false [
tq 6 (.mv (kq 0))] [])
.ret)))⟩

def c_calendar_checkDay : CF := ⟨[.tmp 2],
  (.seq (.reg false [
tq 2 (.mv (kq 0))] [2])
(.seq (.reg false [
tq 3 (.mv (.t 0)),
tq 4 (.call false true (.k (.fn n_calendar_within [] [])) [.t 3, kq 0, kq 99999]),
tq 2 (.mv (.t 4))] [0, 3, 4])
.ret))⟩

def b_calendar_date_1 : C :=
  (.seq (.seq (.reg false [
tq 5 (.mv (.t 0)),
tq 6 (.idxAddrA 3 1 (.t 3) (kq 0)),
ld 7 6,
tq 8 (.call false true (.k (.fn n_calendar_span [] [])) [.t 7]),
tq 9 (.bin .geq (.t 5) (.t 8))] [5, 6, 7, 8])
(.cond (.t 9) .skip
 (.exit 0)))
(.block 1 (.seq (.reg false [
tq 10 (.mv (.t 0)),
tq 11 (.idxAddrA 3 1 (.t 3) (kq 0)),
ld 12 11,
tq 13 (.call false true (.k (.fn n_calendar_span [] [])) [.t 12]),
tq 14 (.bin .sub (.t 10) (.t 13)),
tq 0 (.mv (.t 14))] [10, 11, 12, 13, 14])
(.reg false [
tq 15 (.idxAddrA 3 1 (.t 3) (kq 0)),
ld 16 15,
tq 17 (.bin .add (.t 16) (kq 1)),
tq 18 (.idxAddrA 3 1 (.t 3) (kq 0)),
⟨none, none, .store 1 (.t 18) (.t 17)⟩] [15, 16, 17, 18]))))

def b_calendar_date_2 : C :=
  (.seq (.seq (.reg false [
tq 19 (.mv (.t 0)),
tq 20 (.idxAddrA 3 1 (.t 3) (kq 0)),
ld 21 20,
tq 22 (.idxAddrA 3 1 (.t 3) (kq 1)),
ld 23 22,
tq 24 (.call false true (.k (.fn n_calendar_length [] [])) [.t 21, .t 23]),
tq 25 (.bin .geq (.t 19) (.t 24))] [19, 20, 21, 22, 23, 24])
(.cond (.t 25) .skip
 (.exit 2)))
(.block 3 (.seq (.reg false [
tq 26 (.mv (.t 0)),
tq 27 (.idxAddrA 3 1 (.t 3) (kq 0)),
ld 28 27,
tq 29 (.idxAddrA 3 1 (.t 3) (kq 1)),
ld 30 29,
tq 31 (.call false true (.k (.fn n_calendar_length [] [])) [.t 28, .t 30]),
tq 32 (.bin .sub (.t 26) (.t 31)),
tq 0 (.mv (.t 32))] [26, 27, 28, 29, 30, 31, 32])
(.reg false [
tq 33 (.idxAddrA 3 1 (.t 3) (kq 1)),
ld 34 33,
tq 35 (.bin .add (.t 34) (kq 1)),
tq 36 (.idxAddrA 3 1 (.t 3) (kq 1)),
⟨none, none, .store 1 (.t 36) (.t 35)⟩] [33, 34, 35, 36]))))

def c_calendar_date : CF := ⟨[.cell 2 (some 3)],
  (.seq (.reg false [
tq 2 (.alloc ty_3_int [.z (.int .i64 0), .z (.int .i64 0), .z (.int .i64 0)])] [])
(.seq (.reg false [
tq 4 (.build [.z (.int .i64 0), .z (.int .i64 0), .z (.int .i64 0)] [(0, 1, kq 2000), (1, 1, kq 1), (2, 1, kq 1)]),
tq 3 (.alloc ty_3_int [.z (.int .i64 0), .z (.int .i64 0), .z (.int .i64 0)]),
⟨none, none, .store 3 (.t 3) (.t 4)⟩] [4])
(.seq (.block 0 (.loop [0, 2, 3] b_calendar_date_1))
(.seq (.block 2 (.loop [0, 2, 3] b_calendar_date_2))
(.seq (.reg false [
tq 37 (.idxAddrA 3 1 (.t 3) (kq 2)),
ld 38 37,
tq 39 (.mv (.t 0)),
tq 40 (.bin .add (.t 38) (.t 39)),
tq 41 (.idxAddrA 3 1 (.t 3) (kq 2)),
⟨none, none, .store 1 (.t 41) (.t 40)⟩] [0, 37, 38, 39, 40, 41])
(.seq (.reg false [
tq 42 (.load (some 3) (.t 3)),
⟨none, none, .store 3 (.t 2) (.t 42)⟩] [3, 42])
.ret))))))⟩

def c_calendar_two : CF := ⟨[.tmp 2],
  (.seq (.reg false [
tq 2 (.mv (.k (.d (.str []))))] [2])
(.seq (.reg false [
tq 3 (.mv (.t 0)),
tq 4 (.bin .quo (.t 3) (kq 10)),
tq 5 (.call false true (.k (.fn n_strconv_Itoa [] [])) [.t 4]),
tq 6 (.mv (.t 0)),
tq 7 (.bin .rem (.t 6) (kq 10)),
tq 8 (.call false true (.k (.fn n_strconv_Itoa [] [])) [.t 7]),
tq 9 (.bin .add (.t 5) (.t 8)),
tq 2 (.mv (.t 9))] [0, 3, 4, 5, 6, 7, 8, 9])
.ret))⟩

def c_calendar_weekday : CF := ⟨[.tmp 2],
  (.seq (.reg false [
tq 2 (.mv (kq 0))] [2])
(.seq (.reg false [
tq 3 (.mv (.t 0)),
tq 4 (.bin .add (.t 3) (kq 5)),
tq 5 (.bin .rem (.t 4) (kq 7)),
tq 2 (.mv (.t 5))] [0, 3, 4, 5])
.ret))⟩

def c_calendar_CheckPeriod : CF := ⟨[.tmp 2],
  (.seq (.reg false [
tq 1 (.box ty_api_Period (.t 0)),
tq 2 (.mv (kq 0))] [0, 2])
(.seq (.seq (.reg true [
fa 4 0 1,
ld 5 4,
tq 6 (.call false true (.k (.fn n_calendar_checkDay [] [])) [.t 5]),
fa 7 1 1,
ld 8 7,
tq 9 (.call false true (.k (.fn n_calendar_checkDay [] [])) [.t 8]),
tq 10 (.mkList 1 2 [.t 6, .t 9]),
tq 11 (.call false true (.k (.fn n_calendar_first [] [])) [.t 10]),
tq 3 (.mv (.t 11))] [4, 5, 6, 7, 8, 9, 10, 11])
(.seq (.reg false [
tq 12 (.mv (.t 3)),
tq 13 (.bin .neq (.t 12) (kq 0))] [12])
(.cond (.t 13) (.seq (.reg false [
tq 14 (.mv (.t 3)),
tq 2 (.mv (.t 14))] [3, 14])
.ret)
 .skip)))
(.seq (.reg true [
fa 15 1 1,
ld 16 15,
fa 17 0 1,
ld 18 17,
tq 19 (.bin .lss (.t 16) (.t 18)),
tq 20 (.call false true (.k (.fn n_calendar_when [] [])) [.t 19, kq 11]),
fa 21 1 1,
ld 22 21,
fa 23 0 1,
ld 24 23,
tq 25 (.bin .sub (.t 22) (.t 24)),
tq 26 (.bin .gtr (.t 25) (kq 400)),
tq 27 (.call false true (.k (.fn n_calendar_when [] [])) [.t 26, kq 4]),
fa 28 2 1,
ld 29 28,
tq 30 (.call false true (.k (.fn n_calendar_within [] [])) [.t 29, kq 1, kq 127]),
tq 31 (.mkList 1 3 [.t 20, .t 27, .t 30]),
tq 32 (.call false true (.k (.fn n_calendar_first [] [])) [.t 31]),
tq 2 (.mv (.t 32))] [1, 15, 16, 17, 18, 19, 20, 21, 22, 23, 24, 25, 26, 27, 28, 29, 30, 31, 32])
.ret)))⟩

def b_calendar_collected_int_1 : C :=
  (.reg false [
tq 6 (.mv (.t 8))] [8])

def b_calendar_collected_int_2 : C :=
  (.block 1 (.seq (.reg false [
ld 9 3,
tq 10 (.mv (.t 6)),
tq 11 (.call true true (.t 9) [.t 10])] [3, 9, 10])
(.cond (.t 11) (.reg false [
ld 12 5,
tq 13 (.mv (.t 6)),
tq 14 (.mkList 1 1 [.t 13]),
tq 15 (.append ⟨false, ty_int, 1, 8⟩ (.t 12) (.t 14)),
⟨none, none, .store 1 (.t 5) (.t 15)⟩] [5, 6, 12, 13, 14, 15])
 .skip)))

def c_calendar_collected_int : CF := ⟨[.tmp 4],
  (.seq (.reg false [
tq 3 (.box ty_func_int_bool (.t 1)),
tq 4 (.ownNil ⟨false, ty_int, 1, 8⟩)] [1])
(.seq (.reg false [
tq 5 (.alloc ty_Lint [.own ⟨false, ty_int, 1, 8⟩])] [])
(.seq (.seq (.reg false [
tq 7 (.mv (.t 0))] [0])
(.block 0 (.rangeFn 18 (.t 7) [8] b_calendar_collected_int_1 b_calendar_collected_int_2)))
(.seq (.reg false [
ld 16 5,
tq 4 (.mv (.t 16))] [5, 16])
.ret))))⟩

def c_calendar_daysOf : CF := ⟨[.tmp 2],
  (.seq (.reg false [
tq 1 (.box ty_api_Period (.t 0)),
tq 2 (.mv (.k (.d (.nilf))))] [0, 2])
(.seq (.reg false [
tq 3 (.mkFunc n_calendar_daysOf_1 [] [.t 1]),
tq 2 (.mv (.t 3))] [1, 3])
.ret))⟩

def c_calendar_DaysOf_1 : CF := ⟨[.tmp 2],
  (.seq (.reg false [
tq 2 (.mv (.k (.d (.bool false))))] [2])
(.seq (.reg false [
tq 2 (.mv (.k (.d (.bool true))))] [])
.ret))⟩

def c_calendar_Meet_1 : CF := ⟨[.tmp 3],
  (.seq (.reg false [
tq 3 (.mv (.k (.d (.bool false))))] [3])
(.seq (.reg false [
tq 4 (.load (some 3) (.t 1)),
tq 5 (.mv (.t 0)),
tq 6 (.call false true (.k (.fn n_calendar_has [] [])) [.t 4, .t 5]),
tq 3 (.mv (.t 6))] [0, 1, 4, 5, 6])
.ret))⟩

def c_calendar_has : CF := ⟨[.tmp 4],
  (.seq (.reg false [
tq 2 (.box ty_api_Period (.t 0)),
tq 4 (.mv (.k (.d (.bool false))))] [0, 4])
(.seq (.reg true [
tq 5 (.mv (.t 1)),
fa 6 0 2,
ld 7 6,
tq 8 (.bin .geq (.t 5) (.t 7)),
tq 9 (.mv (.t 8)),
⟨some 10, (some (9, true)), .mv (.t 1)⟩,
⟨some 11, (some (9, true)), .fieldAddr 1 (.t 2)⟩,
⟨some 12, (some (9, true)), .load none (.t 11)⟩,
⟨some 13, (some (9, true)), .bin .leq (.t 10) (.t 12)⟩,
tq 14 (.pick (.t 9) (.t 13) (.k (.d (.bool false)))),
tq 15 (.mv (.t 14)),
⟨some 16, (some (15, true)), .fieldAddr 2 (.t 2)⟩,
⟨some 17, (some (15, true)), .load none (.t 16)⟩,
⟨some 18, (some (15, true)), .mv (.t 1)⟩,
⟨some 19, (some (15, true)), .call false true (.k (.fn n_calendar_weekday [] [])) [.t 18]⟩,
⟨some 20, (some (15, true)), .call false true (.k (.fn n_calendar_inMask [] [])) [.t 17, .t 19]⟩,
tq 21 (.pick (.t 15) (.t 20) (.k (.d (.bool false)))),
tq 4 (.mv (.t 21))] [1, 2, 5, 6, 7, 8, 9, 10, 11, 12, 13, 14, 15, 16, 17, 18, 19, 20, 21])
.ret))⟩

def c_calendar_weekOf : CF := ⟨[.tmp 2],
  (.seq (.reg false [
tq 2 (.mv (kq 0))] [2])
(.seq (.reg false [
tq 3 (.mv (.t 0)),
tq 4 (.bin .add (.t 3) (kq 5)),
tq 5 (.bin .quo (.t 4) (kq 7)),
tq 2 (.mv (.t 5))] [0, 3, 4, 5])
.ret))⟩

def c_slices_Clip_Lapi_Period_api_Period : CF := ⟨[.tmp 2],
  (.seq (.reg false [
tq 2 (.mv (.k (.d (.list 0 []))))] [2])
(.seq (.reg false [
tq 3 (.mv (.t 0)),
tq 4 (.mv (.t 0)),
tq 5 (.len .slc (.t 4)),
tq 6 (.mv (.t 0)),
tq 7 (.len .slc (.t 6)),
tq 8 (.slice 3 (.t 3) none (some (.t 5)) (some (.t 7))),
tq 2 (.mv (.t 8))] [0, 3, 4, 5, 6, 7, 8])
.ret))⟩

def c_calendar_span : CF := ⟨[.tmp 2],
  (.seq (.reg false [
tq 2 (.mv (kq 0))] [2])
(.seq (.seq (.reg false [
tq 3 (.mv (.t 0)),
tq 4 (.call false true (.k (.fn n_calendar_leap [] [])) [.t 3])] [0, 3])
(.cond (.t 4) (.seq (.reg false [
tq 2 (.mv (kq 366))] [])
.ret)
 .skip))
(.seq (.reg false [
tq 2 (.mv (kq 365))] [])
.ret)))⟩

def c_calendar_leap : CF := ⟨[.tmp 2],
  (.seq (.reg false [
tq 2 (.mv (.k (.d (.bool false))))] [2])
(.seq (.reg false [
tq 3 (.mv (.t 0)),
tq 4 (.bin .rem (.t 3) (kq 4)),
tq 5 (.bin .eql (.t 4) (kq 0)),
tq 6 (.mv (.t 5)),
⟨some 7, (some (6, true)), .mv (.t 0)⟩,
⟨some 8, (some (6, true)), .bin .rem (.t 7) (kq 100)⟩,
⟨some 9, (some (6, true)), .bin .neq (.t 8) (kq 0)⟩,
⟨some 10, (some (6, true)), .mv (.t 9)⟩,
⟨some 11, (some (10, false)), .mv (.t 0)⟩,
⟨some 12, (some (10, false)), .bin .rem (.t 11) (kq 400)⟩,
⟨some 13, (some (10, false)), .bin .eql (.t 12) (kq 0)⟩,
⟨some 14, (some (6, true)), .pick (.t 10) (.k (.d (.bool true))) (.t 13)⟩,
tq 15 (.pick (.t 6) (.t 14) (.k (.d (.bool false)))),
tq 2 (.mv (.t 15))] [0, 3, 4, 5, 6, 7, 8, 9, 10, 11, 12, 13, 14, 15])
.ret))⟩

def c_calendar_digits : CF := ⟨[.tmp 2],
  (.seq (.reg false [
tq 2 (.mv (.k (.d (.bool false))))] [2])
(.seq (.reg false [
tq 3 (.mv (.t 0)),
tq 4 (.call false true (.k (.fn n_strings_Trim [] [])) [.t 3, .k (.d (.str [48, 49, 50, 51, 52, 53, 54, 55, 56, 57]))]),
tq 5 (.bin .eql (.t 4) (.k (.d (.str [])))),
tq 2 (.mv (.t 5))] [0, 3, 4, 5])
.ret))⟩

def c_calendar_earliest : CF := ⟨[.cell 0 (some 2)],
  (.seq (.reg false [
tq 0 (.alloc ty_calendar_Season [.z (.int .i64 0), .z (.str [])])] [])
(.seq (.reg false [
tq 1 (.build [.z (.int .i64 0), .z (.str [])] [(0, 1, kq 2000), (1, 1, .k (.d (.str [83])))]),
⟨none, none, .store 2 (.t 0) (.t 1)⟩] [1])
.ret))⟩

def c_calendar_latest : CF := ⟨[.cell 0 (some 2)],
  (.seq (.reg false [
tq 0 (.alloc ty_calendar_Season [.z (.int .i64 0), .z (.str [])])] [])
(.seq (.reg false [
tq 1 (.build [.z (.int .i64 0), .z (.str [])] [(0, 1, kq 2272), (1, 1, .k (.d (.str [87])))]),
⟨none, none, .store 2 (.t 0) (.t 1)⟩] [1])
.ret))⟩

def b_calendar_daysOf_1_1 : C :=
  (.seq (.seq (.reg false [
tq 6 (.mv (.t 3)),
fa 7 1 1,
ld 8 7,
tq 9 (.bin .leq (.t 6) (.t 8))] [6, 7, 8])
(.cond (.t 9) .skip
 (.exit 0)))
(.seq (.block 1 (.seq (.reg true [
fa 12 2 1,
ld 13 12,
tq 14 (.mv (.t 3)),
tq 15 (.call false true (.k (.fn n_calendar_weekday [] [])) [.t 14]),
tq 16 (.call false true (.k (.fn n_calendar_inMask [] [])) [.t 13, .t 15]),
tq 17 (.mv (.t 16)),
⟨some 18, (some (17, true)), .mv (.t 0)⟩,
⟨some 19, (some (17, true)), .mv (.t 3)⟩,
⟨some 20, (some (17, true)), .call true true (.t 18) [.t 19]⟩,
⟨some 21, (some (17, true)), .un .not (.t 20)⟩,
tq 22 (.pick (.t 17) (.t 21) (.k (.d (.bool false))))] [12, 13, 14, 15, 16, 17, 18, 19, 20, 21])
(.cond (.t 22) .ret
 .skip)))
(.reg false [
tq 10 (.mv (.t 3)),
tq 11 (.bin .add (.t 10) (kq 1)),
tq 3 (.mv (.t 11))] [10, 11])))

def c_calendar_daysOf_1 : CF := ⟨[],
  (.seq (.reg false [
fa 4 0 1,
ld 5 4,
tq 3 (.mv (.t 5))] [4, 5])
(.block 0 (.loop [0, 1, 3] b_calendar_daysOf_1_1)))⟩

def c_calendar_inMask : CF := ⟨[.tmp 4],
  (.seq (.reg false [
tq 4 (.mv (.k (.d (.bool false))))] [4])
(.seq (.reg false [
tq 5 (.mv (.t 0)),
tq 6 (.mv (.t 1)),
tq 7 (.bin .shr (.t 5) (.t 6)),
tq 8 (.bin .and (.t 7) (kq 1)),
tq 9 (.bin .eql (.t 8) (kq 1)),
tq 4 (.mv (.t 9))] [0, 1, 5, 6, 7, 8, 9])
.ret))⟩

def c_cmp_Less_int : CF := ⟨[.tmp 4],
  (.seq (.reg false [
tq 4 (.mv (.k (.d (.bool false))))] [4])
(.seq (.reg false [
tq 5 (.mv (.t 0)),
tq 6 (.call false true (.k (.fn n_cmp_isNaN_int [] [])) [.t 5]),
tq 7 (.mv (.t 6)),
⟨some 8, (some (7, true)), .mv (.t 1)⟩,
⟨some 9, (some (7, true)), .call false true (.k (.fn n_cmp_isNaN_int [] [])) [.t 8]⟩,
⟨some 10, (some (7, true)), .un .not (.t 9)⟩,
tq 11 (.pick (.t 7) (.t 10) (.k (.d (.bool false)))),
tq 12 (.mv (.t 11)),
⟨some 13, (some (12, false)), .mv (.t 0)⟩,
⟨some 14, (some (12, false)), .mv (.t 1)⟩,
⟨some 15, (some (12, false)), .bin .lss (.t 13) (.t 14)⟩,
tq 16 (.pick (.t 12) (.k (.d (.bool true))) (.t 15)),
tq 4 (.mv (.t 16))] [0, 1, 5, 6, 7, 8, 9, 10, 11, 12, 13, 14, 15, 16])
.ret))⟩

def c_cmp_isNaN_int : CF := ⟨[.tmp 2],
  (.seq (.reg false [
tq 2 (.mv (.k (.d (.bool false))))] [2])
(.seq (.reg false [
tq 3 (.mv (.t 0)),
tq 4 (.mv (.t 0)),
tq 5 (.bin .neq (.t 3) (.t 4)),
tq 2 (.mv (.t 5))] [0, 3, 4, 5])
.ret))⟩

def c_strings_IndexByte : CF := ⟨[.tmp 4],
  (.seq (.reg false [
tq 4 (.mv (kq 0))] [4])
(.seq (.reg false [
tq 5 (.mv (.t 0)),
tq 6 (.mv (.t 1)),
tq 7 (.call false true (.k (.fn n_internal_stringslite_IndexByte [] [])) [.t 5, .t 6]),
tq 4 (.mv (.t 7))] [0, 1, 5, 6, 7])
.ret))⟩

def codes : List (Nat × CF) := [
  (n_top_TopBeaconNoons, c_top_TopBeaconNoons),
  (n_top_TopBeaconYears, c_top_TopBeaconYears),
  (n_top_TopBeaconMasks, c_top_TopBeaconMasks),
  (n_calendar_Summer, c_calendar_Summer),
  (n_calendar_Day, c_calendar_Day),
  (n_calendar_Span, c_calendar_Span),
  (n_calendar_Universal, c_calendar_Universal),
  (n_calendar_Local, c_calendar_Local),
  (n_top_beaconDay, c_top_beaconDay),
  (n_ref01_CheckDay, c_ref01_CheckDay),
  (n_calendar_PrintDate, c_calendar_PrintDate),
  (n_calendar_Date, c_calendar_Date),
  (n_calendar_Weekday, c_calendar_Weekday),
  (n_ref01_CheckPeriod, c_ref01_CheckPeriod),
  (n_calendar_DaysOf, c_calendar_DaysOf),
  (n_calendar_Meet, c_calendar_Meet),
  (n_ref01_HasInt, c_ref01_HasInt),
  (n_calendar_Join, c_calendar_Join),
  (n_calendar_Count, c_calendar_Count),
  (n_calendar_first, c_calendar_first),
  (n_calendar_within, c_calendar_within),
  (n_calendar_when, c_calendar_when),
  (n_calendar_lastSunday, c_calendar_lastSunday),
  (n_calendar_number, c_calendar_number),
  (n_calendar_length, c_calendar_length),
  (n_calendar_CheckSeason, c_calendar_CheckSeason),
  (n_calendar_Season_begin, c_calendar_Season_begin),
  (n_calendar_Season_next, c_calendar_Season_next),
  (n_calendar_CheckZone, c_calendar_CheckZone),
  (n_calendar_checkMoment, c_calendar_checkMoment),
  (n_calendar_Zone_at, c_calendar_Zone_at),
  (n_slices_Compact_Lint_int, c_slices_Compact_Lint_int),
  (n_calendar_ParseDate, c_calendar_ParseDate),
  (n_calendar_SeasonOf, c_calendar_SeasonOf),
  (n_ref01_SameInts, c_ref01_SameInts),
  (n_ref01_CheckRange, c_ref01_CheckRange),
  (n_calendar_checkDay, c_calendar_checkDay),
  (n_calendar_date, c_calendar_date),
  (n_calendar_two, c_calendar_two),
  (n_calendar_weekday, c_calendar_weekday),
  (n_calendar_CheckPeriod, c_calendar_CheckPeriod),
  (n_calendar_collected_int, c_calendar_collected_int),
  (n_calendar_daysOf, c_calendar_daysOf),
  (n_calendar_DaysOf_1, c_calendar_DaysOf_1),
  (n_calendar_Meet_1, c_calendar_Meet_1),
  (n_calendar_has, c_calendar_has),
  (n_calendar_weekOf, c_calendar_weekOf),
  (n_slices_Clip_Lapi_Period_api_Period, c_slices_Clip_Lapi_Period_api_Period),
  (n_calendar_span, c_calendar_span),
  (n_calendar_leap, c_calendar_leap),
  (n_calendar_digits, c_calendar_digits),
  (n_calendar_earliest, c_calendar_earliest),
  (n_calendar_latest, c_calendar_latest),
  (n_calendar_daysOf_1, c_calendar_daysOf_1),
  (n_calendar_inMask, c_calendar_inMask),
  (n_cmp_Less_int, c_cmp_Less_int),
  (n_cmp_isNaN_int, c_cmp_isNaN_int),
  (n_strings_IndexByte, c_strings_IndexByte)]

def code (f : Nat) : Option CF := findC f codes

theorem code_top_TopBeaconNoons : code n_top_TopBeaconNoons = some c_top_TopBeaconNoons := rfl
theorem code_top_TopBeaconYears : code n_top_TopBeaconYears = some c_top_TopBeaconYears := rfl
theorem code_top_TopBeaconMasks : code n_top_TopBeaconMasks = some c_top_TopBeaconMasks := rfl
theorem code_calendar_Summer : code n_calendar_Summer = some c_calendar_Summer := rfl
theorem code_calendar_Day : code n_calendar_Day = some c_calendar_Day := rfl
theorem code_calendar_Span : code n_calendar_Span = some c_calendar_Span := rfl
theorem code_calendar_Universal : code n_calendar_Universal = some c_calendar_Universal := rfl
theorem code_calendar_Local : code n_calendar_Local = some c_calendar_Local := rfl
theorem code_top_beaconDay : code n_top_beaconDay = some c_top_beaconDay := rfl
theorem code_ref01_CheckDay : code n_ref01_CheckDay = some c_ref01_CheckDay := rfl
theorem code_calendar_PrintDate : code n_calendar_PrintDate = some c_calendar_PrintDate := rfl
theorem code_calendar_Date : code n_calendar_Date = some c_calendar_Date := rfl
theorem code_calendar_Weekday : code n_calendar_Weekday = some c_calendar_Weekday := rfl
theorem code_ref01_CheckPeriod : code n_ref01_CheckPeriod = some c_ref01_CheckPeriod := rfl
theorem code_calendar_DaysOf : code n_calendar_DaysOf = some c_calendar_DaysOf := rfl
theorem code_calendar_Meet : code n_calendar_Meet = some c_calendar_Meet := rfl
theorem code_ref01_HasInt : code n_ref01_HasInt = some c_ref01_HasInt := rfl
theorem code_calendar_Join : code n_calendar_Join = some c_calendar_Join := rfl
theorem code_calendar_Count : code n_calendar_Count = some c_calendar_Count := rfl
theorem code_calendar_first : code n_calendar_first = some c_calendar_first := rfl
theorem code_calendar_within : code n_calendar_within = some c_calendar_within := rfl
theorem code_calendar_when : code n_calendar_when = some c_calendar_when := rfl
theorem code_calendar_lastSunday : code n_calendar_lastSunday = some c_calendar_lastSunday := rfl
theorem code_calendar_number : code n_calendar_number = some c_calendar_number := rfl
theorem code_calendar_length : code n_calendar_length = some c_calendar_length := rfl
theorem code_calendar_CheckSeason : code n_calendar_CheckSeason = some c_calendar_CheckSeason := rfl
theorem code_calendar_Season_begin : code n_calendar_Season_begin = some c_calendar_Season_begin := rfl
theorem code_calendar_Season_next : code n_calendar_Season_next = some c_calendar_Season_next := rfl
theorem code_calendar_CheckZone : code n_calendar_CheckZone = some c_calendar_CheckZone := rfl
theorem code_calendar_checkMoment : code n_calendar_checkMoment = some c_calendar_checkMoment := rfl
theorem code_calendar_Zone_at : code n_calendar_Zone_at = some c_calendar_Zone_at := rfl
theorem code_slices_Compact_Lint_int : code n_slices_Compact_Lint_int = some c_slices_Compact_Lint_int := rfl
theorem code_calendar_ParseDate : code n_calendar_ParseDate = some c_calendar_ParseDate := rfl
theorem code_calendar_SeasonOf : code n_calendar_SeasonOf = some c_calendar_SeasonOf := rfl
theorem code_ref01_SameInts : code n_ref01_SameInts = some c_ref01_SameInts := rfl
theorem code_ref01_CheckRange : code n_ref01_CheckRange = some c_ref01_CheckRange := rfl
theorem code_calendar_checkDay : code n_calendar_checkDay = some c_calendar_checkDay := rfl
theorem code_calendar_date : code n_calendar_date = some c_calendar_date := rfl
theorem code_calendar_two : code n_calendar_two = some c_calendar_two := rfl
theorem code_calendar_weekday : code n_calendar_weekday = some c_calendar_weekday := rfl
theorem code_calendar_CheckPeriod : code n_calendar_CheckPeriod = some c_calendar_CheckPeriod := rfl
theorem code_calendar_collected_int : code n_calendar_collected_int = some c_calendar_collected_int := rfl
theorem code_calendar_daysOf : code n_calendar_daysOf = some c_calendar_daysOf := rfl
theorem code_calendar_DaysOf_1 : code n_calendar_DaysOf_1 = some c_calendar_DaysOf_1 := rfl
theorem code_calendar_Meet_1 : code n_calendar_Meet_1 = some c_calendar_Meet_1 := rfl
theorem code_calendar_has : code n_calendar_has = some c_calendar_has := rfl
theorem code_calendar_weekOf : code n_calendar_weekOf = some c_calendar_weekOf := rfl
theorem code_slices_Clip_Lapi_Period_api_Period : code n_slices_Clip_Lapi_Period_api_Period = some c_slices_Clip_Lapi_Period_api_Period := rfl
theorem code_calendar_span : code n_calendar_span = some c_calendar_span := rfl
theorem code_calendar_leap : code n_calendar_leap = some c_calendar_leap := rfl
theorem code_calendar_digits : code n_calendar_digits = some c_calendar_digits := rfl
theorem code_calendar_earliest : code n_calendar_earliest = some c_calendar_earliest := rfl
theorem code_calendar_latest : code n_calendar_latest = some c_calendar_latest := rfl
theorem code_calendar_daysOf_1 : code n_calendar_daysOf_1 = some c_calendar_daysOf_1 := rfl
theorem code_calendar_inMask : code n_calendar_inMask = some c_calendar_inMask := rfl
theorem code_cmp_Less_int : code n_cmp_Less_int = some c_cmp_Less_int := rfl
theorem code_cmp_isNaN_int : code n_cmp_isNaN_int = some c_cmp_isNaN_int := rfl
theorem code_strings_IndexByte : code n_strings_IndexByte = some c_strings_IndexByte := rfl

def globs : Globs := [(0, [.int .i64 31, .int .i64 28, .int .i64 31, .int .i64 30, .int .i64 31, .int .i64 30, .int .i64 31, .int .i64 31, .int .i64 30, .int .i64 31, .int .i64 30, .int .i64 31]), (3, [.int .u64 1, .int .u64 10, .int .u64 100, .int .u64 1000, .int .u64 10000, .int .u64 100000, .int .u64 1000000, .int .u64 10000000, .int .u64 100000000, .int .u64 1000000000, .int .u64 10000000000, .int .u64 100000000000, .int .u64 1000000000000, .int .u64 10000000000000, .int .u64 100000000000000, .int .u64 1000000000000000, .int .u64 10000000000000000, .int .u64 100000000000000000, .int .u64 1000000000000000000, .int .u64 10000000000000000000])]

end Go.Proofs.YtddpjjaebkaggabGreatDoor.Co
