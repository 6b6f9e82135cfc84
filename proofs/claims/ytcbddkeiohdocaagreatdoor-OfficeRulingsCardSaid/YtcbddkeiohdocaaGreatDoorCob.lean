/-
  The functions of the seat in the evaluator's syntax (printed by a program of mine; checked in a text that follows).
-/
import Derived.Test.YtcbddkeiohdocaaGreatDoorCoa
namespace Go.Proofs.YtcbddkeiohdocaaGreatDoor.Co
open Go.Evl

def b_slices_partitionCmpFunc_office_Note_1:C:=
  (.seq (.seq (.reg true [
mq 32 12,
mq 33 13,
tq 34 (.bin .leq (.t 32) (.t 33)),
mq 35 34,
gq 36 35 true (.mv (.t 4)),
gq 37 35 true (.mv (.t 0)),
gq 38 35 true (.mv (.t 12)),
gq 39 35 true (.idxAddr 4 (.t 37) (.t 38)),
gq 40 35 true (.load (some 4) (.t 39)),
gq 41 35 true (.mv (.t 0)),
gq 42 35 true (.mv (.t 1)),
gq 43 35 true (.idxAddr 4 (.t 41) (.t 42)),
gq 44 35 true (.load (some 4) (.t 43)),
gq 45 35 true (.call true true (.t 36) [.t 40,.t 44]),
gq 46 35 true (.bin .lss (.t 45) (kq 0)),
tq 47 (.pick (.t 35) (.t 46) (.k (.d (.bool false))))] [32,33,34,35,36,37,38,39,40,41,42,43,44,45,46])
(.cond (.t 47) .skip
 (.exit 0)))
(.block 1 (rg [
mq 48 12,
tq 49 (.bin .add (.t 48) (kq 1)),
mq 12 49] [48,49])))

def b_slices_partitionCmpFunc_office_Note_2:C:=
  (.seq (.seq (.reg true [
mq 50 12,
mq 51 13,
tq 52 (.bin .leq (.t 50) (.t 51)),
mq 53 52,
gq 54 53 true (.mv (.t 4)),
gq 55 53 true (.mv (.t 0)),
gq 56 53 true (.mv (.t 13)),
gq 57 53 true (.idxAddr 4 (.t 55) (.t 56)),
gq 58 53 true (.load (some 4) (.t 57)),
gq 59 53 true (.mv (.t 0)),
gq 60 53 true (.mv (.t 1)),
gq 61 53 true (.idxAddr 4 (.t 59) (.t 60)),
gq 62 53 true (.load (some 4) (.t 61)),
gq 63 53 true (.call true true (.t 54) [.t 58,.t 62]),
gq 64 53 true (.bin .lss (.t 63) (kq 0)),
gq 65 53 true (.un .not (.t 64)),
tq 66 (.pick (.t 53) (.t 65) (.k (.d (.bool false))))] [50,51,52,53,54,55,56,57,58,59,60,61,62,63,64,65])
(.cond (.t 66) .skip
 (.exit 2)))
(.block 3 (rg [
mq 67 13,
tq 68 (.bin .sub (.t 67) (kq 1)),
mq 13 68] [67,68])))

def b_slices_partitionCmpFunc_office_Note_3:C:=
  (.seq (.seq (.reg true [
mq 105 12,
mq 106 13,
tq 107 (.bin .leq (.t 105) (.t 106)),
mq 108 107,
gq 109 108 true (.mv (.t 4)),
gq 110 108 true (.mv (.t 0)),
gq 111 108 true (.mv (.t 12)),
gq 112 108 true (.idxAddr 4 (.t 110) (.t 111)),
gq 113 108 true (.load (some 4) (.t 112)),
gq 114 108 true (.mv (.t 0)),
gq 115 108 true (.mv (.t 1)),
gq 116 108 true (.idxAddr 4 (.t 114) (.t 115)),
gq 117 108 true (.load (some 4) (.t 116)),
gq 118 108 true (.call true true (.t 109) [.t 113,.t 117]),
gq 119 108 true (.bin .lss (.t 118) (kq 0)),
tq 120 (.pick (.t 108) (.t 119) (.k (.d (.bool false))))] [105,106,107,108,109,110,111,112,113,114,115,116,117,118,119])
(.cond (.t 120) .skip
 (.exit 6)))
(.block 7 (rg [
mq 121 12,
tq 122 (.bin .add (.t 121) (kq 1)),
mq 12 122] [121,122])))

def b_slices_partitionCmpFunc_office_Note_4:C:=
  (.seq (.seq (.reg true [
mq 123 12,
mq 124 13,
tq 125 (.bin .leq (.t 123) (.t 124)),
mq 126 125,
gq 127 126 true (.mv (.t 4)),
gq 128 126 true (.mv (.t 0)),
gq 129 126 true (.mv (.t 13)),
gq 130 126 true (.idxAddr 4 (.t 128) (.t 129)),
gq 131 126 true (.load (some 4) (.t 130)),
gq 132 126 true (.mv (.t 0)),
gq 133 126 true (.mv (.t 1)),
gq 134 126 true (.idxAddr 4 (.t 132) (.t 133)),
gq 135 126 true (.load (some 4) (.t 134)),
gq 136 126 true (.call true true (.t 127) [.t 131,.t 135]),
gq 137 126 true (.bin .lss (.t 136) (kq 0)),
gq 138 126 true (.un .not (.t 137)),
tq 139 (.pick (.t 126) (.t 138) (.k (.d (.bool false))))] [123,124,125,126,127,128,129,130,131,132,133,134,135,136,137,138])
(.cond (.t 139) .skip
 (.exit 8)))
(.block 9 (rg [
mq 140 13,
tq 141 (.bin .sub (.t 140) (kq 1)),
mq 13 141] [140,141])))

def b_slices_partitionCmpFunc_office_Note_5:C:=
  (.block 5 (.seq (.block 6 (.loop [0,1,4,12,13] b_slices_partitionCmpFunc_office_Note_3))
(.seq (.block 8 (.loop [0,1,4,12,13] b_slices_partitionCmpFunc_office_Note_4))
(.seq (sr [
mq 142 12,
mq 143 13,
tq 144 (.bin .gtr (.t 142) (.t 143))] [142,143]
(.cond (.t 144) (.exit 4)
 .skip))
(.seq (.reg true [
mq 145 0,
mq 146 12,
mq 147 0,
mq 148 13,
mq 149 0,
mq 150 13,
tq 151 (.idxAddr 4 (.t 149) (.t 150)),
lq 152 4 151,
mq 153 0,
mq 154 12,
tq 155 (.idxAddr 4 (.t 153) (.t 154)),
lq 156 4 155,
tq 157 (.idxAddr 4 (.t 145) (.t 146)),
⟨none,none,.store 4 (.t 157) (.t 152)⟩,
tq 158 (.idxAddr 4 (.t 147) (.t 148)),
⟨none,none,.store 4 (.t 158) (.t 156)⟩] [145,146,147,148,149,150,151,152,153,154,155,156,157,158])
(sr [
mq 159 12,
tq 160 (.bin .add (.t 159) (kq 1)),
mq 12 160] [159,160]
(rg [
mq 161 13,
tq 162 (.bin .sub (.t 161) (kq 1)),
mq 13 162] [161,162])))))))

def c_slices_partitionCmpFunc_office_Note:CF:=⟨[.tmp 10,.tmp 11],
  (sr [
tq 10 (.mv (kq 0)),
tq 11 (.mv (.k (.d (.bool false))))] [10,11]
(.seq (.reg true [
mq 14 0,
mq 15 1,
mq 16 0,
mq 17 3,
mq 18 0,
mq 19 3,
tq 20 (.idxAddr 4 (.t 18) (.t 19)),
lq 21 4 20,
mq 22 0,
mq 23 1,
tq 24 (.idxAddr 4 (.t 22) (.t 23)),
lq 25 4 24,
tq 26 (.idxAddr 4 (.t 14) (.t 15)),
⟨none,none,.store 4 (.t 26) (.t 21)⟩,
tq 27 (.idxAddr 4 (.t 16) (.t 17)),
⟨none,none,.store 4 (.t 27) (.t 25)⟩] [3,14,15,16,17,18,19,20,21,22,23,24,25,26,27])
(sr [
mq 28 1,
tq 29 (.bin .add (.t 28) (kq 1)),
mq 30 2,
tq 31 (.bin .sub (.t 30) (kq 1)),
mq 12 29,
mq 13 31] [2,28,29,30,31]
(.seq (.block 0 (.loop [0,1,4,12,13] b_slices_partitionCmpFunc_office_Note_1))
(.seq (.block 2 (.loop [0,1,4,12,13] b_slices_partitionCmpFunc_office_Note_2))
(.seq (sr [
mq 69 12,
mq 70 13,
tq 71 (.bin .gtr (.t 69) (.t 70))] [69,70]
(.cond (.t 71) (.seq (.reg true [
mq 72 0,
mq 73 13,
mq 74 0,
mq 75 1,
mq 76 0,
mq 77 1,
tq 78 (.idxAddr 4 (.t 76) (.t 77)),
lq 79 4 78,
mq 80 0,
mq 81 13,
tq 82 (.idxAddr 4 (.t 80) (.t 81)),
lq 83 4 82,
tq 84 (.idxAddr 4 (.t 72) (.t 73)),
⟨none,none,.store 4 (.t 84) (.t 79)⟩,
tq 85 (.idxAddr 4 (.t 74) (.t 75)),
⟨none,none,.store 4 (.t 85) (.t 83)⟩] [0,1,72,73,74,75,76,77,78,79,80,81,82,83,84,85])
(sr [
mq 86 13,
mq 10 86,
tq 11 (.mv (.k (.d (.bool true))))] [13,86]
.ret))
 .skip))
(.seq (.reg true [
mq 87 0,
mq 88 12,
mq 89 0,
mq 90 13,
mq 91 0,
mq 92 13,
tq 93 (.idxAddr 4 (.t 91) (.t 92)),
lq 94 4 93,
mq 95 0,
mq 96 12,
tq 97 (.idxAddr 4 (.t 95) (.t 96)),
lq 98 4 97,
tq 99 (.idxAddr 4 (.t 87) (.t 88)),
⟨none,none,.store 4 (.t 99) (.t 94)⟩,
tq 100 (.idxAddr 4 (.t 89) (.t 90)),
⟨none,none,.store 4 (.t 100) (.t 98)⟩] [87,88,89,90,91,92,93,94,95,96,97,98,99,100])
(sr [
mq 101 12,
tq 102 (.bin .add (.t 101) (kq 1)),
mq 12 102] [101,102]
(sr [
mq 103 13,
tq 104 (.bin .sub (.t 103) (kq 1)),
mq 13 104] [103,104]
(.seq (.block 4 (.loop [0,1,4,12,13] b_slices_partitionCmpFunc_office_Note_5))
(.seq (.reg true [
mq 163 0,
mq 164 13,
mq 165 0,
mq 166 1,
mq 167 0,
mq 168 1,
tq 169 (.idxAddr 4 (.t 167) (.t 168)),
lq 170 4 169,
mq 171 0,
mq 172 13,
tq 173 (.idxAddr 4 (.t 171) (.t 172)),
lq 174 4 173,
tq 175 (.idxAddr 4 (.t 163) (.t 164)),
⟨none,none,.store 4 (.t 175) (.t 170)⟩,
tq 176 (.idxAddr 4 (.t 165) (.t 166)),
⟨none,none,.store 4 (.t 176) (.t 174)⟩] [0,1,163,164,165,166,167,168,169,170,171,172,173,174,175,176])
(sr [
mq 177 13,
mq 10 177,
tq 11 (.mv (.k (.d (.bool false))))] [13,177]
.ret))))))))))))⟩

def c_math_bits_Len32:CF:=⟨[.tmp 2],
  (sr [
tq 2 (.mv (kq 0))] []
(.seq (sr [
mq 3 0,
tq 4 (.bin .geq (.t 3) (.k (.d (.int .u32 65536))))] [3]
(.cond (.t 4) (sr [
mq 5 0,
tq 6 (.bin .shr (.t 5) (.k (.d (.int .u64 16)))),
mq 0 6] [5,6]
(rg [
tq 2 (.mv (kq 16))] []))
 .skip))
(.seq (sr [
mq 7 0,
tq 8 (.bin .geq (.t 7) (.k (.d (.int .u32 256))))] [7]
(.cond (.t 8) (sr [
mq 9 0,
tq 10 (.bin .shr (.t 9) (.k (.d (.int .u64 8)))),
mq 0 10] [9,10]
(rg [
mq 11 2,
tq 12 (.bin .add (.t 11) (kq 8)),
mq 2 12] [11,12]))
 .skip))
(sr [
mq 13 2,
mq 14 0,
tq 15 (.conv .u8 (.t 14)),
tq 16 (.idxS (.k (.d (.str [0,1,2,2,3,3,3,3,4,4,4,4,4,4,4,4,5,5,5,5,5,5,5,5,5,5,5,5,5,5,5,5,6,6,6,6,6,6,6,6,6,6,6,6,6,6,6,6,6,6,6,6,6,6,6,6,6,6,6,6,6,6,6,6,7,7,7,7,7,7,7,7,7,7,7,7,7,7,7,7,7,7,7,7,7,7,7,7,7,7,7,7,7,7,7,7,7,7,7,7,7,7,7,7,7,7,7,7,7,7,7,7,7,7,7,7,7,7,7,7,7,7,7,7,7,7,7,7,8,8,8,8,8,8,8,8,8,8,8,8,8,8,8,8,8,8,8,8,8,8,8,8,8,8,8,8,8,8,8,8,8,8,8,8,8,8,8,8,8,8,8,8,8,8,8,8,8,8,8,8,8,8,8,8,8,8,8,8,8,8,8,8,8,8,8,8,8,8,8,8,8,8,8,8,8,8,8,8,8,8,8,8,8,8,8,8,8,8,8,8,8,8,8,8,8,8,8,8,8,8,8,8,8,8,8,8,8,8,8,8,8,8,8,8,8,8,8,8,8,8,8,8,8,8,8,8]))) (.t 15)),
tq 17 (.conv .i64 (.t 16)),
tq 18 (.bin .add (.t 13) (.t 17)),
mq 2 18] [0,13,14,15,16,17,18]
.ret))))⟩

def c_math_bits_Len64:CF:=⟨[.tmp 2],
  (sr [
tq 2 (.mv (kq 0))] []
(.seq (sr [
mq 3 0,
tq 4 (.bin .geq (.t 3) (.k (.d (.int .u64 4294967296))))] [3]
(.cond (.t 4) (sr [
mq 5 0,
tq 6 (.bin .shr (.t 5) (.k (.d (.int .u64 32)))),
mq 0 6] [5,6]
(rg [
tq 2 (.mv (kq 32))] []))
 .skip))
(.seq (sr [
mq 7 0,
tq 8 (.bin .geq (.t 7) (.k (.d (.int .u64 65536))))] [7]
(.cond (.t 8) (sr [
mq 9 0,
tq 10 (.bin .shr (.t 9) (.k (.d (.int .u64 16)))),
mq 0 10] [9,10]
(rg [
mq 11 2,
tq 12 (.bin .add (.t 11) (kq 16)),
mq 2 12] [11,12]))
 .skip))
(.seq (sr [
mq 13 0,
tq 14 (.bin .geq (.t 13) (.k (.d (.int .u64 256))))] [13]
(.cond (.t 14) (sr [
mq 15 0,
tq 16 (.bin .shr (.t 15) (.k (.d (.int .u64 8)))),
mq 0 16] [15,16]
(rg [
mq 17 2,
tq 18 (.bin .add (.t 17) (kq 8)),
mq 2 18] [17,18]))
 .skip))
(sr [
mq 19 2,
mq 20 0,
tq 21 (.conv .u8 (.t 20)),
tq 22 (.idxS (.k (.d (.str [0,1,2,2,3,3,3,3,4,4,4,4,4,4,4,4,5,5,5,5,5,5,5,5,5,5,5,5,5,5,5,5,6,6,6,6,6,6,6,6,6,6,6,6,6,6,6,6,6,6,6,6,6,6,6,6,6,6,6,6,6,6,6,6,7,7,7,7,7,7,7,7,7,7,7,7,7,7,7,7,7,7,7,7,7,7,7,7,7,7,7,7,7,7,7,7,7,7,7,7,7,7,7,7,7,7,7,7,7,7,7,7,7,7,7,7,7,7,7,7,7,7,7,7,7,7,7,7,8,8,8,8,8,8,8,8,8,8,8,8,8,8,8,8,8,8,8,8,8,8,8,8,8,8,8,8,8,8,8,8,8,8,8,8,8,8,8,8,8,8,8,8,8,8,8,8,8,8,8,8,8,8,8,8,8,8,8,8,8,8,8,8,8,8,8,8,8,8,8,8,8,8,8,8,8,8,8,8,8,8,8,8,8,8,8,8,8,8,8,8,8,8,8,8,8,8,8,8,8,8,8,8,8,8,8,8,8,8,8,8,8,8,8,8,8,8,8,8,8,8,8,8,8,8,8,8]))) (.t 21)),
tq 23 (.conv .i64 (.t 22)),
tq 24 (.bin .add (.t 19) (.t 23)),
mq 2 24] [0,19,20,21,22,23,24]
.ret)))))⟩

def c_slices_Grow_Lstring_string:CF:=⟨[.tmp 4],
  (sr [
tq 4 (.ownNil ⟨true,ty_string,1,16⟩)] [4]
(.seq (sr [
mq 5 1,
tq 6 (.bin .lss (.t 5) (kq 0))] [5]
(.cond (.t 6) (rg [
tq 7 (.bad),
⟨none,none,.bad⟩] [7])
 .skip))
(.seq (sr [
mq 8 1,
mq 9 0,
tq 10 (.len .cap (.t 9)),
mq 11 0,
tq 12 (.len .slc (.t 11)),
tq 13 (.bin .sub (.t 10) (.t 12)),
tq 14 (.bin .sub (.t 8) (.t 13)),
mq 1 14] [8,9,10,11,12,13,14]
(sr [
mq 15 1,
tq 16 (.bin .gtr (.t 15) (kq 0))] [15]
(.cond (.t 16) (rg [
mq 17 0,
mq 18 0,
tq 19 (.len .cap (.t 18)),
tq 20 (.slice 1 (.t 17) none (some (.t 19)) none),
mq 21 1,
tq 22 (.appendZ ⟨true,ty_string,1,16⟩ [.str []] (.t 20) (.t 21)),
mq 23 0,
tq 24 (.len .slc (.t 23)),
tq 25 (.slice 1 (.t 22) none (some (.t 24)) none),
mq 0 25] [1,17,18,19,20,21,22,23,24,25])
 .skip)))
(sr [
mq 26 0,
mq 4 26] [0,26]
.ret))))⟩

def b_slices_IndexFunc_Loffice_Complaint_office_Complaint_1:C:=
  (sr [
tq 9 (.bin .lss (.t 8) (.t 7))] []
(.seq (.cond (.t 9) .skip
 (.exit 0))
(.seq (.block 1 (sr [
mq 10 8,
mq 5 10] [10]
(sr [
mq 11 1,
mq 12 0,
mq 13 5,
tq 14 (.idxAddr 5 (.t 12) (.t 13)),
lq 15 5 14,
tq 16 (.call true true (.t 11) [.t 15])] [11,12,13,14,15]
(.cond (.t 16) (sr [
mq 17 5,
mq 4 17] [5,17]
.ret)
 .skip))))
(rg [
tq 18 (.bin .add (.t 8) (kq 1)),
mq 8 18] [18]))))

def c_slices_IndexFunc_Loffice_Complaint_office_Complaint:CF:=⟨[.tmp 4],
  (sr [
tq 4 (.mv (kq 0))] [4]
(.seq (sr [
mq 6 0,
tq 7 (.len .slc (.t 6)),
tq 8 (.mv (kq 0))] [6]
(.block 0 (.loop [0,1,7,8] b_slices_IndexFunc_Loffice_Complaint_office_Complaint_1)))
(sr [
tq 4 (.mv (kq (-1)))] []
.ret)))⟩

def c_office_Register_complaint_1:CF:=⟨[.tmp 3],
  (sr [
tq 2 (.box ty_office_Complaint (.t 0)),
tq 3 (.mv (.k (.d (.bool false))))] [0,3]
(sr [
fa 4 0 2,
ld 5 4,
ld 6 1,
tq 7 (.bin .eql (.t 5) (.t 6)),
mq 3 7] [1,2,4,5,6,7]
.ret))⟩

def b_strings_indexFunc_1:C:=
  (sr [
tq 11 (.nextS (.t 10)),
xq 12 11 0] []
(.seq (.cond (.t 12) .skip
 (.exit 0))
(.block 1 (sr [
xq 13 11 1,
xq 14 11 2,
mq 7 13,
mq 8 14] [11,13,14]
(sr [
mq 15 1,
mq 16 8,
tq 17 (.call false true (.t 15) [.t 16]),
mq 18 2,
tq 19 (.eqv none false (.t 17) (.t 18))] [8,15,16,17,18]
(.cond (.t 19) (sr [
mq 20 7,
mq 6 20] [7,20]
.ret)
 .skip))))))

def c_strings_indexFunc:CF:=⟨[.tmp 6],
  (sr [
tq 6 (.mv (kq 0))] [6]
(.seq (sr [
mq 9 0,
tq 10 (.rangeS (.t 9))] [0,9]
(.block 0 (.loop [1,2,10] b_strings_indexFunc_1)))
(sr [
tq 6 (.mv (kq (-1)))] []
.ret)))⟩

def b_slices_siftDownCmpFunc_office_Note_1:C:=
  (.block 1 (sr [
mq 13 10,
tq 14 (.bin .mul (kq 2) (.t 13)),
tq 15 (.bin .add (.t 14) (kq 1)),
mq 11 15] [13,14,15]
(.seq (sr [
mq 16 11,
mq 17 2,
tq 18 (.bin .geq (.t 16) (.t 17))] [16,17]
(.cond (.t 18) (.exit 0)
 .skip))
(.seq (.seq (.reg true [
mq 19 11,
tq 20 (.bin .add (.t 19) (kq 1)),
mq 21 2,
tq 22 (.bin .lss (.t 20) (.t 21)),
mq 23 22,
gq 24 23 true (.mv (.t 4)),
gq 25 23 true (.mv (.t 0)),
gq 26 23 true (.mv (.t 3)),
gq 27 23 true (.mv (.t 11)),
gq 28 23 true (.bin .add (.t 26) (.t 27)),
gq 29 23 true (.idxAddr 4 (.t 25) (.t 28)),
gq 30 23 true (.load (some 4) (.t 29)),
gq 31 23 true (.mv (.t 0)),
gq 32 23 true (.mv (.t 3)),
gq 33 23 true (.mv (.t 11)),
gq 34 23 true (.bin .add (.t 32) (.t 33)),
gq 35 23 true (.bin .add (.t 34) (kq 1)),
gq 36 23 true (.idxAddr 4 (.t 31) (.t 35)),
gq 37 23 true (.load (some 4) (.t 36)),
gq 38 23 true (.call true true (.t 24) [.t 30,.t 37]),
gq 39 23 true (.bin .lss (.t 38) (kq 0)),
tq 40 (.pick (.t 23) (.t 39) (.k (.d (.bool false))))] [19,20,21,22,23,24,25,26,27,28,29,30,31,32,33,34,35,36,37,38,39])
(.cond (.t 40) (rg [
mq 41 11,
tq 42 (.bin .add (.t 41) (kq 1)),
mq 11 42] [41,42])
 .skip))
(.seq (.seq (.reg true [
mq 43 4,
mq 44 0,
mq 45 3,
mq 46 10,
tq 47 (.bin .add (.t 45) (.t 46)),
tq 48 (.idxAddr 4 (.t 44) (.t 47)),
lq 49 4 48,
mq 50 0,
mq 51 3,
mq 52 11,
tq 53 (.bin .add (.t 51) (.t 52)),
tq 54 (.idxAddr 4 (.t 50) (.t 53)),
lq 55 4 54,
tq 56 (.call true true (.t 43) [.t 49,.t 55]),
tq 57 (.bin .lss (.t 56) (kq 0)),
tq 58 (.un .not (.t 57))] [43,44,45,46,47,48,49,50,51,52,53,54,55,56,57])
(.cond (.t 58) .ret
 .skip))
(.seq (.reg true [
mq 59 0,
mq 60 3,
mq 61 10,
tq 62 (.bin .add (.t 60) (.t 61)),
mq 63 0,
mq 64 3,
mq 65 11,
tq 66 (.bin .add (.t 64) (.t 65)),
mq 67 0,
mq 68 3,
mq 69 11,
tq 70 (.bin .add (.t 68) (.t 69)),
tq 71 (.idxAddr 4 (.t 67) (.t 70)),
lq 72 4 71,
mq 73 0,
mq 74 3,
mq 75 10,
tq 76 (.bin .add (.t 74) (.t 75)),
tq 77 (.idxAddr 4 (.t 73) (.t 76)),
lq 78 4 77,
tq 79 (.idxAddr 4 (.t 59) (.t 62)),
⟨none,none,.store 4 (.t 79) (.t 72)⟩,
tq 80 (.idxAddr 4 (.t 63) (.t 66)),
⟨none,none,.store 4 (.t 80) (.t 78)⟩] [10,59,60,61,62,63,64,65,66,67,68,69,70,71,72,73,74,75,76,77,78,79,80])
(rg [
mq 81 11,
mq 10 81] [11,81])))))))

def c_slices_siftDownCmpFunc_office_Note:CF:=⟨[],
  (sr [
mq 12 1,
mq 10 12] [1,12]
(.block 0 (.loop [0,2,3,4,10] b_slices_siftDownCmpFunc_office_Note_1)))⟩

def c_slices_medianAdjacentCmpFunc_office_Note:CF:=⟨[.tmp 8],
  (sr [
tq 8 (.mv (kq 0))] [8]
(sr [
mq 9 0,
mq 10 1,
tq 11 (.bin .sub (.t 10) (kq 1)),
mq 12 1,
mq 13 1,
tq 14 (.bin .add (.t 13) (kq 1)),
mq 15 2,
mq 16 3,
tq 17 (.call true true (.k (.fn n_slices_medianCmpFunc_office_Note [] [])) [.t 9,.t 11,.t 12,.t 14,.t 15,.t 16]),
mq 8 17] [0,1,2,3,9,10,11,12,13,14,15,16,17]
.ret))⟩

def c_slices_medianCmpFunc_office_Note:CF:=⟨[.tmp 12],
  (sr [
tq 12 (.mv (kq 0))] [12]
(sr [
mq 14 0,
mq 15 1,
mq 16 2,
mq 17 4,
mq 18 5,
tq 19 (.call true true (.k (.fn n_slices_order2CmpFunc_office_Note [] [])) [.t 14,.t 15,.t 16,.t 17,.t 18]),
mq 13 19,
xq 20 13 0,
xq 21 13 1,
mq 1 20,
mq 2 21] [13,14,15,16,17,18,19,20,21]
(sr [
mq 23 0,
mq 24 2,
mq 25 3,
mq 26 4,
mq 27 5,
tq 28 (.call true true (.k (.fn n_slices_order2CmpFunc_office_Note [] [])) [.t 23,.t 24,.t 25,.t 26,.t 27]),
mq 22 28,
xq 29 22 0,
xq 30 22 1,
mq 2 29,
mq 3 30] [3,22,23,24,25,26,27,28,29,30]
(sr [
mq 32 0,
mq 33 1,
mq 34 2,
mq 35 4,
mq 36 5,
tq 37 (.call true true (.k (.fn n_slices_order2CmpFunc_office_Note [] [])) [.t 32,.t 33,.t 34,.t 35,.t 36]),
mq 31 37,
xq 38 31 0,
xq 39 31 1,
mq 1 38,
mq 2 39] [0,1,4,5,31,32,33,34,35,36,37,38,39]
(sr [
mq 40 2,
mq 12 40] [2,40]
.ret)))))⟩

def c_slices_order2CmpFunc_office_Note:CF:=⟨[.tmp 10,.tmp 11],
  (sr [
tq 10 (.mv (kq 0)),
tq 11 (.mv (kq 0))] [10,11]
(.seq (.seq (.reg true [
mq 12 4,
mq 13 0,
mq 14 2,
tq 15 (.idxAddr 4 (.t 13) (.t 14)),
lq 16 4 15,
mq 17 0,
mq 18 1,
tq 19 (.idxAddr 4 (.t 17) (.t 18)),
lq 20 4 19,
tq 21 (.call true true (.t 12) [.t 16,.t 20]),
tq 22 (.bin .lss (.t 21) (kq 0))] [0,4,12,13,14,15,16,17,18,19,20,21])
(.cond (.t 22) (sr [
mq 23 3,
tq 24 (.nilCheck (.t 23)),
ld 25 24,
tq 26 (.bin .add (.t 25) (kq 1)),
tq 27 (.nilCheck (.t 23)),
⟨none,none,.store 1 (.t 27) (.t 26)⟩] [3,23,24,25,26,27]
(sr [
mq 28 2,
mq 29 1,
mq 10 28,
mq 11 29] [1,2,28,29]
.ret))
 .skip))
(sr [
mq 30 1,
mq 31 2,
mq 10 30,
mq 11 31] [1,2,30,31]
.ret)))⟩


end Go.Proofs.YtcbddkeiohdocaaGreatDoor.Co
