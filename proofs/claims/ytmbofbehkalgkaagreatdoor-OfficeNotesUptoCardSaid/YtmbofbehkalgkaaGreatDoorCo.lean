/-
  The functions of the seat in the evaluator's syntax (printed by a program of mine; checked in a text that follows).
-/
import Derived.Test.YtmbofbehkalgkaaGreatDoorEvE
namespace Go.Proofs.YtmbofbehkalgkaaGreatDoor.Co
open Go.Evl
def zgm:Nat:=4
def zhd:Nat:=5
def zhe:Nat:=6
def zfa:Nat:=7
def zhc:Nat:=8
def zc3:Nat:=9
def zh8:Nat:=10
def zbu:Nat:=11
def zld:Nat:=12
def zfn:Nat:=13
def zgn:Nat:=14
def zgo:Nat:=15
def zj8:Nat:=16
def zib:Nat:=17
def zla:Nat:=18
def zcn:Nat:=19
def zef:Nat:=20
def zi1:Nat:=21
def ziz:Nat:=22
def zf5:Nat:=23
def zml:Nat:=24
def zcz:Nat:=25
def zia:Nat:=26
def zmk:Nat:=27
def zc9:Nat:=28
def zh9:Nat:=29
def zmj:Nat:=30
def znz:Nat:=31
def za8:Nat:=32
def zf6:Nat:=33
def zi0:Nat:=34
def zqj:Nat:=35
def zb8:Nat:=36
def zbx:Nat:=37
def zan:Nat:=38
def n_office_Gather_1:Nat:=39
def zny:Nat:=40
def zfw:Nat:=41
def zf4:Nat:=42
def zcv:Nat:=43
def zb1:Nat:=44
def zle:Nat:=45
def zgh:Nat:=46
def zj9:Nat:=47
def zmo:Nat:=48
def zlc:Nat:=49
def zfo:Nat:=50
def zrs:Nat:=51
def zpl:Nat:=52
def zci:Nat:=53
def zcj:Nat:=54
def za1:Nat:=55
def zbl:Nat:=56
def zdu:Nat:=57
def zd7:Nat:=58
def ze4:Nat:=59
def zlv:Nat:=60
def zlz:Nat:=61
def zhr:Nat:=62
def zet:Nat:=63
def za0:Nat:=64
def zak:Nat:=65
def zmp:Nat:=66
def zkx:Nat:=67
def zi5:Nat:=68
def zd8:Nat:=69
def zlb:Nat:=70
def zcy:Nat:=71
def zap:Nat:=72
def zaq:Nat:=73
def zeb:Nat:=76
def zn1:Nat:=77
def zn5:Nat:=78
def zka:Nat:=79
def zl0:Nat:=80
def zt1:Nat:=81
def zes:Nat:=82
def zce:Nat:=83
def zaf:Nat:=85
def zhb:Nat:=86
def ze7:Nat:=87
def zev:Nat:=88
def zaw:Nat:=90
def zru:Nat:=91
def zt0:Nat:=92
def zn4:Nat:=93
def zeg:Nat:=94
def zh6:Nat:=95
def zeh:Nat:=96
def zch:Nat:=97
def zbk:Nat:=98
def zcb:Nat:=99
def zdv:Nat:=100
def ze9:Nat:=101
def zmm:Nat:=102
def zbg:Nat:=103
def zfm:Nat:=104
def za3:Nat:=105
def zdg:Nat:=106
def zew:Nat:=107
def ziy:Nat:=108
def zgl:Nat:=109
def zha:Nat:=110
def zh7:Nat:=111
def zgv:Nat:=112
def zlw:Nat:=113
def zj6:Nat:=114
def zc2:Nat:=115
def zfz:Nat:=116
def zi6:Nat:=117
def zi7:Nat:=118
def zdq:Nat:=119
def zhs:Nat:=120
def zi8:Nat:=121
def zi9:Nat:=122
def zja:Nat:=123
def zem:Nat:=124
def zht:Nat:=125
def zc4:Nat:=126
def zhu:Nat:=127
def zcr:Nat:=129
def zgf:Nat:=130
def zat:Nat:=131
def zau:Nat:=132
def za7:Nat:=133
def zgg:Nat:=134
def zbr:Nat:=135
def za4:Nat:=136
def zbw:Nat:=137
def za5:Nat:=138
def zbm:Nat:=139
def zjb:Nat:=140
def zb7:Nat:=141
def zd0:Nat:=142
def zc5:Nat:=143
def zd1:Nat:=144
def zda:Nat:=145
def zeu:Nat:=146
def zrt:Nat:=151
def zn2:Nat:=152
def zl1:Nat:=153
def zkb:Nat:=154
def zea:Nat:=155
def zn0:Nat:=156
def zn3:Nat:=157
def zcw:Nat:=158
def zd2:Nat:=159
def zba:Nat:=160
def zco:Nat:=163
def zb9:Nat:=165
def zby:Nat:=166
def zbc:Nat:=167
def zbi:Nat:=168
def zax:Nat:=169
def zb6:Nat:=170
def zj7:Nat:=171
def zlx:Nat:=172
def zkw:Nat:=173
def zcu:Nat:=174
def ze8:Nat:=175
def zex:Nat:=177
def zb4:Nat:=179
def zbj:Nat:=180
def zcp:Nat:=181
def zdn:Nat:=182
def zen:Nat:=186
def zf0:Nat:=187
def zly:Nat:=191
def zmn:Nat:=192
def zgp:Nat:=193
def zbe:Nat:=213
def zbb:Nat:=222
def zbn:Nat:=223
def zfb:Nat:=230
def zgq:Nat:=235
def z1v:Nat:=285
def n_strconv_Itoa:Nat:=74
def n_strings_Join:Nat:=75
def n_slices_SortFunc_Loffice_Note_office_Note:Nat:=84
def n_slices_Sort_Lstring_string:Nat:=89
def n_strings_Split:Nat:=128
def n_strings_Builder_String:Nat:=150
def z94:Nat:=176
def n_strconv_Atoi:Nat:=178
def n_strings_Builder_copyCheck:Nat:=184
def n_strings_Repeat:Nat:=188
def n_internal_stringslite_IndexByte:Nat:=189
def n_internal_stringslite_HasSuffix:Nat:=190
def zel:Nat:=214
def zkn:Nat:=215
def zff:Nat:=216
def zbv:Nat:=3
def z8i:Nat:=4
def ty_uint8:Nat:=5
def zac:Nat:=9
def zod:Nat:=22
def zah:Nat:=29
def z5v:Nat:=30
def yk9:Nat:=37
def zar:Nat:=39
def zam:Nat:=48
def zsf:Nat:=50
def zdi:Nat:=52
def z0h:Nat:=56
def zjq:Nat:=66
def ze6:Nat:=75
def ze5:Nat:=81
def zaa:Nat:=84
def zey:Nat:=92
def zjr:Nat:=100
def zic:Nat:=105
def zal:Nat:=115
def zae:Nat:=120
def zb5:Nat:=123
def zgc:Nat:=131
def zut:Nat:=135
def zd9:Nat:=137
def zus:Nat:=138
def zei:Nat:=144
def zas:Nat:=146
def zk1:Nat:=153
def zli:Nat:=161
def zhy:Nat:=184
def zab:Nat:=197
def zsg:Nat:=211
def zad:Nat:=217
def zuu:Nat:=225
def ty_strings_Builder:Nat:=233
def zaj:Nat:=251
def zp4:CF:=⟨[.tmp 2],
  (sr [
tq 2 (.mv (.k (.d (.bool false))))] [2]
(sr [
mq 12 0,
tq 13 (cl zhd [.t 12]),
mq 3 13] [12,13]
(.seq (sr [
mq 14 3,
tq 15 (cl zhe [.t 14,kq 16]),
tq 16 (.un .not (.t 15))] [14,15]
(.cond (.t 16) (sr [
tq 17 (cl zhc []),
mq 2 17] [17]
.ret)
 .skip))
(sr [
mq 19 0,
tq 20 (cl zc3 [.t 19]),
mq 18 20,
xq 21 18 0,
xq 22 18 1,
mq 4 21,
mq 5 22] [18,19,20,21,22]
(sr [
mq 24 0,
tq 25 (cl zbu [.t 24]),
mq 23 25,
xq 26 23 0,
xq 27 23 1,
mq 6 26,
mq 7 27] [23,24,25,26,27]
(sr [
mq 28 3,
tq 29 (cl zfa [.t 28]),
mq 8 29] [28,29]
(sr [
tq 9 (.mv (.k (.d (.list 0 []))))] []
(.seq (sr [
mq 30 8,
tq 31 (.bin .eql (.t 30) (kq 0))] [30]
(.cond (.t 31) (rg [
mq 32 3,
tq 33 (cl zld [.t 32]),
mq 9 33] [32,33])
 .skip))
(sr [
mq 35 3,
tq 36 (cl zfn [.t 35]),
mq 34 36,
xq 37 34 0,
xq 38 34 1,
mq 10 37,
mq 11 38] [3,34,35,36,37,38]
(sr [
mq 39 0,
tq 40 (cl zgn [.t 39]),
mq 41 8,
tq 42 (.bin .eql (.t 40) (.t 41)),
mq 43 42,
gq 44 43 true (.mv (.t 5)),
gq 45 43 true (.mv (.t 8)),
gq 46 43 true (.bin .eql (.t 44) (.t 45)),
tq 47 (.pick (.t 43) (.t 46) (.k (.d (.bool false)))),
mq 48 47,
gq 49 48 true (.mv (.t 4)),
gq 50 48 true (cl zhd [.t 49]),
gq 51 48 true (.mv (.t 9)),
gq 52 48 true (cl zh8 [.t 50,.t 51]),
tq 53 (.pick (.t 48) (.t 52) (.k (.d (.bool false)))),
mq 54 53,
gq 55 54 true (.mv (.t 7)),
gq 56 54 true (.mv (.t 11)),
gq 57 54 true (.bin .eql (.t 55) (.t 56)),
tq 58 (.pick (.t 54) (.t 57) (.k (.d (.bool false)))),
mq 59 58,
gq 60 59 true (.mv (.t 6)),
gq 61 59 true (cl zj8 [.t 60]),
gq 62 59 true (.mv (.t 10)),
gq 63 59 true (cl zgo [.t 61,.t 62]),
tq 64 (.pick (.t 59) (.t 63) (.k (.d (.bool false)))),
mq 65 64,
gq 66 65 true (cl zhc []),
tq 67 (.pick (.t 65) (.t 66) (.k (.d (.bool false)))),
mq 2 67] [0,4,5,6,7,8,9,10,11,39,40,41,42,43,44,45,46,47,48,49,50,51,52,53,54,55,56,57,58,59,60,61,62,63,64,65,66,67]
.ret))))))))))⟩
def zvr:C:=
  (sr [
tq 9 (.bin .lss (.t 8) (.t 7))] []
(.seq (.cond (.t 9) .skip
 (.exit 0))
(.seq (.block 1 (sr [
tq 10 (.idxAddr 4 (.t 6) (.t 8)),
lq 11 4 10,
tq 5 (.alloc zah [.z (.str []),.z (.int .i64 0),.z (.int .i64 0),.z (.str [])]),
⟨none,none,.store 4 (.t 5) (.t 11)⟩] [10,11]
(rg [
mq 12 3,
lq 13 4 5,
tq 14 (.mkList 4 1 [.t 13]),
tq 15 (.append ⟨false,zam,4,48⟩ (.t 12) (.t 14)),
mq 3 15] [5,12,13,14,15])))
(rg [
tq 16 (.bin .add (.t 8) (kq 1)),
mq 8 16] [16]))))
def z0v:CF:=⟨[.tmp 2],
  (sr [
tq 2 (.ownNil ⟨false,zam,4,48⟩)] [2]
(sr [
tq 3 (.ownNil ⟨false,zam,4,48⟩)] []
(.seq (sr [
mq 6 0,
tq 7 (.len .slc (.t 6)),
tq 8 (.mv (kq 0))] [0]
(.block 0 (.loop [3,6,7,8] zvr)))
(sr [
mq 17 3,
mq 2 17] [3,17]
.ret))))⟩
def zo3:C:=
  (.seq (sr [
mq 20 5,
mq 21 0,
tq 22 (.len .slc (.t 21)),
tq 23 (.bin .lss (.t 20) (.t 22))] [20,21,22]
(.cond (.t 23) .skip
 (.exit 0)))
(.seq (.block 1 (sr [
mq 26 0,
mq 27 5,
tq 28 (.idxAddr 4 (.t 26) (.t 27)),
fa 29 0 28,
ld 30 29,
tq 31 (.len .str (.t 30)),
tq 32 (.bin .gtr (.t 31) (kq 40)),
mq 33 32,
gq 34 33 false (.mv (.t 0)),
gq 35 33 false (.mv (.t 5)),
gq 36 33 false (.idxAddr 4 (.t 34) (.t 35)),
gq 37 33 false (.fieldAddr 3 (.t 36)),
gq 38 33 false (.load none (.t 37)),
gq 39 33 false (.len .str (.t 38)),
gq 40 33 false (.bin .gtr (.t 39) (kq 120)),
tq 41 (.pick (.t 33) (.k (.d (.bool true))) (.t 40))] [26,27,28,29,30,31,32,33,34,35,36,37,38,39,40]
(.cond (.t 41) (sr [
tq 4 (.mv (.k (.d (.bool false))))] []
.ret)
 .skip)))
(rg [
mq 24 5,
tq 25 (.bin .add (.t 24) (kq 1)),
mq 5 25] [24,25])))
def zra:CF:=⟨[.tmp 4],
  (sr [
tq 4 (.mv (.k (.d (.bool false))))] [4]
(.seq (sr [
mq 6 0,
tq 7 (.len .slc (.t 6)),
mq 8 1,
tq 9 (.bin .gtr (.t 7) (.t 8)),
mq 10 9,
gq 11 10 true (.mv (.t 0)),
gq 12 10 true (.len .slc (.t 11)),
gq 13 10 true (.bin .leq (.t 12) (kq 256)),
tq 14 (.pick (.t 10) (.t 13) (.k (.d (.bool false)))),
mq 15 14,
gq 16 15 false (.mv (.t 0)),
gq 17 15 false (.len .slc (.t 16)),
gq 18 15 false (.bin .gtr (.t 17) (kq 258)),
tq 19 (.pick (.t 15) (.k (.d (.bool true))) (.t 18))] [1,6,7,8,9,10,11,12,13,14,15,16,17,18]
(.cond (.t 19) (sr [
tq 4 (.mv (.k (.d (.bool false))))] []
.ret)
 .skip))
(.seq (sr [
tq 5 (.mv (kq 0))] []
(.block 0 (.loop [0,5] zo3)))
(sr [
tq 4 (.mv (.k (.d (.bool true))))] []
.ret))))⟩
def zo1:C:=
  (.seq (sr [
mq 23 5,
mq 24 3,
tq 25 (.bin .lss (.t 23) (.t 24))] [23,24]
(.cond (.t 25) .skip
 (.exit 2)))
(.seq (.block 3 (.seq (.reg true [
mq 28 0,
mq 29 5,
tq 30 (.idxAddr 4 (.t 28) (.t 29)),
fa 31 0 30,
ld 32 31,
mq 33 0,
mq 34 3,
tq 35 (.idxAddr 4 (.t 33) (.t 34)),
fa 36 0 35,
ld 37 36,
tq 38 (.bin .eql (.t 32) (.t 37)),
mq 39 38,
gq 40 39 true (.mv (.t 0)),
gq 41 39 true (.mv (.t 5)),
gq 42 39 true (.idxAddr 4 (.t 40) (.t 41)),
gq 43 39 true (.fieldAddr 1 (.t 42)),
gq 44 39 true (.load none (.t 43)),
gq 45 39 true (.mv (.t 0)),
gq 46 39 true (.mv (.t 3)),
gq 47 39 true (.idxAddr 4 (.t 45) (.t 46)),
gq 48 39 true (.fieldAddr 1 (.t 47)),
gq 49 39 true (.load none (.t 48)),
gq 50 39 true (.bin .eql (.t 44) (.t 49)),
tq 51 (.pick (.t 39) (.t 50) (.k (.d (.bool false)))),
mq 52 51,
gq 53 52 true (.mv (.t 0)),
gq 54 52 true (.mv (.t 5)),
gq 55 52 true (.idxAddr 4 (.t 53) (.t 54)),
gq 56 52 true (.load (some 4) (.t 55)),
gq 57 52 true (.mv (.t 0)),
gq 58 52 true (.mv (.t 3)),
gq 59 52 true (.idxAddr 4 (.t 57) (.t 58)),
gq 60 52 true (.load (some 4) (.t 59)),
gq 61 52 true (.eqv (some [.str,.int,.int,.str]) true (.t 56) (.t 60)),
tq 62 (.pick (.t 52) (.t 61) (.k (.d (.bool false))))] [28,29,30,31,32,33,34,35,36,37,38,39,40,41,42,43,44,45,46,47,48,49,50,51,52,53,54,55,56,57,58,59,60,61])
(.cond (.t 62) (sr [
tq 2 (.mv (kq 29))] []
.ret)
 .skip)))
(rg [
mq 26 5,
tq 27 (.bin .add (.t 26) (kq 1)),
mq 5 27] [26,27])))
def zo2:C:=
  (.seq (sr [
mq 9 3,
mq 10 0,
tq 11 (.len .slc (.t 10)),
tq 12 (.bin .lss (.t 9) (.t 11))] [9,10,11]
(.cond (.t 12) .skip
 (.exit 0)))
(.seq (.block 1 (.seq (sr [
mq 15 0,
mq 16 3,
tq 17 (.idxAddr 4 (.t 15) (.t 16)),
lq 18 4 17,
tq 19 (cl zib [.t 18]),
mq 4 19] [15,16,17,18,19]
(sr [
mq 20 4,
tq 21 (.bin .neq (.t 20) (kq 0))] [20]
(.cond (.t 21) (sr [
mq 22 4,
mq 2 22] [4,22]
.ret)
 .skip)))
(sr [
tq 5 (.mv (kq 0))] []
(.block 2 (.loop [0,3,5] zo1)))))
(rg [
mq 13 3,
tq 14 (.bin .add (.t 13) (kq 1)),
mq 3 14] [13,14])))
def zq9:CF:=⟨[.tmp 2],
  (sr [
tq 2 (.mv (kq 0))] [2]
(.seq (sr [
mq 6 0,
tq 7 (.len .slc (.t 6)),
tq 8 (.bin .gtr (.t 7) (kq 256))] [6,7]
(.cond (.t 8) (sr [
tq 2 (.mv (kq 5))] []
.ret)
 .skip))
(.seq (sr [
tq 3 (.mv (kq 0))] []
(.block 0 (.loop [0,3] zo2)))
(sr [
tq 2 (.mv (kq 0))] []
.ret))))⟩
def zvp:C:=
  (sr [
tq 43 (.bin .lss (.t 42) (.t 41))] []
(.seq (.cond (.t 43) .skip
 (.exit 0))
(.seq (.block 1 (sr [
tq 44 (.idxAddr 4 (.t 40) (.t 42)),
lq 45 4 44,
tq 3 (.alloc zdi [.z (.str []),.z (.int .i64 0),.z (.int .i64 0),.z (.int .i64 0)]),
⟨none,none,.store 4 (.t 3) (.t 45)⟩] [44,45]
(sr [
mq 47 1,
fa 48 0 3,
ld 49 48,
fa 50 1 3,
ld 51 50,
fa 52 2 3,
ld 53 52,
tq 54 (cl zcn [.t 47,.t 49,.t 51,.t 53]),
mq 46 54,
xq 55 46 0,
xq 56 46 1,
mq 4 55,
mq 5 56] [46,47,48,49,50,51,52,53,54,55,56]
(sr [
mq 57 5,
tq 58 (.bin .neq (.t 57) (kq 0)),
mq 59 58,
gq 60 59 false (.mv (.t 4)),
gq 61 59 false (.fieldAddr 3 (.t 3)),
gq 62 59 false (.load none (.t 61)),
gq 63 59 false (.bin .neq (.t 60) (.t 62)),
tq 64 (.pick (.t 59) (.k (.d (.bool true))) (.t 63))] [3,4,5,57,58,59,60,61,62,63]
(.cond (.t 64) (sr [
tq 0 (.mv (.k (.d (.bool false))))] []
.ret)
 .skip)))))
(rg [
tq 65 (.bin .add (.t 42) (kq 1)),
mq 42 65] [65]))))
def zvq:C:=
  (sr [
tq 231 (.bin .lss (.t 230) (.t 229))] []
(.seq (.cond (.t 231) .skip
 (.exit 2))
(.seq (.block 3 (sr [
tq 232 (.idxAddr 3 (.t 228) (.t 230)),
lq 233 3 232,
tq 25 (.alloc zaa [.z (.str []),.z (.str []),.z (.int .i64 0)]),
⟨none,none,.store 3 (.t 25) (.t 233)⟩] [232,233]
(sr [
mq 235 23,
fa 236 0 25,
ld 237 236,
tq 238 (.callU true (.k (.fn za8 [] [])) [.t 235,.t 237]),
mq 234 238,
xq 239 234 0,
xq 240 234 1,
mq 26 239,
mq 27 240] [234,235,236,237,238,239,240]
(sr [
mq 241 26,
fa 242 1 25,
ld 243 242,
tq 244 (.bin .neq (.t 241) (.t 243)),
mq 245 244,
gq 246 245 false (.mv (.t 27)),
gq 247 245 false (.fieldAddr 2 (.t 25)),
gq 248 245 false (.load none (.t 247)),
gq 249 245 false (.bin .neq (.t 246) (.t 248)),
tq 250 (.pick (.t 245) (.k (.d (.bool true))) (.t 249))] [25,26,27,241,242,243,244,245,246,247,248,249]
(.cond (.t 250) (sr [
tq 0 (.mv (.k (.d (.bool false))))] []
.ret)
 .skip)))))
(rg [
tq 251 (.bin .add (.t 230) (kq 1)),
mq 230 251] [251]))))
def z0t:CF:=⟨[.tmp 0],
  (sr [
tq 0 (.mv (.k (.d (.bool false))))] [0]
(sr [
tq 32 (cl zla []),
mq 1 32] [32]
(.seq (sr [
tq 33 (.build [.z (.str []),.z (.int .i64 0),.z (.int .i64 0),.z (.int .i64 0)] [(0,1,.k (.d (.str [97]))),(1,1,kq 6),(2,1,kq 16),(3,1,kq 600)]),
tq 34 (.build [.z (.str []),.z (.int .i64 0),.z (.int .i64 0),.z (.int .i64 0)] [(0,1,.k (.d (.str [97]))),(1,1,kq 7),(2,1,kq 16),(3,1,kq 660)]),
tq 35 (.build [.z (.str []),.z (.int .i64 0),.z (.int .i64 0),.z (.int .i64 0)] [(0,1,.k (.d (.str [98]))),(1,1,kq 8),(2,1,kq 16),(3,1,kq 700)]),
tq 36 (.build [.z (.str []),.z (.int .i64 0),.z (.int .i64 0),.z (.int .i64 0)] [(0,1,.k (.d (.str [97]))),(1,1,kq 9),(2,1,kq 12),(3,1,kq 600)]),
tq 37 (.build [.z (.str []),.z (.int .i64 0),.z (.int .i64 0),.z (.int .i64 0)] [(0,1,.k (.d (.str [97]))),(1,1,kq 9),(2,1,kq 16),(3,1,kq 600)]),
tq 38 (.build [.z (.str []),.z (.int .i64 0),.z (.int .i64 0),.z (.int .i64 0)] [(0,1,.k (.d (.str [98]))),(1,1,kq 9),(2,1,kq 16),(3,1,kq 1440)]),
tq 39 (.build [.z (.str []),.z (.int .i64 0),.z (.int .i64 0),.z (.int .i64 0)] [(0,1,.k (.d (.str [97]))),(1,1,kq 4),(2,1,kq 16),(3,1,kq 1440)]),
tq 40 (.mkList 4 7 [.t 33,.t 34,.t 35,.t 36,.t 37,.t 38,.t 39]),
tq 41 (.len .slc (.t 40)),
tq 42 (.mv (kq 0))] [33,34,35,36,37,38,39]
(.block 0 (.loop [1,40,41,42] zvp)))
(sr [
mq 67 1,
tq 68 (cl zef [.t 67,kq 8]),
mq 66 68,
xq 69 66 0,
xq 70 66 1,
mq 6 69,
mq 7 70] [66,67,68,69,70]
(sr [
mq 72 1,
tq 73 (cl zef [.t 72,kq 9]),
mq 71 73,
xq 74 71 0,
xq 75 71 1,
mq 8 74,
mq 9 75] [71,72,73,74,75]
(sr [
mq 77 1,
tq 78 (cl zi1 [.t 77,.k (.d (.str [114]))]),
mq 76 78,
xq 79 76 0,
xq 80 76 1,
mq 10 79,
mq 11 80] [76,77,78,79,80]
(sr [
mq 82 1,
tq 83 (cl ziz [.t 82,.k (.d (.str [97])),kq 16]),
mq 81 83,
xq 84 81 0,
xq 85 81 1,
mq 12 84,
mq 13 85] [81,82,83,84,85]
(sr [
mq 87 1,
tq 88 (.build [.z (.int .i64 0),.z (.int .i64 0),.z (.int .i64 0)] [(0,1,kq 10),(1,1,kq 20),(2,1,kq 127)]),
tq 89 (cl zf5 [.t 87,.k (.d (.str [97])),kq 8,kq 9,.t 88]),
mq 86 89,
xq 90 86 0,
xq 91 86 1,
mq 14 90,
mq 15 91] [86,87,88,89,90,91]
(sr [
mq 93 1,
tq 94 (cl zml [.t 93,kq 8,kq 16]),
mq 92 94,
xq 95 92 0,
xq 96 92 1,
mq 16 95,
mq 17 96] [1,92,93,94,95,96]
(.seq (sr [
mq 97 7,
mq 98 9,
tq 99 (.bin .add (.t 97) (.t 98)),
mq 100 11,
tq 101 (.bin .add (.t 99) (.t 100)),
mq 102 13,
tq 103 (.bin .add (.t 101) (.t 102)),
mq 104 15,
tq 105 (.bin .add (.t 103) (.t 104)),
mq 106 17,
tq 107 (.bin .add (.t 105) (.t 106)),
tq 108 (.bin .neq (.t 107) (kq 0)),
mq 109 108,
gq 110 109 false (.mv (.t 6)),
gq 111 109 false (.mkList 1 3 [.k (.d (.str [101])),.k (.d (.str [114])),.k (.d (.str [102]))]),
gq 112 109 false (cl zcz [.t 110,.t 111]),
gq 113 109 false (.un .not (.t 112)),
tq 114 (.pick (.t 109) (.k (.d (.bool true))) (.t 113)),
mq 115 114,
gq 116 115 false (.mv (.t 8)),
gq 117 115 false (.mkList 1 1 [.k (.d (.str [101]))]),
gq 118 115 false (cl zcz [.t 116,.t 117]),
gq 119 115 false (.un .not (.t 118)),
tq 120 (.pick (.t 115) (.k (.d (.bool true))) (.t 119)),
mq 121 120,
gq 122 121 false (.mv (.t 10)),
gq 123 121 false (.mkList 1 1 [.k (.d (.str [102]))]),
gq 124 121 false (cl zcz [.t 122,.t 123]),
gq 125 121 false (.un .not (.t 124)),
tq 126 (.pick (.t 121) (.k (.d (.bool true))) (.t 125)),
mq 127 126,
gq 128 127 false (.mv (.t 12)),
gq 129 127 false (cl zmk [.t 128]),
gq 130 127 false (.build [.z (.int .i64 0),.z (.int .i64 0)] [(0,1,kq 5),(1,1,kq 600)]),
gq 131 127 false (.build [.z (.int .i64 0),.z (.int .i64 0)] [(0,1,kq 7),(1,1,kq 660)]),
gq 132 127 false (.build [.z (.int .i64 0),.z (.int .i64 0)] [(0,1,kq 9),(1,1,kq 600)]),
gq 133 127 false (.mkList 2 3 [.t 130,.t 131,.t 132]),
gq 134 127 false (cl zia [.t 129,.t 133]),
gq 135 127 false (.un .not (.t 134)),
tq 136 (.pick (.t 127) (.k (.d (.bool true))) (.t 135)),
mq 137 136,
gq 138 137 false (.mv (.t 14)),
gq 139 137 false (.mkList 1 6 [kq 15,kq 16,kq 17,kq 18,kq 19,kq 20]),
gq 140 137 false (cl zc9 [.t 138,.t 139]),
gq 141 137 false (.un .not (.t 140)),
tq 142 (.pick (.t 137) (.k (.d (.bool true))) (.t 141)),
mq 143 142,
gq 144 143 false (.mv (.t 16)),
gq 145 143 false (cl zmj [.t 144]),
gq 146 143 false (.build [.z (.str []),.z (.int .i64 0)] [(0,1,.k (.d (.str [97]))),(1,1,kq 660)]),
gq 147 143 false (.build [.z (.str []),.z (.int .i64 0)] [(0,1,.k (.d (.str [98]))),(1,1,kq 700)]),
gq 148 143 false (.mkList 2 2 [.t 146,.t 147]),
gq 149 143 false (cl zh9 [.t 145,.t 148]),
gq 150 143 false (.un .not (.t 149)),
tq 151 (.pick (.t 143) (.k (.d (.bool true))) (.t 150))] [6,7,8,9,10,11,12,13,14,15,16,17,97,98,99,100,101,102,103,104,105,106,107,108,109,110,111,112,113,114,115,116,117,118,119,120,121,122,123,124,125,126,127,128,129,130,131,132,133,134,135,136,137,138,139,140,141,142,143,144,145,146,147,148,149,150]
(.cond (.t 151) (sr [
tq 0 (.mv (.k (.d (.bool false))))] []
.ret)
 .skip))
(sr [
tq 152 (.build [.z (.str []),.z (.int .i64 0),.z (.int .i64 0),.z (.str [])] [(0,1,.k (.d (.str [84]))),(1,1,kq 2),(2,1,kq 4),(3,1,.k (.d (.str [108,97,116,101])))]),
tq 153 (.build [.z (.str []),.z (.int .i64 0),.z (.int .i64 0),.z (.str [])] [(0,1,.k (.d (.str [84]))),(1,1,kq 1),(2,1,kq 3),(3,1,.k (.d (.str [97])))]),
tq 154 (.build [.z (.str []),.z (.int .i64 0),.z (.int .i64 0),.z (.str [])] [(0,1,.k (.d (.str [78]))),(1,1,kq 1),(2,1,kq 3),(3,1,.k (.d (.str [98])))]),
tq 155 (.build [.z (.str []),.z (.int .i64 0),.z (.int .i64 0),.z (.str [])] [(0,1,.k (.d (.str [84]))),(1,1,kq 2),(2,1,kq 4),(3,1,.k (.d (.str [108,97,116,101])))]),
tq 156 (.mkList 4 4 [.t 152,.t 153,.t 154,.t 155]),
mq 18 156] [152,153,154,155,156]
(sr [
mq 158 18,
tq 159 (cl zc3 [.t 158]),
mq 157 159,
xq 160 157 0,
xq 161 157 1,
mq 19 160,
mq 20 161] [157,158,159,160,161]
(sr [
mq 163 18,
tq 164 (.idxAddr 4 (.t 163) (kq 1)),
lq 165 4 164,
tq 166 (.build [.z (.str []),.z (.int .i64 0),.z (.int .i64 0),.z (.str [])] [(0,1,.k (.d (.str [84]))),(1,1,kq 4),(2,1,kq 5),(3,1,.k (.d (.str [99])))]),
tq 167 (.mkList 4 2 [.t 165,.t 166]),
tq 168 (cl zbu [.t 167]),
mq 162 168,
xq 169 162 0,
xq 170 162 1,
mq 21 169,
mq 22 170] [18,162,163,164,165,166,167,168,169,170]
(.seq (sr [
mq 171 20,
mq 172 22,
tq 173 (.bin .add (.t 171) (.t 172)),
tq 174 (.bin .neq (.t 173) (kq 0)),
mq 175 174,
gq 176 175 false (.mv (.t 19)),
gq 177 175 false (.len .slc (.t 176)),
gq 178 175 false (.bin .neq (.t 177) (kq 3)),
tq 179 (.pick (.t 175) (.k (.d (.bool true))) (.t 178)),
mq 180 179,
gq 181 180 false (.mv (.t 19)),
gq 182 180 false (.idxAddr 4 (.t 181) (kq 0)),
gq 183 180 false (.fieldAddr 0 (.t 182)),
gq 184 180 false (.load none (.t 183)),
gq 185 180 false (.bin .neq (.t 184) (.k (.d (.str [78])))),
tq 186 (.pick (.t 180) (.k (.d (.bool true))) (.t 185)),
mq 187 186,
gq 188 187 false (.mv (.t 19)),
gq 189 187 false (.idxAddr 4 (.t 188) (kq 2)),
gq 190 187 false (.fieldAddr 1 (.t 189)),
gq 191 187 false (.load none (.t 190)),
gq 192 187 false (.bin .neq (.t 191) (kq 2)),
tq 193 (.pick (.t 187) (.k (.d (.bool true))) (.t 192)),
mq 194 193,
gq 195 194 false (.mv (.t 21)),
gq 196 194 false (.len .slc (.t 195)),
gq 197 194 false (.bin .neq (.t 196) (kq 1)),
tq 198 (.pick (.t 194) (.k (.d (.bool true))) (.t 197)),
mq 199 198,
gq 200 199 false (.mv (.t 21)),
gq 201 199 false (.idxAddr 2 (.t 200) (kq 0)),
gq 202 199 false (.fieldAddr 0 (.t 201)),
gq 203 199 false (.load none (.t 202)),
gq 204 199 false (.bin .neq (.t 203) (.k (.d (.str [84])))),
tq 205 (.pick (.t 199) (.k (.d (.bool true))) (.t 204)),
mq 206 205,
gq 207 206 false (.mv (.t 21)),
gq 208 206 false (.idxAddr 2 (.t 207) (kq 0)),
gq 209 206 false (.fieldAddr 1 (.t 208)),
gq 210 206 false (.load none (.t 209)),
gq 211 206 false (.mkList 1 2 [kq 2,kq 3]),
gq 212 206 false (cl zc9 [.t 210,.t 211]),
gq 213 206 false (.un .not (.t 212)),
tq 214 (.pick (.t 206) (.k (.d (.bool true))) (.t 213))] [19,20,21,22,171,172,173,174,175,176,177,178,179,180,181,182,183,184,185,186,187,188,189,190,191,192,193,194,195,196,197,198,199,200,201,202,203,204,205,206,207,208,209,210,211,212,213]
(.cond (.t 214) (sr [
tq 0 (.mv (.k (.d (.bool false))))] []
.ret)
 .skip))
(sr [
tq 215 (.call false false (.k (.fn znz [] [])) []),
mq 23 215] [215]
(.seq (sr [
mq 216 23,
tq 217 (.nilEq 0 false (.t 216))] [216]
(.cond (.t 217) (sr [
tq 0 (.mv (.k (.d (.bool false))))] []
.ret)
 .skip))
(.seq (sr [
tq 218 (.build [.z (.str []),.z (.str []),.z (.int .i64 0)] [(0,1,.k (.d (.str [101,110,116,101,114,32,101,32,97,32,53,32,49,48,32,50,48,32,54,48,48]))),(1,1,.k (.d (.str [100,111,110,101,32,49]))),(2,1,kq 0)]),
tq 219 (.build [.z (.str []),.z (.str []),.z (.int .i64 0)] [(0,1,.k (.d (.str [114,117,108,101,32,114,32,97,32,55,32,49,53,32,50,48,32,54,54,48]))),(1,1,.k (.d (.str [100,111,110,101,32,50]))),(2,1,kq 0)]),
tq 220 (.build [.z (.str []),.z (.str []),.z (.int .i64 0)] [(0,1,.k (.d (.str [115,108,111,116,32,97,32,55,32,49,54]))),(1,1,.k (.d (.str [54,54,48]))),(2,1,kq 0)]),
tq 221 (.build [.z (.str []),.z (.str []),.z (.int .i64 0)] [(0,1,.k (.d (.str [114,101,118,101,114,115,101,32,101,32,57]))),(1,1,.k (.d (.str []))),(2,1,kq 13)]),
tq 222 (.build [.z (.str []),.z (.str []),.z (.int .i64 0)] [(0,1,.k (.d (.str [114,101,118,101,114,115,101,32,114,32,57]))),(1,1,.k (.d (.str [100,111,110,101,32,51]))),(2,1,kq 0)]),
tq 223 (.build [.z (.str []),.z (.str []),.z (.int .i64 0)] [(0,1,.k (.d (.str [102,111,108,108,111,119,32,103,32,98,32,114,32,57,32,49,48,32,50,48,32,53]))),(1,1,.k (.d (.str []))),(2,1,kq 20)]),
tq 224 (.build [.z (.str []),.z (.str []),.z (.int .i64 0)] [(0,1,.k (.d (.str [99,111,109,112,108,97,105,110,32,99,32,101,32,49,48]))),(1,1,.k (.d (.str [100,111,110,101,32,52]))),(2,1,kq 0)]),
tq 225 (.build [.z (.str []),.z (.str []),.z (.int .i64 0)] [(0,1,.k (.d (.str [111,112,101,110]))),(1,1,.k (.d (.str [99]))),(2,1,kq 0)]),
tq 226 (.build [.z (.str []),.z (.str []),.z (.int .i64 0)] [(0,1,.k (.d (.str [100,101,99,105,100,101,32,99,32,49,49,32,49]))),(1,1,.k (.d (.str [100,111,110,101,32,53]))),(2,1,kq 0)]),
tq 227 (.build [.z (.str []),.z (.str []),.z (.int .i64 0)] [(0,1,.k (.d (.str [100,97,121,32,49,49,32,49,54]))),(1,1,.k (.d (.str [110,111,110,101]))),(2,1,kq 0)]),
tq 228 (.mkList 3 10 [.t 218,.t 219,.t 220,.t 221,.t 222,.t 223,.t 224,.t 225,.t 226,.t 227]),
tq 229 (.len .slc (.t 228)),
tq 230 (.mv (kq 0))] [218,219,220,221,222,223,224,225,226,227]
(.block 2 (.loop [23,228,229,230] zvq)))
(sr [
mq 252 23,
tq 253 (.callU true (.k (.fn zf6 [] [])) [.t 252]),
mq 28 253] [23,252,253]
(sr [
mq 255 28,
tq 256 (.bin .add (.t 255) (.k (.d (.str [54])))),
tq 257 (cl zi0 [.t 256]),
mq 254 257,
xq 258 254 0,
xq 259 254 1,
xq 260 254 2,
mq 29 258,
mq 30 259,
mq 31 260] [254,255,256,257,258,259,260]
(sr [
mq 261 31,
tq 262 (.bin .eql (.t 261) (kq 28)),
mq 263 262,
gq 264 263 true (.mv (.t 29)),
gq 265 263 true (.len .slc (.t 264)),
gq 266 263 true (.bin .eql (.t 265) (kq 5)),
tq 267 (.pick (.t 263) (.t 266) (.k (.d (.bool false)))),
mq 268 267,
gq 269 268 true (.mv (.t 30)),
gq 270 268 true (.mv (.t 28)),
gq 271 268 true (.len .str (.t 270)),
gq 272 268 true (.bin .eql (.t 269) (.t 271)),
tq 273 (.pick (.t 268) (.t 272) (.k (.d (.bool false)))),
mq 274 273,
gq 275 274 true (cl zqj [.k (.d (.str [49,49]))]),
gq 276 274 true (.bin .eql (.t 275) (.k (.d (.str [48,48,57,50,55,55,57])))),
tq 277 (.pick (.t 274) (.t 276) (.k (.d (.bool false)))),
mq 0 277] [28,29,30,31,261,262,263,264,265,266,267,268,269,270,271,272,273,274,275,276,277]
.ret))))))))))))))))))))⟩
def zv6:CF:=⟨[.tmp 2,.tmp 3],
  (sr [
tq 2 (.mv (.k (.d (.list 0 [])))),
tq 3 (.mv (kq 0))] [2,3]
(sr [
mq 7 0,
tq 8 (.call false false (.k (.fn zb8 [] [])) [.t 7]),
mq 6 8,
xq 9 6 0,
xq 10 6 1,
mq 4 9,
mq 5 10] [0,6,7,8,9,10]
(.seq (sr [
mq 11 5,
tq 12 (.bin .neq (.t 11) (kq 0))] [11]
(.cond (.t 12) (sr [
mq 13 5,
tq 2 (.mv (.k (.d (.list 0 [])))),
mq 3 13] [5,13]
.ret)
 .skip))
(sr [
mq 14 4,
tq 15 (.call true false (.k (.fn zan [] [])) [.t 14]),
tq 16 (.call true true (.k (.fn zbx [] [])) [.t 15,.k (.fn n_office_Gather_1 [] [])]),
mq 2 16,
tq 3 (.mv (kq 0))] [4,14,15,16]
.ret))))⟩
def zpv:C:=
  (.seq (sr [
mq 11 5,
mq 12 0,
tq 13 (.len .slc (.t 12)),
tq 14 (.bin .lss (.t 11) (.t 13))] [11,12,13]
(.cond (.t 14) .skip
 (.exit 0)))
(.seq (.block 1 (.seq (.reg true [
mq 17 0,
mq 18 5,
tq 19 (.idxAddr 4 (.t 17) (.t 18)),
lq 20 4 19,
mq 21 1,
mq 22 5,
tq 23 (.idxAddr 4 (.t 21) (.t 22)),
lq 24 4 23,
tq 25 (.eqv (some [.str,.int,.int,.str]) true (.t 20) (.t 24))] [17,18,19,20,21,22,23,24])
(.cond (.t 25) (sr [
tq 4 (.mv (.k (.d (.bool false))))] []
.ret)
 .skip)))
(rg [
mq 15 5,
tq 16 (.bin .add (.t 15) (kq 1)),
mq 5 16] [15,16])))
def zs7:CF:=⟨[.tmp 4],
  (sr [
tq 4 (.mv (.k (.d (.bool false))))] [4]
(.seq (sr [
mq 6 0,
tq 7 (.len .slc (.t 6)),
mq 8 1,
tq 9 (.len .slc (.t 8)),
tq 10 (.bin .neq (.t 7) (.t 9))] [6,7,8,9]
(.cond (.t 10) (sr [
tq 4 (.mv (.k (.d (.bool false))))] []
.ret)
 .skip))
(.seq (sr [
tq 5 (.mv (kq 0))] []
(.block 0 (.loop [0,1,5] zpv)))
(sr [
tq 4 (.mv (.k (.d (.bool true))))] []
.ret))))⟩
def zg1:C:=
  (rg [
mq 32 6,
fa 33 0 7,
ld 34 33,
mq 35 6,
fa 36 0 7,
ld 37 36,
tq 38 (.lookup .str (.int .i64 0) false (.t 35) (.t 37)),
fa 39 1 7,
ld 40 39,
tq 41 (.minmax true [.t 38,.t 40]),
⟨none,none,.mapSet .str (.t 32) (.t 34) (.t 41)⟩] [7,32,33,34,35,36,37,38,39,40,41])
def zg2:C:=
  (sr [
mq 48 9,
tq 49 (.bin .gtr (.t 48) (kq 1000))] [9,48]
(.cond (.t 49) (sr [
tq 2 (.ownNil ⟨false,zar,2,40⟩),
tq 3 (.mv (kq 22))] []
.ret)
 .skip))
def zkq:C:=
  (.seq (sr [
mq 60 14,
mq 61 6,
mq 62 12,
tq 63 (.lookup .str (.int .i64 0) false (.t 61) (.t 62)),
tq 64 (.bin .lss (.t 60) (.t 63))] [60,61,62,63]
(.cond (.t 64) .skip
 (.exit 6)))
(.seq (.block 7 (sr [
mq 68 4,
mq 69 12,
mq 70 14,
tq 71 (.build [.z (.str []),.z (.int .i64 0)] [(0,1,.t 69),(1,1,.t 70)]),
tq 72 (.lookup (.rc [true,false]) (.agg [.str [],.int .i64 0,.int .i64 0,.str []]) true (.t 68) (.t 71)),
mq 67 72,
xq 73 67 0,
xq 74 67 1,
tq 15 (.alloc zah [.z (.str []),.z (.int .i64 0),.z (.int .i64 0),.z (.str [])]),
⟨none,none,.store 4 (.t 15) (.t 73)⟩,
mq 16 74] [15,67,68,69,70,71,72,73,74]
(sr [
mq 75 16,
tq 76 (.un .not (.t 75))] [16,75]
(.cond (.t 76) (rg [
fa 77 1 13,
ld 78 77,
mq 79 14,
tq 80 (.mkList 1 1 [.t 79]),
tq 81 (.append ⟨false,zbv,1,8⟩ (.t 78) (.t 80)),
fa 82 1 13,
⟨none,none,.store 1 (.t 82) (.t 81)⟩] [77,78,79,80,81,82])
 .skip))))
(rg [
mq 65 14,
tq 66 (.bin .add (.t 65) (kq 1)),
mq 14 66] [65,66])))
def zkr:C:=
  (sr [
tq 55 (.bin .lss (.t 54) (.t 53))] []
(.seq (.cond (.t 55) .skip
 (.exit 4))
(.seq (.block 5 (sr [
tq 56 (.idxAddr 1 (.t 52) (.t 54)),
ld 57 56,
mq 12 57] [56,57]
(sr [
mq 58 12,
tq 59 (.build [.z (.str []),.own ⟨false,zbv,1,8⟩] [(0,1,.t 58)]),
tq 13 (.alloc zar [.z (.str []),.own ⟨false,zbv,1,8⟩]),
⟨none,none,.store 2 (.t 13) (.t 59)⟩] [58,59]
(.seq (sr [
tq 14 (.mv (kq 1))] []
(.block 6 (.loop [4,6,10,12,13,14,52,53,54] zkq)))
(sr [
fa 83 1 13,
ld 84 83,
tq 85 (.len .slc (.t 84)),
tq 86 (.bin .gtr (.t 85) (kq 0))] [83,84,85]
(.cond (.t 86) (rg [
mq 87 10,
lq 88 2 13,
tq 89 (.mkList 2 1 [.t 88]),
tq 90 (.append ⟨false,zar,2,40⟩ (.t 87) (.t 89)),
mq 10 90] [13,87,88,89,90])
 .skip))))))
(rg [
tq 91 (.bin .add (.t 54) (kq 1)),
mq 54 91] [91]))))
def zug:CF:=⟨[.tmp 2,.tmp 3],
  (sr [
tq 2 (.ownNil ⟨false,zar,2,40⟩),
tq 3 (.mv (kq 0))] [2,3]
(sr [
mq 18 0,
tq 19 (.call false false (.k (.fn zb8 [] [])) [.t 18]),
mq 17 19,
xq 20 17 0,
xq 21 17 1,
mq 4 20,
mq 5 21] [0,17,18,19,20,21]
(.seq (sr [
mq 22 5,
tq 23 (.bin .neq (.t 22) (kq 0))] [22]
(.cond (.t 23) (sr [
mq 24 5,
tq 2 (.ownNil ⟨false,zar,2,40⟩),
mq 3 24] [5,24]
.ret)
 .skip))
(sr [
tq 25 (.mkMap),
mq 6 25] [25]
(.seq (.rangeM [mq 26 4] 27 (.t 26) 0 1 30 [4,6,27] [xq 31 30 0,
tq 7 (.alloc zjr [.z (.str []),.z (.int .i64 0)]),
⟨none,none,.store 2 (.t 7) (.t 31)⟩] [30,31] zg1)
(.seq (.rangeM [mq 42 6] 43 (.t 42) 2 3 46 [4,6,43] [xq 47 46 1,
mq 9 47] [46,47] zg2)
(sr [
tq 10 (.ownNil ⟨false,zar,2,40⟩)] []
(.seq (sr [
mq 50 6,
tq 51 (.call true false (.k (.fn zb1 [] [])) [.t 50]),
tq 52 (.call true true (.k (.fn zcv [] [])) [.t 51]),
tq 53 (.len .slc (.t 52)),
tq 54 (.mv (kq 0))] [50,51]
(.block 4 (.loop [4,6,10,52,53,54] zkr)))
(sr [
mq 92 10,
mq 2 92,
tq 3 (.mv (kq 0))] [10,92]
.ret)))))))))⟩
def zub:C:=
  (.seq (.seq (.reg true [
mq 12 5,
mq 13 3,
tq 14 (.len .slc (.t 13)),
tq 15 (.bin .lss (.t 12) (.t 14)),
mq 16 15,
gq 17 16 true (.mv (.t 3)),
gq 18 16 true (.mv (.t 5)),
gq 19 16 true (.idxAddr 4 (.t 17) (.t 18)),
gq 20 16 true (.load (some 4) (.t 19)),
gq 21 16 true (.mv (.t 0)),
gq 22 16 true (.mv (.t 4)),
gq 23 16 true (.idxAddr 4 (.t 21) (.t 22)),
gq 24 16 true (.load (some 4) (.t 23)),
gq 25 16 true (cl zle [.t 20,.t 24]),
tq 26 (.pick (.t 16) (.t 25) (.k (.d (.bool false))))] [12,13,14,15,16,17,18,19,20,21,22,23,24,25])
(.cond (.t 26) .skip
 (.exit 2)))
(.block 3 (rg [
mq 27 5,
tq 28 (.bin .add (.t 27) (kq 1)),
mq 5 28] [27,28])))
def zuc:C:=
  (.seq (sr [
mq 6 4,
mq 7 0,
tq 8 (.len .slc (.t 7)),
tq 9 (.bin .lss (.t 6) (.t 8))] [6,7,8]
(.cond (.t 9) .skip
 (.exit 0)))
(.seq (.block 1 (sr [
tq 5 (.mv (kq 0))] []
(.seq (.block 2 (.loop [0,3,4,5] zub))
(.seq (.seq (.reg true [
mq 29 5,
mq 30 3,
tq 31 (.len .slc (.t 30)),
tq 32 (.bin .lss (.t 29) (.t 31)),
mq 33 32,
gq 34 33 true (.mv (.t 3)),
gq 35 33 true (.mv (.t 5)),
gq 36 33 true (.idxAddr 4 (.t 34) (.t 35)),
gq 37 33 true (.load (some 4) (.t 36)),
gq 38 33 true (.mv (.t 0)),
gq 39 33 true (.mv (.t 4)),
gq 40 33 true (.idxAddr 4 (.t 38) (.t 39)),
gq 41 33 true (.load (some 4) (.t 40)),
gq 42 33 true (.eqv (some [.str,.int,.int,.str]) false (.t 37) (.t 41)),
tq 43 (.pick (.t 33) (.t 42) (.k (.d (.bool false))))] [29,30,31,32,33,34,35,36,37,38,39,40,41,42])
(.cond (.t 43) (.exit 1)
 .skip))
(.regC [
tq 44 (.mkRow ⟨false,zam,4,48⟩ 0 []),
mq 45 3,
mq 46 5,
tq 47 (.slice 4 (.t 45) none (some (.t 46)) none),
tq 48 (.append ⟨false,zam,4,48⟩ (.t 44) (.t 47)),
mq 49 0,
mq 50 4,
tq 51 (.idxAddr 4 (.t 49) (.t 50)),
lq 52 4 51,
tq 53 (.mkListD 4 1 [.t 52]),
tq 54 (.append ⟨false,zam,4,48⟩ (.t 48) (.t 53)),
mq 55 3,
mq 56 5,
tq 57 (.slice 4 (.t 55) (some (.t 56)) none none),
tq 58 (.append ⟨false,zam,4,48⟩ (.t 54) (.t 57)),
mq 3 58] [5,44,45,46,47,48,49,50,51,52,53,54,55,56,57,58] [(49,48),(51,48),(55,48),(55,54)])))))
(rg [
mq 10 4,
tq 11 (.bin .add (.t 10) (kq 1)),
mq 4 11] [10,11])))
def zyi:CF:=⟨[.tmp 2],
  (sr [
tq 2 (.ownNil ⟨false,zam,4,48⟩)] [2]
(sr [
tq 3 (.ownNil ⟨false,zam,4,48⟩)] []
(.seq (sr [
tq 4 (.mv (kq 0))] []
(.block 0 (.loop [0,3,4] zuc)))
(sr [
mq 59 3,
mq 2 59] [3,59]
.ret))))⟩
def zsp:C:=
  (.seq (.seq (.reg true [
mq 37 7,
mq 38 5,
tq 39 (.len .slc (.t 38)),
tq 40 (.bin .lss (.t 37) (.t 39)),
mq 41 40,
gq 42 41 true (.mv (.t 5)),
gq 43 41 true (.mv (.t 7)),
gq 44 41 true (.idxAddr 1 (.t 42) (.t 43)),
gq 45 41 true (.load none (.t 44)),
gq 46 41 true (.mv (.t 0)),
gq 47 41 true (.mv (.t 6)),
gq 48 41 true (.idxAddr 4 (.t 46) (.t 47)),
gq 49 41 true (.fieldAddr 0 (.t 48)),
gq 50 41 true (.load none (.t 49)),
gq 51 41 true (.bin .lss (.t 45) (.t 50)),
tq 52 (.pick (.t 41) (.t 51) (.k (.d (.bool false))))] [37,38,39,40,41,42,43,44,45,46,47,48,49,50,51])
(.cond (.t 52) .skip
 (.exit 2)))
(.block 3 (rg [
mq 53 7,
tq 54 (.bin .add (.t 53) (kq 1)),
mq 7 54] [53,54])))
def zsq:C:=
  (.seq (sr [
mq 16 6,
mq 17 0,
tq 18 (.len .slc (.t 17)),
tq 19 (.bin .lss (.t 16) (.t 18))] [16,17,18]
(.cond (.t 19) .skip
 (.exit 0)))
(.seq (.block 1 (.seq (sr [
mq 22 0,
mq 23 0,
mq 24 6,
tq 25 (.idxAddr 4 (.t 23) (.t 24)),
fa 26 0 25,
ld 27 26,
tq 28 (cl zgh [.t 22,.t 27]),
tq 29 (.bin .gtr (.t 28) (kq 1000))] [22,23,24,25,26,27,28]
(.cond (.t 29) (sr [
tq 2 (.ownNil ⟨false,zal,2,40⟩),
tq 3 (.mv (kq 22))] []
.ret)
 .skip))
(.seq (sr [
mq 30 5,
mq 31 0,
mq 32 6,
tq 33 (.idxAddr 4 (.t 31) (.t 32)),
fa 34 0 33,
ld 35 34,
tq 36 (cl zj9 [.t 30,.t 35])] [30,31,32,33,34,35]
(.cond (.t 36) (.exit 1)
 .skip))
(sr [
tq 7 (.mv (kq 0))] []
(.seq (.block 2 (.loop [0,5,6,7] zsp))
(.regC [
tq 55 (.mkRow ⟨false,zac,1,16⟩ 0 []),
mq 56 5,
mq 57 7,
tq 58 (.slice 1 (.t 56) none (some (.t 57)) none),
tq 59 (.append ⟨false,zac,1,16⟩ (.t 55) (.t 58)),
mq 60 0,
mq 61 6,
tq 62 (.idxAddr 4 (.t 60) (.t 61)),
fa 63 0 62,
ld 64 63,
tq 65 (.mkListD 1 1 [.t 64]),
tq 66 (.append ⟨false,zac,1,16⟩ (.t 59) (.t 65)),
mq 67 5,
mq 68 7,
tq 69 (.slice 1 (.t 67) (some (.t 68)) none none),
tq 70 (.append ⟨false,zac,1,16⟩ (.t 66) (.t 69)),
mq 5 70] [7,55,56,57,58,59,60,61,62,63,64,65,66,67,68,69,70] [(60,59),(62,59),(63,59),(67,59),(67,66)]))))))
(rg [
mq 20 6,
tq 21 (.bin .add (.t 20) (kq 1)),
mq 6 21] [20,21])))
def zsr:C:=
  (.seq (sr [
mq 71 9,
mq 72 5,
tq 73 (.len .slc (.t 72)),
tq 74 (.bin .lss (.t 71) (.t 73))] [71,72,73]
(.cond (.t 74) .skip
 (.exit 4)))
(.seq (.block 5 (sr [
mq 77 0,
mq 78 5,
mq 79 9,
tq 80 (.idxAddr 1 (.t 78) (.t 79)),
ld 81 80,
tq 82 (cl zmo [.t 77,.t 81]),
mq 10 82] [77,78,79,80,81,82]
(sr [
mq 83 10,
tq 84 (.len .slc (.t 83)),
tq 85 (.bin .gtr (.t 84) (kq 0))] [83,84]
(.cond (.t 85) (rg [
mq 86 8,
mq 87 5,
mq 88 9,
tq 89 (.idxAddr 1 (.t 87) (.t 88)),
ld 90 89,
mq 91 10,
tq 92 (.build [.z (.str []),.z (.list 0 [])] [(0,1,.t 90),(1,1,.t 91)]),
tq 93 (.mkList 2 1 [.t 92]),
tq 94 (.append ⟨false,zal,2,40⟩ (.t 86) (.t 93)),
mq 8 94] [10,86,87,88,89,90,91,92,93,94])
 .skip))))
(rg [
mq 75 9,
tq 76 (.bin .add (.t 75) (kq 1)),
mq 9 76] [75,76])))
def zwe:CF:=⟨[.tmp 2,.tmp 3],
  (sr [
tq 2 (.ownNil ⟨false,zal,2,40⟩),
tq 3 (.mv (kq 0))] [2,3]
(.seq (sr [
mq 11 0,
tq 12 (cl zfa [.t 11]),
mq 4 12] [11,12]
(sr [
mq 13 4,
tq 14 (.bin .neq (.t 13) (kq 0))] [13]
(.cond (.t 14) (sr [
mq 15 4,
tq 2 (.ownNil ⟨false,zal,2,40⟩),
mq 3 15] [4,15]
.ret)
 .skip)))
(sr [
tq 5 (.ownNil ⟨false,zac,1,16⟩)] []
(.seq (sr [
tq 6 (.mv (kq 0))] []
(.block 0 (.loop [0,5,6] zsq)))
(sr [
tq 8 (.ownNil ⟨false,zal,2,40⟩)] []
(.seq (sr [
tq 9 (.mv (kq 0))] []
(.block 4 (.loop [0,5,8,9] zsr)))
(sr [
mq 95 8,
mq 2 95,
tq 3 (.mv (kq 0))] [8,95]
.ret)))))))⟩
def zp6:CF:=⟨[.tmp 2],
  (sr [
tq 2 (.mv (kq 0))] [2]
(sr [
mq 6 0,
tq 7 (.call false false (.k (.fn zb8 [] [])) [.t 6]),
mq 5 7,
xq 8 5 0,
xq 9 5 1,
mq 3 8,
mq 4 9] [0,3,5,6,7,8,9]
(sr [
mq 10 4,
mq 2 10] [4,10]
.ret)))⟩
def znf:C:=
  (.seq (sr [
mq 11 5,
mq 12 0,
tq 13 (.len .slc (.t 12)),
tq 14 (.bin .lss (.t 11) (.t 13))] [11,12,13]
(.cond (.t 14) .skip
 (.exit 0)))
(.seq (.block 1 (.seq (.reg true [
mq 17 0,
mq 18 5,
tq 19 (.idxAddr 2 (.t 17) (.t 18)),
fa 20 0 19,
ld 21 20,
mq 22 1,
mq 23 5,
tq 24 (.idxAddr 2 (.t 22) (.t 23)),
fa 25 0 24,
ld 26 25,
tq 27 (.bin .neq (.t 21) (.t 26)),
mq 28 27,
gq 29 28 false (.mv (.t 0)),
gq 30 28 false (.mv (.t 5)),
gq 31 28 false (.idxAddr 2 (.t 29) (.t 30)),
gq 32 28 false (.fieldAddr 1 (.t 31)),
gq 33 28 false (.load none (.t 32)),
gq 34 28 false (.mv (.t 1)),
gq 35 28 false (.mv (.t 5)),
gq 36 28 false (.idxAddr 2 (.t 34) (.t 35)),
gq 37 28 false (.fieldAddr 1 (.t 36)),
gq 38 28 false (.load none (.t 37)),
gq 39 28 false (cl zc9 [.t 33,.t 38]),
gq 40 28 false (.un .not (.t 39)),
tq 41 (.pick (.t 28) (.k (.d (.bool true))) (.t 40))] [17,18,19,20,21,22,23,24,25,26,27,28,29,30,31,32,33,34,35,36,37,38,39,40])
(.cond (.t 41) (sr [
tq 4 (.mv (.k (.d (.bool false))))] []
.ret)
 .skip)))
(rg [
mq 15 5,
tq 16 (.bin .add (.t 15) (kq 1)),
mq 5 16] [15,16])))
def zp9:CF:=⟨[.tmp 4],
  (sr [
tq 4 (.mv (.k (.d (.bool false))))] [4]
(.seq (sr [
mq 6 0,
tq 7 (.len .slc (.t 6)),
mq 8 1,
tq 9 (.len .slc (.t 8)),
tq 10 (.bin .neq (.t 7) (.t 9))] [6,7,8,9]
(.cond (.t 10) (sr [
tq 4 (.mv (.k (.d (.bool false))))] []
.ret)
 .skip))
(.seq (sr [
tq 5 (.mv (kq 0))] []
(.block 0 (.loop [0,1,5] znf)))
(sr [
tq 4 (.mv (.k (.d (.bool true))))] []
.ret))))⟩
def zsl:C:=
  (sr [
tq 9 (.bin .lss (.t 8) (.t 7))] []
(.seq (.cond (.t 9) .skip
 (.exit 0))
(.seq (.block 1 (sr [
tq 10 (.idxAddr 2 (.t 6) (.t 8)),
lq 11 2 10,
tq 5 (.alloc zar [.z (.str []),.z (.list 0 [])]),
⟨none,none,.store 2 (.t 5) (.t 11)⟩] [10,11]
(rg [
mq 12 3,
lq 13 2 5,
tq 14 (.mkList 2 1 [.t 13]),
tq 15 (.append ⟨false,zal,2,40⟩ (.t 12) (.t 14)),
mq 3 15] [5,12,13,14,15])))
(rg [
tq 16 (.bin .add (.t 8) (kq 1)),
mq 8 16] [16]))))
def zv5:CF:=⟨[.tmp 2],
  (sr [
tq 2 (.ownNil ⟨false,zal,2,40⟩)] [2]
(sr [
tq 3 (.ownNil ⟨false,zal,2,40⟩)] []
(.seq (sr [
mq 6 0,
tq 7 (.len .slc (.t 6)),
tq 8 (.mv (kq 0))] [0]
(.block 0 (.loop [3,6,7,8] zsl)))
(sr [
mq 17 3,
mq 2 17] [3,17]
.ret))))⟩
def zpy:C:=
  (.seq (sr [
mq 20 3,
fa 21 3 1,
ld 22 21,
tq 23 (.len .str (.t 22)),
tq 24 (.bin .lss (.t 20) (.t 23))] [20,21,22,23]
(.cond (.t 24) .skip
 (.exit 0)))
(.seq (.block 1 (sr [
fa 27 3 1,
ld 28 27,
mq 29 3,
tq 30 (.idxS (.t 28) (.t 29)),
tq 31 (.bin .lss (.t 30) (.k (.d (.int .u8 32)))),
mq 32 31,
gq 33 32 false (.fieldAddr 3 (.t 1)),
gq 34 32 false (.load none (.t 33)),
gq 35 32 false (.mv (.t 3)),
gq 36 32 false (.idxS (.t 34) (.t 35)),
gq 37 32 false (.bin .gtr (.t 36) (.k (.d (.int .u8 126)))),
tq 38 (.pick (.t 32) (.k (.d (.bool true))) (.t 37))] [27,28,29,30,31,32,33,34,35,36,37]
(.cond (.t 38) (sr [
tq 2 (.mv (kq 1))] []
.ret)
 .skip)))
(rg [
mq 25 3,
tq 26 (.bin .add (.t 25) (kq 1)),
mq 3 26] [25,26])))
def zta:CF:=⟨[.tmp 2],
  (sr [
tq 1 (.box zam (.t 0)),
tq 2 (.mv (kq 0))] [0,2]
(.seq (sr [
fa 4 0 1,
ld 5 4,
tq 6 (cl zlc [.t 5]),
tq 7 (.un .not (.t 6))] [4,5,6]
(.cond (.t 7) (sr [
tq 2 (.mv (kq 8))] []
.ret)
 .skip))
(.seq (sr [
fa 8 1 1,
ld 9 8,
tq 10 (cl zfo [.t 9,kq 1,kq 999999999]),
mq 11 10,
gq 12 11 false (.fieldAddr 2 (.t 1)),
gq 13 11 false (.load none (.t 12)),
gq 14 11 false (cl zfo [.t 13,kq 0,kq 99999]),
tq 15 (.pick (.t 11) (.k (.d (.bool true))) (.t 14))] [8,9,10,11,12,13,14]
(.cond (.t 15) (sr [
tq 2 (.mv (kq 3))] []
.ret)
 .skip))
(.seq (sr [
fa 16 3 1,
ld 17 16,
tq 18 (.len .str (.t 17)),
tq 19 (cl zfo [.t 18,kq 1,kq 80])] [16,17,18]
(.cond (.t 19) (sr [
tq 2 (.mv (kq 1))] []
.ret)
 .skip))
(.seq (sr [
tq 3 (.mv (kq 0))] []
(.block 0 (.loop [1,3] zpy)))
(sr [
tq 2 (.mv (kq 0))] []
.ret))))))⟩
def zt6:C:=
  (sr [
tq 9 (.bin .lss (.t 8) (.t 7))] []
(.seq (.cond (.t 9) .skip
 (.exit 0))
(.seq (.block 1 (sr [
mq 10 8,
tq 11 (.idxAddr 1 (.t 6) (.t 8)),
ld 12 11,
mq 2 10,
mq 3 12] [10,11,12]
(sr [
mq 14 3,
tq 15 (cl zpl [.t 14]),
mq 13 15,
xq 16 13 0,
xq 17 13 1,
tq 4 (.alloc zae [.z (.int .i64 0),.z (.str []),.z (.list 0 []),.z (.list 0 []),.z (.str [])]),
⟨none,none,.store 5 (.t 4) (.t 16)⟩,
mq 5 17] [3,5,13,14,15,16,17]
(sr [
mq 18 2,
tq 19 (.bin .add (.t 18) (kq 1)),
fa 20 0 4,
⟨none,none,.store 1 (.t 20) (.t 19)⟩] [2,18,19,20]
(rg [
mq 21 1,
lq 22 5 4,
tq 23 (.mkList 5 1 [.t 22]),
tq 24 (.append ⟨false,zae,5,88⟩ (.t 21) (.t 23)),
mq 1 24] [4,21,22,23,24])))))
(rg [
tq 25 (.bin .add (.t 8) (kq 1)),
mq 8 25] [25]))))
def zyb:CF:=⟨[.tmp 0],
  (sr [
tq 0 (.ownNil ⟨false,zae,5,88⟩)] [0]
(sr [
tq 1 (.ownNil ⟨false,zae,5,88⟩)] []
(.seq (sr [
tq 6 (cl zrs []),
tq 7 (.len .slc (.t 6)),
tq 8 (.mv (kq 0))] []
(.block 0 (.loop [1,6,7,8] zt6)))
(sr [
mq 26 1,
mq 0 26] [1,26]
.ret))))⟩
def zv7:CF:=⟨[.tmp 8,.tmp 9],
  (sr [
tq 8 (.mv (kq 0)),
tq 9 (.mv (kq 0))] [8,9]
(sr [
mq 13 0,
mq 14 1,
tq 15 (cl zcj [.t 14]),
mq 16 2,
tq 17 (cl za1 [.t 16]),
mq 18 3,
tq 19 (cl za1 [.t 18]),
tq 20 (.mkList 1 3 [.t 15,.t 17,.t 19]),
tq 21 (.call false false (.k (.fn zci [] [])) [.t 13,.t 20]),
mq 12 21,
xq 22 12 0,
xq 23 12 1,
mq 10 22,
mq 11 23] [0,12,13,14,15,16,17,18,19,20,21,22,23]
(.seq (sr [
mq 24 11,
tq 25 (.bin .neq (.t 24) (kq 0))] [24]
(.cond (.t 25) (sr [
mq 26 11,
tq 8 (.mv (kq 0)),
mq 9 26] [11,26]
.ret)
 .skip))
(sr [
mq 27 10,
mq 28 1,
mq 29 2,
mq 30 3,
tq 31 (.callQ (.k (.fn zbl [] [])) [.t 27,.t 28,.t 29,.t 30]),
mq 8 31,
tq 9 (.mv (kq 0))] [1,2,3,10,27,28,29,30,31]
.ret))))⟩
def zs0:CF:=⟨[.tmp 4,.tmp 5],
  (sr [
tq 4 (.mv (.k (.d (.list 0 [])))),
tq 5 (.mv (kq 0))] [4,5]
(sr [
mq 9 0,
mq 10 1,
tq 11 (cl za1 [.t 10]),
tq 12 (.mkList 1 1 [.t 11]),
tq 13 (.call false false (.k (.fn zci [] [])) [.t 9,.t 12]),
mq 8 13,
xq 14 8 0,
xq 15 8 1,
mq 6 14,
mq 7 15] [0,8,9,10,11,12,13,14,15]
(.seq (sr [
mq 16 7,
tq 17 (.bin .neq (.t 16) (kq 0))] [16]
(.cond (.t 17) (sr [
mq 18 7,
tq 4 (.mv (.k (.d (.list 0 [])))),
mq 5 18] [7,18]
.ret)
 .skip))
(sr [
mq 19 6,
mq 20 1,
tq 21 (.call true true (.k (.fn zdu [] [])) [.t 19,.t 20]),
mq 4 21,
tq 5 (.mv (kq 0))] [1,6,19,20,21]
.ret))))⟩
def zui:CF:=⟨[.tmp 4,.tmp 5],
  (sr [
tq 4 (.mv (.k (.d (.list 0 [])))),
tq 5 (.mv (kq 0))] [4,5]
(sr [
mq 9 0,
mq 10 1,
tq 11 (cl zcj [.t 10]),
tq 12 (.mkList 1 1 [.t 11]),
tq 13 (.call false false (.k (.fn zci [] [])) [.t 9,.t 12]),
mq 8 13,
xq 14 8 0,
xq 15 8 1,
mq 6 14,
mq 7 15] [0,8,9,10,11,12,13,14,15]
(.seq (sr [
mq 16 7,
tq 17 (.bin .neq (.t 16) (kq 0))] [16]
(.cond (.t 17) (sr [
mq 18 7,
tq 4 (.mv (.k (.d (.list 0 [])))),
mq 5 18] [7,18]
.ret)
 .skip))
(sr [
mq 19 6,
mq 20 1,
tq 21 (.call true true (.k (.fn zd7 [] [])) [.t 19,.t 20]),
xq 22 21 0,
xq 23 21 1,
mq 4 22,
mq 5 23] [1,6,19,20,21,22,23]
.ret))))⟩
def zqy:C:=
  (sr [
tq 31 (.bin .lss (.t 30) (.t 29))] []
(.seq (.cond (.t 31) .skip
 (.exit 0))
(.seq (.block 1 (sr [
tq 32 (.idxAddr 5 (.t 28) (.t 30)),
lq 33 5 32,
tq 13 (.alloc zae [.z (.int .i64 0),.z (.str []),.z (.list 0 []),.z (.list 0 []),.z (.str [])]),
⟨none,none,.store 5 (.t 13) (.t 33)⟩] [32,33]
(sr [
mq 34 8,
mq 35 1,
fa 36 3 13,
ld 37 36,
tq 38 (.idxAddr 1 (.t 37) (kq 0)),
ld 39 38,
mq 40 2,
tq 41 (.callQ (.k (.fn zbl [] [])) [.t 34,.t 35,.t 39,.t 40]),
mq 14 41] [34,35,36,37,38,39,40,41]
(sr [
mq 42 14,
mq 43 11,
tq 44 (.bin .neq (.t 42) (.t 43))] [42,43]
(.cond (.t 44) (sr [
mq 45 10,
fa 46 3 13,
ld 47 46,
tq 48 (.idxAddr 1 (.t 47) (kq 0)),
ld 49 48,
mq 50 14,
tq 51 (.build [.z (.int .i64 0),.z (.int .i64 0)] [(0,1,.t 49),(1,1,.t 50)]),
tq 52 (.mkList 2 1 [.t 51]),
tq 53 (.append ⟨false,zgc,2,16⟩ (.t 45) (.t 52)),
mq 10 53] [13,45,46,47,48,49,50,51,52,53]
(rg [
mq 54 14,
mq 11 54] [14,54]))
 .skip)))))
(rg [
tq 55 (.bin .add (.t 30) (kq 1)),
mq 30 55] [55]))))
def zuf:CF:=⟨[.tmp 6,.tmp 7],
  (sr [
tq 6 (.ownNil ⟨false,zgc,2,16⟩),
tq 7 (.mv (kq 0))] [6,7]
(sr [
mq 16 0,
mq 17 1,
tq 18 (cl zcj [.t 17]),
mq 19 2,
tq 20 (cl za1 [.t 19]),
tq 21 (.mkList 1 2 [.t 18,.t 20]),
tq 22 (.call false false (.k (.fn zci [] [])) [.t 16,.t 21]),
mq 15 22,
xq 23 15 0,
xq 24 15 1,
mq 8 23,
mq 9 24] [15,16,17,18,19,20,21,22,23,24]
(.seq (sr [
mq 25 9,
tq 26 (.bin .neq (.t 25) (kq 0))] [25]
(.cond (.t 26) (sr [
mq 27 9,
tq 6 (.ownNil ⟨false,zgc,2,16⟩),
mq 7 27] [9,27]
.ret)
 .skip))
(sr [
tq 10 (.ownNil ⟨false,zgc,2,16⟩)] []
(sr [
tq 11 (.mv (kq 1440))] []
(.seq (sr [
mq 28 0,
tq 29 (.len .slc (.t 28)),
tq 30 (.mv (kq 0))] [0]
(.block 0 (.loop [1,2,8,10,11,28,29,30] zqy)))
(sr [
mq 56 10,
mq 6 56,
tq 7 (.mv (kq 0))] [10,56]
.ret)))))))⟩
def zo5:CF:=⟨[.tmp 10,.tmp 11],
  (sr [
tq 6 (.box zac (.t 1)),
tq 7 (.box zbv (.t 2)),
tq 8 (.box zbv (.t 3)),
tq 9 (.box zjq (.t 4)),
tq 10 (.mv (.k (.d (.list 0 [])))),
tq 11 (.mv (kq 0))] [1,2,3,4,10,11]
(.seq (.reg true [
mq 16 0,
ld 17 6,
tq 18 (cl zcj [.t 17]),
ld 19 7,
tq 20 (cl za1 [.t 19]),
ld 21 8,
tq 22 (cl za1 [.t 21]),
lq 23 3 9,
tq 24 (cl ze4 [.t 23]),
tq 25 (.mkList 1 4 [.t 18,.t 20,.t 22,.t 24]),
tq 26 (.callN (.k (.fn zci [] [])) [.t 16,.t 25]),
mq 15 26,
xq 27 15 0,
xq 28 15 1,
tq 12 (.alloc zb5 [.z (.nilp)]),
⟨none,none,.store 1 (.t 12) (.t 27)⟩,
mq 13 28] [0,15,16,17,18,19,20,21,22,23,24,25,26,27,28])
(.seq (sr [
mq 29 13,
tq 30 (.bin .neq (.t 29) (kq 0))] [29]
(.cond (.t 30) (sr [
mq 31 13,
tq 10 (.mv (.k (.d (.list 0 [])))),
mq 11 31] [13,31]
.ret)
 .skip))
(sr [
lq 33 3 9,
tq 34 (cl zlv [.t 33]),
mq 32 34,
xq 35 32 0,
xq 36 32 1,
mq 14 35,
mq 13 36] [9,32,33,34,35,36]
(.seq (sr [
mq 37 13,
tq 38 (.bin .neq (.t 37) (kq 0))] [37]
(.cond (.t 38) (sr [
mq 39 13,
tq 10 (.mv (.k (.d (.list 0 [])))),
mq 11 39] [13,39]
.ret)
 .skip))
(sr [
mq 40 14,
tq 41 (.mkFunc zhr [] [.t 12,.t 6,.t 7,.t 8]),
tq 42 (.call true true (.k (.fn zlz [] [])) [.t 40,.t 41]),
mq 10 42,
tq 11 (.mv (kq 0))] [6,7,8,12,14,40,41,42]
.ret))))))⟩
def z0y:CF:=⟨[.tmp 6,.tmp 7],
  (sr [
tq 6 (.mv (.k (.d (.list 0 [])))),
tq 7 (.mv (kq 0))] [6,7]
(sr [
mq 11 0,
mq 12 1,
tq 13 (cl za1 [.t 12]),
mq 14 2,
tq 15 (cl za1 [.t 14]),
tq 16 (.mkList 1 2 [.t 13,.t 15]),
tq 17 (.call false false (.k (.fn zci [] [])) [.t 11,.t 16]),
mq 10 17,
xq 18 10 0,
xq 19 10 1,
mq 8 18,
mq 9 19] [0,10,11,12,13,14,15,16,17,18,19]
(.seq (sr [
mq 20 9,
tq 21 (.bin .neq (.t 20) (kq 0))] [20]
(.cond (.t 21) (sr [
mq 22 9,
tq 6 (.mv (.k (.d (.list 0 [])))),
mq 7 22] [9,22]
.ret)
 .skip))
(sr [
mq 23 8,
mq 24 1,
mq 25 2,
tq 26 (.call true true (.k (.fn zet [] [])) [.t 23,.t 24,.t 25]),
mq 6 26,
tq 7 (.mv (kq 0))] [1,2,8,23,24,25,26]
.ret))))⟩
def zpu:C:=
  (.seq (sr [
mq 11 5,
mq 12 0,
tq 13 (.len .slc (.t 12)),
tq 14 (.bin .lss (.t 11) (.t 13))] [11,12,13]
(.cond (.t 14) .skip
 (.exit 0)))
(.seq (.block 1 (.seq (.reg true [
mq 17 0,
mq 18 5,
tq 19 (.idxAddr 1 (.t 17) (.t 18)),
ld 20 19,
mq 21 1,
mq 22 5,
tq 23 (.idxAddr 1 (.t 21) (.t 22)),
ld 24 23,
tq 25 (.bin .neq (.t 20) (.t 24))] [17,18,19,20,21,22,23,24])
(.cond (.t 25) (sr [
tq 4 (.mv (.k (.d (.bool false))))] []
.ret)
 .skip)))
(rg [
mq 15 5,
tq 16 (.bin .add (.t 15) (kq 1)),
mq 5 16] [15,16])))
def zs6:CF:=⟨[.tmp 4],
  (sr [
tq 4 (.mv (.k (.d (.bool false))))] [4]
(.seq (sr [
mq 6 0,
tq 7 (.len .slc (.t 6)),
mq 8 1,
tq 9 (.len .slc (.t 8)),
tq 10 (.bin .neq (.t 7) (.t 9))] [6,7,8,9]
(.cond (.t 10) (sr [
tq 4 (.mv (.k (.d (.bool false))))] []
.ret)
 .skip))
(.seq (sr [
tq 5 (.mv (kq 0))] []
(.block 0 (.loop [0,1,5] zpu)))
(sr [
tq 4 (.mv (.k (.d (.bool true))))] []
.ret))))⟩
def zpx:C:=
  (.seq (sr [
mq 11 5,
mq 12 0,
tq 13 (.len .slc (.t 12)),
tq 14 (.bin .lss (.t 11) (.t 13))] [11,12,13]
(.cond (.t 14) .skip
 (.exit 0)))
(.seq (.block 1 (.seq (.reg true [
mq 17 0,
mq 18 5,
tq 19 (.idxAddr 2 (.t 17) (.t 18)),
lq 20 2 19,
mq 21 1,
mq 22 5,
tq 23 (.idxAddr 2 (.t 21) (.t 22)),
lq 24 2 23,
tq 25 (.eqv (some [.int,.int]) true (.t 20) (.t 24))] [17,18,19,20,21,22,23,24])
(.cond (.t 25) (sr [
tq 4 (.mv (.k (.d (.bool false))))] []
.ret)
 .skip)))
(rg [
mq 15 5,
tq 16 (.bin .add (.t 15) (kq 1)),
mq 5 16] [15,16])))
def zs9:CF:=⟨[.tmp 4],
  (sr [
tq 4 (.mv (.k (.d (.bool false))))] [4]
(.seq (sr [
mq 6 0,
tq 7 (.len .slc (.t 6)),
mq 8 1,
tq 9 (.len .slc (.t 8)),
tq 10 (.bin .neq (.t 7) (.t 9))] [6,7,8,9]
(.cond (.t 10) (sr [
tq 4 (.mv (.k (.d (.bool false))))] []
.ret)
 .skip))
(.seq (sr [
tq 5 (.mv (kq 0))] []
(.block 0 (.loop [0,1,5] zpx)))
(sr [
tq 4 (.mv (.k (.d (.bool true))))] []
.ret))))⟩
def zvt:C:=
  (sr [
tq 9 (.bin .lss (.t 8) (.t 7))] []
(.seq (.cond (.t 9) .skip
 (.exit 0))
(.seq (.block 1 (sr [
tq 10 (.idxAddr 2 (.t 6) (.t 8)),
lq 11 2 10,
tq 5 (.alloc zgc [.z (.int .i64 0),.z (.int .i64 0)]),
⟨none,none,.store 2 (.t 5) (.t 11)⟩] [10,11]
(rg [
mq 12 3,
lq 13 2 5,
tq 14 (.mkList 2 1 [.t 13]),
tq 15 (.append ⟨false,ze6,2,16⟩ (.t 12) (.t 14)),
mq 3 15] [5,12,13,14,15])))
(rg [
tq 16 (.bin .add (.t 8) (kq 1)),
mq 8 16] [16]))))
def z0x:CF:=⟨[.tmp 2],
  (sr [
tq 2 (.ownNil ⟨false,ze6,2,16⟩)] [2]
(sr [
tq 3 (.ownNil ⟨false,ze6,2,16⟩)] []
(.seq (sr [
mq 6 0,
tq 7 (.len .slc (.t 6)),
tq 8 (.mv (kq 0))] [0]
(.block 0 (.loop [3,6,7,8] zvt)))
(sr [
mq 17 3,
mq 2 17] [3,17]
.ret))))⟩
def zq2:C:=
  (.seq (sr [
mq 11 5,
mq 12 0,
tq 13 (.len .slc (.t 12)),
tq 14 (.bin .lss (.t 11) (.t 13))] [11,12,13]
(.cond (.t 14) .skip
 (.exit 0)))
(.seq (.block 1 (.seq (.reg true [
mq 17 0,
mq 18 5,
tq 19 (.idxAddr 1 (.t 17) (.t 18)),
ld 20 19,
mq 21 1,
mq 22 5,
tq 23 (.idxAddr 1 (.t 21) (.t 22)),
ld 24 23,
tq 25 (.bin .neq (.t 20) (.t 24))] [17,18,19,20,21,22,23,24])
(.cond (.t 25) (sr [
tq 4 (.mv (.k (.d (.bool false))))] []
.ret)
 .skip)))
(rg [
mq 15 5,
tq 16 (.bin .add (.t 15) (kq 1)),
mq 5 16] [15,16])))
def zum:CF:=⟨[.tmp 4],
  (sr [
tq 4 (.mv (.k (.d (.bool false))))] [4]
(.seq (sr [
mq 6 0,
tq 7 (.len .slc (.t 6)),
mq 8 1,
tq 9 (.len .slc (.t 8)),
tq 10 (.bin .neq (.t 7) (.t 9))] [6,7,8,9]
(.cond (.t 10) (sr [
tq 4 (.mv (.k (.d (.bool false))))] []
.ret)
 .skip))
(.seq (sr [
tq 5 (.mv (kq 0))] []
(.block 0 (.loop [0,1,5] zq2)))
(sr [
tq 4 (.mv (.k (.d (.bool true))))] []
.ret))))⟩
def zpw:C:=
  (.seq (sr [
mq 11 5,
mq 12 0,
tq 13 (.len .slc (.t 12)),
tq 14 (.bin .lss (.t 11) (.t 13))] [11,12,13]
(.cond (.t 14) .skip
 (.exit 0)))
(.seq (.block 1 (.seq (.reg true [
mq 17 0,
mq 18 5,
tq 19 (.idxAddr 2 (.t 17) (.t 18)),
lq 20 2 19,
mq 21 1,
mq 22 5,
tq 23 (.idxAddr 2 (.t 21) (.t 22)),
lq 24 2 23,
tq 25 (.eqv (some [.str,.int]) true (.t 20) (.t 24))] [17,18,19,20,21,22,23,24])
(.cond (.t 25) (sr [
tq 4 (.mv (.k (.d (.bool false))))] []
.ret)
 .skip)))
(rg [
mq 15 5,
tq 16 (.bin .add (.t 15) (kq 1)),
mq 5 16] [15,16])))
def zs8:CF:=⟨[.tmp 4],
  (sr [
tq 4 (.mv (.k (.d (.bool false))))] [4]
(.seq (sr [
mq 6 0,
tq 7 (.len .slc (.t 6)),
mq 8 1,
tq 9 (.len .slc (.t 8)),
tq 10 (.bin .neq (.t 7) (.t 9))] [6,7,8,9]
(.cond (.t 10) (sr [
tq 4 (.mv (.k (.d (.bool false))))] []
.ret)
 .skip))
(.seq (sr [
tq 5 (.mv (kq 0))] []
(.block 0 (.loop [0,1,5] zpw)))
(sr [
tq 4 (.mv (.k (.d (.bool true))))] []
.ret))))⟩
def zvs:C:=
  (sr [
tq 9 (.bin .lss (.t 8) (.t 7))] []
(.seq (.cond (.t 9) .skip
 (.exit 0))
(.seq (.block 1 (sr [
tq 10 (.idxAddr 2 (.t 6) (.t 8)),
lq 11 2 10,
tq 5 (.alloc zd9 [.z (.str []),.z (.int .i64 0)]),
⟨none,none,.store 2 (.t 5) (.t 11)⟩] [10,11]
(rg [
mq 12 3,
lq 13 2 5,
tq 14 (.mkList 2 1 [.t 13]),
tq 15 (.append ⟨false,ze5,2,24⟩ (.t 12) (.t 14)),
mq 3 15] [5,12,13,14,15])))
(rg [
tq 16 (.bin .add (.t 8) (kq 1)),
mq 8 16] [16]))))
def z0w:CF:=⟨[.tmp 2],
  (sr [
tq 2 (.ownNil ⟨false,ze5,2,24⟩)] [2]
(sr [
tq 3 (.ownNil ⟨false,ze5,2,24⟩)] []
(.seq (sr [
mq 6 0,
tq 7 (.len .slc (.t 6)),
tq 8 (.mv (kq 0))] [0]
(.block 0 (.loop [3,6,7,8] zvs)))
(sr [
mq 17 3,
mq 2 17] [3,17]
.ret))))⟩
def z24:CF:=⟨[.tmp 0],
  (sr [
tq 0 (.mv (.k (.d (.nilp))))] [0]
(sr [
tq 1 (.build [.own ⟨false,zae,5,88⟩,.z (.int .i64 0),.own ⟨false,zab,8,96⟩,.own ⟨false,zaj,2,24⟩,.own ⟨true,zad,5,48⟩] []),
tq 2 (.box zas (.t 1)),
mq 0 2] [1,2]
.ret))⟩
def zp8:CF:=⟨[.tmp 4,.tmp 5],
  (sr [
tq 4 (.mv (.k (.d (.str [])))),
tq 5 (.mv (kq 0))] [4,5]
(.seq (sr [
mq 17 0,
tq 18 (.nilEq 0 false (.t 17))] [17]
(.cond (.t 18) (sr [
tq 4 (.mv (.k (.d (.str [])))),
tq 5 (.mv (kq 19))] []
.ret)
 .skip))
(.seq (sr [
mq 19 1,
tq 20 (.len .str (.t 19)),
tq 21 (.bin .gtr (.t 20) (kq 4096)),
tq 22 (cl zak [.t 21,kq 26]),
mq 23 1,
tq 24 (.bin .eql (.t 23) (.k (.d (.str [])))),
tq 25 (cl zak [.t 24,kq 25]),
tq 26 (.mkList 1 2 [.t 22,.t 25]),
tq 27 (cl za0 [.t 26]),
mq 6 27] [19,20,21,22,23,24,25,26,27]
(sr [
mq 28 6,
tq 29 (.bin .neq (.t 28) (kq 0))] [28]
(.cond (.t 29) (sr [
mq 30 6,
tq 4 (.mv (.k (.d (.str [])))),
mq 5 30] [6,30]
.ret)
 .skip)))
(sr [
mq 32 1,
tq 33 (cl zmp [.t 32,.k (.d (.str [32]))]),
mq 31 33,
xq 34 31 0,
xq 35 31 1,
xq 36 31 2,
mq 7 34,
mq 8 35,
mq 9 36] [8,9,31,32,33,34,35,36]
(.seq (sr [
tq 38 (.call false false (.k (.fn zkx [] [])) []),
mq 39 7,
tq 40 (.lookup .str (.agg [.int .i64 0,.int .i64 0,.nilf]) true (.t 38) (.t 39)),
mq 37 40,
xq 41 37 0,
xq 42 37 1,
tq 10 (.alloc zk1 [.z (.int .i64 0),.z (.int .i64 0),.z (.nilf)]),
⟨none,none,.store 3 (.t 10) (.t 41)⟩,
mq 11 42] [37,38,39,40,41,42]
(sr [
mq 43 11] [11]
(.cond (.t 43) (sr [
mq 44 0,
lq 45 3 10,
mq 46 1,
tq 47 (.callU true (.k (.fn zi5 [] [])) [.t 44,.t 45,.t 46]),
xq 48 47 0,
xq 49 47 1,
mq 4 48,
mq 5 49] [0,1,10,44,45,46,47,48,49]
.ret)
 .skip)))
(.seq (sr [
tq 51 (.call false false (.k (.fn zd8 [] [])) []),
mq 52 7,
tq 53 (.lookup .str (.agg [.int .i64 0,.int .i64 0,.nilf,.nilf]) true (.t 51) (.t 52)),
mq 50 53,
xq 54 50 0,
xq 55 50 1,
tq 12 (.alloc zli [.z (.int .i64 0),.z (.int .i64 0),.z (.nilf),.z (.nilf)]),
⟨none,none,.store 4 (.t 12) (.t 54)⟩,
mq 13 55] [7,12,50,51,52,53,54,55]
(sr [
mq 56 13,
tq 57 (.un .not (.t 56))] [13,56]
(.cond (.t 57) (sr [
tq 4 (.mv (.k (.d (.str [])))),
tq 5 (.mv (kq 13))] []
.ret)
 .skip)))
(sr [
mq 59 1,
tq 60 (cl zlb [.t 59]),
mq 58 60,
xq 61 58 0,
xq 62 58 1,
tq 14 (.alloc zae [.z (.int .i64 0),.z (.str []),.z (.list 0 []),.z (.list 0 []),.z (.str [])]),
⟨none,none,.store 5 (.t 14) (.t 61)⟩,
mq 15 62] [1,58,59,60,61,62]
(sr [
mq 63 0,
tq 64 (.nilCheck (.t 63)),
fa 65 0 64,
fa 66 0 65,
ld 67 66,
tq 68 (.len .slc (.t 67)),
tq 69 (.bin .add (.t 68) (kq 1)),
fa 70 0 14,
⟨none,none,.store 1 (.t 70) (.t 69)⟩] [63,64,65,66,67,68,69,70]
(.seq (.reg true [
mq 71 15,
tq 72 (.un .not (.t 71)),
tq 73 (cl zak [.t 72,kq 25]),
mq 74 0,
tq 75 (.nilCheck (.t 74)),
fa 76 0 75,
fa 77 0 76,
ld 78 77,
tq 79 (.len .slc (.t 78)),
tq 80 (.bin .geq (.t 79) (kq 1000)),
tq 81 (cl zak [.t 80,kq 5]),
tq 82 (.mkList 1 2 [.t 73,.t 81]),
tq 83 (cl za0 [.t 82]),
mq 16 83] [15,71,72,73,74,75,76,77,78,79,80,81,82,83])
(.seq (sr [
mq 84 16,
tq 85 (.bin .eql (.t 84) (kq 0))] [84]
(.cond (.t 85) (rg [
lq 86 5 14,
tq 87 (cl zcy [.t 86]),
mq 16 87] [86,87])
 .skip))
(.seq (sr [
mq 88 16,
tq 89 (.bin .eql (.t 88) (kq 0))] [88]
(.cond (.t 89) (.reg true [
mq 90 0,
tq 91 (.nilCheck (.t 90)),
fa 92 0 91,
lq 93 5 14,
tq 94 (.callQ (.k (.fn zap [] [])) [.t 92,.t 93]),
mq 16 94] [90,91,92,93,94])
 .skip))
(.seq (sr [
mq 95 16,
tq 96 (.bin .neq (.t 95) (kq 0))] [95]
(.cond (.t 96) (sr [
mq 97 16,
tq 4 (.mv (.k (.d (.str [])))),
mq 5 97] [16,97]
.ret)
 .skip))
(.seq (.reg true [
mq 98 0,
tq 99 (.nilCheck (.t 98)),
fa 100 0 99,
lq 101 5 14,
tq 102 (.callU false (.k (.fn zaq [] [])) [.t 100,.t 101])] [0,98,99,100,101,102])
(sr [
fa 103 0 14,
ld 104 103,
tq 105 (cl n_strconv_Itoa [.t 104]),
tq 106 (.bin .add (.k (.d (.str [100,111,110,101,32]))) (.t 105)),
mq 4 106,
tq 5 (.mv (kq 0))] [14,103,104,105,106]
.ret))))))))))))))⟩
def zo6:CF:=⟨[.tmp 2],
  (sr [
tq 2 (.mv (.k (.d (.str []))))] [2]
(.seq (sr [
mq 3 0,
tq 4 (.nilEq 0 false (.t 3))] [3]
(.cond (.t 4) (sr [
tq 2 (.mv (.k (.d (.str []))))] []
.ret)
 .skip))
(sr [
mq 5 0,
tq 6 (.nilCheck (.t 5)),
fa 7 0 6,
fa 8 0 7,
ld 9 8,
tq 10 (.call true true (.k (.fn zeb [] [])) [.t 9,.k (.fn zn1 [] [])]),
tq 11 (cl n_strings_Join [.t 10,.k (.d (.str []))]),
mq 2 11] [0,5,6,7,8,9,10,11]
.ret)))⟩
def zqz:C:=
  (rg [
mq 7 17] [17])
def zq0:C:=
  (.block 1 (sr [
mq 19 7,
tq 20 (cl zka [.t 19,.k (.d (.str [10]))]),
mq 18 20,
xq 21 18 0,
xq 22 18 1,
mq 8 21,
mq 9 22] [18,19,20,21,22]
(.seq (sr [
mq 23 9,
tq 24 (.un .not (.t 23))] [9,23]
(.cond (.t 24) (.seq (.reg true [
ld 25 5,
ld 26 6,
⟨none,none,.storeR 1 (.t 2) (.t 25) [6]⟩,
⟨none,none,.store 1 (.t 3) (.t 26)⟩,
⟨none,none,.store 1 (.t 4) (kq 28)⟩] [5,6,25,26])
.ret)
 .skip))
(sr [
mq 28 8,
ld 29 5,
tq 30 (.len .slc (.t 29)),
tq 31 (cl zl0 [.t 28,.t 30]),
mq 27 31,
xq 32 27 0,
xq 33 27 1,
tq 10 (.alloc zae [.z (.int .i64 0),.z (.str []),.z (.list 0 []),.z (.list 0 []),.z (.str [])]),
⟨none,none,.store 5 (.t 10) (.t 32)⟩,
mq 11 33] [8,27,28,29,30,31,32,33]
(.seq (sr [
mq 34 11,
tq 35 (.bin .neq (.t 34) (kq 0))] [34]
(.cond (.t 35) (.seq (.reg true [
ld 36 5,
ld 37 6,
mq 38 11,
⟨none,none,.storeR 1 (.t 2) (.t 36) [6]⟩,
⟨none,none,.store 1 (.t 3) (.t 37)⟩,
⟨none,none,.store 1 (.t 4) (.t 38)⟩] [5,6,11,36,37,38])
.ret)
 .skip))
(sr [
ld 39 5,
lq 40 5 10,
tq 41 (.mkList 5 1 [.t 40]),
tq 42 (.append ⟨false,zae,5,88⟩ (.t 39) (.t 41)),
⟨none,none,.store 1 (.t 5) (.t 42)⟩] [5,10,39,40,41,42]
(rg [
ld 43 6,
mq 44 7,
tq 45 (.len .str (.t 44)),
tq 46 (.bin .add (.t 43) (.t 45)),
⟨none,none,.store 1 (.t 6) (.t 46)⟩] [6,7,43,44,45,46])))))))
def zuh:CF:=⟨[.cell 2 none,.cell 3 none,.cell 4 none],
  (sr [
tq 2 (.alloc zsf [.own ⟨false,zae,5,88⟩]),
tq 3 (.alloc zbv [.z (.int .i64 0)]),
tq 4 (.alloc z5v [.z (.int .i64 0)])] []
(.seq (sr [
mq 12 0,
tq 13 (.len .str (.t 12)),
tq 14 (.bin .gtr (.t 13) (kq 1000000))] [12,13]
(.cond (.t 14) (sr [
⟨none,none,.store 1 (.t 2) (.k (.d (.list 0 [])))⟩,
⟨none,none,.store 1 (.t 3) (kq 0)⟩,
⟨none,none,.store 1 (.t 4) (kq 26)⟩] []
.ret)
 .skip))
(sr [
tq 5 (.alloc zsf [.own ⟨false,zae,5,88⟩])] []
(sr [
tq 6 (.alloc zbv [.z (.int .i64 0)]),
⟨none,none,.store 1 (.t 6) (kq 0)⟩] []
(.seq (sr [
mq 15 0,
tq 16 (.call false false (.k (.fn zn5 [] [])) [.t 15])] [0,15]
(.block 0 (.rangeFn 50 (.t 16) [17] zqz zq0)))
(.seq (.reg true [
ld 47 5,
ld 48 6,
⟨none,none,.storeR 1 (.t 2) (.t 47) [6]⟩,
⟨none,none,.store 1 (.t 3) (.t 48)⟩,
⟨none,none,.store 1 (.t 4) (kq 0)⟩] [5,6,47,48])
.ret))))))⟩
def z0p:C:=
  (.seq (sr [
mq 6 4,
mq 7 0,
tq 8 (.len .str (.t 7)),
tq 9 (.bin .lss (.t 6) (.t 8))] [6,7,8]
(.cond (.t 9) .skip
 (.exit 0)))
(.seq (.block 1 (rg [
mq 12 3,
tq 13 (.bin .mul (kq 281) (.t 12)),
mq 14 0,
mq 15 4,
tq 16 (.idxS (.t 14) (.t 15)),
tq 17 (.conv .i64 (.t 16)),
tq 18 (.bin .add (.t 13) (.t 17)),
tq 19 (.bin .rem (.t 18) (kq 9999943)),
mq 3 19] [12,13,14,15,16,17,18,19]))
(rg [
mq 10 4,
tq 11 (.bin .add (.t 10) (kq 1)),
mq 4 11] [10,11])))
def z0q:C:=
  (.seq (sr [
mq 22 5,
tq 23 (.len .str (.t 22)),
tq 24 (.bin .lss (.t 23) (kq 7))] [22,23]
(.cond (.t 24) .skip
 (.exit 2)))
(.block 3 (rg [
mq 25 5,
tq 26 (.bin .add (.k (.d (.str [48]))) (.t 25)),
mq 5 26] [25,26])))
def z6i:CF:=⟨[.tmp 2],
  (sr [
tq 2 (.mv (.k (.d (.str []))))] [2]
(sr [
tq 3 (.mv (kq 1))] []
(.seq (sr [
tq 4 (.mv (kq 0))] []
(.block 0 (.loop [0,3,4] z0p)))
(sr [
mq 20 3,
tq 21 (cl zt1 [.t 20]),
mq 5 21] [3,20,21]
(.seq (.block 2 (.loop [5] z0q))
(sr [
mq 27 5,
mq 2 27] [5,27]
.ret))))))⟩
def zq1:C:=
  (sr [
tq 18 (.bin .lss (.t 17) (.t 16))] []
(.seq (.cond (.t 18) .skip
 (.exit 0))
(.seq (.block 1 (sr [
tq 19 (.idxAddr 4 (.t 15) (.t 17)),
lq 20 4 19,
tq 6 (.alloc zah [.z (.str []),.z (.int .i64 0),.z (.int .i64 0),.z (.str [])]),
⟨none,none,.store 4 (.t 6) (.t 20)⟩] [19,20]
(sr [
fa 21 0 6,
ld 22 21,
fa 23 1 6,
ld 24 23,
tq 25 (.build [.z (.str []),.z (.int .i64 0)] [(0,1,.t 22),(1,1,.t 24)]),
tq 7 (.alloc zjr [.z (.str []),.z (.int .i64 0)]),
⟨none,none,.store 2 (.t 7) (.t 25)⟩] [21,22,23,24,25]
(sr [
mq 27 4,
lq 28 2 7,
tq 29 (.lookup (.rc [true,false]) (.agg [.str [],.int .i64 0,.int .i64 0,.str []]) true (.t 27) (.t 28)),
mq 26 29,
xq 30 26 0,
xq 31 26 1,
tq 8 (.alloc zah [.z (.str []),.z (.int .i64 0),.z (.int .i64 0),.z (.str [])]),
⟨none,none,.store 4 (.t 8) (.t 30)⟩,
mq 9 31] [26,27,28,29,30,31]
(.seq (sr [
lq 32 4 6,
tq 33 (cl zes [.t 32]),
mq 34 9,
mq 35 34,
gq 36 35 true (.load (some 4) (.t 8)),
gq 37 35 true (.load (some 4) (.t 6)),
gq 38 35 true (.eqv (some [.str,.int,.int,.str]) true (.t 36) (.t 37)),
tq 39 (.pick (.t 35) (.t 38) (.k (.d (.bool false)))),
tq 40 (cl zak [.t 39,kq 29]),
tq 41 (.mkList 1 2 [.t 33,.t 40]),
tq 42 (cl za0 [.t 41]),
mq 10 42] [8,9,32,33,34,35,36,37,38,39,40,41,42]
(sr [
mq 43 10,
tq 44 (.bin .neq (.t 43) (kq 0))] [43]
(.cond (.t 44) (sr [
mq 45 10,
tq 2 (.mv (.k (.d (.nilm)))),
mq 3 45] [10,45]
.ret)
 .skip)))
(rg [
mq 46 4,
lq 47 2 7,
lq 48 4 6,
⟨none,none,.mapSet (.rc [true,false]) (.t 46) (.t 47) (.t 48)⟩] [6,7,46,47,48]))))))
(rg [
tq 49 (.bin .add (.t 17) (kq 1)),
mq 17 49] [49]))))
def zuj:CF:=⟨[.tmp 2,.tmp 3],
  (sr [
tq 2 (.mv (.k (.d (.nilm)))),
tq 3 (.mv (kq 0))] [2,3]
(.seq (sr [
mq 11 0,
tq 12 (.len .slc (.t 11)),
tq 13 (.bin .gtr (.t 12) (kq 256))] [11,12]
(.cond (.t 13) (sr [
tq 2 (.mv (.k (.d (.nilm)))),
tq 3 (.mv (kq 5))] []
.ret)
 .skip))
(sr [
tq 14 (.mkMap),
mq 4 14] [14]
(.seq (sr [
mq 15 0,
tq 16 (.len .slc (.t 15)),
tq 17 (.mv (kq 0))] [0]
(.block 0 (.loop [4,15,16,17] zq1)))
(sr [
mq 50 4,
mq 2 50,
tq 3 (.mv (kq 0))] [4,50]
.ret)))))⟩
def zh2:CF:=⟨[.tmp 4],
  (sr [
tq 4 (.ownNil ⟨true,zah,4,48⟩)] [4]
(sr [
mq 6 0,
tq 7 (.call true false (.k (.fn zce [] [])) [.t 6]),
mq 5 7] [0,6,7]
(sr [
mq 8 5,
mq 9 1,
tq 10 (.callB true (.k (.fn n_slices_SortFunc_Loffice_Note_office_Note [] [])) [.t 8,.t 9] 8)] [1,8,9,10]
(sr [
mq 11 5,
mq 4 11] [5,11]
.ret))))⟩
def zck:CF:=⟨[.tmp 2],
  (sr [
tq 1 (.box zey (.t 0)),
tq 2 (.mv (.k (.d (.nilf))))] [0,2]
(sr [
tq 3 (.mkFunc zaf [] [.t 1]),
mq 2 3] [1,3]
.ret))⟩
def zs1:CF:=⟨[.tmp 4],
  (sr [
tq 2 (.box zah (.t 0)),
tq 3 (.box zah (.t 1)),
tq 4 (.mv (kq 0))] [0,1,4]
(.seq (.reg true [
fa 5 2 2,
ld 6 5,
fa 7 2 3,
ld 8 7,
tq 9 (cl zfw [.t 6,.t 8]),
fa 10 0 2,
ld 11 10,
fa 12 0 3,
ld 13 12,
tq 14 (cl zf4 [.t 11,.t 13]),
fa 15 1 2,
ld 16 15,
fa 17 1 3,
ld 18 17,
tq 19 (cl zfw [.t 16,.t 18]),
tq 20 (.mkList 1 3 [.t 9,.t 14,.t 19]),
tq 21 (cl zny [.t 20]),
mq 4 21] [2,3,5,6,7,8,9,10,11,12,13,14,15,16,17,18,19,20,21])
.ret))⟩
def zx9:C:=
  (sr [
tq 9 (.bin .lss (.t 8) (.t 7))] []
(.seq (.cond (.t 9) .skip
 (.exit 0))
(.seq (.block 1 (sr [
tq 10 (.idxAddr 1 (.t 6) (.t 8)),
ld 11 10,
mq 5 11] [10,11]
(sr [
mq 12 5,
mq 13 3,
tq 14 (.bin .neq (.t 12) (.t 13))] [12,13]
(.cond (.t 14) (sr [
mq 15 5,
mq 2 15] [5,15]
.ret)
 .skip))))
(rg [
tq 16 (.bin .add (.t 8) (kq 1)),
mq 8 16] [16]))))
def z23:CF:=⟨[.tmp 2],
  (sr [
tq 2 (.mv (kq 0))] [2]
(sr [
tq 3 (.mv (kq 0))] []
(.seq (sr [
mq 6 0,
tq 7 (.len .slc (.t 6)),
tq 8 (.mv (kq 0))] [0]
(.block 0 (.loop [3,6,7,8] zx9)))
(sr [
mq 17 3,
mq 2 17] [3,17]
.ret))))⟩
def zsz:CF:=⟨[.tmp 4],
  (sr [
tq 4 (.mv (kq 0))] [4]
(sr [
mq 7 0,
tq 8 (cl zhb [.t 7]),
mq 5 8] [7,8]
(sr [
mq 9 1,
tq 10 (cl zhb [.t 9]),
mq 6 10] [9,10]
(.seq (sr [
mq 11 5] [5]
(.cond (.t 11) (.seq (sr [
mq 12 6] [6]
(.cond (.t 12) (sr [
tq 4 (.mv (kq 0))] []
.ret)
 .skip))
(sr [
tq 4 (.mv (kq (-1)))] []
.ret))
 .skip))
(.seq (sr [
mq 13 6] [6]
(.cond (.t 13) (sr [
tq 4 (.mv (kq 1))] []
.ret)
 .skip))
(.seq (sr [
mq 14 0,
mq 15 1,
tq 16 (.bin .lss (.t 14) (.t 15))] [14,15]
(.cond (.t 16) (sr [
tq 4 (.mv (kq (-1)))] []
.ret)
 .skip))
(.seq (sr [
mq 17 0,
mq 18 1,
tq 19 (.bin .gtr (.t 17) (.t 18))] [0,1,17,18]
(.cond (.t 19) (sr [
tq 4 (.mv (kq 1))] []
.ret)
 .skip))
(sr [
tq 4 (.mv (kq 0))] []
.ret))))))))⟩
def zo4:CF:=⟨[.tmp 4],
  (sr [
tq 4 (.mv (kq 0))] [4]
(sr [
mq 7 0,
tq 8 (cl ze7 [.t 7]),
mq 5 8] [7,8]
(sr [
mq 9 1,
tq 10 (cl ze7 [.t 9]),
mq 6 10] [9,10]
(.seq (sr [
mq 11 5] [5]
(.cond (.t 11) (.seq (sr [
mq 12 6] [6]
(.cond (.t 12) (sr [
tq 4 (.mv (kq 0))] []
.ret)
 .skip))
(sr [
tq 4 (.mv (kq (-1)))] []
.ret))
 .skip))
(.seq (sr [
mq 13 6] [6]
(.cond (.t 13) (sr [
tq 4 (.mv (kq 1))] []
.ret)
 .skip))
(.seq (sr [
mq 14 0,
mq 15 1,
tq 16 (.bin .lss (.t 14) (.t 15))] [14,15]
(.cond (.t 16) (sr [
tq 4 (.mv (kq (-1)))] []
.ret)
 .skip))
(.seq (sr [
mq 17 0,
mq 18 1,
tq 19 (.bin .gtr (.t 17) (.t 18))] [0,1,17,18]
(.cond (.t 19) (sr [
tq 4 (.mv (kq 1))] []
.ret)
 .skip))
(sr [
tq 4 (.mv (kq 0))] []
.ret))))))))⟩
def zm7:CF:=⟨[.tmp 2],
  (sr [
tq 2 (.ownNil ⟨true,zac,1,16⟩)] [2]
(sr [
mq 4 0,
tq 5 (.call true false (.k (.fn zev [] [])) [.t 4]),
mq 3 5] [0,4,5]
(sr [
mq 6 3,
tq 7 (.callB true (.k (.fn n_slices_Sort_Lstring_string [] [])) [.t 6] 6)] [6,7]
(sr [
mq 8 3,
mq 2 8] [3,8]
.ret))))⟩
def zf2:CF:=⟨[.tmp 2],
  (sr [
tq 1 (.box zic (.t 0)),
tq 2 (.mv (.k (.d (.nilf))))] [0,2]
(sr [
tq 3 (.mkFunc zaw [] [.t 1]),
mq 2 3] [1,3]
.ret))⟩
def zyk:CF:=⟨[.tmp 4],
  (sr [
tq 2 (.box zam (.t 0)),
tq 3 (.box zam (.t 1)),
tq 4 (.mv (.k (.d (.bool false))))] [0,1,4]
(.seq (sr [
fa 5 2 2,
ld 6 5,
fa 7 2 3,
ld 8 7,
tq 9 (.bin .neq (.t 6) (.t 8))] [5,6,7,8]
(.cond (.t 9) (sr [
fa 10 2 2,
ld 11 10,
fa 12 2 3,
ld 13 12,
tq 14 (.bin .lss (.t 11) (.t 13)),
mq 4 14] [2,3,10,11,12,13,14]
.ret)
 .skip))
(.seq (sr [
fa 15 0 2,
ld 16 15,
fa 17 0 3,
ld 18 17,
tq 19 (.bin .neq (.t 16) (.t 18))] [15,16,17,18]
(.cond (.t 19) (sr [
fa 20 0 2,
ld 21 20,
fa 22 0 3,
ld 23 22,
tq 24 (.bin .lss (.t 21) (.t 23)),
mq 4 24] [2,3,20,21,22,23,24]
.ret)
 .skip))
(sr [
fa 25 1 2,
ld 26 25,
fa 27 1 3,
ld 28 27,
tq 29 (.bin .lss (.t 26) (.t 28)),
mq 4 29] [2,3,25,26,27,28,29]
.ret))))⟩
def zq3:C:=
  (.seq (sr [
mq 7 6,
mq 8 0,
tq 9 (.len .slc (.t 8)),
tq 10 (.bin .lss (.t 7) (.t 9))] [7,8,9]
(.cond (.t 10) .skip
 (.exit 0)))
(.seq (.block 1 (sr [
mq 13 0,
mq 14 6,
tq 15 (.idxAddr 4 (.t 13) (.t 14)),
fa 16 0 15,
ld 17 16,
mq 18 1,
tq 19 (.bin .eql (.t 17) (.t 18))] [13,14,15,16,17,18]
(.cond (.t 19) (rg [
mq 20 5,
mq 21 0,
mq 22 6,
tq 23 (.idxAddr 4 (.t 21) (.t 22)),
fa 24 1 23,
ld 25 24,
tq 26 (.minmax true [.t 20,.t 25]),
mq 5 26] [20,21,22,23,24,25,26])
 .skip)))
(rg [
mq 11 6,
tq 12 (.bin .add (.t 11) (kq 1)),
mq 6 12] [11,12])))
def zun:CF:=⟨[.tmp 4],
  (sr [
tq 4 (.mv (kq 0))] [4]
(sr [
tq 5 (.mv (kq 0))] []
(.seq (sr [
tq 6 (.mv (kq 0))] []
(.block 0 (.loop [0,1,5,6] zq3)))
(sr [
mq 27 5,
mq 4 27] [5,27]
.ret))))⟩
def zsn:C:=
  (.seq (sr [
mq 6 5,
mq 7 0,
tq 8 (.len .slc (.t 7)),
tq 9 (.bin .lss (.t 6) (.t 8))] [6,7,8]
(.cond (.t 9) .skip
 (.exit 0)))
(.seq (.block 1 (sr [
mq 12 0,
mq 13 5,
tq 14 (.idxAddr 1 (.t 12) (.t 13)),
ld 15 14,
mq 16 1,
tq 17 (.bin .eql (.t 15) (.t 16))] [12,13,14,15,16]
(.cond (.t 17) (sr [
tq 4 (.mv (.k (.d (.bool true))))] []
.ret)
 .skip)))
(rg [
mq 10 5,
tq 11 (.bin .add (.t 10) (kq 1)),
mq 5 11] [10,11])))
def zwc:CF:=⟨[.tmp 4],
  (sr [
tq 4 (.mv (.k (.d (.bool false))))] [4]
(.seq (sr [
tq 5 (.mv (kq 0))] []
(.block 0 (.loop [0,1,5] zsn)))
(sr [
tq 4 (.mv (.k (.d (.bool false))))] []
.ret)))⟩
def zvv:C:=
  (.seq (sr [
mq 14 6,
mq 15 0,
tq 16 (.len .slc (.t 15)),
tq 17 (.bin .lss (.t 14) (.t 16))] [14,15,16]
(.cond (.t 17) .skip
 (.exit 0)))
(.seq (.block 1 (sr [
mq 20 0,
mq 21 6,
tq 22 (.idxAddr 4 (.t 20) (.t 21)),
fa 23 0 22,
ld 24 23,
mq 25 1,
tq 26 (.bin .eql (.t 24) (.t 25))] [20,21,22,23,24,25]
(.cond (.t 26) (rg [
mq 27 5,
mq 28 0,
mq 29 6,
tq 30 (.idxAddr 4 (.t 28) (.t 29)),
fa 31 1 30,
ld 32 31,
tq 33 (.idxAddr 1 (.t 27) (.t 32)),
⟨none,none,.store 1 (.t 33) (.k (.d (.bool true)))⟩] [27,28,29,30,31,32,33])
 .skip)))
(rg [
mq 18 6,
tq 19 (.bin .add (.t 18) (kq 1)),
mq 6 19] [18,19])))
def zvw:C:=
  (.seq (sr [
mq 34 8,
mq 35 5,
tq 36 (.len .slc (.t 35)),
tq 37 (.bin .lss (.t 34) (.t 36))] [34,35,36]
(.cond (.t 37) .skip
 (.exit 2)))
(.seq (.block 3 (sr [
mq 40 5,
mq 41 8,
tq 42 (.idxAddr 1 (.t 40) (.t 41)),
ld 43 42,
tq 44 (.un .not (.t 43))] [40,41,42,43]
(.cond (.t 44) (rg [
mq 45 7,
mq 46 8,
tq 47 (.mkList 1 1 [.t 46]),
tq 48 (.append ⟨false,zbv,1,8⟩ (.t 45) (.t 47)),
mq 7 48] [45,46,47,48])
 .skip)))
(rg [
mq 38 8,
tq 39 (.bin .add (.t 38) (kq 1)),
mq 8 39] [38,39])))
def z04:CF:=⟨[.tmp 4],
  (sr [
tq 4 (.ownNil ⟨false,zbv,1,8⟩)] [4]
(sr [
mq 9 0,
mq 10 1,
tq 11 (cl zgh [.t 9,.t 10]),
tq 12 (.bin .add (.t 11) (kq 1)),
tq 13 (.makeRow ⟨true,z8i,1,1⟩ [.bool false] (.t 12)),
mq 5 13] [9,10,11,12,13]
(.seq (sr [
tq 6 (.mv (kq 0))] []
(.block 0 (.loop [0,1,5,6] zvv)))
(sr [
tq 7 (.ownNil ⟨false,zbv,1,8⟩)] []
(.seq (sr [
tq 8 (.mv (kq 1))] []
(.block 2 (.loop [5,7,8] zvw)))
(sr [
mq 49 7,
mq 4 49] [7,49]
.ret))))))⟩
def zua:C:=
  (.seq (sr [
mq 14 3,
mq 15 0,
tq 16 (.len .str (.t 15)),
tq 17 (.bin .lss (.t 14) (.t 16))] [14,15,16]
(.cond (.t 17) .skip
 (.exit 0)))
(.seq (.block 1 (sr [
mq 20 0,
mq 21 3,
tq 22 (.idxS (.t 20) (.t 21)),
mq 4 22] [20,21,22]
(sr [
mq 23 4,
tq 24 (.bin .geq (.t 23) (.k (.d (.int .u8 97)))),
mq 25 24,
gq 26 25 true (.mv (.t 4)),
gq 27 25 true (.bin .leq (.t 26) (.k (.d (.int .u8 122)))),
tq 28 (.pick (.t 25) (.t 27) (.k (.d (.bool false)))),
mq 29 28,
gq 30 29 false (.mv (.t 4)),
gq 31 29 false (.bin .geq (.t 30) (.k (.d (.int .u8 65)))),
gq 32 29 false (.mv (.t 31)),
gq 33 32 true (.mv (.t 4)),
gq 34 32 true (.bin .leq (.t 33) (.k (.d (.int .u8 90)))),
gq 35 29 false (.pick (.t 32) (.t 34) (.k (.d (.bool false)))),
tq 36 (.pick (.t 29) (.k (.d (.bool true))) (.t 35)),
mq 5 36] [23,24,25,26,27,28,29,30,31,32,33,34,35,36]
(sr [
mq 37 5,
tq 38 (.un .not (.t 37)),
mq 39 38,
gq 40 39 true (.mv (.t 3)),
gq 41 39 true (.bin .eql (.t 40) (kq 0)),
gq 42 39 true (.mv (.t 41)),
gq 43 42 false (.mv (.t 4)),
gq 44 42 false (.bin .neq (.t 43) (.k (.d (.int .u8 95)))),
gq 45 42 false (.mv (.t 44)),
gq 46 45 true (.mv (.t 4)),
gq 47 45 true (.bin .lss (.t 46) (.k (.d (.int .u8 48)))),
gq 48 45 true (.mv (.t 47)),
gq 49 48 false (.mv (.t 4)),
gq 50 48 false (.bin .gtr (.t 49) (.k (.d (.int .u8 57)))),
gq 51 45 true (.pick (.t 48) (.k (.d (.bool true))) (.t 50)),
gq 52 42 false (.pick (.t 45) (.t 51) (.k (.d (.bool false)))),
gq 53 39 true (.pick (.t 42) (.k (.d (.bool true))) (.t 52)),
tq 54 (.pick (.t 39) (.t 53) (.k (.d (.bool false))))] [4,5,37,38,39,40,41,42,43,44,45,46,47,48,49,50,51,52,53]
(.cond (.t 54) (sr [
tq 2 (.mv (.k (.d (.bool false))))] []
.ret)
 .skip)))))
(rg [
mq 18 3,
tq 19 (.bin .add (.t 18) (kq 1)),
mq 3 19] [18,19])))
def zyh:CF:=⟨[.tmp 2],
  (sr [
tq 2 (.mv (.k (.d (.bool false))))] [2]
(.seq (sr [
mq 6 0,
tq 7 (.len .str (.t 6)),
tq 8 (.bin .eql (.t 7) (kq 0)),
mq 9 8,
gq 10 9 false (.mv (.t 0)),
gq 11 9 false (.len .str (.t 10)),
gq 12 9 false (.bin .gtr (.t 11) (kq 24)),
tq 13 (.pick (.t 9) (.k (.d (.bool true))) (.t 12))] [6,7,8,9,10,11,12]
(.cond (.t 13) (sr [
tq 2 (.mv (.k (.d (.bool false))))] []
.ret)
 .skip))
(.seq (sr [
tq 3 (.mv (kq 0))] []
(.block 0 (.loop [0,3] zua)))
(sr [
tq 2 (.mv (.k (.d (.bool true))))] []
.ret))))⟩
def zwf:CF:=⟨[.tmp 6],
  (sr [
tq 6 (.mv (.k (.d (.bool false))))] [6]
(sr [
mq 7 0,
mq 8 1,
tq 9 (.bin .lss (.t 7) (.t 8)),
mq 10 9,
gq 11 10 false (.mv (.t 0)),
gq 12 10 false (.mv (.t 2)),
gq 13 10 false (.bin .gtr (.t 11) (.t 12)),
tq 14 (.pick (.t 10) (.k (.d (.bool true))) (.t 13)),
mq 6 14] [0,1,2,7,8,9,10,11,12,13,14]
.ret))⟩
def z0u:CF:=⟨[.tmp 0],
  (sr [
tq 0 (.mv (.k (.d (.list 0 []))))] [0]
(sr [
tq 1 (.mkList 1 4 [.k (.d (.str [101,110,116,101,114,32,101,32,97,32,53,32,49,48,32,50,48,32,54,48,48])),.k (.d (.str [114,117,108,101,32,114,32,97,32,55,32,49,53,32,50,48,32,54,54,48])),.k (.d (.str [102,111,108,108,111,119,32,102,32,98,32,114,32,56,32,49,53,32,50,48,32,55,48,48])),.k (.d (.str [114,101,118,101,114,115,101,32,114,32,57]))]),
mq 0 1] [1]
.ret))⟩
def zud:C:=
  (.seq (sr [
mq 35 7,
mq 36 4,
tq 37 (.len .slc (.t 36)),
tq 38 (.bin .lss (.t 35) (.t 37))] [35,36,37]
(.cond (.t 38) .skip
 (.exit 0)))
(.seq (.block 1 (.seq (sr [
mq 41 4,
mq 42 7,
tq 43 (.idxAddr 1 (.t 41) (.t 42)),
ld 44 43,
tq 45 (.bin .eql (.t 44) (.k (.d (.str []))))] [41,42,43,44]
(.cond (.t 45) (sr [
tq 46 (.build [.z (.int .i64 0),.z (.str []),.own ⟨false,zac,1,16⟩,.own ⟨false,zbv,1,8⟩,.z (.str [])] []),
⟨none,none,.store 5 (.t 2) (.t 46)⟩,
tq 3 (.mv (.k (.d (.bool false))))] [46]
.ret)
 .skip))
(.seq (sr [
mq 47 7,
fa 48 0 5,
ld 49 48,
tq 50 (.bin .leq (.t 47) (.t 49))] [47,48,49]
(.cond (.t 50) (.seq (.reg true [
fa 51 2 6,
ld 52 51,
mq 53 4,
mq 54 7,
tq 55 (.idxAddr 1 (.t 53) (.t 54)),
ld 56 55,
tq 57 (.mkList 1 1 [.t 56]),
tq 58 (.append ⟨false,zac,1,16⟩ (.t 52) (.t 57)),
fa 59 2 6,
⟨none,none,.store 1 (.t 59) (.t 58)⟩] [51,52,53,54,55,56,57,58,59])
(.exit 1))
 .skip))
(sr [
mq 61 4,
mq 62 7,
tq 63 (.idxAddr 1 (.t 61) (.t 62)),
ld 64 63,
tq 65 (cl zn4 [.t 64]),
mq 60 65,
xq 66 60 0,
xq 67 60 1,
mq 8 66,
mq 9 67] [60,61,62,63,64,65,66,67]
(.seq (sr [
mq 68 9,
tq 69 (.un .not (.t 68))] [9,68]
(.cond (.t 69) (sr [
tq 70 (.build [.z (.int .i64 0),.z (.str []),.own ⟨false,zac,1,16⟩,.own ⟨false,zbv,1,8⟩,.z (.str [])] []),
⟨none,none,.store 5 (.t 2) (.t 70)⟩,
tq 3 (.mv (.k (.d (.bool false))))] [70]
.ret)
 .skip))
(rg [
fa 71 3 6,
ld 72 71,
mq 73 8,
tq 74 (.mkList 1 1 [.t 73]),
tq 75 (.append ⟨false,zbv,1,8⟩ (.t 72) (.t 74)),
fa 76 3 6,
⟨none,none,.store 1 (.t 76) (.t 75)⟩] [8,71,72,73,74,75,76]))))))
(rg [
mq 39 7,
tq 40 (.bin .add (.t 39) (kq 1)),
mq 7 40] [39,40])))
def zyj:CF:=⟨[.cell 2 (some 5),.tmp 3],
  (sr [
tq 2 (.alloc zae [.z (.int .i64 0),.z (.str []),.own ⟨false,zac,1,16⟩,.own ⟨false,zbv,1,8⟩,.z (.str [])]),
tq 3 (.mv (.k (.d (.bool false))))] [3]
(sr [
mq 10 0,
tq 11 (cl zru [.t 10]),
mq 4 11] [0,10,11]
(sr [
mq 12 4,
tq 13 (.idxAddr 1 (.t 12) (kq 0)),
ld 14 13,
tq 15 (cl zt0 [.t 14]),
tq 5 (.alloc zhy [.z (.int .i64 0),.z (.int .i64 0),.z (.bool false)]),
⟨none,none,.store 3 (.t 5) (.t 15)⟩] [12,13,14,15]
(.seq (sr [
fa 16 2 5,
ld 17 16,
tq 18 (.un .not (.t 17)),
mq 19 18,
gq 20 19 false (.mv (.t 4)),
gq 21 19 false (.len .slc (.t 20)),
gq 22 19 false (.fieldAddr 0 (.t 5)),
gq 23 19 false (.load none (.t 22)),
gq 24 19 false (.bin .add (kq 1) (.t 23)),
gq 25 19 false (.fieldAddr 1 (.t 5)),
gq 26 19 false (.load none (.t 25)),
gq 27 19 false (.bin .add (.t 24) (.t 26)),
gq 28 19 false (.bin .neq (.t 21) (.t 27)),
tq 29 (.pick (.t 19) (.k (.d (.bool true))) (.t 28))] [16,17,18,19,20,21,22,23,24,25,26,27,28]
(.cond (.t 29) (sr [
tq 30 (.build [.z (.int .i64 0),.z (.str []),.own ⟨false,zac,1,16⟩,.own ⟨false,zbv,1,8⟩,.z (.str [])] []),
⟨none,none,.store 5 (.t 2) (.t 30)⟩,
tq 3 (.mv (.k (.d (.bool false))))] [30]
.ret)
 .skip))
(sr [
mq 31 4,
tq 32 (.idxAddr 1 (.t 31) (kq 0)),
ld 33 32,
tq 34 (.build [.z (.int .i64 0),.z (.str []),.own ⟨false,zac,1,16⟩,.own ⟨false,zbv,1,8⟩,.z (.str [])] [(1,1,.t 33)]),
tq 6 (.alloc zae [.z (.int .i64 0),.z (.str []),.own ⟨false,zac,1,16⟩,.own ⟨false,zbv,1,8⟩,.z (.str [])]),
⟨none,none,.store 5 (.t 6) (.t 34)⟩] [31,32,33,34]
(.seq (sr [
tq 7 (.mv (kq 1))] []
(.block 0 (.loop [2,4,5,6,7] zud)))
(sr [
lq 77 5 6,
⟨none,none,.store 5 (.t 2) (.t 77)⟩,
tq 3 (.mv (.k (.d (.bool true))))] [6,77]
.ret)))))))⟩
def zyc:CF:=⟨[.tmp 4,.tmp 5],
  (sr [
tq 4 (.mv (.k (.d (.nilp)))),
tq 5 (.mv (kq 0))] [4,5]
(sr [
mq 10 0,
tq 11 (.call false false (.k (.fn zeg [] [])) [.t 10]),
mq 9 11,
xq 12 9 0,
xq 13 9 1,
xq 14 9 2,
mq 6 12,
mq 7 13,
mq 8 14] [0,7,9,10,11,12,13,14]
(.seq (sr [
mq 15 8,
mq 16 1,
tq 17 (cl za0 [.t 16]),
tq 18 (.mkList 1 2 [.t 15,.t 17]),
tq 19 (cl za0 [.t 18]),
mq 8 19] [1,15,16,17,18,19]
(sr [
mq 20 8,
tq 21 (.bin .neq (.t 20) (kq 0))] [20]
(.cond (.t 21) (sr [
mq 22 8,
tq 4 (.mv (.k (.d (.nilp)))),
mq 5 22] [8,22]
.ret)
 .skip)))
(sr [
mq 23 6,
tq 24 (.nilCheck (.t 23)),
fa 25 1 24,
mq 4 25,
tq 5 (.mv (kq 0))] [6,23,24,25]
.ret))))⟩
def zyf:CF:=⟨[.tmp 2],
  (sr [
tq 2 (.mv (kq 0))] [2]
(sr [
mq 3 0,
tq 4 (cl zh6 [.t 3]),
tq 5 (.un .not (.t 4)),
tq 6 (cl zak [.t 5,kq 8]),
mq 2 6] [0,3,4,5,6]
.ret))⟩
def zs2:CF:=⟨[.tmp 2],
  (sr [
tq 2 (.mv (kq 0))] [2]
(sr [
mq 3 0,
tq 4 (cl zeh [.t 3,kq 0,kq 99999]),
mq 2 4] [0,3,4]
.ret))⟩
def zkg:C:=
  (rg [
tq 10 (.alloc zab [.z (.str []),.z (.str []),.z (.str []),.z (.str []),.z (.int .i64 0),.z (.int .i64 0),.z (.int .i64 0),.z (.int .i64 0)]),
⟨none,none,.store 8 (.t 10) (.t 17)⟩] [17])
def zkh:C:=
  (.block 1 (sr [
fa 18 2 10,
ld 19 18,
ld 20 5,
tq 21 (.bin .eql (.t 19) (.t 20)),
mq 22 21,
gq 23 22 true (.fieldAddr 5 (.t 10)),
gq 24 22 true (.load none (.t 23)),
gq 25 22 true (.load none (.t 7)),
gq 26 22 true (.bin .leq (.t 24) (.t 25)),
tq 27 (.pick (.t 22) (.t 26) (.k (.d (.bool false)))),
mq 28 27,
gq 29 28 true (.load none (.t 7)),
gq 30 28 true (.fieldAddr 6 (.t 10)),
gq 31 28 true (.load none (.t 30)),
gq 32 28 true (.bin .leq (.t 29) (.t 31)),
tq 33 (.pick (.t 28) (.t 32) (.k (.d (.bool false)))),
mq 34 33,
gq 35 34 true (.load none (.t 4)),
gq 36 34 true (.load (some 8) (.t 10)),
gq 37 34 true (.load none (.t 6)),
gq 38 34 true (.callQ (.k (.fn zbk [] [])) [.t 35,.t 36,.t 37]),
tq 39 (.pick (.t 34) (.t 38) (.k (.d (.bool false))))] [4,5,6,7,18,19,20,21,22,23,24,25,26,27,28,29,30,31,32,33,34,35,36,37,38]
(.cond (.t 39) (sr [
fa 40 7 10,
ld 41 40,
⟨none,none,.store 1 (.t 8) (.t 41)⟩] [10,40,41]
.ret)
 .skip)))
def zln:CF:=⟨[.cell 8 none],
  (sr [
tq 4 (.box zb5 (.t 0)),
tq 5 (.box zac (.t 1)),
tq 6 (.box zbv (.t 2)),
tq 7 (.box zbv (.t 3)),
tq 8 (.alloc zbv [.z (.int .i64 0)])] [0,1,2,3]
(.seq (sr [
ld 11 4,
tq 12 (.nilCheck (.t 11)),
fa 13 1 12,
ld 14 13,
tq 15 (.call false false (.k (.fn zch [] [])) [.t 14])] [11,12,13,14]
(.block 0 (.rangeFn 43 (.t 15) [16,17] zkg zkh)))
(sr [
⟨none,none,.store 1 (.t 8) (kq 1440)⟩] []
.ret)))⟩
def zkj:CF:=⟨[.tmp 4],
  (sr [
tq 2 (.box zb5 (.t 0)),
tq 3 (.box zbv (.t 1)),
tq 4 (.mv (.k (.d (.list 0 []))))] [0,1,4]
(sr [
ld 5 2,
tq 6 (.nilCheck (.t 5)),
fa 7 1 6,
ld 8 7,
tq 9 (.mkFunc ze9 [] [.t 2,.t 3]),
tq 10 (.call true true (.k (.fn zdv [] [])) [.t 8,.t 9]),
tq 11 (.call true true (.k (.fn zcb [] [])) [.t 10,.k (.fn zmm [] [])]),
mq 4 11] [2,3,5,6,7,8,9,10,11]
.ret))⟩
def zk7:CF:=⟨[.tmp 4,.tmp 5],
  (sr [
tq 2 (.box zb5 (.t 0)),
tq 3 (.box zac (.t 1)),
tq 4 (.mv (.k (.d (.list 0 [])))),
tq 5 (.mv (kq 0))] [0,1,4,5]
(.seq (sr [
ld 7 2,
ld 8 3,
tq 9 (.callQ (.k (.fn zbg [] [])) [.t 7,.t 8]),
tq 10 (.nilEq 0 false (.t 9))] [7,8,9]
(.cond (.t 10) (sr [
tq 4 (.mv (.k (.d (.list 0 [])))),
tq 5 (.mv (kq 10))] []
.ret)
 .skip))
(sr [
tq 11 (.mkFunc zfm [] [.t 2,.t 3]),
mq 6 11] [3,11]
(sr [
ld 12 2,
tq 13 (.nilCheck (.t 12)),
fa 14 1 13,
ld 15 14,
mq 16 6,
tq 17 (.call true true (.k (.fn zdv [] [])) [.t 15,.t 16]),
tq 18 (.call true true (.k (.fn zcb [] [])) [.t 17,.k (.fn zmm [] [])]),
mq 4 18,
tq 5 (.mv (kq 0))] [2,6,12,13,14,15,16,17,18]
.ret))))⟩
def zm1:CF:=⟨[.tmp 2],
  (sr [
tq 1 (.box zjq (.t 0)),
tq 2 (.mv (kq 0))] [0,2]
(.seq (.seq (.reg true [
fa 4 0 1,
ld 5 4,
tq 6 (cl zgl [.t 5]),
fa 7 1 1,
ld 8 7,
tq 9 (cl zgl [.t 8]),
tq 10 (.mkList 1 2 [.t 6,.t 9]),
tq 11 (cl ziy [.t 10]),
mq 3 11] [4,5,6,7,8,9,10,11])
(sr [
mq 12 3,
tq 13 (.bin .neq (.t 12) (kq 0))] [12]
(.cond (.t 13) (sr [
mq 14 3,
mq 2 14] [3,14]
.ret)
 .skip)))
(.seq (.reg true [
fa 15 1 1,
ld 16 15,
fa 17 0 1,
ld 18 17,
tq 19 (.bin .lss (.t 16) (.t 18)),
tq 20 (cl zha [.t 19,kq 11]),
fa 21 1 1,
ld 22 21,
fa 23 0 1,
ld 24 23,
tq 25 (.bin .sub (.t 22) (.t 24)),
tq 26 (.bin .gtr (.t 25) (kq 400)),
tq 27 (cl zha [.t 26,kq 4]),
fa 28 2 1,
ld 29 28,
tq 30 (cl zh7 [.t 29,kq 1,kq 127]),
tq 31 (.mkList 1 3 [.t 20,.t 27,.t 30]),
tq 32 (cl ziy [.t 31]),
mq 2 32] [1,15,16,17,18,19,20,21,22,23,24,25,26,27,28,29,30,31,32])
.ret)))⟩
def zsu:CF:=⟨[.tmp 2,.tmp 3],
  (sr [
tq 1 (.box zjq (.t 0)),
tq 2 (.mv (.k (.d (.list 0 [])))),
tq 3 (.mv (kq 0))] [0,2,3]
(.seq (sr [
lq 5 3 1,
tq 6 (cl ze4 [.t 5]),
mq 4 6] [5,6]
(sr [
mq 7 4,
tq 8 (.bin .neq (.t 7) (kq 0))] [7]
(.cond (.t 8) (sr [
mq 9 4,
tq 2 (.mv (.k (.d (.list 0 [])))),
mq 3 9] [4,9]
.ret)
 .skip)))
(sr [
lq 10 3 1,
tq 11 (.call false false (.k (.fn zlw [] [])) [.t 10]),
tq 12 (.call true true (.k (.fn zgv [] [])) [.t 11,.k (.fn zj6 [] [])]),
mq 2 12,
tq 3 (.mv (kq 0))] [1,10,11,12]
.ret)))⟩
def zpt:C:=
  (sr [
tq 11 (.bin .lss (.t 10) (.t 9))] []
(.seq (.cond (.t 11) .skip
 (.exit 0))
(.seq (.block 1 (sr [
tq 12 (.idxAddr 1 (.t 8) (.t 10)),
ld 13 12,
mq 7 13] [12,13]
(sr [
mq 14 1,
mq 15 7,
tq 16 (.call true true (.t 14) [.t 15])] [14,15]
(.cond (.t 16) (rg [
mq 17 5,
mq 18 7,
tq 19 (.mkList 1 1 [.t 18]),
tq 20 (.append ⟨false,zbv,1,8⟩ (.t 17) (.t 19)),
mq 5 20] [7,17,18,19,20])
 .skip))))
(rg [
tq 21 (.bin .add (.t 10) (kq 1)),
mq 10 21] [21]))))
def zs4:CF:=⟨[.tmp 4],
  (sr [
tq 4 (.ownNil ⟨false,zbv,1,8⟩)] [4]
(sr [
tq 5 (.ownNil ⟨false,zbv,1,8⟩)] []
(.seq (sr [
mq 8 0,
tq 9 (.len .slc (.t 8)),
tq 10 (.mv (kq 0))] [0]
(.block 0 (.loop [1,5,8,9,10] zpt)))
(sr [
mq 22 5,
mq 4 22] [5,22]
.ret))))⟩
def zm2:CF:=⟨[.tmp 6],
  (sr [
tq 6 (.mv (.k (.d (.bool false))))] [6]
(.seq (.reg true [
ld 7 1,
ld 8 2,
ld 9 3,
mq 10 0,
tq 11 (.callQ (.k (.fn zbl [] [])) [.t 7,.t 8,.t 9,.t 10]),
ld 12 1,
ld 13 2,
ld 14 4,
mq 15 0,
tq 16 (.callQ (.k (.fn zbl [] [])) [.t 12,.t 13,.t 14,.t 15]),
tq 17 (.bin .neq (.t 11) (.t 16)),
mq 6 17] [0,1,2,3,4,7,8,9,10,11,12,13,14,15,16,17])
.ret))⟩
def zk4:C:=
  (sr [
tq 21 (.bin .lss (.t 20) (.t 19))] []
(.seq (.cond (.t 21) .skip
 (.exit 0))
(.seq (.block 1 (sr [
tq 22 (.idxAddr 8 (.t 18) (.t 20)),
lq 23 8 22,
tq 9 (.alloc zab [.z (.str []),.z (.str []),.z (.str []),.z (.str []),.z (.int .i64 0),.z (.int .i64 0),.z (.int .i64 0),.z (.int .i64 0)]),
⟨none,none,.store 8 (.t 9) (.t 23)⟩] [22,23]
(rg [
mq 24 7,
fa 25 2 9,
ld 26 25,
⟨none,none,.mapSet .str (.t 24) (.t 26) (.k (.d (.bool true)))⟩] [9,24,25,26])))
(rg [
tq 27 (.bin .add (.t 20) (kq 1)),
mq 20 27] [27]))))
def zk5:C:=
  (sr [
tq 33 (.bin .lss (.t 32) (.t 31))] []
(.seq (.cond (.t 33) .skip
 (.exit 2))
(.seq (.block 3 (sr [
tq 34 (.idxAddr 1 (.t 30) (.t 32)),
ld 35 34,
mq 12 35] [34,35]
(sr [
mq 36 12,
mq 37 0,
mq 38 12,
mq 39 1,
mq 40 2,
tq 41 (.callQ (.k (.fn zbl [] [])) [.t 37,.t 38,.t 39,.t 40]),
tq 42 (.build [.z (.str []),.z (.int .i64 0)] [(0,1,.t 36),(1,1,.t 41)]),
tq 13 (.alloc zd9 [.z (.str []),.z (.int .i64 0)]),
⟨none,none,.store 2 (.t 13) (.t 42)⟩] [36,37,38,39,40,41,42]
(sr [
lq 43 2 13,
mq 44 12,
tq 45 (.build [.z (.str []),.z (.int .i64 0)] [(0,1,.t 44),(1,1,kq 1440)]),
tq 46 (.eqv (some [.str,.int]) true (.t 43) (.t 45))] [12,43,44,45]
(.cond (.t 46) (rg [
mq 47 10,
lq 48 2 13,
tq 49 (.mkList 2 1 [.t 48]),
tq 50 (.append ⟨false,zd9,2,24⟩ (.t 47) (.t 49)),
mq 10 50] [13,47,48,49,50])
 .skip)))))
(rg [
tq 51 (.bin .add (.t 32) (kq 1)),
mq 32 51] [51]))))
def zmc:CF:=⟨[.tmp 6],
  (sr [
tq 6 (.ownNil ⟨false,zd9,2,24⟩)] [6]
(sr [
tq 14 (.mkMap),
mq 7 14] [14]
(.seq (sr [
mq 15 0,
tq 16 (.nilCheck (.t 15)),
fa 17 1 16,
ld 18 17,
tq 19 (.len .slc (.t 18)),
tq 20 (.mv (kq 0))] [15,16,17]
(.block 0 (.loop [0,1,2,7,18,19,20] zk4)))
(sr [
tq 10 (.ownNil ⟨false,zd9,2,24⟩)] []
(.seq (sr [
mq 28 7,
tq 29 (.call true false (.k (.fn zc2 [] [])) [.t 28]),
tq 30 (.call true true (.k (.fn zcv [] [])) [.t 29]),
tq 31 (.len .slc (.t 30)),
tq 32 (.mv (kq 0))] [7,28,29]
(.block 2 (.loop [0,1,2,10,30,31,32] zk5)))
(sr [
mq 52 10,
mq 6 52] [10,52]
.ret))))))⟩
def zt7:C:=
  (sr [
tq 8 (.bin .lss (.t 7) (.t 6))] []
(.seq (.cond (.t 8) .skip
 (.exit 0))
(.seq (.block 1 (sr [
tq 9 (.idxAddr 1 (.t 5) (.t 7)),
ld 10 9,
mq 4 10] [9,10]
(sr [
mq 11 4,
tq 12 (.bin .neq (.t 11) (kq 0))] [11]
(.cond (.t 12) (sr [
mq 13 4,
mq 2 13] [4,13]
.ret)
 .skip))))
(rg [
tq 14 (.bin .add (.t 7) (kq 1)),
mq 7 14] [14]))))
def zyd:CF:=⟨[.tmp 2],
  (sr [
tq 2 (.mv (kq 0))] [2]
(.seq (sr [
mq 5 0,
tq 6 (.len .slc (.t 5)),
tq 7 (.mv (kq 0))] [0]
(.block 0 (.loop [5,6,7] zt7)))
(sr [
tq 2 (.mv (kq 0))] []
.ret)))⟩
def z01:CF:=⟨[.tmp 4],
  (sr [
tq 4 (.mv (kq 0))] [4]
(.seq (sr [
mq 5 0] [0]
(.cond (.t 5) (sr [
mq 6 1,
mq 4 6] [1,6]
.ret)
 .skip))
(sr [
tq 4 (.mv (kq 0))] []
.ret)))⟩
def z05:CF:=⟨[.tmp 4,.tmp 5,.tmp 6],
  (sr [
tq 4 (.mv (.k (.d (.str [])))),
tq 5 (.mv (.k (.d (.str [])))),
tq 6 (.mv (.k (.d (.bool false))))] [4,5,6]
(sr [
mq 7 0,
mq 8 1,
tq 9 (cl zfz [.t 7,.t 8]),
xq 10 9 0,
xq 11 9 1,
xq 12 9 2,
mq 4 10,
mq 5 11,
mq 6 12] [0,1,7,8,9,10,11,12]
.ret))⟩
def zq8:CF:=⟨[.tmp 0],
  (sr [
tq 0 (.mv (.k (.d (.nilm))))] [0]
(sr [
tq 1 (.mkMap),
tq 2 (.build [.z (.int .i64 0),.z (.int .i64 0),.z (.nilf)] [(0,1,kq 4),(1,1,kq 2),(2,1,.k (.fn zi6 [] []))]),
⟨none,none,.mapSet .str (.t 1) (.k (.d (.str [115,108,111,116]))) (.t 2)⟩,
tq 3 (.build [.z (.int .i64 0),.z (.int .i64 0),.z (.nilf)] [(0,1,kq 3),(1,1,kq 2),(2,1,.k (.fn zi7 [] []))]),
⟨none,none,.mapSet .str (.t 1) (.k (.d (.str [100,97,121]))) (.t 3)⟩,
tq 4 (.build [.z (.int .i64 0),.z (.int .i64 0),.z (.nilf)] [(0,1,kq 2),(1,1,kq 1),(2,1,.k (.fn zi8 [] []))]),
⟨none,none,.mapSet .str (.t 1) (.k (.d (.str [99,111,117,110,116,115]))) (.t 4)⟩,
tq 5 (.build [.z (.int .i64 0),.z (.int .i64 0),.z (.nilf)] [(0,1,kq 2),(1,1,kq 0),(2,1,.k (.fn zi9 [] []))]),
⟨none,none,.mapSet .str (.t 1) (.k (.d (.str [114,101,115,116,115]))) (.t 5)⟩,
tq 6 (.build [.z (.int .i64 0),.z (.int .i64 0),.z (.nilf)] [(0,1,kq 1),(1,1,kq 0),(2,1,.k (.fn zja [] []))]),
⟨none,none,.mapSet .str (.t 1) (.k (.d (.str [111,112,101,110]))) (.t 6)⟩,
mq 7 1,
mq 0 7] [1,2,3,4,5,6,7]
.ret))⟩
def zm0:C:=
  (sr [
tq 36 (.bin .lss (.t 35) (.t 34))] []
(.seq (.cond (.t 36) .skip
 (.exit 0))
(.seq (.block 1 (sr [
tq 37 (.idxAddr 1 (.t 33) (.t 35)),
ld 38 37,
mq 11 38] [37,38]
(sr [
mq 40 11,
tq 41 (cl zgf [.t 40]),
mq 39 41,
xq 42 39 0,
xq 43 39 1,
mq 12 42,
mq 13 43] [11,39,40,41,42,43]
(.seq (sr [
mq 44 13,
tq 45 (.un .not (.t 44))] [13,44]
(.cond (.t 45) (sr [
tq 6 (.mv (.k (.d (.str [])))),
tq 7 (.mv (kq 25))] []
.ret)
 .skip))
(rg [
mq 46 9,
mq 47 12,
tq 48 (.mkList 1 1 [.t 47]),
tq 49 (.append ⟨false,zbv,1,8⟩ (.t 46) (.t 48)),
mq 9 49] [12,46,47,48,49])))))
(rg [
tq 50 (.bin .add (.t 35) (kq 1)),
mq 35 50] [50]))))
def zo7:CF:=⟨[.tmp 6,.tmp 7],
  (sr [
tq 4 (.box zk1 (.t 1)),
tq 6 (.mv (.k (.d (.str [])))),
tq 7 (.mv (kq 0))] [1,6,7]
(sr [
mq 16 2,
tq 17 (cl n_strings_Split [.t 16,.k (.d (.str [32]))]),
mq 8 17] [2,16,17]
(.seq (sr [
mq 18 8,
tq 19 (.len .slc (.t 18)),
fa 20 0 4,
ld 21 20,
tq 22 (.bin .neq (.t 19) (.t 21)),
mq 23 22,
gq 24 23 false (.mv (.t 8)),
gq 25 23 false (cl zcr [.t 24,.k (.d (.str []))]),
tq 26 (.pick (.t 23) (.k (.d (.bool true))) (.t 25))] [18,19,20,21,22,23,24,25]
(.cond (.t 26) (sr [
tq 6 (.mv (.k (.d (.str [])))),
tq 7 (.mv (kq 25))] []
.ret)
 .skip))
(sr [
tq 9 (.ownNil ⟨false,zbv,1,8⟩)] []
(.seq (sr [
mq 27 8,
mq 28 8,
tq 29 (.len .slc (.t 28)),
fa 30 1 4,
ld 31 30,
tq 32 (.bin .sub (.t 29) (.t 31)),
tq 33 (.slice 1 (.t 27) (some (.t 32)) none none),
tq 34 (.len .slc (.t 33)),
tq 35 (.mv (kq 0))] [27,28,29,30,31,32]
(.block 0 (.loop [0,4,8,9,33,34,35] zm0)))
(.seq (.reg true [
fa 52 2 4,
ld 53 52,
mq 54 0,
tq 55 (.nilCheck (.t 54)),
fa 56 0 55,
fa 57 1 56,
mq 58 8,
mq 59 9,
tq 60 (.callU true (.t 53) [.t 57,.t 58,.t 59]),
mq 51 60,
xq 61 51 0,
xq 62 51 1,
mq 14 61,
mq 15 62] [0,4,8,9,51,52,53,54,55,56,57,58,59,60,61,62])
(.seq (sr [
mq 63 15,
tq 64 (.bin .neq (.t 63) (kq 0))] [63]
(.cond (.t 64) (sr [
mq 65 15,
tq 6 (.mv (.k (.d (.str [])))),
mq 7 65] [15,65]
.ret)
 .skip))
(.seq (sr [
mq 66 14,
tq 67 (.len .slc (.t 66)),
tq 68 (.bin .eql (.t 67) (kq 0))] [66,67]
(.cond (.t 68) (sr [
tq 6 (.mv (.k (.d (.str [110,111,110,101])))),
tq 7 (.mv (kq 0))] []
.ret)
 .skip))
(sr [
mq 69 14,
tq 70 (cl n_strings_Join [.t 69,.k (.d (.str [32]))]),
mq 6 70,
tq 7 (.mv (kq 0))] [14,69,70]
.ret)))))))))⟩
def zye:CF:=⟨[.tmp 0],
  (sr [
tq 0 (.mv (.k (.d (.nilm))))] [0]
(sr [
tq 1 (.mkMap),
tq 2 (.build [.z (.int .i64 0),.z (.int .i64 0),.z (.nilf),.z (.nilf)] [(0,1,kq 2),(1,1,kq 4),(2,1,.k (.fn zat [] [])),(3,1,.k (.fn zau [] []))]),
⟨none,none,.mapSet .str (.t 1) (.k (.d (.str [101,110,116,101,114]))) (.t 2)⟩,
tq 3 (.build [.z (.int .i64 0),.z (.int .i64 0),.z (.nilf),.z (.nilf)] [(0,1,kq 2),(1,1,kq 4),(2,1,.k (.fn zat [] [])),(3,1,.k (.fn zau [] []))]),
⟨none,none,.mapSet .str (.t 1) (.k (.d (.str [114,117,108,101]))) (.t 3)⟩,
tq 4 (.build [.z (.int .i64 0),.z (.int .i64 0),.z (.nilf),.z (.nilf)] [(0,1,kq 3),(1,1,kq 4),(2,1,.k (.fn zat [] [])),(3,1,.k (.fn zau [] []))]),
⟨none,none,.mapSet .str (.t 1) (.k (.d (.str [102,111,108,108,111,119]))) (.t 4)⟩,
tq 5 (.build [.z (.int .i64 0),.z (.int .i64 0),.z (.nilf),.z (.nilf)] [(0,1,kq 1),(1,1,kq 1),(2,1,.k (.fn za7 [] [])),(3,1,.k (.fn zgg [] []))]),
⟨none,none,.mapSet .str (.t 1) (.k (.d (.str [114,101,118,101,114,115,101]))) (.t 5)⟩,
tq 6 (.build [.z (.int .i64 0),.z (.int .i64 0),.z (.nilf),.z (.nilf)] [(0,1,kq 2),(1,1,kq 1),(2,1,.k (.fn za4 [] [])),(3,1,.k (.fn zbw [] []))]),
⟨none,none,.mapSet .str (.t 1) (.k (.d (.str [99,111,109,112,108,97,105,110]))) (.t 6)⟩,
tq 7 (.build [.z (.int .i64 0),.z (.int .i64 0),.z (.nilf),.z (.nilf)] [(0,1,kq 1),(1,1,kq 2),(2,1,.k (.fn za5 [] [])),(3,1,.k (.fn zbm [] []))]),
⟨none,none,.mapSet .str (.t 1) (.k (.d (.str [100,101,99,105,100,101]))) (.t 7)⟩,
mq 8 1,
mq 0 8] [1,2,3,4,5,6,7,8]
.ret))⟩
def zt8:C:=
  (sr [
tq 50 (.bin .lss (.t 49) (.t 48))] []
(.seq (.cond (.t 50) .skip
 (.exit 0))
(.seq (.block 1 (.reg true [
fa 51 2 7,
ld 52 51,
mq 53 6,
tq 54 (.callR true (.t 53) [] [7]),
tq 55 (.mkList 1 1 [.t 54]),
tq 56 (.append ⟨false,zac,1,16⟩ (.t 52) (.t 55)),
fa 57 2 7,
⟨none,none,.store 1 (.t 57) (.t 56)⟩] [51,52,53,54,55,56,57]))
(rg [
tq 58 (.bin .add (.t 49) (kq 1)),
mq 49 58] [58]))))
def zt9:C:=
  (sr [
tq 62 (.bin .lss (.t 61) (.t 60))] []
(.seq (.cond (.t 62) .skip
 (.exit 2))
(.seq (.block 3 (sr [
mq 64 6,
tq 65 (.call true true (.t 64) []),
tq 66 (cl zgf [.t 65]),
mq 63 66,
xq 67 63 0,
xq 68 63 1,
mq 10 67,
mq 11 68] [63,64,65,66,67,68]
(.seq (sr [
mq 69 11,
tq 70 (.un .not (.t 69))] [11,69]
(.cond (.t 70) (sr [
tq 71 (.build [.z (.int .i64 0),.z (.str []),.own ⟨false,zac,1,16⟩,.own ⟨false,zbv,1,8⟩,.z (.str [])] []),
⟨none,none,.store 5 (.t 2) (.t 71)⟩,
tq 3 (.mv (.k (.d (.bool false))))] [71]
.ret)
 .skip))
(rg [
fa 72 3 7,
ld 73 72,
mq 74 10,
tq 75 (.mkList 1 1 [.t 74]),
tq 76 (.append ⟨false,zbv,1,8⟩ (.t 73) (.t 75)),
fa 77 3 7,
⟨none,none,.store 1 (.t 77) (.t 76)⟩] [10,72,73,74,75,76,77]))))
(rg [
tq 78 (.bin .add (.t 61) (kq 1)),
mq 61 78] [78]))))
def zyg:CF:=⟨[.cell 2 (some 5),.tmp 3],
  (sr [
tq 2 (.alloc zae [.z (.int .i64 0),.z (.str []),.own ⟨false,zac,1,16⟩,.own ⟨false,zbv,1,8⟩,.z (.str [])]),
tq 3 (.mv (.k (.d (.bool false))))] [3]
(sr [
mq 12 0,
tq 13 (cl n_strings_Split [.t 12,.k (.d (.str [32]))]),
mq 4 13] [0,12,13]
(sr [
mq 14 4,
tq 15 (.build [.z (.list 0 [])] [(0,1,.t 14)]),
tq 16 (.box zuu (.t 15)),
mq 5 16] [14,15,16]
(sr [
mq 17 5,
tq 18 (.mkFunc zjb [.t 17] []),
mq 6 18] [5,17,18]
(sr [
mq 19 6,
tq 20 (.call true true (.t 19) []),
tq 21 (.build [.z (.int .i64 0),.z (.str []),.own ⟨false,zac,1,16⟩,.own ⟨false,zbv,1,8⟩,.z (.str [])] [(1,1,.t 20)]),
tq 7 (.alloc zae [.z (.int .i64 0),.z (.str []),.own ⟨false,zac,1,16⟩,.own ⟨false,zbv,1,8⟩,.z (.str [])]),
⟨none,none,.store 5 (.t 7) (.t 21)⟩] [19,20,21]
(.seq (.reg true [
tq 23 (.callN (.k (.fn zd8 [] [])) []),
fa 24 1 7,
ld 25 24,
tq 26 (.lookup .str (.agg [.int .i64 0,.int .i64 0,.nilf,.nilf]) true (.t 23) (.t 25)),
mq 22 26,
xq 27 22 0,
xq 28 22 1,
tq 8 (.alloc zli [.z (.int .i64 0),.z (.int .i64 0),.z (.nilf),.z (.nilf)]),
⟨none,none,.store 4 (.t 8) (.t 27)⟩,
mq 9 28] [22,23,24,25,26,27,28])
(.seq (sr [
mq 29 9,
tq 30 (.un .not (.t 29)),
mq 31 30,
gq 32 31 false (.mv (.t 4)),
gq 33 31 false (.len .slc (.t 32)),
gq 34 31 false (.fieldAddr 0 (.t 8)),
gq 35 31 false (.load none (.t 34)),
gq 36 31 false (.bin .add (kq 1) (.t 35)),
gq 37 31 false (.fieldAddr 1 (.t 8)),
gq 38 31 false (.load none (.t 37)),
gq 39 31 false (.bin .add (.t 36) (.t 38)),
gq 40 31 false (.bin .neq (.t 33) (.t 39)),
tq 41 (.pick (.t 31) (.k (.d (.bool true))) (.t 40)),
mq 42 41,
gq 43 42 false (.mv (.t 4)),
gq 44 42 false (cl zcr [.t 43,.k (.d (.str []))]),
tq 45 (.pick (.t 42) (.k (.d (.bool true))) (.t 44))] [4,9,29,30,31,32,33,34,35,36,37,38,39,40,41,42,43,44]
(.cond (.t 45) (sr [
tq 46 (.build [.z (.int .i64 0),.z (.str []),.own ⟨false,zac,1,16⟩,.own ⟨false,zbv,1,8⟩,.z (.str [])] []),
⟨none,none,.store 5 (.t 2) (.t 46)⟩,
tq 3 (.mv (.k (.d (.bool false))))] [46]
.ret)
 .skip))
(.seq (sr [
fa 47 0 8,
ld 48 47,
tq 49 (.mv (kq 0))] [47]
(.block 0 (.loop [2,6,7,8,48,49] zt8)))
(.seq (sr [
fa 59 1 8,
ld 60 59,
tq 61 (.mv (kq 0))] [8,59]
(.block 2 (.loop [2,6,7,60,61] zt9)))
(sr [
lq 79 5 7,
⟨none,none,.store 5 (.t 2) (.t 79)⟩,
tq 3 (.mv (.k (.d (.bool true))))] [7,79]
.ret))))))))))⟩
def zp5:CF:=⟨[.tmp 2],
  (sr [
tq 1 (.box zae (.t 0)),
tq 2 (.mv (kq 0))] [0,2]
(.seq (.reg true [
tq 8 (.callN (.k (.fn zd8 [] [])) []),
fa 9 1 1,
ld 10 9,
tq 11 (.lookup .str (.agg [.int .i64 0,.int .i64 0,.nilf,.nilf]) true (.t 8) (.t 10)),
mq 7 11,
xq 12 7 0,
xq 13 7 1,
tq 3 (.alloc zli [.z (.int .i64 0),.z (.int .i64 0),.z (.nilf),.z (.nilf)]),
⟨none,none,.store 4 (.t 3) (.t 12)⟩,
mq 4 13] [7,8,9,10,11,12,13])
(sr [
fa 14 2 1,
ld 15 14,
tq 16 (cl zb7 [.t 15,.k (.fn zd0 [] [])]),
mq 5 16] [14,15,16]
(sr [
fa 17 3 1,
ld 18 17,
tq 19 (cl zc5 [.t 18,.k (.fn zd1 [] [])]),
mq 6 19] [17,18,19]
(.seq (.reg true [
fa 20 0 1,
ld 21 20,
tq 22 (cl zeh [.t 21,kq 1,kq 1000]),
mq 23 4,
tq 24 (.un .not (.t 23)),
tq 25 (cl zak [.t 24,kq 13]),
fa 26 2 1,
ld 27 26,
tq 28 (.len .slc (.t 27)),
fa 29 0 3,
ld 30 29,
tq 31 (.bin .neq (.t 28) (.t 30)),
mq 32 31,
gq 33 32 false (.fieldAddr 3 (.t 1)),
gq 34 32 false (.load none (.t 33)),
gq 35 32 false (.len .slc (.t 34)),
gq 36 32 false (.fieldAddr 1 (.t 3)),
gq 37 32 false (.load none (.t 36)),
gq 38 32 false (.bin .neq (.t 35) (.t 37)),
tq 39 (.pick (.t 32) (.k (.d (.bool true))) (.t 38)),
tq 40 (cl zak [.t 39,kq 2]),
mq 41 5,
tq 42 (cl zak [.t 41,kq 8]),
mq 43 6,
tq 44 (cl zak [.t 43,kq 3]),
fa 45 4 1,
ld 46 45,
tq 47 (.bin .neq (.t 46) (.k (.d (.str [])))),
tq 48 (cl zak [.t 47,kq 1]),
tq 49 (.mkList 1 6 [.t 22,.t 25,.t 40,.t 42,.t 44,.t 48]),
tq 50 (cl za0 [.t 49]),
mq 2 50] [1,3,4,5,6,20,21,22,23,24,25,26,27,28,29,30,31,32,33,34,35,36,37,38,39,40,41,42,43,44,45,46,47,48,49,50])
.ret)))))⟩
def zlp:CF:=⟨[.tmp 4],
  (sr [
tq 3 (.box zae (.t 1)),
tq 4 (.mv (kq 0))] [1,4]
(sr [
mq 7 0,
tq 8 (.nilCheck (.t 7)),
fa 9 1 8,
mq 5 9] [7,8,9]
(.seq (.seq (.reg true [
fa 10 0 3,
ld 11 10,
mq 12 0,
tq 13 (.nilCheck (.t 12)),
fa 14 0 13,
ld 15 14,
tq 16 (.len .slc (.t 15)),
tq 17 (.bin .add (.t 16) (kq 1)),
tq 18 (.bin .neq (.t 11) (.t 17)),
tq 19 (cl zak [.t 18,kq 11]),
fa 20 3 3,
ld 21 20,
tq 22 (.idxAddr 1 (.t 21) (kq 0)),
ld 23 22,
mq 24 5,
tq 25 (.nilCheck (.t 24)),
fa 26 0 25,
ld 27 26,
tq 28 (.bin .lss (.t 23) (.t 27)),
tq 29 (cl zak [.t 28,kq 19]),
fa 30 3 3,
ld 31 30,
tq 32 (.idxAddr 1 (.t 31) (kq 0)),
ld 33 32,
tq 34 (.bin .gtr (.t 33) (kq 99999)),
tq 35 (cl zak [.t 34,kq 3]),
tq 36 (.mkList 1 3 [.t 19,.t 29,.t 35]),
tq 37 (cl za0 [.t 36]),
mq 6 37] [0,10,11,12,13,14,15,16,17,18,19,20,21,22,23,24,25,26,27,28,29,30,31,32,33,34,35,36,37])
(sr [
mq 38 6,
tq 39 (.bin .neq (.t 38) (kq 0))] [38]
(.cond (.t 39) (sr [
mq 40 6,
mq 4 40] [6,40]
.ret)
 .skip)))
(.seq (.reg true [
tq 41 (.call false false (.k (.fn zd8 [] [])) []),
fa 42 1 3,
ld 43 42,
tq 44 (.lookup .str (.agg [.int .i64 0,.int .i64 0,.nilf,.nilf]) false (.t 41) (.t 43)),
tq 45 (.field 2 none (.t 44)),
mq 46 5,
lq 47 5 3,
tq 48 (.callQ (.t 45) [.t 46,.t 47]),
mq 4 48] [3,5,41,42,43,44,45,46,47,48])
.ret))))⟩
def zo8:CF:=⟨[],
  (sr [
tq 3 (.box zae (.t 1))] [1]
(.seq (.reg true [
fa 4 2 3,
ld 5 4,
tq 6 (cl zda [.t 5]),
fa 7 3 3,
ld 8 7,
tq 9 (cl zeu [.t 8]),
fa 10 2 3,
⟨none,none,.store 1 (.t 10) (.t 6)⟩,
fa 11 3 3,
⟨none,none,.store 1 (.t 11) (.t 9)⟩] [4,5,6,7,8,9,10,11])
(.seq (.reg true [
mq 12 0,
mq 13 0,
tq 14 (.nilCheck (.t 13)),
fa 15 0 14,
ld 16 15,
lq 17 5 3,
tq 18 (.mkList 5 1 [.t 17]),
tq 19 (.append ⟨false,zae,5,88⟩ (.t 16) (.t 18)),
tq 20 (.nilCheck (.t 12)),
fa 21 0 20,
⟨none,none,.store 1 (.t 21) (.t 19)⟩] [12,13,14,15,16,17,18,19,20,21])
(sr [
mq 22 0,
fa 23 3 3,
ld 24 23,
tq 25 (.idxAddr 1 (.t 24) (kq 0)),
ld 26 25,
tq 27 (.nilCheck (.t 22)),
fa 28 1 27,
fa 29 0 28,
⟨none,none,.store 1 (.t 29) (.t 26)⟩] [22,23,24,25,26,27,28,29]
(.reg true [
tq 30 (.call false false (.k (.fn zd8 [] [])) []),
fa 31 1 3,
ld 32 31,
tq 33 (.lookup .str (.agg [.int .i64 0,.int .i64 0,.nilf,.nilf]) false (.t 30) (.t 32)),
tq 34 (.field 3 none (.t 33)),
mq 35 0,
tq 36 (.nilCheck (.t 35)),
fa 37 1 36,
lq 38 5 3,
tq 39 (.call true true (.t 34) [.t 37,.t 38])] [0,3,30,31,32,33,34,35,36,37,38,39])))))⟩
def zgx:C:=
  (sr [
tq 11 (.bin .lss (.t 10) (.t 9))] []
(.seq (.cond (.t 11) .skip
 (.exit 0))
(.seq (.block 1 (sr [
tq 12 (.idxAddr 5 (.t 8) (.t 10)),
lq 13 5 12,
tq 7 (.alloc zae [.z (.int .i64 0),.z (.str []),.z (.list 0 []),.z (.list 0 []),.z (.str [])]),
⟨none,none,.store 5 (.t 7) (.t 13)⟩] [12,13]
(rg [
mq 14 5,
mq 15 1,
lq 16 5 7,
tq 17 (.call true true (.t 15) [.t 16]),
tq 18 (.mkList 1 1 [.t 17]),
tq 19 (.append ⟨false,zac,1,16⟩ (.t 14) (.t 18)),
mq 5 19] [7,14,15,16,17,18,19])))
(rg [
tq 20 (.bin .add (.t 10) (kq 1)),
mq 10 20] [20]))))
def zho:CF:=⟨[.tmp 4],
  (sr [
tq 4 (.ownNil ⟨false,zac,1,16⟩)] [4]
(sr [
tq 5 (.ownNil ⟨false,zac,1,16⟩)] []
(.seq (sr [
mq 8 0,
tq 9 (.len .slc (.t 8)),
tq 10 (.mv (kq 0))] [0]
(.block 0 (.loop [1,5,8,9,10] zgx)))
(sr [
mq 21 5,
mq 4 21] [5,21]
.ret))))⟩
def zv9:CF:=⟨[.tmp 2],
  (sr [
tq 1 (.box zae (.t 0)),
tq 2 (.mv (.k (.d (.str []))))] [0,2]
(.seq (.reg true [
fa 4 0 1,
ld 5 4,
tq 6 (cl n_strconv_Itoa [.t 5]),
tq 7 (.bin .add (.t 6) (.k (.d (.str [32])))),
lq 8 5 1,
tq 9 (cl zrt [.t 8]),
tq 10 (.bin .add (.t 7) (.t 9)),
mq 3 10] [1,4,5,6,7,8,9,10])
(sr [
mq 11 3,
tq 12 (.bin .add (.t 11) (.k (.d (.str [35])))),
mq 13 3,
tq 14 (cl zn2 [.t 13]),
tq 15 (.bin .add (.t 12) (.t 14)),
tq 16 (.bin .add (.t 15) (.k (.d (.str [10])))),
mq 2 16] [3,11,12,13,14,15,16]
.ret)))⟩
def zwg:CF:=⟨[.tmp 2],
  (sr [
tq 1 (.box zac (.t 0)),
tq 2 (.mv (.k (.d (.nilf))))] [0,2]
(sr [
tq 3 (.mkFunc zl1 [] [.t 1]),
mq 2 3] [1,3]
.ret))⟩
def zqa:CF:=⟨[.tmp 4,.tmp 5],
  (sr [
tq 4 (.mv (.k (.d (.str [])))),
tq 5 (.mv (.k (.d (.bool false))))] [4,5]
(sr [
mq 6 0,
mq 7 1,
tq 8 (cl zea [.t 6,.t 7]),
xq 9 8 0,
xq 10 8 1,
mq 4 9,
mq 5 10] [0,1,6,7,8,9,10]
.ret))⟩
def zs5:CF:=⟨[.cell 4 (some 5),.tmp 5],
  (sr [
tq 4 (.alloc zae [.z (.int .i64 0),.z (.str []),.z (.list 0 []),.z (.list 0 []),.z (.str [])]),
tq 5 (.mv (kq 0))] [5]
(sr [
mq 15 0,
tq 16 (.len .str (.t 15)),
tq 17 (.bin .sub (.t 16) (kq 8)),
mq 6 17] [15,16,17]
(.seq (sr [
mq 18 6,
tq 19 (.bin .lss (.t 18) (kq 0)),
mq 20 19,
gq 21 20 false (.mv (.t 0)),
gq 22 20 false (.mv (.t 6)),
gq 23 20 false (.idxS (.t 21) (.t 22)),
gq 24 20 false (.bin .neq (.t 23) (.k (.d (.int .u8 35)))),
tq 25 (.pick (.t 20) (.k (.d (.bool true))) (.t 24)),
mq 26 25,
gq 27 26 false (.mv (.t 0)),
gq 28 26 false (.mv (.t 6)),
gq 29 26 false (.bin .add (.t 28) (kq 1)),
gq 30 26 false (.sliceS (.t 27) (some (.t 29)) none),
gq 31 26 false (cl zn0 [.t 30]),
gq 32 26 false (.un .not (.t 31)),
tq 33 (.pick (.t 26) (.k (.d (.bool true))) (.t 32))] [18,19,20,21,22,23,24,25,26,27,28,29,30,31,32]
(.cond (.t 33) (sr [
tq 34 (.build [.z (.int .i64 0),.z (.str []),.z (.list 0 []),.z (.list 0 []),.z (.str [])] []),
⟨none,none,.store 5 (.t 4) (.t 34)⟩,
tq 5 (.mv (kq 25))] [34]
.ret)
 .skip))
(sr [
mq 35 0,
mq 36 6,
tq 37 (.sliceS (.t 35) none (some (.t 36))),
mq 7 37] [35,36,37]
(.seq (.seq (.reg true [
mq 38 7,
tq 39 (cl zn2 [.t 38]),
mq 40 0,
mq 41 6,
tq 42 (.bin .add (.t 41) (kq 1)),
tq 43 (.sliceS (.t 40) (some (.t 42)) none),
tq 44 (.bin .neq (.t 39) (.t 43))] [0,6,38,39,40,41,42,43])
(.cond (.t 44) (sr [
tq 45 (.build [.z (.int .i64 0),.z (.str []),.z (.list 0 []),.z (.list 0 []),.z (.str [])] []),
⟨none,none,.store 5 (.t 4) (.t 45)⟩,
tq 5 (.mv (kq 27))] [45]
.ret)
 .skip))
(sr [
mq 47 7,
tq 48 (cl zmp [.t 47,.k (.d (.str [32]))]),
mq 46 48,
xq 49 46 0,
xq 50 46 1,
xq 51 46 2,
mq 8 49,
mq 9 50,
mq 10 51] [7,46,47,48,49,50,51]
(sr [
mq 53 8,
tq 54 (cl zgf [.t 53]),
mq 52 54,
xq 55 52 0,
xq 56 52 1,
mq 11 55,
mq 12 56] [8,52,53,54,55,56]
(sr [
mq 58 9,
tq 59 (cl zlb [.t 58]),
mq 57 59,
xq 60 57 0,
xq 61 57 1,
tq 13 (.alloc zae [.z (.int .i64 0),.z (.str []),.z (.list 0 []),.z (.list 0 []),.z (.str [])]),
⟨none,none,.store 5 (.t 13) (.t 60)⟩,
mq 14 61] [9,57,58,59,60,61]
(sr [
mq 62 11,
fa 63 0 13,
⟨none,none,.store 1 (.t 63) (.t 62)⟩] [62,63]
(.seq (sr [
mq 64 10,
tq 65 (.un .not (.t 64)),
mq 66 65,
gq 67 66 false (.mv (.t 12)),
gq 68 66 false (.un .not (.t 67)),
tq 69 (.pick (.t 66) (.k (.d (.bool true))) (.t 68)),
mq 70 69,
gq 71 70 false (.mv (.t 14)),
gq 72 70 false (.un .not (.t 71)),
tq 73 (.pick (.t 70) (.k (.d (.bool true))) (.t 72)),
mq 74 73,
gq 75 74 false (.load (some 5) (.t 13)),
gq 76 74 false (cl zcy [.t 75]),
gq 77 74 false (.bin .neq (.t 76) (kq 0)),
tq 78 (.pick (.t 74) (.k (.d (.bool true))) (.t 77))] [10,12,14,64,65,66,67,68,69,70,71,72,73,74,75,76,77]
(.cond (.t 78) (sr [
tq 79 (.build [.z (.int .i64 0),.z (.str []),.z (.list 0 []),.z (.list 0 []),.z (.str [])] []),
⟨none,none,.store 5 (.t 4) (.t 79)⟩,
tq 5 (.mv (kq 25))] [79]
.ret)
 .skip))
(.seq (.reg true [
lq 80 5 13,
mq 81 11,
mq 82 1,
tq 83 (.bin .add (.t 82) (kq 1)),
tq 84 (.bin .neq (.t 81) (.t 83)),
tq 85 (cl zak [.t 84,kq 11]),
⟨none,none,.store 5 (.t 4) (.t 80)⟩,
mq 5 85] [1,11,13,80,81,82,83,84,85])
.ret)))))))))))⟩
def z29:CF:=⟨[.tmp 2],
  (sr [
tq 2 (.mv (.k (.d (.str []))))] [2]
(sr [
mq 3 0,
tq 4 (cl zn3 [.t 3]),
mq 2 4] [0,3,4]
.ret))⟩
def zp7:CF:=⟨[.tmp 2],
  (sr [
tq 1 (.box zah (.t 0)),
tq 2 (.mv (kq 0))] [0,2]
(sr [
fa 4 3 1,
ld 5 4,
tq 6 (cl zcw [.t 5,.k (.fn zd2 [] [])]),
mq 3 6] [4,5,6]
(.seq (.reg true [
fa 7 0 1,
ld 8 7,
tq 9 (cl zcj [.t 8]),
fa 10 1 1,
ld 11 10,
tq 12 (cl zeh [.t 11,kq 1,kq 999999999]),
fa 13 2 1,
ld 14 13,
tq 15 (cl za1 [.t 14]),
fa 16 3 1,
ld 17 16,
tq 18 (.bin .eql (.t 17) (.k (.d (.str [])))),
mq 19 18,
gq 20 19 false (.fieldAddr 3 (.t 1)),
gq 21 19 false (.load none (.t 20)),
gq 22 19 false (.len .str (.t 21)),
gq 23 19 false (.bin .gtr (.t 22) (kq 80)),
tq 24 (.pick (.t 19) (.k (.d (.bool true))) (.t 23)),
mq 25 24,
gq 26 25 false (.mv (.t 3)),
tq 27 (.pick (.t 25) (.k (.d (.bool true))) (.t 26)),
tq 28 (cl zak [.t 27,kq 1]),
tq 29 (.mkList 1 4 [.t 9,.t 12,.t 15,.t 28]),
tq 30 (cl za0 [.t 29]),
mq 2 30] [1,3,7,8,9,10,11,12,13,14,15,16,17,18,19,20,21,22,23,24,25,26,27,28,29,30])
.ret)))⟩
def zjh:CF:=⟨[.tmp 2],
  (sr [
tq 2 (.ownNil ⟨true,zah,4,48⟩)] [2]
(sr [
mq 3 0,
tq 4 (.call true false (.k (.fn zba [] [])) [.k (.d .nil),.t 3]),
mq 2 4] [0,3,4]
.ret))⟩
def zav:C:=
  (sr [
mq 11 0,
lq 12 4 4,
tq 13 (.call true true (.t 11) [.t 12]),
tq 14 (.un .not (.t 13))] [4,11,12,13]
(.cond (.t 14) .ret
 .skip))
def zcf:CF:=⟨[],
  (.rangeM [ld 5 1] 6 (.t 5) 0 1 9 [0,6] [xq 10 9 1,
tq 4 (.alloc zah [.z (.str []),.z (.int .i64 0),.z (.int .i64 0),.z (.str [])]),
⟨none,none,.store 4 (.t 4) (.t 10)⟩] [9,10] zav)⟩
def zv4:CF:=⟨[.tmp 2],
  (sr [
tq 2 (.mv (.k (.d (.bool false))))] [2]
(sr [
mq 3 0,
mq 4 0,
tq 5 (.bin .neq (.t 3) (.t 4)),
mq 2 5] [0,3,4,5]
.ret))⟩
def zq7:CF:=⟨[.tmp 2],
  (sr [
tq 2 (.mv (.k (.d (.bool false))))] [2]
(sr [
mq 3 0,
mq 4 0,
tq 5 (.bin .neq (.t 3) (.t 4)),
mq 2 5] [0,3,4,5]
.ret))⟩
def zme:CF:=⟨[.tmp 2],
  (sr [
tq 2 (.ownNil ⟨true,zac,1,16⟩)] [2]
(sr [
mq 3 0,
tq 4 (.call true false (.k (.fn zco [] [])) [.k (.d .nil),.t 3]),
mq 2 4] [0,3,4]
.ret))⟩
def zbp:C:=
  (sr [
mq 10 0,
mq 11 3,
tq 12 (.call true true (.t 10) [.t 11]),
tq 13 (.un .not (.t 12))] [3,10,11,12]
(.cond (.t 13) .ret
 .skip))
def zfi:CF:=⟨[],
  (.rangeM [ld 4 1] 5 (.t 4) 0 1 8 [0,5] [xq 9 8 0,
mq 3 9] [8,9] zbp)⟩
def zvu:C:=
  (.seq (sr [
mq 6 5,
mq 7 0,
tq 8 (.len .str (.t 7)),
tq 9 (.bin .leq (.t 6) (.t 8))] [6,7,8]
(.cond (.t 9) .skip
 (.exit 0)))
(.seq (.block 1 (sr [
mq 12 5,
mq 13 0,
tq 14 (.len .str (.t 13)),
tq 15 (.bin .eql (.t 12) (.t 14)),
mq 16 15,
gq 17 16 false (.mv (.t 0)),
gq 18 16 false (.mv (.t 5)),
gq 19 16 false (.idxS (.t 17) (.t 18)),
gq 20 16 false (.bin .eql (.t 19) (.k (.d (.int .u8 32)))),
tq 21 (.pick (.t 16) (.k (.d (.bool true))) (.t 20))] [12,13,14,15,16,17,18,19,20]
(.cond (.t 21) (sr [
mq 22 3,
mq 23 0,
mq 24 4,
mq 25 5,
tq 26 (.sliceS (.t 23) (some (.t 24)) (some (.t 25))),
tq 27 (.mkList 1 1 [.t 26]),
tq 28 (.append ⟨false,zac,1,16⟩ (.t 22) (.t 27)),
mq 3 28] [4,22,23,24,25,26,27,28]
(rg [
mq 29 5,
tq 30 (.bin .add (.t 29) (kq 1)),
mq 4 30] [29,30]))
 .skip)))
(rg [
mq 10 5,
tq 11 (.bin .add (.t 10) (kq 1)),
mq 5 11] [10,11])))
def z03:CF:=⟨[.tmp 2],
  (sr [
tq 2 (.ownNil ⟨false,zac,1,16⟩)] [2]
(sr [
tq 3 (.ownNil ⟨false,zac,1,16⟩)] []
(sr [
tq 4 (.mv (kq 0))] []
(.seq (sr [
tq 5 (.mv (kq 0))] []
(.block 0 (.loop [0,3,4,5] zvu)))
(sr [
mq 31 3,
mq 2 31] [3,31]
.ret)))))⟩
def z28:CF:=⟨[.cell 2 (some 3)],
  (sr [
tq 2 (.alloc zhy [.z (.int .i64 0),.z (.int .i64 0),.z (.bool false)])] []
(.seq (sr [
mq 3 0] [0]
(.block 0 (.seq (sr [
tq 5 (.bin .eql (.t 3) (.k (.d (.str [101,110,116,101,114])))),
mq 4 5] [5]
(.cond (.t 4) .skip
 (rg [
tq 6 (.bin .eql (.t 3) (.k (.d (.str [114,117,108,101])))),
mq 4 6] [6])))
(.cond (.t 4) (sr [
tq 7 (.build [.z (.int .i64 0),.z (.int .i64 0),.z (.bool false)] [(0,1,kq 2),(1,1,kq 4),(2,1,.k (.d (.bool true)))]),
⟨none,none,.store 3 (.t 2) (.t 7)⟩] [7]
.ret)
 (sr [
tq 9 (.bin .eql (.t 3) (.k (.d (.str [102,111,108,108,111,119])))),
mq 8 9] [9]
(.cond (.t 8) (sr [
tq 10 (.build [.z (.int .i64 0),.z (.int .i64 0),.z (.bool false)] [(0,1,kq 3),(1,1,kq 4),(2,1,.k (.d (.bool true)))]),
⟨none,none,.store 3 (.t 2) (.t 10)⟩] [10]
.ret)
 (sr [
tq 12 (.bin .eql (.t 3) (.k (.d (.str [114,101,118,101,114,115,101])))),
mq 11 12] [12]
(.cond (.t 11) (sr [
tq 13 (.build [.z (.int .i64 0),.z (.int .i64 0),.z (.bool false)] [(0,1,kq 1),(1,1,kq 1),(2,1,.k (.d (.bool true)))]),
⟨none,none,.store 3 (.t 2) (.t 13)⟩] [13]
.ret)
 (sr [
tq 15 (.bin .eql (.t 3) (.k (.d (.str [99,111,109,112,108,97,105,110])))),
mq 14 15] [15]
(.cond (.t 14) (sr [
tq 16 (.build [.z (.int .i64 0),.z (.int .i64 0),.z (.bool false)] [(0,1,kq 2),(1,1,kq 1),(2,1,.k (.d (.bool true)))]),
⟨none,none,.store 3 (.t 2) (.t 16)⟩] [16]
.ret)
 (sr [
tq 18 (.bin .eql (.t 3) (.k (.d (.str [100,101,99,105,100,101])))),
mq 17 18] [3,18]
(.cond (.t 17) (sr [
tq 19 (.build [.z (.int .i64 0),.z (.int .i64 0),.z (.bool false)] [(0,1,kq 1),(1,1,kq 2),(2,1,.k (.d (.bool true)))]),
⟨none,none,.store 3 (.t 2) (.t 19)⟩] [19]
.ret)
 .skip))))))))))))
(sr [
tq 20 (.build [.z (.int .i64 0),.z (.int .i64 0),.z (.bool false)] []),
⟨none,none,.store 3 (.t 2) (.t 20)⟩] [20]
.ret)))⟩
def zso:C:=
  (.seq (sr [
mq 24 5,
mq 25 0,
tq 26 (.len .str (.t 25)),
tq 27 (.bin .lss (.t 24) (.t 26))] [24,25,26]
(.cond (.t 27) .skip
 (.exit 0)))
(.seq (.block 1 (.seq (sr [
mq 30 0,
mq 31 5,
tq 32 (.idxS (.t 30) (.t 31)),
tq 33 (.bin .lss (.t 32) (.k (.d (.int .u8 48)))),
mq 34 33,
gq 35 34 false (.mv (.t 0)),
gq 36 34 false (.mv (.t 5)),
gq 37 34 false (.idxS (.t 35) (.t 36)),
gq 38 34 false (.bin .gtr (.t 37) (.k (.d (.int .u8 57)))),
tq 39 (.pick (.t 34) (.k (.d (.bool true))) (.t 38))] [30,31,32,33,34,35,36,37,38]
(.cond (.t 39) (sr [
tq 2 (.mv (kq 0)),
tq 3 (.mv (.k (.d (.bool false))))] []
.ret)
 .skip))
(rg [
mq 40 4,
tq 41 (.bin .mul (kq 10) (.t 40)),
mq 42 0,
mq 43 5,
tq 44 (.idxS (.t 42) (.t 43)),
tq 45 (.bin .sub (.t 44) (.k (.d (.int .u8 48)))),
tq 46 (.conv .i64 (.t 45)),
tq 47 (.bin .add (.t 41) (.t 46)),
mq 4 47] [40,41,42,43,44,45,46,47])))
(rg [
mq 28 5,
tq 29 (.bin .add (.t 28) (kq 1)),
mq 5 29] [28,29])))
def zwd:CF:=⟨[.tmp 2,.tmp 3],
  (sr [
tq 2 (.mv (kq 0)),
tq 3 (.mv (.k (.d (.bool false))))] [2,3]
(.seq (sr [
mq 6 0,
tq 7 (.len .str (.t 6)),
tq 8 (.bin .eql (.t 7) (kq 0)),
mq 9 8,
gq 10 9 false (.mv (.t 0)),
gq 11 9 false (.len .str (.t 10)),
gq 12 9 false (.bin .gtr (.t 11) (kq 9)),
tq 13 (.pick (.t 9) (.k (.d (.bool true))) (.t 12)),
mq 14 13,
gq 15 14 false (.mv (.t 0)),
gq 16 14 false (.len .str (.t 15)),
gq 17 14 false (.bin .gtr (.t 16) (kq 1)),
gq 18 14 false (.mv (.t 17)),
gq 19 18 true (.mv (.t 0)),
gq 20 18 true (.idxS (.t 19) (kq 0)),
gq 21 18 true (.bin .eql (.t 20) (.k (.d (.int .u8 48)))),
gq 22 14 false (.pick (.t 18) (.t 21) (.k (.d (.bool false)))),
tq 23 (.pick (.t 14) (.k (.d (.bool true))) (.t 22))] [6,7,8,9,10,11,12,13,14,15,16,17,18,19,20,21,22]
(.cond (.t 23) (sr [
tq 2 (.mv (kq 0)),
tq 3 (.mv (.k (.d (.bool false))))] []
.ret)
 .skip))
(sr [
tq 4 (.mv (kq 0))] []
(.seq (sr [
tq 5 (.mv (kq 0))] []
(.block 0 (.loop [0,4,5] zso)))
(sr [
mq 48 4,
mq 2 48,
tq 3 (.mv (.k (.d (.bool true))))] [4,48]
.ret)))))⟩
def zsm:C:=
  (sr [
tq 17 (.bin .lss (.t 16) (.t 15))] []
(.seq (.cond (.t 17) .skip
 (.exit 0))
(.seq (.block 1 (sr [
mq 18 16,
tq 19 (.idxAddr 5 (.t 14) (.t 16)),
lq 20 5 19,
tq 7 (.alloc zae [.z (.int .i64 0),.z (.str []),.z (.list 0 []),.z (.list 0 []),.z (.str [])]),
mq 6 18,
⟨none,none,.store 5 (.t 7) (.t 20)⟩] [18,19,20]
(sr [
lq 21 5 7,
tq 22 (cl zcy [.t 21]),
mq 8 22] [21,22]
(.seq (sr [
mq 23 8,
tq 24 (.bin .eql (.t 23) (kq 0))] [23]
(.cond (.t 24) (rg [
mq 25 5,
lq 26 5 7,
tq 27 (.callQ (.k (.fn zap [] [])) [.t 25,.t 26]),
mq 8 27] [25,26,27])
 .skip))
(.seq (sr [
mq 28 8,
tq 29 (.bin .neq (.t 28) (kq 0))] [28]
(.cond (.t 29) (sr [
mq 30 6,
tq 31 (.bin .add (.t 30) (kq 1)),
mq 32 8,
tq 2 (.mv (.k (.d (.nilp)))),
mq 3 31,
mq 4 32] [6,8,30,31,32]
.ret)
 .skip))
(rg [
mq 33 5,
lq 34 5 7,
tq 35 (.call true true (.k (.fn zaq [] [])) [.t 33,.t 34])] [7,33,34,35]))))))
(rg [
tq 36 (.bin .add (.t 16) (kq 1)),
mq 16 36] [36]))))
def zwa:CF:=⟨[.tmp 2,.tmp 3,.tmp 4],
  (sr [
tq 2 (.mv (.k (.d (.nilp)))),
tq 3 (.mv (kq 0)),
tq 4 (.mv (kq 0))] [2,3,4]
(.seq (sr [
mq 9 0,
tq 10 (.len .slc (.t 9)),
tq 11 (.bin .gtr (.t 10) (kq 1000))] [9,10]
(.cond (.t 11) (sr [
tq 2 (.mv (.k (.d (.nilp)))),
tq 3 (.mv (kq 0)),
tq 4 (.mv (kq 5))] []
.ret)
 .skip))
(sr [
tq 12 (.build [.own ⟨false,zae,5,88⟩,.z (.int .i64 0),.own ⟨false,zab,8,96⟩,.own ⟨false,zaj,2,24⟩,.own ⟨true,zad,5,48⟩] []),
tq 13 (.box zei (.t 12)),
mq 5 13] [12,13]
(.seq (sr [
mq 14 0,
tq 15 (.len .slc (.t 14)),
tq 16 (.mv (kq 0))] [0]
(.block 0 (.loop [5,14,15,16] zsm)))
(sr [
mq 37 5,
mq 2 37,
tq 3 (.mv (kq 0)),
tq 4 (.mv (kq 0))] [5,37]
.ret)))))⟩
def zps:C:=
  (sr [
tq 16 (.nextS (.t 15)),
xq 17 16 0] []
(.seq (.cond (.t 17) .skip
 (.exit 0))
(.block 1 (sr [
xq 18 16 1,
xq 19 16 2,
mq 3 18,
mq 4 19] [16,18,19]
(sr [
mq 20 4,
tq 21 (.bin .geq (.t 20) (.k (.d (.int .i32 65)))),
mq 22 21,
gq 23 22 true (.mv (.t 4)),
gq 24 22 true (.bin .leq (.t 23) (.k (.d (.int .i32 90)))),
tq 25 (.pick (.t 22) (.t 24) (.k (.d (.bool false)))),
mq 26 25,
gq 27 26 false (.mv (.t 4)),
gq 28 26 false (.bin .geq (.t 27) (.k (.d (.int .i32 97)))),
gq 29 26 false (.mv (.t 28)),
gq 30 29 true (.mv (.t 4)),
gq 31 29 true (.bin .leq (.t 30) (.k (.d (.int .i32 122)))),
gq 32 26 false (.pick (.t 29) (.t 31) (.k (.d (.bool false)))),
tq 33 (.pick (.t 26) (.k (.d (.bool true))) (.t 32)),
mq 5 33] [20,21,22,23,24,25,26,27,28,29,30,31,32,33]
(sr [
mq 34 5,
tq 35 (.un .not (.t 34)),
mq 36 35,
gq 37 36 true (.mv (.t 3)),
gq 38 36 true (.bin .eql (.t 37) (kq 0)),
gq 39 36 true (.mv (.t 38)),
gq 40 39 false (.mv (.t 4)),
gq 41 39 false (.bin .neq (.t 40) (.k (.d (.int .i32 95)))),
gq 42 39 false (.mv (.t 41)),
gq 43 42 true (.mv (.t 4)),
gq 44 42 true (.bin .lss (.t 43) (.k (.d (.int .i32 48)))),
gq 45 42 true (.mv (.t 44)),
gq 46 45 false (.mv (.t 4)),
gq 47 45 false (.bin .gtr (.t 46) (.k (.d (.int .i32 57)))),
gq 48 42 true (.pick (.t 45) (.k (.d (.bool true))) (.t 47)),
gq 49 39 false (.pick (.t 42) (.t 48) (.k (.d (.bool false)))),
gq 50 36 true (.pick (.t 39) (.k (.d (.bool true))) (.t 49)),
tq 51 (.pick (.t 36) (.t 50) (.k (.d (.bool false))))] [3,4,5,34,35,36,37,38,39,40,41,42,43,44,45,46,47,48,49,50]
(.cond (.t 51) (sr [
tq 2 (.mv (.k (.d (.bool false))))] []
.ret)
 .skip)))))))
def zsv:CF:=⟨[.tmp 2],
  (sr [
tq 2 (.mv (.k (.d (.bool false))))] [2]
(.seq (sr [
mq 6 0,
tq 7 (.len .str (.t 6)),
tq 8 (.bin .eql (.t 7) (kq 0)),
mq 9 8,
gq 10 9 false (.mv (.t 0)),
gq 11 9 false (.len .str (.t 10)),
gq 12 9 false (.bin .gtr (.t 11) (kq 24)),
tq 13 (.pick (.t 9) (.k (.d (.bool true))) (.t 12))] [6,7,8,9,10,11,12]
(.cond (.t 13) (sr [
tq 2 (.mv (.k (.d (.bool false))))] []
.ret)
 .skip))
(.seq (sr [
mq 14 0,
tq 15 (.rangeS (.t 14))] [0,14]
(.block 0 (.loop [15] zps)))
(sr [
tq 2 (.mv (.k (.d (.bool true))))] []
.ret))))⟩
def zwb:CF:=⟨[.tmp 6],
  (sr [
tq 6 (.mv (kq 0))] [6]
(sr [
mq 7 0,
mq 8 1,
tq 9 (.bin .lss (.t 7) (.t 8)),
mq 10 9,
gq 11 10 false (.mv (.t 0)),
gq 12 10 false (.mv (.t 2)),
gq 13 10 false (.bin .gtr (.t 11) (.t 12)),
tq 14 (.pick (.t 10) (.k (.d (.bool true))) (.t 13)),
tq 15 (cl zak [.t 14,kq 3]),
mq 6 15] [0,1,2,7,8,9,10,11,12,13,14,15]
.ret))⟩
def zek:CF:=⟨[.tmp 2],
  (sr [
tq 1 (.box zus (.t 0)),
tq 2 (.mv (.k (.d (.nilf))))] [0,2]
(sr [
tq 3 (.mkFunc zb9 [] [.t 1]),
mq 2 3] [1,3]
.ret))⟩
def zlm:CF:=⟨[.tmp 6],
  (sr [
tq 3 (.box zb5 (.t 0)),
tq 4 (.box zab (.t 1)),
tq 5 (.box zbv (.t 2)),
tq 6 (.mv (.k (.d (.bool false))))] [0,1,2,6]
(sr [
ld 8 3,
lq 9 8 4,
tq 10 (.call true true (.k (.fn zdg [] [])) [.t 8,.t 9]),
tq 11 (.mkFunc zby [] [.t 3,.t 5]),
tq 12 (.call true true (.k (.fn za3 [] [])) [.t 10,.t 11]),
mq 7 12] [3,8,9,10,11,12]
(sr [
fa 13 4 4,
ld 14 13,
ld 15 5,
tq 16 (.bin .leq (.t 14) (.t 15)),
mq 17 16,
gq 18 17 true (.mv (.t 7)),
gq 19 17 true (.un .not (.t 18)),
tq 20 (.pick (.t 17) (.t 19) (.k (.d (.bool false)))),
mq 6 20] [4,5,7,13,14,15,16,17,18,19,20]
.ret)))⟩
def zf1:C:=
  (sr [
tq 11 (.bin .lss (.t 10) (.t 9))] []
(.seq (.cond (.t 11) .skip
 (.exit 0))
(.seq (.block 1 (sr [
tq 12 (.idxAddr 8 (.t 8) (.t 10)),
lq 13 8 12,
tq 7 (.alloc zab [.z (.str []),.z (.str []),.z (.str []),.z (.str []),.z (.int .i64 0),.z (.int .i64 0),.z (.int .i64 0),.z (.int .i64 0)]),
⟨none,none,.store 8 (.t 7) (.t 13)⟩] [12,13]
(rg [
mq 14 5,
mq 15 1,
lq 16 8 7,
tq 17 (.call true true (.t 15) [.t 16]),
tq 18 (.mkList 1 1 [.t 17]),
tq 19 (.append ⟨false,zac,1,16⟩ (.t 14) (.t 18)),
mq 5 19] [7,14,15,16,17,18,19])))
(rg [
tq 20 (.bin .add (.t 10) (kq 1)),
mq 10 20] [20]))))
def zgj:CF:=⟨[.tmp 4],
  (sr [
tq 4 (.ownNil ⟨false,zac,1,16⟩)] [4]
(sr [
tq 5 (.ownNil ⟨false,zac,1,16⟩)] []
(.seq (sr [
mq 8 0,
tq 9 (.len .slc (.t 8)),
tq 10 (.mv (kq 0))] [0]
(.block 0 (.loop [1,5,8,9,10] zf1)))
(sr [
mq 21 5,
mq 4 21] [5,21]
.ret))))⟩
def zjc:C:=
  (sr [
tq 11 (.bin .lss (.t 10) (.t 9))] []
(.seq (.cond (.t 11) .skip
 (.exit 0))
(.seq (.block 1 (sr [
tq 12 (.idxAddr 8 (.t 8) (.t 10)),
lq 13 8 12,
tq 7 (.alloc zab [.z (.str []),.z (.str []),.z (.str []),.z (.str []),.z (.int .i64 0),.z (.int .i64 0),.z (.int .i64 0),.z (.int .i64 0)]),
⟨none,none,.store 8 (.t 7) (.t 13)⟩] [12,13]
(sr [
mq 14 1,
lq 15 8 7,
tq 16 (.call true true (.t 14) [.t 15])] [14,15]
(.cond (.t 16) (rg [
mq 17 5,
lq 18 8 7,
tq 19 (.mkList 8 1 [.t 18]),
tq 20 (.append ⟨false,zab,8,96⟩ (.t 17) (.t 19)),
mq 5 20] [7,17,18,19,20])
 .skip))))
(rg [
tq 21 (.bin .add (.t 10) (kq 1)),
mq 10 21] [21]))))
def zkl:CF:=⟨[.tmp 4],
  (sr [
tq 4 (.ownNil ⟨false,zab,8,96⟩)] [4]
(sr [
tq 5 (.ownNil ⟨false,zab,8,96⟩)] []
(.seq (sr [
mq 8 0,
tq 9 (.len .slc (.t 8)),
tq 10 (.mv (kq 0))] [0]
(.block 0 (.loop [1,5,8,9,10] zjc)))
(sr [
mq 22 5,
mq 4 22] [5,22]
.ret))))⟩
def zjf:CF:=⟨[.tmp 4],
  (sr [
tq 3 (.box zab (.t 0)),
tq 4 (.mv (.k (.d (.bool false))))] [0,4]
(sr [
ld 5 1,
lq 6 8 3,
ld 7 2,
tq 8 (.callQ (.k (.fn zbk [] [])) [.t 5,.t 6,.t 7]),
mq 4 8] [1,2,3,5,6,7,8]
.ret))⟩
def z00:CF:=⟨[.tmp 2],
  (sr [
tq 1 (.box zab (.t 0)),
tq 2 (.mv (.k (.d (.str []))))] [0,2]
(sr [
fa 3 0 1,
ld 4 3,
mq 2 4] [1,3,4]
.ret))⟩
def zmb:CF:=⟨[.tmp 4],
  (sr [
tq 3 (.box zac (.t 1)),
tq 4 (.mv (.k (.d (.nilp))))] [1,4]
(.seq (sr [
mq 6 0,
tq 7 (.nilCheck (.t 6)),
fa 8 1 7,
ld 9 8,
tq 10 (.mkFunc zb6 [] [.t 3]),
tq 11 (.call true true (.k (.fn zax [] [])) [.t 9,.t 10]),
mq 5 11] [3,6,7,8,9,10,11]
(sr [
mq 12 5,
tq 13 (.bin .geq (.t 12) (kq 0))] [12]
(.cond (.t 13) (sr [
mq 14 0,
tq 15 (.nilCheck (.t 14)),
fa 16 1 15,
ld 17 16,
mq 18 5,
tq 19 (.idxAddr 8 (.t 17) (.t 18)),
mq 4 19] [0,5,14,15,16,17,18,19]
.ret)
 .skip)))
(sr [
tq 4 (.mv (.k (.d (.nilp))))] []
.ret)))⟩
def zj0:CF:=⟨[.tmp 4],
  (sr [
tq 3 (.box zab (.t 0)),
tq 4 (.mv (.k (.d (.bool false))))] [0,4]
(sr [
ld 5 1,
lq 6 8 3,
tq 7 (.call true true (.k (.fn zdg [] [])) [.t 5,.t 6]),
tq 8 (.slice 8 (.t 7) (some (kq 1)) none none),
tq 9 (.mkFunc zew [] [.t 2]),
tq 10 (.call true true (.k (.fn za3 [] [])) [.t 8,.t 9]),
mq 4 10] [1,2,3,5,6,7,8,9,10]
.ret))⟩
def zdy:CF:=⟨[.tmp 4],
  (sr [
tq 4 (.mv (.k (.d (.bool false))))] [4]
(sr [
mq 5 0,
mq 6 1,
tq 7 (.call true true (.k (.fn zax [] [])) [.t 5,.t 6]),
tq 8 (.bin .geq (.t 7) (kq 0)),
mq 4 8] [0,1,5,6,7,8]
.ret))⟩
def zk3:C:=
  (.block 1 (sr [
mq 9 0,
mq 10 5,
mq 11 5,
tq 12 (.len .slc (.t 11)),
tq 13 (.bin .sub (.t 12) (kq 1)),
tq 14 (.idxAddr 8 (.t 10) (.t 13)),
fa 15 3 14,
ld 16 15,
tq 17 (.callQ (.k (.fn zbg [] [])) [.t 9,.t 16]),
mq 6 17] [9,10,11,12,13,14,15,16,17]
(.seq (sr [
mq 18 6,
tq 19 (.nilEq 0 false (.t 18))] [18]
(.cond (.t 19) (.exit 0)
 .skip))
(rg [
mq 20 5,
mq 21 6,
tq 22 (.nilCheck (.t 21)),
lq 23 8 22,
tq 24 (.mkList 8 1 [.t 23]),
tq 25 (.append ⟨false,zab,8,96⟩ (.t 20) (.t 24)),
mq 5 25] [6,20,21,22,23,24,25]))))
def zma:CF:=⟨[.tmp 4],
  (sr [
tq 3 (.box zab (.t 1)),
tq 4 (.ownNil ⟨false,zab,8,96⟩)] [1,4]
(.scope (sr [
lq 7 8 3,
tq 8 (.mkRow ⟨false,zab,8,96⟩ 1 [.t 7]),
mq 5 8] [3,7,8]
(.seq .label
(.seq (.block 0 (.loop [0,5] zk3))
(sr [
mq 26 5,
mq 4 26] [5,26]
.ret))))))⟩
def ziu:CF:=⟨[.tmp 3],
  (sr [
tq 2 (.box zab (.t 0)),
tq 3 (.mv (.k (.d (.bool false))))] [0,3]
(sr [
fa 4 0 2,
ld 5 4,
ld 6 1,
tq 7 (.bin .eql (.t 5) (.t 6)),
mq 3 7] [1,2,4,5,6,7]
.ret))⟩
def zqx:C:=
  (sr [
tq 8 (.bin .lss (.t 7) (.t 6))] []
(.seq (.cond (.t 8) .skip
 (.exit 0))
(.seq (.block 1 (sr [
tq 9 (.idxAddr 1 (.t 5) (.t 7)),
ld 10 9,
mq 4 10] [9,10]
(sr [
mq 11 4,
tq 12 (.bin .neq (.t 11) (kq 0))] [11]
(.cond (.t 12) (sr [
mq 13 4,
mq 2 13] [4,13]
.ret)
 .skip))))
(rg [
tq 14 (.bin .add (.t 7) (kq 1)),
mq 7 14] [14]))))
def zue:CF:=⟨[.tmp 2],
  (sr [
tq 2 (.mv (kq 0))] [2]
(.seq (sr [
mq 5 0,
tq 6 (.len .slc (.t 5)),
tq 7 (.mv (kq 0))] [0]
(.block 0 (.loop [5,6,7] zqx)))
(sr [
tq 2 (.mv (kq 0))] []
.ret)))⟩
def zp2:CF:=⟨[.tmp 2],
  (sr [
tq 2 (.mv (kq 0))] [2]
(sr [
mq 3 0,
tq 4 (cl zh7 [.t 3,kq 0,kq 99999]),
mq 2 4] [0,3,4]
.ret))⟩
def zv3:CF:=⟨[.tmp 4],
  (sr [
tq 4 (.mv (kq 0))] [4]
(.seq (sr [
mq 5 0] [0]
(.cond (.t 5) (sr [
mq 6 1,
mq 4 6] [1,6]
.ret)
 .skip))
(sr [
tq 4 (.mv (kq 0))] []
.ret)))⟩
def zsy:CF:=⟨[.tmp 6],
  (sr [
tq 6 (.mv (kq 0))] [6]
(sr [
mq 7 0,
mq 8 1,
tq 9 (.bin .lss (.t 7) (.t 8)),
mq 10 9,
gq 11 10 false (.mv (.t 0)),
gq 12 10 false (.mv (.t 2)),
gq 13 10 false (.bin .gtr (.t 11) (.t 12)),
tq 14 (.pick (.t 10) (.k (.d (.bool true))) (.t 13)),
tq 15 (cl zha [.t 14,kq 3]),
mq 6 15] [0,1,2,7,8,9,10,11,12,13,14,15]
.ret))⟩
def zke:C:=
  (rg [
mq 6 8] [8])
def zkf:C:=
  (.block 1 (sr [
ld 9 3,
mq 10 6,
tq 11 (.call true true (.t 9) [.t 10])] [3,9,10]
(.cond (.t 11) (rg [
ld 12 5,
mq 13 6,
tq 14 (.mkList 1 1 [.t 13]),
tq 15 (.append ⟨false,zbv,1,8⟩ (.t 12) (.t 14)),
⟨none,none,.store 1 (.t 5) (.t 15)⟩] [5,6,12,13,14,15])
 .skip)))
def zll:CF:=⟨[.tmp 4],
  (sr [
tq 3 (.box zut (.t 1)),
tq 4 (.ownNil ⟨false,zbv,1,8⟩)] [1]
(sr [
tq 5 (.alloc yk9 [.own ⟨false,zbv,1,8⟩])] []
(.seq (sr [
mq 7 0] [0]
(.block 0 (.rangeFn 18 (.t 7) [8] zke zkf)))
(sr [
ld 16 5,
mq 4 16] [5,16]
.ret))))⟩
def zsw:CF:=⟨[.tmp 2],
  (sr [
tq 1 (.box zjq (.t 0)),
tq 2 (.mv (.k (.d (.nilf))))] [0,2]
(sr [
tq 3 (.mkFunc zj7 [] [.t 1]),
mq 2 3] [1,3]
.ret))⟩
def zp1:CF:=⟨[.tmp 2],
  (sr [
tq 2 (.mv (.k (.d (.bool false))))] [2]
(sr [
tq 2 (.mv (.k (.d (.bool true))))] []
.ret))⟩
def zfh:CF:=⟨[.tmp 2],
  (sr [
tq 1 (.box zsg (.t 0)),
tq 2 (.mv (.k (.d (.nilf))))] [0,2]
(sr [
tq 3 (.mkFunc zcu [] [.t 1]),
mq 2 3] [1,3]
.ret))⟩
def zki:CF:=⟨[.tmp 4,.tmp 5,.tmp 6],
  (sr [
tq 4 (.mv (.k (.d (.str [])))),
tq 5 (.mv (.k (.d (.str [])))),
tq 6 (.mv (.k (.d (.bool false))))] [4,5,6]
(.seq (sr [
mq 8 0,
mq 9 1,
tq 10 (cl ze8 [.t 8,.t 9]),
mq 7 10] [8,9,10]
(sr [
mq 11 7,
tq 12 (.bin .geq (.t 11) (kq 0))] [11]
(.cond (.t 12) (.seq (.reg true [
mq 13 0,
mq 14 7,
tq 15 (.sliceS (.t 13) none (some (.t 14))),
mq 16 0,
mq 17 7,
mq 18 1,
tq 19 (.len .str (.t 18)),
tq 20 (.bin .add (.t 17) (.t 19)),
tq 21 (.sliceS (.t 16) (some (.t 20)) none),
mq 4 15,
mq 5 21,
tq 6 (.mv (.k (.d (.bool true))))] [0,1,7,13,14,15,16,17,18,19,20,21])
.ret)
 .skip)))
(sr [
mq 22 0,
mq 4 22,
tq 5 (.mv (.k (.d (.str [])))),
tq 6 (.mv (.k (.d (.bool false))))] [0,22]
.ret)))⟩
def zo9:CF:=⟨[.tmp 6,.tmp 7],
  (sr [
tq 6 (.mv (.k (.d (.list 0 [])))),
tq 7 (.mv (kq 0))] [6,7]
(.seq (.seq (.reg true [
mq 10 1,
tq 11 (.idxAddr 1 (.t 10) (kq 1)),
ld 12 11,
tq 13 (cl zcj [.t 12]),
mq 14 2,
tq 15 (.idxAddr 1 (.t 14) (kq 0)),
ld 16 15,
tq 17 (cl za1 [.t 16]),
mq 18 2,
tq 19 (.idxAddr 1 (.t 18) (kq 1)),
ld 20 19,
tq 21 (cl za1 [.t 20]),
tq 22 (.mkList 1 3 [.t 13,.t 17,.t 21]),
tq 23 (cl za0 [.t 22]),
mq 8 23] [10,11,12,13,14,15,16,17,18,19,20,21,22,23])
(sr [
mq 24 8,
tq 25 (.bin .neq (.t 24) (kq 0))] [24]
(.cond (.t 25) (sr [
mq 26 8,
tq 6 (.mv (.k (.d (.list 0 [])))),
mq 7 26] [8,26]
.ret)
 .skip)))
(.seq (.seq (.reg true [
mq 27 0,
mq 28 1,
tq 29 (.idxAddr 1 (.t 28) (kq 1)),
ld 30 29,
mq 31 2,
tq 32 (.idxAddr 1 (.t 31) (kq 0)),
ld 33 32,
mq 34 2,
tq 35 (.idxAddr 1 (.t 34) (kq 1)),
ld 36 35,
tq 37 (.callQ (.k (.fn zbl [] [])) [.t 27,.t 30,.t 33,.t 36]),
mq 9 37] [0,1,2,27,28,29,30,31,32,33,34,35,36,37])
(sr [
mq 38 9,
tq 39 (.bin .neq (.t 38) (kq 1440))] [38]
(.cond (.t 39) (sr [
mq 40 9,
tq 41 (cl n_strconv_Itoa [.t 40]),
tq 42 (.mkList 1 1 [.t 41]),
mq 6 42,
tq 7 (.mv (kq 0))] [9,40,41,42]
.ret)
 .skip)))
(sr [
tq 6 (.mv (.k (.d (.list 0 [])))),
tq 7 (.mv (kq 0))] []
.ret))))⟩
def zpa:CF:=⟨[.tmp 6,.tmp 7],
  (sr [
tq 6 (.mv (.k (.d (.list 0 [])))),
tq 7 (.mv (kq 0))] [6,7]
(.seq (.seq (.reg true [
mq 9 2,
tq 10 (.idxAddr 1 (.t 9) (kq 0)),
ld 11 10,
tq 12 (cl za1 [.t 11]),
mq 13 2,
tq 14 (.idxAddr 1 (.t 13) (kq 1)),
ld 15 14,
tq 16 (cl za1 [.t 15]),
tq 17 (.mkList 1 2 [.t 12,.t 16]),
tq 18 (cl za0 [.t 17]),
mq 8 18] [9,10,11,12,13,14,15,16,17,18])
(sr [
mq 19 8,
tq 20 (.bin .neq (.t 19) (kq 0))] [19]
(.cond (.t 20) (sr [
mq 21 8,
tq 6 (.mv (.k (.d (.list 0 [])))),
mq 7 21] [8,21]
.ret)
 .skip)))
(.seq (.reg true [
mq 22 0,
mq 23 2,
tq 24 (.idxAddr 1 (.t 23) (kq 0)),
ld 25 24,
mq 26 2,
tq 27 (.idxAddr 1 (.t 26) (kq 1)),
ld 28 27,
tq 29 (.callU true (.k (.fn zet [] [])) [.t 22,.t 25,.t 28]),
tq 30 (.call true true (.k (.fn zdq [] [])) [.t 29,.k (.fn zhs [] [])]),
mq 6 30,
tq 7 (.mv (kq 0))] [0,2,22,23,24,25,26,27,28,29,30])
.ret)))⟩
def zf9:C:=
  (sr [
tq 11 (.bin .lss (.t 10) (.t 9))] []
(.seq (.cond (.t 11) .skip
 (.exit 0))
(.seq (.block 1 (sr [
tq 12 (.idxAddr 2 (.t 8) (.t 10)),
lq 13 2 12,
tq 7 (.alloc zd9 [.z (.str []),.z (.int .i64 0)]),
⟨none,none,.store 2 (.t 7) (.t 13)⟩] [12,13]
(rg [
mq 14 5,
mq 15 1,
lq 16 2 7,
tq 17 (.call true true (.t 15) [.t 16]),
tq 18 (.mkList 1 1 [.t 17]),
tq 19 (.append ⟨false,zac,1,16⟩ (.t 14) (.t 18)),
mq 5 19] [7,14,15,16,17,18,19])))
(rg [
tq 20 (.bin .add (.t 10) (kq 1)),
mq 10 20] [20]))))
def zgy:CF:=⟨[.tmp 4],
  (sr [
tq 4 (.ownNil ⟨false,zac,1,16⟩)] [4]
(sr [
tq 5 (.ownNil ⟨false,zac,1,16⟩)] []
(.seq (sr [
mq 8 0,
tq 9 (.len .slc (.t 8)),
tq 10 (.mv (kq 0))] [0]
(.block 0 (.loop [1,5,8,9,10] zf9)))
(sr [
mq 21 5,
mq 4 21] [5,21]
.ret))))⟩
def zm4:CF:=⟨[.tmp 2],
  (sr [
tq 1 (.box zd9 (.t 0)),
tq 2 (.mv (.k (.d (.str []))))] [0,2]
(.seq (.reg true [
fa 3 0 1,
ld 4 3,
tq 5 (.bin .add (.t 4) (.k (.d (.str [32])))),
fa 6 1 1,
ld 7 6,
tq 8 (cl n_strconv_Itoa [.t 7]),
tq 9 (.bin .add (.t 5) (.t 8)),
mq 2 9] [1,3,4,5,6,7,8,9])
.ret))⟩
def zpb:CF:=⟨[.tmp 6,.tmp 7],
  (sr [
tq 6 (.mv (.k (.d (.list 0 [])))),
tq 7 (.mv (kq 0))] [6,7]
(.seq (sr [
mq 9 2,
tq 10 (.idxAddr 1 (.t 9) (kq 0)),
ld 11 10,
tq 12 (cl za1 [.t 11]),
mq 8 12] [9,10,11,12]
(sr [
mq 13 8,
tq 14 (.bin .neq (.t 13) (kq 0))] [13]
(.cond (.t 14) (sr [
mq 15 8,
tq 6 (.mv (.k (.d (.list 0 [])))),
mq 7 15] [8,15]
.ret)
 .skip)))
(sr [
mq 16 0,
mq 17 2,
tq 18 (.idxAddr 1 (.t 17) (kq 0)),
ld 19 18,
tq 20 (.callU true (.k (.fn zdu [] [])) [.t 16,.t 19]),
mq 6 20,
tq 7 (.mv (kq 0))] [0,2,16,17,18,19,20]
.ret)))⟩
def zpc:CF:=⟨[.tmp 6,.tmp 7],
  (sr [
tq 6 (.mv (.k (.d (.list 0 [])))),
tq 7 (.mv (kq 0))] [6,7]
(.seq (sr [
mq 9 1,
tq 10 (.idxAddr 1 (.t 9) (kq 1)),
ld 11 10,
tq 12 (cl zcj [.t 11]),
mq 8 12] [9,10,11,12]
(sr [
mq 13 8,
tq 14 (.bin .neq (.t 13) (kq 0))] [13]
(.cond (.t 14) (sr [
mq 15 8,
tq 6 (.mv (.k (.d (.list 0 [])))),
mq 7 15] [8,15]
.ret)
 .skip)))
(sr [
mq 16 0,
mq 17 1,
tq 18 (.idxAddr 1 (.t 17) (kq 1)),
ld 19 18,
tq 20 (.callU true (.k (.fn zd7 [] [])) [.t 16,.t 19]),
xq 21 20 0,
xq 22 20 1,
mq 6 21,
mq 7 22] [0,1,16,17,18,19,20,21,22]
.ret)))⟩
def zpd:CF:=⟨[.tmp 6,.tmp 7],
  (sr [
tq 6 (.mv (.k (.d (.list 0 [])))),
tq 7 (.mv (kq 0))] [6,7]
(sr [
mq 9 0,
tq 10 (.nilCheck (.t 9)),
fa 11 3 10,
ld 12 11,
tq 13 (.call true true (.k (.fn zem [] [])) [.t 12,.k (.fn zht [] [])]),
mq 8 13] [0,9,10,11,12,13]
(sr [
mq 14 8,
tq 15 (.call true true (.k (.fn zc4 [] [])) [.t 14,.k (.fn zhu [] [])]),
mq 6 15,
tq 7 (.mv (kq 0))] [8,14,15]
.ret)))⟩
def zhk:C:=
  (sr [
tq 11 (.bin .lss (.t 10) (.t 9))] []
(.seq (.cond (.t 11) .skip
 (.exit 0))
(.seq (.block 1 (sr [
tq 12 (.idxAddr 5 (.t 8) (.t 10)),
lq 13 5 12,
tq 7 (.alloc zad [.z (.str []),.z (.str []),.z (.int .i64 0),.z (.bool false),.z (.bool false)]),
⟨none,none,.store 5 (.t 7) (.t 13)⟩] [12,13]
(sr [
mq 14 1,
lq 15 5 7,
tq 16 (.call true true (.t 14) [.t 15])] [14,15]
(.cond (.t 16) (rg [
mq 17 5,
lq 18 5 7,
tq 19 (.mkList 5 1 [.t 18]),
tq 20 (.append ⟨false,zad,5,48⟩ (.t 17) (.t 19)),
mq 5 20] [7,17,18,19,20])
 .skip))))
(rg [
tq 21 (.bin .add (.t 10) (kq 1)),
mq 10 21] [21]))))
def zii:CF:=⟨[.tmp 4],
  (sr [
tq 4 (.ownNil ⟨false,zad,5,48⟩)] [4]
(sr [
tq 5 (.ownNil ⟨false,zad,5,48⟩)] []
(.seq (sr [
mq 8 0,
tq 9 (.len .slc (.t 8)),
tq 10 (.mv (kq 0))] [0]
(.block 0 (.loop [1,5,8,9,10] zhk)))
(sr [
mq 22 5,
mq 4 22] [5,22]
.ret))))⟩
def zm5:CF:=⟨[.tmp 2],
  (sr [
tq 1 (.box zad (.t 0)),
tq 2 (.mv (.k (.d (.bool false))))] [0,2]
(sr [
fa 3 3 1,
ld 4 3,
tq 5 (.un .not (.t 4)),
mq 2 5] [1,3,4,5]
.ret))⟩
def ze1:C:=
  (sr [
tq 11 (.bin .lss (.t 10) (.t 9))] []
(.seq (.cond (.t 11) .skip
 (.exit 0))
(.seq (.block 1 (sr [
tq 12 (.idxAddr 5 (.t 8) (.t 10)),
lq 13 5 12,
tq 7 (.alloc zad [.z (.str []),.z (.str []),.z (.int .i64 0),.z (.bool false),.z (.bool false)]),
⟨none,none,.store 5 (.t 7) (.t 13)⟩] [12,13]
(rg [
mq 14 5,
mq 15 1,
lq 16 5 7,
tq 17 (.call true true (.t 15) [.t 16]),
tq 18 (.mkList 1 1 [.t 17]),
tq 19 (.append ⟨false,zac,1,16⟩ (.t 14) (.t 18)),
mq 5 19] [7,14,15,16,17,18,19])))
(rg [
tq 20 (.bin .add (.t 10) (kq 1)),
mq 10 20] [20]))))
def zfj:CF:=⟨[.tmp 4],
  (sr [
tq 4 (.ownNil ⟨false,zac,1,16⟩)] [4]
(sr [
tq 5 (.ownNil ⟨false,zac,1,16⟩)] []
(.seq (sr [
mq 8 0,
tq 9 (.len .slc (.t 8)),
tq 10 (.mv (kq 0))] [0]
(.block 0 (.loop [1,5,8,9,10] ze1)))
(sr [
mq 21 5,
mq 4 21] [5,21]
.ret))))⟩
def zm6:CF:=⟨[.tmp 2],
  (sr [
tq 1 (.box zad (.t 0)),
tq 2 (.mv (.k (.d (.str []))))] [0,2]
(sr [
fa 3 0 1,
ld 4 3,
mq 2 4] [1,3,4]
.ret))⟩
def zhp:CF:=⟨[.tmp 4],
  (sr [
tq 4 (.mv (.k (.d (.bool false))))] [4]
(sr [
mq 5 0,
mq 6 1,
tq 7 (cl zex [.t 5,.t 6]),
tq 8 (.bin .geq (.t 7) (kq 0)),
mq 4 8] [0,1,5,6,7,8]
.ret))⟩
def zuk:CF:=⟨[.tmp 2,.tmp 3],
  (sr [
tq 2 (.mv (kq 0)),
tq 3 (.mv (.k (.d (.bool false))))] [2,3]
(sr [
mq 7 0,
tq 8 (.call false false (.k (.fn n_strconv_Atoi [] [])) [.t 7]),
mq 6 8,
xq 9 6 0,
xq 10 6 1,
mq 4 9,
mq 5 10] [6,7,8,9,10]
(sr [
mq 11 4,
mq 12 5,
tq 13 (.nilEq 1 false (.t 12)),
mq 14 13,
gq 15 14 true (.mv (.t 0)),
gq 16 14 true (.len .str (.t 15)),
gq 17 14 true (.bin .leq (.t 16) (kq 9)),
tq 18 (.pick (.t 14) (.t 17) (.k (.d (.bool false)))),
mq 19 18,
gq 20 19 true (.mv (.t 4)),
gq 21 19 true (.bin .geq (.t 20) (kq 0)),
tq 22 (.pick (.t 19) (.t 21) (.k (.d (.bool false)))),
mq 23 22,
gq 24 23 true (.mv (.t 4)),
gq 25 23 true (cl n_strconv_Itoa [.t 24]),
gq 26 23 true (.mv (.t 0)),
gq 27 23 true (.bin .eql (.t 25) (.t 26)),
tq 28 (.pick (.t 23) (.t 27) (.k (.d (.bool false)))),
mq 2 11,
mq 3 28] [0,4,5,11,12,13,14,15,16,17,18,19,20,21,22,23,24,25,26,27,28]
.ret)))⟩
def zjx:CF:=⟨[.tmp 4],
  (sr [
tq 3 (.box zae (.t 1)),
tq 4 (.mv (kq 0))] [1,4]
(.seq (.reg true [
fa 11 3 3,
ld 12 11,
tq 13 (.idxAddr 1 (.t 12) (kq 0)),
ld 14 13,
fa 15 3 3,
ld 16 15,
tq 17 (.idxAddr 1 (.t 16) (kq 1)),
ld 18 17,
fa 19 3 3,
ld 20 19,
tq 21 (.idxAddr 1 (.t 20) (kq 2)),
ld 22 21,
fa 23 3 3,
ld 24 23,
tq 25 (.idxAddr 1 (.t 24) (kq 3)),
ld 26 25,
mq 5 14,
mq 6 18,
mq 7 22,
mq 8 26] [11,12,13,14,15,16,17,18,19,20,21,22,23,24,25,26])
(.seq (.seq (.reg true [
mq 27 0,
fa 28 2 3,
ld 29 28,
tq 30 (.idxAddr 1 (.t 29) (kq 0)),
ld 31 30,
tq 32 (.callQ (.k (.fn zbg [] [])) [.t 27,.t 31]),
tq 33 (.nilEq 0 true (.t 32)),
tq 34 (cl zak [.t 33,kq 9]),
mq 35 0,
tq 36 (.nilCheck (.t 35)),
fa 37 1 36,
ld 38 37,
tq 39 (.len .slc (.t 38)),
tq 40 (.bin .geq (.t 39) (kq 256)),
tq 41 (cl zak [.t 40,kq 5]),
tq 42 (.mkList 1 2 [.t 34,.t 41]),
tq 43 (cl za0 [.t 42]),
mq 9 43] [27,28,29,30,31,32,33,34,35,36,37,38,39,40,41,42,43])
(sr [
mq 44 9,
tq 45 (.bin .neq (.t 44) (kq 0))] [44]
(.cond (.t 45) (sr [
mq 46 9,
mq 4 46] [9,46]
.ret)
 .skip)))
(.seq (sr [
fa 47 1 3,
ld 48 47,
tq 49 (.bin .eql (.t 48) (.k (.d (.str [102,111,108,108,111,119]))))] [47,48]
(.cond (.t 49) (sr [
mq 50 0,
fa 51 2 3,
ld 52 51,
tq 53 (.idxAddr 1 (.t 52) (kq 2)),
ld 54 53,
mq 55 5,
tq 56 (.callQ (.k (.fn zb4 [] [])) [.t 50,.t 54,.t 55]),
mq 10 56] [0,3,5,50,51,52,53,54,55,56]
(sr [
mq 57 10,
tq 58 (.bin .neq (.t 57) (kq 0))] [57]
(.cond (.t 58) (sr [
mq 59 10,
mq 4 59] [10,59]
.ret)
 .skip)))
 .skip))
(sr [
mq 60 6,
tq 61 (.bin .gtr (.t 60) (kq 99999)),
mq 62 61,
gq 63 62 false (.mv (.t 7)),
gq 64 62 false (.bin .gtr (.t 63) (kq 99999)),
tq 65 (.pick (.t 62) (.k (.d (.bool true))) (.t 64)),
mq 66 65,
gq 67 66 false (.mv (.t 8)),
gq 68 66 false (.bin .gtr (.t 67) (kq 1440)),
tq 69 (.pick (.t 66) (.k (.d (.bool true))) (.t 68)),
tq 70 (cl zak [.t 69,kq 3]),
mq 71 7,
mq 72 6,
tq 73 (.bin .lss (.t 71) (.t 72)),
tq 74 (cl zak [.t 73,kq 11]),
tq 75 (.mkList 1 2 [.t 70,.t 74]),
tq 76 (cl za0 [.t 75]),
mq 4 76] [6,7,8,60,61,62,63,64,65,66,67,68,69,70,71,72,73,74,75,76]
.ret)))))⟩
def zjz:CF:=⟨[],
  (sr [
tq 3 (.box zae (.t 1))] [1]
(.seq (.reg true [
fa 5 2 3,
ld 6 5,
tq 7 (.idxAddr 1 (.t 6) (kq 0)),
ld 8 7,
fa 9 1 3,
ld 10 9,
fa 11 2 3,
ld 12 11,
tq 13 (.idxAddr 1 (.t 12) (kq 1)),
ld 14 13,
fa 15 3 3,
ld 16 15,
tq 17 (.idxAddr 1 (.t 16) (kq 0)),
ld 18 17,
fa 19 3 3,
ld 20 19,
tq 21 (.idxAddr 1 (.t 20) (kq 1)),
ld 22 21,
fa 23 3 3,
ld 24 23,
tq 25 (.idxAddr 1 (.t 24) (kq 2)),
ld 26 25,
fa 27 3 3,
ld 28 27,
tq 29 (.idxAddr 1 (.t 28) (kq 3)),
ld 30 29,
tq 31 (.build [.z (.str []),.z (.str []),.z (.str []),.z (.str []),.z (.int .i64 0),.z (.int .i64 0),.z (.int .i64 0),.z (.int .i64 0)] [(0,1,.t 8),(1,1,.t 10),(2,1,.t 14),(4,1,.t 18),(5,1,.t 22),(6,1,.t 26),(7,1,.t 30)]),
tq 4 (.alloc zab [.z (.str []),.z (.str []),.z (.str []),.z (.str []),.z (.int .i64 0),.z (.int .i64 0),.z (.int .i64 0),.z (.int .i64 0)]),
⟨none,none,.store 8 (.t 4) (.t 31)⟩] [5,6,7,8,9,10,11,12,13,14,15,16,17,18,19,20,21,22,23,24,25,26,27,28,29,30,31])
(.seq (sr [
fa 32 1 3,
ld 33 32,
tq 34 (.bin .eql (.t 33) (.k (.d (.str [102,111,108,108,111,119]))))] [32,33]
(.cond (.t 34) (rg [
fa 35 2 3,
ld 36 35,
tq 37 (.idxAddr 1 (.t 36) (kq 2)),
ld 38 37,
fa 39 3 4,
⟨none,none,.store 1 (.t 39) (.t 38)⟩] [3,35,36,37,38,39])
 .skip))
(.reg true [
mq 40 0,
mq 41 0,
tq 42 (.nilCheck (.t 41)),
fa 43 1 42,
ld 44 43,
lq 45 8 4,
tq 46 (.mkList 8 1 [.t 45]),
tq 47 (.append ⟨false,zab,8,96⟩ (.t 44) (.t 46)),
tq 48 (.nilCheck (.t 40)),
fa 49 1 48,
⟨none,none,.store 1 (.t 49) (.t 47)⟩] [0,4,40,41,42,43,44,45,46,47,48,49]))))⟩
def zis:CF:=⟨[.tmp 4],
  (sr [
tq 3 (.box zae (.t 1)),
tq 4 (.mv (kq 0))] [1,4]
(sr [
mq 6 0,
fa 7 2 3,
ld 8 7,
tq 9 (.idxAddr 1 (.t 8) (kq 0)),
ld 10 9,
tq 11 (.callQ (.k (.fn zbg [] [])) [.t 6,.t 10]),
mq 5 11] [6,7,8,9,10,11]
(.seq (sr [
mq 12 5,
tq 13 (.nilEq 0 false (.t 12))] [12]
(.cond (.t 13) (sr [
tq 4 (.mv (kq 10))] []
.ret)
 .skip))
(.seq (.reg true [
mq 14 5,
tq 15 (.nilCheck (.t 14)),
fa 16 1 15,
ld 17 16,
tq 18 (.bin .neq (.t 17) (.k (.d (.str [114,117,108,101])))),
tq 19 (cl zak [.t 18,kq 13]),
mq 20 0,
mq 21 5,
tq 22 (.nilCheck (.t 21)),
fa 23 0 22,
ld 24 23,
fa 25 3 3,
ld 26 25,
tq 27 (.idxAddr 1 (.t 26) (kq 0)),
ld 28 27,
tq 29 (.callQ (.k (.fn zb4 [] [])) [.t 20,.t 24,.t 28]),
tq 30 (.mkList 1 2 [.t 19,.t 29]),
tq 31 (cl za0 [.t 30]),
mq 4 31] [0,3,5,14,15,16,17,18,19,20,21,22,23,24,25,26,27,28,29,30,31])
.ret))))⟩
def zul:CF:=⟨[],
  (sr [
tq 3 (.box zae (.t 1))] [1]
(.reg true [
mq 4 0,
fa 5 2 3,
ld 6 5,
tq 7 (.idxAddr 1 (.t 6) (kq 0)),
ld 8 7,
fa 9 3 3,
ld 10 9,
tq 11 (.idxAddr 1 (.t 10) (kq 0)),
ld 12 11,
tq 13 (.call true true (.k (.fn zbr [] [])) [.t 4,.t 8,.t 12])] [0,3,4,5,6,7,8,9,10,11,12,13]))⟩
def zlo:CF:=⟨[],
  (rg [
mq 6 0,
mq 7 0,
tq 8 (.nilCheck (.t 7)),
fa 9 2 8,
ld 10 9,
mq 11 1,
mq 12 2,
tq 13 (.build [.z (.str []),.z (.int .i64 0)] [(0,1,.t 11),(1,1,.t 12)]),
tq 14 (.mkList 2 1 [.t 13]),
tq 15 (.append ⟨false,zaj,2,24⟩ (.t 10) (.t 14)),
tq 16 (.nilCheck (.t 6)),
fa 17 2 16,
⟨none,none,.store 1 (.t 17) (.t 15)⟩] [0,1,2,6,7,8,9,10,11,12,13,14,15,16,17])⟩
def zh0:CF:=⟨[.tmp 4],
  (sr [
tq 3 (.box zae (.t 1)),
tq 4 (.mv (kq 0))] [1,4]
(.seq (.reg true [
mq 5 0,
fa 6 2 3,
ld 7 6,
tq 8 (.idxAddr 1 (.t 7) (kq 0)),
ld 9 8,
tq 10 (.callQ (.k (.fn zbj [] [])) [.t 5,.t 9]),
tq 11 (.nilEq 0 true (.t 10)),
tq 12 (cl zak [.t 11,kq 9]),
mq 13 0,
tq 14 (.nilCheck (.t 13)),
fa 15 3 14,
ld 16 15,
tq 17 (.len .slc (.t 16)),
tq 18 (.bin .geq (.t 17) (kq 64)),
tq 19 (cl zak [.t 18,kq 5]),
mq 20 0,
fa 21 2 3,
ld 22 21,
tq 23 (.idxAddr 1 (.t 22) (kq 1)),
ld 24 23,
fa 25 3 3,
ld 26 25,
tq 27 (.idxAddr 1 (.t 26) (kq 0)),
ld 28 27,
tq 29 (.callQ (.k (.fn zb4 [] [])) [.t 20,.t 24,.t 28]),
tq 30 (.mkList 1 3 [.t 12,.t 19,.t 29]),
tq 31 (cl za0 [.t 30]),
mq 4 31] [0,3,5,6,7,8,9,10,11,12,13,14,15,16,17,18,19,20,21,22,23,24,25,26,27,28,29,30,31])
.ret))⟩
def zh1:CF:=⟨[],
  (sr [
tq 3 (.box zae (.t 1))] [1]
(.reg true [
mq 4 0,
mq 5 0,
tq 6 (.nilCheck (.t 5)),
fa 7 3 6,
ld 8 7,
fa 9 2 3,
ld 10 9,
tq 11 (.idxAddr 1 (.t 10) (kq 0)),
ld 12 11,
fa 13 2 3,
ld 14 13,
tq 15 (.idxAddr 1 (.t 14) (kq 1)),
ld 16 15,
fa 17 3 3,
ld 18 17,
tq 19 (.idxAddr 1 (.t 18) (kq 0)),
ld 20 19,
tq 21 (.build [.z (.str []),.z (.str []),.z (.int .i64 0),.z (.bool false),.z (.bool false)] [(0,1,.t 12),(1,1,.t 16),(2,1,.t 20)]),
tq 22 (.mkList 5 1 [.t 21]),
tq 23 (.append ⟨false,zad,5,48⟩ (.t 8) (.t 22)),
tq 24 (.nilCheck (.t 4)),
fa 25 3 24,
⟨none,none,.store 1 (.t 25) (.t 23)⟩] [0,3,4,5,6,7,8,9,10,11,12,13,14,15,16,17,18,19,20,21,22,23,24,25]))⟩
def zig:CF:=⟨[.tmp 4],
  (sr [
tq 3 (.box zae (.t 1)),
tq 4 (.mv (kq 0))] [1,4]
(sr [
mq 6 0,
fa 7 2 3,
ld 8 7,
tq 9 (.idxAddr 1 (.t 8) (kq 0)),
ld 10 9,
tq 11 (.callQ (.k (.fn zbj [] [])) [.t 6,.t 10]),
mq 5 11] [0,6,7,8,9,10,11]
(.seq (sr [
mq 12 5,
tq 13 (.nilEq 0 false (.t 12))] [12]
(.cond (.t 13) (sr [
tq 4 (.mv (kq 10))] []
.ret)
 .skip))
(.seq (.reg true [
mq 14 5,
tq 15 (.nilCheck (.t 14)),
fa 16 3 15,
ld 17 16,
tq 18 (cl zak [.t 17,kq 20]),
fa 19 3 3,
ld 20 19,
tq 21 (.idxAddr 1 (.t 20) (kq 1)),
ld 22 21,
tq 23 (.bin .gtr (.t 22) (kq 1)),
tq 24 (cl zak [.t 23,kq 3]),
tq 25 (.mkList 1 2 [.t 18,.t 24]),
tq 26 (cl za0 [.t 25]),
mq 4 26] [3,5,14,15,16,17,18,19,20,21,22,23,24,25,26])
.ret))))⟩
def zih:CF:=⟨[],
  (sr [
tq 3 (.box zae (.t 1))] [1]
(sr [
mq 5 0,
fa 6 2 3,
ld 7 6,
tq 8 (.idxAddr 1 (.t 7) (kq 0)),
ld 9 8,
tq 10 (.callQ (.k (.fn zbj [] [])) [.t 5,.t 9]),
mq 4 10] [5,6,7,8,9,10]
(sr [
mq 11 4,
mq 12 4,
fa 13 3 3,
ld 14 13,
tq 15 (.idxAddr 1 (.t 14) (kq 1)),
ld 16 15,
tq 17 (.bin .eql (.t 16) (kq 1)),
tq 18 (.nilCheck (.t 11)),
fa 19 3 18,
⟨none,none,.store 1 (.t 19) (.k (.d (.bool true)))⟩,
tq 20 (.nilCheck (.t 12)),
fa 21 4 20,
⟨none,none,.store 1 (.t 21) (.t 17)⟩] [11,12,13,14,15,16,17,18,19,20,21]
(sr [
mq 22 4,
tq 23 (.nilCheck (.t 22)),
fa 24 4 23,
ld 25 24] [22,23,24]
(.cond (.t 25) (.reg true [
mq 26 0,
mq 27 4,
tq 28 (.nilCheck (.t 27)),
fa 29 1 28,
ld 30 29,
fa 31 3 3,
ld 32 31,
tq 33 (.idxAddr 1 (.t 32) (kq 0)),
ld 34 33,
tq 35 (.call true true (.k (.fn zbr [] [])) [.t 26,.t 30,.t 34])] [0,3,4,26,27,28,29,30,31,32,33,34,35])
 .skip)))))⟩
def zpe:CF:=⟨[.tmp 2],
  (sr [
tq 2 (.mv (.k (.d (.str []))))] [2]
(.seq (sr [
mq 4 0,
tq 5 (.nilCheck (.t 4)),
fa 6 0 5,
ld 7 6,
tq 8 (.len .slc (.t 7)),
tq 9 (.bin .eql (.t 8) (kq 0))] [4,5,6,7,8]
(.cond (.t 9) (sr [
tq 2 (.mv (.k (.d (.str []))))] []
.ret)
 .skip))
(sr [
mq 10 0,
tq 11 (.nilCheck (.t 10)),
fa 12 0 11,
ld 13 12,
tq 14 (.idxAddr 1 (.t 13) (kq 0)),
ld 15 14,
mq 3 15] [10,11,12,13,14,15]
(sr [
mq 16 0,
mq 17 0,
tq 18 (.nilCheck (.t 17)),
fa 19 0 18,
ld 20 19,
tq 21 (.slice 1 (.t 20) (some (kq 1)) none none),
tq 22 (.nilCheck (.t 16)),
fa 23 0 22,
⟨none,none,.store 1 (.t 23) (.t 21)⟩] [0,16,17,18,19,20,21,22,23]
(sr [
mq 24 3,
mq 2 24] [3,24]
.ret)))))⟩
def zga:CF:=⟨[.tmp 4],
  (sr [
tq 4 (.mv (.k (.d (.bool false))))] [4]
(sr [
mq 5 0,
mq 6 1,
tq 7 (cl zcp [.t 5,.t 6]),
tq 8 (.bin .geq (.t 7) (kq 0)),
mq 4 8] [0,1,5,6,7,8]
.ret))⟩
def zni:CF:=⟨[.tmp 2],
  (sr [
tq 2 (.mv (.k (.d (.bool false))))] [2]
(sr [
mq 3 0,
tq 4 (cl zcj [.t 3]),
tq 5 (.bin .neq (.t 4) (kq 0)),
mq 2 5] [0,3,4,5]
.ret))⟩
def zik:CF:=⟨[.tmp 4],
  (sr [
tq 4 (.mv (.k (.d (.bool false))))] [4]
(sr [
mq 5 0,
mq 6 1,
tq 7 (cl zdn [.t 5,.t 6]),
tq 8 (.bin .geq (.t 7) (kq 0)),
mq 4 8] [0,1,5,6,7,8]
.ret))⟩
def znj:CF:=⟨[.tmp 2],
  (sr [
tq 2 (.mv (.k (.d (.bool false))))] [2]
(sr [
mq 3 0,
tq 4 (cl zeh [.t 3,kq 0,kq 999999999]),
tq 5 (.bin .neq (.t 4) (kq 0)),
mq 2 5] [0,3,4,5]
.ret))⟩
def ziv:CF:=⟨[.tmp 2],
  (sr [
tq 2 (.ownNil ⟨false,zac,1,16⟩)] [2]
(.seq (sr [
mq 3 0,
tq 4 (.nilEq 2 false (.t 3))] [3]
(.cond (.t 4) (sr [
tq 2 (.ownNil ⟨false,zac,1,16⟩)] []
.ret)
 .skip))
(sr [
tq 5 (.mkRow ⟨false,zac,1,16⟩ 0 []),
mq 6 0,
tq 7 (.append ⟨false,zac,1,16⟩ (.t 5) (.t 6)),
mq 2 7] [0,5,6,7]
.ret)))⟩
def zmd:CF:=⟨[.tmp 2],
  (sr [
tq 2 (.ownNil ⟨false,zbv,1,8⟩)] [2]
(.seq (sr [
mq 3 0,
tq 4 (.nilEq 2 false (.t 3))] [3]
(.cond (.t 4) (sr [
tq 2 (.ownNil ⟨false,zbv,1,8⟩)] []
.ret)
 .skip))
(sr [
tq 5 (.mkRow ⟨false,zbv,1,8⟩ 0 []),
mq 6 0,
tq 7 (.append ⟨false,zbv,1,8⟩ (.t 5) (.t 6)),
mq 2 7] [0,5,6,7]
.ret)))⟩
def z0z:CF:=⟨[.tmp 2],
  (sr [
tq 1 (.box zae (.t 0)),
tq 2 (.mv (.k (.d (.str []))))] [0,2]
(.seq (.reg true [
fa 3 1 1,
ld 4 3,
tq 5 (.mkList 1 1 [.t 4]),
fa 6 2 1,
ld 7 6,
fa 8 3 1,
ld 9 8,
tq 10 (cl zf0 [.t 9,.k (.fn n_strconv_Itoa [] [])]),
tq 11 (.mkList 1 3 [.t 5,.t 7,.t 10]),
tq 12 (cl zen [.t 11]),
tq 13 (cl n_strings_Join [.t 12,.k (.d (.str [32]))]),
mq 2 13] [1,3,4,5,6,7,8,9,10,11,12,13])
.ret))⟩
def zya:C:=
  (sr [
tq 9 (.bin .lss (.t 8) (.t 7))] []
(.seq (.cond (.t 9) .skip
 (.exit 0))
(.seq (.block 1 (sr [
mq 10 8,
mq 4 10] [10]
(rg [
mq 11 3,
tq 12 (.bin .mul (kq 281) (.t 11)),
mq 13 0,
mq 14 4,
tq 15 (.idxS (.t 13) (.t 14)),
tq 16 (.conv .i64 (.t 15)),
tq 17 (.bin .add (.t 12) (.t 16)),
tq 18 (.bin .rem (.t 17) (kq 9999943)),
mq 3 18] [4,11,12,13,14,15,16,17,18])))
(rg [
tq 19 (.bin .add (.t 8) (kq 1)),
mq 8 19] [19]))))
def z26:CF:=⟨[.tmp 2],
  (sr [
tq 2 (.mv (.k (.d (.str []))))] [2]
(sr [
tq 3 (.mv (kq 1))] []
(.seq (sr [
mq 6 0,
tq 7 (.len .str (.t 6)),
tq 8 (.mv (kq 0))] [6]
(.block 0 (.loop [0,3,7,8] zya)))
(sr [
mq 20 3,
tq 21 (cl n_strconv_Itoa [.t 20]),
mq 5 21] [3,20,21]
(sr [
mq 22 5,
tq 23 (.len .str (.t 22)),
tq 24 (.bin .sub (kq 7) (.t 23)),
tq 25 (cl n_strings_Repeat [.k (.d (.str [48])),.t 24]),
mq 26 5,
tq 27 (.bin .add (.t 25) (.t 26)),
mq 2 27] [5,22,23,24,25,26,27]
.ret)))))⟩
def zpz:C:=
  (.seq (sr [
ld 5 1,
tq 6 (.len .str (.t 5)),
tq 7 (.bin .gtr (.t 6) (kq 0))] [5,6]
(.cond (.t 7) .skip
 (.exit 0)))
(.block 1 (sr [
tq 3 (.mv (.k (.d (.str []))))] [3]
(.seq (sr [
ld 8 1,
tq 9 (cl zkb [.t 8,.k (.d (.int .u8 10))]),
mq 4 9] [8,9]
(sr [
mq 10 4,
tq 11 (.bin .geq (.t 10) (kq 0))] [10]
(.cond (.t 11) (.reg true [
ld 12 1,
mq 13 4,
tq 14 (.bin .add (.t 13) (kq 1)),
tq 15 (.sliceS (.t 12) none (some (.t 14))),
ld 16 1,
mq 17 4,
tq 18 (.bin .add (.t 17) (kq 1)),
tq 19 (.sliceS (.t 16) (some (.t 18)) none),
mq 3 15,
⟨none,none,.store 1 (.t 1) (.t 19)⟩] [4,12,13,14,15,16,17,18,19])
 (rg [
ld 20 1,
mq 3 20,
⟨none,none,.store 1 (.t 1) (.k (.d (.str [])))⟩] [20]))))
(sr [
mq 21 0,
mq 22 3,
tq 23 (.call true true (.t 21) [.t 22]),
tq 24 (.un .not (.t 23))] [3,21,22,23]
(.cond (.t 24) .ret
 .skip))))))
def ztb:CF:=⟨[],
  (.block 0 (.loop [0,1] zpz))⟩
def zqb:CF:=⟨[.tmp 4],
  (sr [
tq 4 (.mv (kq 0))] [4]
(sr [
mq 5 0,
mq 6 1,
tq 7 (cl n_internal_stringslite_IndexByte [.t 5,.t 6]),
mq 4 7] [0,1,5,6,7]
.ret))⟩
def zhn:CF:=⟨[.tmp 4,.tmp 5],
  (sr [
tq 4 (.mv (.k (.d (.str [])))),
tq 5 (.mv (.k (.d (.bool false))))] [4,5]
(.seq (sr [
mq 6 0,
mq 7 1,
tq 8 (cl n_internal_stringslite_HasSuffix [.t 6,.t 7]),
tq 9 (.un .not (.t 8))] [6,7,8]
(.cond (.t 9) (sr [
mq 10 0,
mq 4 10,
tq 5 (.mv (.k (.d (.bool false))))] [0,10]
.ret)
 .skip))
(sr [
mq 11 0,
mq 12 0,
tq 13 (.len .str (.t 12)),
mq 14 1,
tq 15 (.len .str (.t 14)),
tq 16 (.bin .sub (.t 13) (.t 15)),
tq 17 (.sliceS (.t 11) none (some (.t 16))),
mq 4 17,
tq 5 (.mv (.k (.d (.bool true))))] [0,1,11,12,13,14,15,16,17]
.ret)))⟩
def zv8:CF:=⟨[.tmp 2],
  (sr [
tq 2 (.mv (.k (.d (.bool false))))] [2]
(sr [
mq 3 0,
tq 4 (.len .str (.t 3)),
tq 5 (.bin .eql (.t 4) (kq 7)),
mq 6 5,
gq 7 6 true (.mv (.t 0)),
gq 8 6 true (cl zcw [.t 7,.k (.fn zly [] [])]),
gq 9 6 true (.un .not (.t 8)),
tq 10 (.pick (.t 6) (.t 9) (.k (.d (.bool false)))),
mq 2 10] [0,3,4,5,6,7,8,9,10]
.ret))⟩
def z27:CF:=⟨[.tmp 2],
  (sr [
tq 2 (.mv (.k (.d (.str []))))] [2]
(.seq (sr [
mq 3 0,
tq 4 (.bin .lss (.t 3) (kq 10))] [3]
(.cond (.t 4) (sr [
mq 5 0,
tq 6 (cl zmn [.t 5]),
mq 2 6] [0,5,6]
.ret)
 .skip))
(sr [
mq 7 0,
tq 8 (.bin .quo (.t 7) (kq 10)),
tq 9 (cl zn3 [.t 8]),
mq 10 0,
tq 11 (.bin .rem (.t 10) (kq 10)),
tq 12 (cl zmn [.t 11]),
tq 13 (.bin .add (.t 9) (.t 12)),
mq 2 13] [0,7,8,9,10,11,12,13]
.ret)))⟩
def zm8:CF:=⟨[.tmp 4],
  (sr [
tq 4 (.mv (.k (.d (.bool false))))] [4]
(sr [
mq 5 0,
mq 6 1,
tq 7 (cl zgp [.t 5,.t 6]),
tq 8 (.bin .geq (.t 7) (kq 0)),
mq 4 8] [0,1,5,6,7,8]
.ret))⟩
def znk:CF:=⟨[.tmp 2],
  (sr [
tq 2 (.mv (.k (.d (.bool false))))] [2]
(sr [
mq 3 0,
tq 4 (.bin .lss (.t 3) (.k (.d (.int .i32 32)))),
mq 5 4,
gq 6 5 false (.mv (.t 0)),
gq 7 5 false (.bin .gtr (.t 6) (.k (.d (.int .i32 126)))),
tq 8 (.pick (.t 5) (.k (.d (.bool true))) (.t 7)),
mq 2 8] [0,3,4,5,6,7,8]
.ret))⟩
def zcc:C:=
  (rg [
tq 5 (.alloc zah [.z (.str []),.z (.int .i64 0),.z (.int .i64 0),.z (.str [])]),
⟨none,none,.store 4 (.t 5) (.t 7)⟩] [7])
def zcd:C:=
  (.block 1 (rg [
ld 8 2,
lq 9 4 5,
tq 10 (.mkList 4 1 [.t 9]),
tq 11 (.append ⟨true,zah,4,48⟩ (.t 8) (.t 10)),
⟨none,none,.store 1 (.t 2) (.t 11)⟩] [2,5,8,9,10,11]))
def zeq:CF:=⟨[.tmp 4],
  (sr [
tq 2 (.box zod (.t 0)),
tq 4 (.ownNil ⟨true,zah,4,48⟩)] [0]
(.seq (sr [
mq 6 1] [1]
(.block 0 (.rangeFn 14 (.t 6) [7] zcc zcd)))
(sr [
ld 12 2,
mq 4 12] [2,12]
.ret)))⟩
def zdj:C:=
  (rg [
mq 5 7] [7])
def zdk:C:=
  (.block 1 (rg [
ld 8 2,
mq 9 5,
tq 10 (.mkList 1 1 [.t 9]),
tq 11 (.append ⟨true,zac,1,16⟩ (.t 8) (.t 10)),
⟨none,none,.store 1 (.t 2) (.t 11)⟩] [2,5,8,9,10,11]))
def zg4:CF:=⟨[.tmp 4],
  (sr [
tq 2 (.box z0h (.t 0)),
tq 4 (.ownNil ⟨true,zac,1,16⟩)] [0]
(.seq (sr [
mq 6 1] [1]
(.block 0 (.rangeFn 14 (.t 6) [7] zdj zdk)))
(sr [
ld 12 2,
mq 4 12] [2,12]
.ret)))⟩
def zdx:C:=
  (.seq (sr [
mq 7 3,
tq 8 (.bin .geq (.t 7) (kq 0))] [7]
(.cond (.t 8) .skip
 (.exit 0)))
(.seq (.block 1 (sr [
mq 11 0,
mq 12 3,
ld 13 1,
mq 14 3,
tq 15 (.idxAddr 8 (.t 13) (.t 14)),
lq 16 8 15,
tq 17 (.call true true (.t 11) [.t 12,.t 16]),
tq 18 (.un .not (.t 17))] [11,12,13,14,15,16,17]
(.cond (.t 18) .ret
 .skip)))
(rg [
mq 9 3,
tq 10 (.bin .sub (.t 9) (kq 1)),
mq 3 10] [9,10])))
def zec:CF:=⟨[],
  (sr [
ld 4 1,
tq 5 (.len .slc (.t 4)),
tq 6 (.bin .sub (.t 5) (kq 1)),
mq 3 6] [4,5,6]
(.block 0 (.loop [0,1,3] zdx)))⟩
def zkk:CF:=⟨[.tmp 4],
  (sr [
tq 3 (.box zab (.t 0)),
tq 4 (.mv (.k (.d (.bool false))))] [0,4]
(sr [
ld 5 1,
tq 6 (.nilCheck (.t 5)),
fa 7 2 6,
ld 8 7,
tq 9 (.mkFunc zbi [] [.t 3,.t 2]),
tq 10 (.call true true (.k (.fn zbc [] [])) [.t 8,.t 9]),
mq 4 10] [1,2,3,5,6,7,8,9,10]
.ret))⟩
def zdh:CF:=⟨[.tmp 4],
  (sr [
tq 4 (.mv (.k (.d (.bool false))))] [4]
(sr [
mq 5 0,
mq 6 1,
tq 7 (.call true true (.k (.fn zbe [] [])) [.t 5,.t 6]),
tq 8 (.bin .geq (.t 7) (kq 0)),
mq 4 8] [0,1,5,6,7,8]
.ret))⟩
def zjg:CF:=⟨[.tmp 4],
  (sr [
tq 3 (.box zaj (.t 0)),
tq 4 (.mv (.k (.d (.bool false))))] [0,4]
(sr [
fa 5 0 3,
ld 6 5,
fa 7 0 1,
ld 8 7,
tq 9 (.bin .eql (.t 6) (.t 8)),
mq 10 9,
gq 11 10 true (.fieldAddr 1 (.t 3)),
gq 12 10 true (.load none (.t 11)),
gq 13 10 true (.load none (.t 2)),
gq 14 10 true (.bin .leq (.t 12) (.t 13)),
tq 15 (.pick (.t 10) (.t 14) (.k (.d (.bool false)))),
mq 4 15] [1,2,3,5,6,7,8,9,10,11,12,13,14,15]
.ret))⟩
def zd6:C:=
  (sr [
tq 9 (.bin .lss (.t 8) (.t 7))] []
(.seq (.cond (.t 9) .skip
 (.exit 0))
(.seq (.block 1 (sr [
mq 10 8,
mq 5 10] [10]
(sr [
mq 11 1,
mq 12 0,
mq 13 5,
tq 14 (.idxAddr 8 (.t 12) (.t 13)),
lq 15 8 14,
tq 16 (.call true true (.t 11) [.t 15])] [11,12,13,14,15]
(.cond (.t 16) (sr [
mq 17 5,
mq 4 17] [5,17]
.ret)
 .skip))))
(rg [
tq 18 (.bin .add (.t 8) (kq 1)),
mq 8 18] [18]))))
def zee:CF:=⟨[.tmp 4],
  (sr [
tq 4 (.mv (kq 0))] [4]
(.seq (sr [
mq 6 0,
tq 7 (.len .slc (.t 6)),
tq 8 (.mv (kq 0))] [6]
(.block 0 (.loop [0,1,7,8] zd6)))
(sr [
tq 4 (.mv (kq (-1)))] []
.ret)))⟩
def zk6:CF:=⟨[.tmp 3],
  (sr [
tq 2 (.box zab (.t 0)),
tq 3 (.mv (.k (.d (.bool false))))] [0,3]
(sr [
fa 4 0 2,
ld 5 4,
ld 6 1,
tq 7 (.bin .eql (.t 5) (.t 6)),
mq 3 7] [1,2,4,5,6,7]
.ret))⟩
def zne:C:=
  (.seq (sr [
mq 6 3,
fa 7 1 1,
ld 8 7,
tq 9 (.bin .leq (.t 6) (.t 8))] [6,7,8]
(.cond (.t 9) .skip
 (.exit 0)))
(.seq (.block 1 (.seq (.reg true [
fa 12 2 1,
ld 13 12,
mq 14 3,
tq 15 (cl zkw [.t 14]),
tq 16 (cl zlx [.t 13,.t 15]),
mq 17 16,
gq 18 17 true (.mv (.t 0)),
gq 19 17 true (.mv (.t 3)),
gq 20 17 true (.call true true (.t 18) [.t 19]),
gq 21 17 true (.un .not (.t 20)),
tq 22 (.pick (.t 17) (.t 21) (.k (.d (.bool false))))] [12,13,14,15,16,17,18,19,20,21])
(.cond (.t 22) .ret
 .skip)))
(rg [
mq 10 3,
tq 11 (.bin .add (.t 10) (kq 1)),
mq 3 11] [10,11])))
def zp3:CF:=⟨[],
  (sr [
fa 4 0 1,
ld 5 4,
mq 3 5] [4,5]
(.block 0 (.loop [0,1,3] zne)))⟩
def zsx:CF:=⟨[.tmp 4],
  (sr [
tq 4 (.mv (.k (.d (.bool false))))] [4]
(sr [
mq 5 0,
mq 6 1,
tq 7 (.bin .shr (.t 5) (.t 6)),
tq 8 (.bin .and (.t 7) (kq 1)),
tq 9 (.bin .eql (.t 8) (kq 1)),
mq 4 9] [0,1,5,6,7,8,9]
.ret))⟩
def zq6:CF:=⟨[.tmp 2],
  (sr [
tq 2 (.mv (kq 0))] [2]
(sr [
mq 3 0,
tq 4 (.bin .add (.t 3) (kq 5)),
tq 5 (.bin .rem (.t 4) (kq 7)),
mq 2 5] [0,3,4,5]
.ret))⟩
def zep:C:=
  (sr [
mq 10 0,
mq 11 3,
tq 12 (.call true true (.t 10) [.t 11]),
tq 13 (.un .not (.t 12))] [3,10,11,12]
(.cond (.t 13) .ret
 .skip))
def ze2:CF:=⟨[],
  (.rangeM [ld 4 1] 5 (.t 4) 0 1 8 [0,5] [xq 9 8 0,
mq 3 9] [8,9] zep)⟩
def zif:C:=
  (.seq (sr [
mq 57 8,
mq 58 9,
tq 59 (.bin .lss (.t 57) (.t 58))] [57,58]
(.cond (.t 59) .skip
 (.exit 1)))
(.block 2 (.seq (sr [
mq 60 0,
mq 61 8,
tq 62 (.idxS (.t 60) (.t 61)),
mq 63 6,
tq 64 (.bin .neq (.t 62) (.t 63))] [60,61,62,63]
(.cond (.t 64) (sr [
mq 65 0,
mq 66 8,
tq 67 (.bin .add (.t 66) (kq 1)),
mq 68 9,
tq 69 (.sliceS (.t 65) (some (.t 67)) (some (.t 68))),
mq 70 6,
tq 71 (cl n_internal_stringslite_IndexByte [.t 69,.t 70]),
mq 11 71] [65,66,67,68,69,70,71]
(.seq (sr [
mq 72 11,
tq 73 (.bin .lss (.t 72) (kq 0))] [72]
(.cond (.t 73) (sr [
tq 4 (.mv (kq (-1)))] []
.ret)
 .skip))
(rg [
mq 74 8,
mq 75 11,
tq 76 (.bin .add (.t 75) (kq 1)),
tq 77 (.bin .add (.t 74) (.t 76)),
mq 8 77] [11,74,75,76,77])))
 .skip))
(.seq (sr [
mq 78 0,
mq 79 8,
tq 80 (.bin .add (.t 79) (kq 1)),
tq 81 (.idxS (.t 78) (.t 80)),
mq 82 7,
tq 83 (.bin .eql (.t 81) (.t 82)),
mq 84 83,
gq 85 84 true (.mv (.t 0)),
gq 86 84 true (.mv (.t 8)),
gq 87 84 true (.mv (.t 8)),
gq 88 84 true (.mv (.t 5)),
gq 89 84 true (.bin .add (.t 87) (.t 88)),
gq 90 84 true (.sliceS (.t 85) (some (.t 86)) (some (.t 89))),
gq 91 84 true (.mv (.t 1)),
gq 92 84 true (.bin .eql (.t 90) (.t 91)),
tq 93 (.pick (.t 84) (.t 92) (.k (.d (.bool false))))] [78,79,80,81,82,83,84,85,86,87,88,89,90,91,92]
(.cond (.t 93) (sr [
mq 94 8,
mq 4 94] [8,94]
.ret)
 .skip))
(sr [
mq 95 8,
tq 96 (.bin .add (.t 95) (kq 1)),
mq 8 96] [95,96]
(sr [
mq 97 10,
tq 98 (.bin .add (.t 97) (kq 1)),
mq 10 98] [97,98]
(sr [
mq 99 5,
tq 100 (.bad),
tq 101 (.bin .leq (.t 99) (.t 100)),
mq 102 101,
gq 103 102 true (.mv (.t 10)),
gq 104 102 true (.mv (.t 8)),
gq 105 102 true (cl zkn [.t 104]),
gq 106 102 true (.bin .gtr (.t 103) (.t 105)),
tq 107 (.pick (.t 102) (.t 106) (.k (.d (.bool false))))] [99,100,101,102,103,104,105,106]
(.cond (.t 107) (sr [
mq 108 0,
mq 109 8,
tq 110 (.sliceS (.t 108) (some (.t 109)) none),
mq 111 1,
tq 112 (cl zel [.t 110,.t 111]),
mq 12 112] [0,1,108,109,110,111,112]
(.seq (sr [
mq 113 12,
tq 114 (.bin .geq (.t 113) (kq 0))] [113]
(.cond (.t 114) (sr [
mq 115 12,
mq 116 8,
tq 117 (.bin .add (.t 115) (.t 116)),
mq 4 117] [8,12,115,116,117]
.ret)
 .skip))
(sr [
tq 4 (.mv (kq (-1)))] []
.ret)))
 (sr [
mq 118 5,
tq 119 (.bad),
tq 120 (.bin .gtr (.t 118) (.t 119)),
mq 121 120,
gq 122 121 true (.mv (.t 10)),
gq 123 121 true (.mv (.t 8)),
gq 124 121 true (.bin .shr (.t 123) (.k (.d (.int .u64 4)))),
gq 125 121 true (.bin .add (kq 4) (.t 124)),
gq 126 121 true (.bin .geq (.t 122) (.t 125)),
tq 127 (.pick (.t 121) (.t 126) (.k (.d (.bool false)))),
mq 128 127,
gq 129 128 true (.mv (.t 8)),
gq 130 128 true (.mv (.t 9)),
gq 131 128 true (.bin .lss (.t 129) (.t 130)),
tq 132 (.pick (.t 128) (.t 131) (.k (.d (.bool false))))] [118,119,120,121,122,123,124,125,126,127,128,129,130,131]
(.cond (.t 132) (sr [
mq 133 0,
mq 134 8,
tq 135 (.sliceS (.t 133) (some (.t 134)) none),
mq 136 1,
tq 137 (cl zff [.t 135,.t 136]),
mq 13 137] [0,1,133,134,135,136,137]
(.seq (sr [
mq 138 13,
tq 139 (.bin .lss (.t 138) (kq 0))] [138]
(.cond (.t 139) (sr [
tq 4 (.mv (kq (-1)))] []
.ret)
 .skip))
(sr [
mq 140 8,
mq 141 13,
tq 142 (.bin .add (.t 140) (.t 141)),
mq 4 142] [8,13,140,141,142]
.ret)))
 .skip))))))))))
def zje:CF:=⟨[.tmp 4],
  (sr [
tq 4 (.mv (kq 0))] [4]
(sr [
mq 14 1,
tq 15 (.len .str (.t 14)),
mq 5 15] [14,15]
(.seq (.block 0 (sr [
mq 17 5,
tq 18 (.bin .eql (.t 17) (kq 0)),
mq 19 18,
gq 20 19 false (.mv (.t 1)),
gq 21 19 false (.mv (.t 0)),
gq 22 19 false (.bin .eql (.t 20) (.t 21)),
tq 23 (.pick (.t 19) (.k (.d (.bool true))) (.t 22)),
mq 16 23] [17,18,19,20,21,22,23]
(.cond (.t 16) (sr [
tq 4 (.mv (kq 0))] []
.ret)
 (sr [
mq 25 5,
tq 26 (.bin .eql (.t 25) (kq 1)),
mq 24 26] [25,26]
(.cond (.t 24) (sr [
mq 27 0,
mq 28 1,
tq 29 (.idxS (.t 28) (kq 0)),
tq 30 (cl n_internal_stringslite_IndexByte [.t 27,.t 29]),
mq 4 30] [0,1,27,28,29,30]
.ret)
 (sr [
mq 32 5,
mq 33 0,
tq 34 (.len .str (.t 33)),
tq 35 (.bin .geq (.t 32) (.t 34)),
mq 31 35] [32,33,34,35]
(.cond (.t 31) (sr [
tq 4 (.mv (kq (-1)))] []
.ret)
 (sr [
mq 37 5,
tq 38 (.bad),
tq 39 (.bin .leq (.t 37) (.t 38)),
mq 40 39,
gq 41 40 true (.mv (.t 0)),
gq 42 40 true (.len .str (.t 41)),
gq 43 40 true (.bin .leq (.t 42) (kq 64)),
tq 44 (.pick (.t 40) (.t 43) (.k (.d (.bool false)))),
mq 36 44] [37,38,39,40,41,42,43,44]
(.cond (.t 36) (sr [
mq 45 0,
mq 46 1,
tq 47 (cl zel [.t 45,.t 46]),
mq 4 47] [0,1,45,46,47]
.ret)
 .skip)))))))))
(sr [
mq 48 1,
tq 49 (.idxS (.t 48) (kq 0)),
mq 6 49] [48,49]
(sr [
mq 50 1,
tq 51 (.idxS (.t 50) (kq 1)),
mq 7 51] [50,51]
(sr [
tq 8 (.mv (kq 0))] []
(sr [
mq 52 0,
tq 53 (.len .str (.t 52)),
mq 54 5,
tq 55 (.bin .sub (.t 53) (.t 54)),
tq 56 (.bin .add (.t 55) (kq 1)),
mq 9 56] [52,53,54,55,56]
(sr [
tq 10 (.mv (kq 0))] []
(.seq (.block 1 (.loop [0,1,5,6,7,8,9,10] zif))
(sr [
tq 4 (.mv (kq (-1)))] []
.ret))))))))))⟩
def zhz:C:=
  (sr [
tq 9 (.bin .lss (.t 8) (.t 7))] []
(.seq (.cond (.t 9) .skip
 (.exit 0))
(.seq (.block 1 (sr [
mq 10 8,
mq 5 10] [10]
(sr [
mq 11 1,
mq 12 0,
mq 13 5,
tq 14 (.idxAddr 1 (.t 12) (.t 13)),
ld 15 14,
tq 16 (.bin .eql (.t 11) (.t 15))] [11,12,13,14,15]
(.cond (.t 16) (sr [
mq 17 5,
mq 4 17] [5,17]
.ret)
 .skip))))
(rg [
tq 18 (.bin .add (.t 8) (kq 1)),
mq 8 18] [18]))))
def ziw:CF:=⟨[.tmp 4],
  (sr [
tq 4 (.mv (kq 0))] [4]
(.seq (sr [
mq 6 0,
tq 7 (.len .slc (.t 6)),
tq 8 (.mv (kq 0))] [6]
(.block 0 (.loop [0,1,7,8] zhz)))
(sr [
tq 4 (.mv (kq (-1)))] []
.ret)))⟩
def zm3:CF:=⟨[.tmp 6],
  (sr [
tq 6 (.mv (kq 0))] [6]
(sr [
mq 8 0,
mq 9 1,
tq 10 (.callQ (.k (.fn zbg [] [])) [.t 8,.t 9]),
mq 7 10] [1,8,9,10]
(.seq (sr [
mq 11 7,
tq 12 (.nilEq 0 false (.t 11))] [11]
(.cond (.t 12) (sr [
tq 6 (.mv (kq 10))] []
.ret)
 .skip))
(sr [
mq 13 0,
mq 14 7,
tq 15 (.nilCheck (.t 14)),
lq 16 8 15,
mq 17 2,
tq 18 (.callQ (.k (.fn zbk [] [])) [.t 13,.t 16,.t 17]),
tq 19 (.un .not (.t 18)),
tq 20 (cl zak [.t 19,kq 20]),
mq 6 20] [0,2,7,13,14,15,16,17,18,19,20]
.ret))))⟩
def zjy:CF:=⟨[.tmp 4],
  (sr [
tq 3 (.box zac (.t 1)),
tq 4 (.mv (.k (.d (.nilp))))] [1,4]
(.seq (sr [
mq 6 0,
tq 7 (.nilCheck (.t 6)),
fa 8 3 7,
ld 9 8,
tq 10 (.mkFunc zbn [] [.t 3]),
tq 11 (.call true true (.k (.fn zbb [] [])) [.t 9,.t 10]),
mq 5 11] [3,6,7,8,9,10,11]
(sr [
mq 12 5,
tq 13 (.bin .geq (.t 12) (kq 0))] [12]
(.cond (.t 13) (sr [
mq 14 0,
tq 15 (.nilCheck (.t 14)),
fa 16 3 15,
ld 17 16,
mq 18 5,
tq 19 (.idxAddr 5 (.t 17) (.t 18)),
mq 4 19] [0,5,14,15,16,17,18,19]
.ret)
 .skip)))
(sr [
tq 4 (.mv (.k (.d (.nilp))))] []
.ret)))⟩
def zgi:C:=
  (sr [
tq 9 (.bin .lss (.t 8) (.t 7))] []
(.seq (.cond (.t 9) .skip
 (.exit 0))
(.seq (.block 1 (sr [
mq 10 8,
mq 5 10] [10]
(sr [
mq 11 1,
mq 12 0,
mq 13 5,
tq 14 (.idxAddr 1 (.t 12) (.t 13)),
ld 15 14,
tq 16 (.call false true (.t 11) [.t 15])] [11,12,13,14,15]
(.cond (.t 16) (sr [
mq 17 5,
mq 4 17] [5,17]
.ret)
 .skip))))
(rg [
tq 18 (.bin .add (.t 8) (kq 1)),
mq 8 18] [18]))))
def zg5:CF:=⟨[.tmp 4],
  (sr [
tq 4 (.mv (kq 0))] [4]
(.seq (sr [
mq 6 0,
tq 7 (.len .slc (.t 6)),
tq 8 (.mv (kq 0))] [6]
(.block 0 (.loop [0,1,7,8] zgi)))
(sr [
tq 4 (.mv (kq (-1)))] []
.ret)))⟩
def zir:C:=
  (sr [
tq 9 (.bin .lss (.t 8) (.t 7))] []
(.seq (.cond (.t 9) .skip
 (.exit 0))
(.seq (.block 1 (sr [
mq 10 8,
mq 5 10] [10]
(sr [
mq 11 1,
mq 12 0,
mq 13 5,
tq 14 (.idxAddr 1 (.t 12) (.t 13)),
ld 15 14,
tq 16 (.call false true (.t 11) [.t 15])] [11,12,13,14,15]
(.cond (.t 16) (sr [
mq 17 5,
mq 4 17] [5,17]
.ret)
 .skip))))
(rg [
tq 18 (.bin .add (.t 8) (kq 1)),
mq 8 18] [18]))))
def zj1:CF:=⟨[.tmp 4],
  (sr [
tq 4 (.mv (kq 0))] [4]
(.seq (sr [
mq 6 0,
tq 7 (.len .slc (.t 6)),
tq 8 (.mv (kq 0))] [6]
(.block 0 (.loop [0,1,7,8] zir)))
(sr [
tq 4 (.mv (kq (-1)))] []
.ret)))⟩
def zhl:C:=
  (sr [
tq 12 (.bin .lss (.t 11) (.t 10))] []
(.seq (.cond (.t 12) .skip
 (.exit 0))
(.seq (.block 1 (sr [
tq 13 (.idxAddr 1 (.t 9) (.t 11)),
ld 14 13,
mq 5 14] [13,14]
(sr [
mq 15 3,
mq 16 5,
tq 17 (.len .slc (.t 16)),
tq 18 (.bin .add (.t 15) (.t 17)),
mq 3 18] [5,15,16,17,18]
(sr [
mq 19 3,
tq 20 (.bin .lss (.t 19) (kq 0))] [19]
(.cond (.t 20) (rg [
tq 21 (.bad),
⟨none,none,.bad⟩] [21])
 .skip)))))
(rg [
tq 22 (.bin .add (.t 11) (kq 1)),
mq 11 22] [22]))))
def zhm:C:=
  (sr [
tq 28 (.bin .lss (.t 27) (.t 26))] []
(.seq (.cond (.t 28) .skip
 (.exit 2))
(.seq (.block 3 (sr [
tq 29 (.idxAddr 1 (.t 25) (.t 27)),
ld 30 29,
mq 8 30] [29,30]
(rg [
mq 31 6,
mq 32 8,
tq 33 (.appendIn ⟨false,zac,1,16⟩ (.t 31) (.t 32)),
mq 6 33] [8,31,32,33])))
(rg [
tq 34 (.bin .add (.t 27) (kq 1)),
mq 27 34] [34]))))
def zij:CF:=⟨[.tmp 2],
  (sr [
tq 2 (.ownNil ⟨false,zac,1,16⟩)] [2]
(sr [
tq 3 (.mv (kq 0))] []
(.seq (sr [
mq 9 0,
tq 10 (.len .slc (.t 9)),
tq 11 (.mv (kq 0))] []
(.block 0 (.loop [0,3,9,10,11] zhl)))
(sr [
mq 23 3,
tq 24 (.call true false (.k (.fn zfb [] [])) [.k (.d .nil),.t 23]),
mq 6 24] [3,23,24]
(.seq (sr [
mq 25 0,
tq 26 (.len .slc (.t 25)),
tq 27 (.mv (kq 0))] [0]
(.block 2 (.loop [6,25,26,27] zhm)))
(sr [
mq 35 6,
mq 2 35] [6,35]
.ret))))))⟩
def zjd:C:=
  (sr [
tq 11 (.bin .lss (.t 10) (.t 9))] []
(.seq (.cond (.t 11) .skip
 (.exit 0))
(.seq (.block 1 (sr [
tq 12 (.idxAddr 1 (.t 8) (.t 10)),
ld 13 12,
mq 7 13] [12,13]
(rg [
mq 14 5,
mq 15 1,
mq 16 7,
tq 17 (.call false true (.t 15) [.t 16]),
tq 18 (.mkList 1 1 [.t 17]),
tq 19 (.append ⟨false,zac,1,16⟩ (.t 14) (.t 18)),
mq 5 19] [7,14,15,16,17,18,19])))
(rg [
tq 20 (.bin .add (.t 10) (kq 1)),
mq 10 20] [20]))))
def zkm:CF:=⟨[.tmp 4],
  (sr [
tq 4 (.ownNil ⟨false,zac,1,16⟩)] [4]
(sr [
tq 5 (.ownNil ⟨false,zac,1,16⟩)] []
(.seq (sr [
mq 8 0,
tq 9 (.len .slc (.t 8)),
tq 10 (.mv (kq 0))] [0]
(.block 0 (.loop [1,5,8,9,10] zjd)))
(sr [
mq 21 5,
mq 4 21] [5,21]
.ret))))⟩
def zs3:CF:=⟨[.tmp 2],
  (sr [
tq 2 (.mv (.k (.d (.bool false))))] [2]
(sr [
mq 3 0,
tq 4 (.bin .lss (.t 3) (.k (.d (.int .i32 48)))),
mq 5 4,
gq 6 5 false (.mv (.t 0)),
gq 7 5 false (.bin .gtr (.t 6) (.k (.d (.int .i32 57)))),
tq 8 (.pick (.t 5) (.k (.d (.bool true))) (.t 7)),
mq 2 8] [0,3,4,5,6,7,8]
.ret))⟩
def z02:CF:=⟨[.tmp 2],
  (sr [
tq 2 (.mv (.k (.d (.str []))))] [2]
(sr [
mq 3 0,
mq 4 0,
tq 5 (.bin .add (.t 4) (kq 1)),
tq 6 (.sliceS (.k (.d (.str [48,49,50,51,52,53,54,55,56,57]))) (some (.t 3)) (some (.t 5))),
mq 2 6] [0,3,4,5,6]
.ret))⟩
def zqc:CF:=⟨[.tmp 4],
  (sr [
tq 4 (.mv (kq 0))] [4]
(sr [
mq 5 0,
mq 6 1,
tq 7 (cl zgq [.t 5,.t 6,.k (.d (.bool true))]),
mq 4 7] [0,1,5,6,7]
.ret))⟩
def zdl:C:=
  (sr [
tq 9 (.bin .lss (.t 8) (.t 7))] []
(.seq (.cond (.t 9) .skip
 (.exit 0))
(.seq (.block 1 (sr [
mq 10 8,
mq 5 10] [10]
(sr [
mq 11 1,
mq 12 0,
mq 13 5,
tq 14 (.idxAddr 2 (.t 12) (.t 13)),
lq 15 2 14,
tq 16 (.call true true (.t 11) [.t 15])] [11,12,13,14,15]
(.cond (.t 16) (sr [
mq 17 5,
mq 4 17] [5,17]
.ret)
 .skip))))
(rg [
tq 18 (.bin .add (.t 8) (kq 1)),
mq 8 18] [18]))))
def zds:CF:=⟨[.tmp 4],
  (sr [
tq 4 (.mv (kq 0))] [4]
(.seq (sr [
mq 6 0,
tq 7 (.len .slc (.t 6)),
tq 8 (.mv (kq 0))] [6]
(.block 0 (.loop [0,1,7,8] zdl)))
(sr [
tq 4 (.mv (kq (-1)))] []
.ret)))⟩
def zc8:C:=
  (sr [
tq 9 (.bin .lss (.t 8) (.t 7))] []
(.seq (.cond (.t 9) .skip
 (.exit 0))
(.seq (.block 1 (sr [
mq 10 8,
mq 5 10] [10]
(sr [
mq 11 1,
mq 12 0,
mq 13 5,
tq 14 (.idxAddr 5 (.t 12) (.t 13)),
lq 15 5 14,
tq 16 (.call true true (.t 11) [.t 15])] [11,12,13,14,15]
(.cond (.t 16) (sr [
mq 17 5,
mq 4 17] [5,17]
.ret)
 .skip))))
(rg [
tq 18 (.bin .add (.t 8) (kq 1)),
mq 8 18] [18]))))
def zde:CF:=⟨[.tmp 4],
  (sr [
tq 4 (.mv (kq 0))] [4]
(.seq (sr [
mq 6 0,
tq 7 (.len .slc (.t 6)),
tq 8 (.mv (kq 0))] [6]
(.block 0 (.loop [0,1,7,8] zc8)))
(sr [
tq 4 (.mv (kq (-1)))] []
.ret)))⟩
def zit:CF:=⟨[.tmp 3],
  (sr [
tq 2 (.box zad (.t 0)),
tq 3 (.mv (.k (.d (.bool false))))] [0,3]
(sr [
fa 4 0 2,
ld 5 4,
ld 6 1,
tq 7 (.bin .eql (.t 5) (.t 6)),
mq 3 7] [1,2,4,5,6,7]
.ret))⟩
def zji:CF:=⟨[.tmp 4],
  (sr [
tq 4 (.ownNil ⟨true,zac,1,16⟩)] [4]
(.seq (sr [
mq 5 1,
tq 6 (.bin .lss (.t 5) (kq 0))] [5]
(.cond (.t 6) (rg [
tq 7 (.bad),
⟨none,none,.bad⟩] [7])
 .skip))
(.seq (sr [
mq 8 1,
mq 9 0,
tq 10 (.len .cap (.t 9)),
mq 11 0,
tq 12 (.len .slc (.t 11)),
tq 13 (.bin .sub (.t 10) (.t 12)),
tq 14 (.bin .sub (.t 8) (.t 13)),
mq 1 14] [8,9,10,11,12,13,14]
(sr [
mq 15 1,
tq 16 (.bin .gtr (.t 15) (kq 0))] [15]
(.cond (.t 16) (rg [
mq 17 0,
mq 18 0,
tq 19 (.len .cap (.t 18)),
tq 20 (.slice 1 (.t 17) none (some (.t 19)) none),
mq 21 1,
tq 22 (.appendZ ⟨true,zac,1,16⟩ [.str []] (.t 20) (.t 21)),
mq 23 0,
tq 24 (.len .slc (.t 23)),
tq 25 (.slice 1 (.t 22) none (some (.t 24)) none),
mq 0 25] [1,17,18,19,20,21,22,23,24,25])
 .skip)))
(sr [
mq 26 0,
mq 4 26] [0,26]
.ret))))⟩
def zng:C:=
  (sr [
tq 11 (.nextS (.t 10)),
xq 12 11 0] []
(.seq (.cond (.t 12) .skip
 (.exit 0))
(.block 1 (sr [
xq 13 11 1,
xq 14 11 2,
mq 7 13,
mq 8 14] [11,13,14]
(sr [
mq 15 1,
mq 16 8,
tq 17 (.call false true (.t 15) [.t 16]),
mq 18 2,
tq 19 (.eqv none false (.t 17) (.t 18))] [8,15,16,17,18]
(.cond (.t 19) (sr [
mq 20 7,
mq 6 20] [7,20]
.ret)
 .skip))))))
def zqd:CF:=⟨[.tmp 6],
  (sr [
tq 6 (.mv (kq 0))] [6]
(.seq (sr [
mq 9 0,
tq 10 (.rangeS (.t 9))] [0,9]
(.block 0 (.loop [1,2,10] zng)))
(sr [
tq 6 (.mv (kq (-1)))] []
.ret)))⟩
def codes:List (Nat×CF):=[
  (zgm,zp4),
  (zhd,z0v),
  (zhe,zra),
  (zfa,zq9),
  (zhc,z0t),
  (zc3,zv6),
  (zh8,zs7),
  (zbu,zug),
  (zld,zyi),
  (zfn,zwe),
  (zgn,zp6),
  (zgo,zp9),
  (zj8,zv5),
  (zib,zta),
  (zla,zyb),
  (zcn,zv7),
  (zef,zs0),
  (zi1,zui),
  (ziz,zuf),
  (zf5,zo5),
  (zml,z0y),
  (zcz,zs6),
  (zia,zs9),
  (zmk,z0x),
  (zc9,zum),
  (zh9,zs8),
  (zmj,z0w),
  (znz,z24),
  (za8,zp8),
  (zf6,zo6),
  (zi0,zuh),
  (zqj,z6i),
  (zb8,zuj),
  (zbx,zh2),
  (zan,zck),
  (n_office_Gather_1,zs1),
  (zny,z23),
  (zfw,zsz),
  (zf4,zo4),
  (zcv,zm7),
  (zb1,zf2),
  (zle,zyk),
  (zgh,zun),
  (zj9,zwc),
  (zmo,z04),
  (zlc,zyh),
  (zfo,zwf),
  (zrs,z0u),
  (zpl,zyj),
  (zci,zyc),
  (zcj,zyf),
  (za1,zs2),
  (zbl,zln),
  (zdu,zkj),
  (zd7,zk7),
  (ze4,zm1),
  (zlv,zsu),
  (zlz,zs4),
  (zhr,zm2),
  (zet,zmc),
  (za0,zyd),
  (zak,z01),
  (zmp,z05),
  (zkx,zq8),
  (zi5,zo7),
  (zd8,zye),
  (zlb,zyg),
  (zcy,zp5),
  (zap,zlp),
  (zaq,zo8),
  (zeb,zho),
  (zn1,zv9),
  (zn5,zwg),
  (zka,zqa),
  (zl0,zs5),
  (zt1,z29),
  (zes,zp7),
  (zce,zjh),
  (zaf,zcf),
  (zhb,zv4),
  (ze7,zq7),
  (zev,zme),
  (zaw,zfi),
  (zru,z03),
  (zt0,z28),
  (zn4,zwd),
  (zeg,zwa),
  (zh6,zsv),
  (zeh,zwb),
  (zch,zek),
  (zbk,zlm),
  (zcb,zgj),
  (zdv,zkl),
  (ze9,zjf),
  (zmm,z00),
  (zbg,zmb),
  (zfm,zj0),
  (za3,zdy),
  (zdg,zma),
  (zew,ziu),
  (ziy,zue),
  (zgl,zp2),
  (zha,zv3),
  (zh7,zsy),
  (zgv,zll),
  (zlw,zsw),
  (zj6,zp1),
  (zc2,zfh),
  (zfz,zki),
  (zi6,zo9),
  (zi7,zpa),
  (zdq,zgy),
  (zhs,zm4),
  (zi8,zpb),
  (zi9,zpc),
  (zja,zpd),
  (zem,zii),
  (zht,zm5),
  (zc4,zfj),
  (zhu,zm6),
  (zcr,zhp),
  (zgf,zuk),
  (zat,zjx),
  (zau,zjz),
  (za7,zis),
  (zgg,zul),
  (zbr,zlo),
  (za4,zh0),
  (zbw,zh1),
  (za5,zig),
  (zbm,zih),
  (zjb,zpe),
  (zb7,zga),
  (zd0,zni),
  (zc5,zik),
  (zd1,znj),
  (zda,ziv),
  (zeu,zmd),
  (zrt,z0z),
  (zn2,z26),
  (zl1,ztb),
  (zkb,zqb),
  (zea,zhn),
  (zn0,zv8),
  (zn3,z27),
  (zcw,zm8),
  (zd2,znk),
  (zba,zeq),
  (zco,zg4),
  (zb9,zec),
  (zby,zkk),
  (zbc,zdh),
  (zbi,zjg),
  (zax,zee),
  (zb6,zk6),
  (zj7,zp3),
  (zlx,zsx),
  (zkw,zq6),
  (zcu,ze2),
  (ze8,zje),
  (zex,ziw),
  (zb4,zm3),
  (zbj,zjy),
  (zcp,zg5),
  (zdn,zj1),
  (zen,zij),
  (zf0,zkm),
  (zly,zs3),
  (zmn,z02),
  (zgp,zqc),
  (zbe,zds),
  (zbb,zde),
  (zbn,zit),
  (zfb,zji),
  (zgq,zqd)]
def code (f:Nat):Option CF:=findC f codes
def globs:Globs:=[(1,[.int .u64 1,.int .u64 10,.int .u64 100,.int .u64 1000,.int .u64 10000,.int .u64 100000,.int .u64 1000000,.int .u64 10000000,.int .u64 100000000,.int .u64 1000000000,.int .u64 10000000000,.int .u64 100000000000,.int .u64 1000000000000,.int .u64 10000000000000,.int .u64 100000000000000,.int .u64 1000000000000000,.int .u64 10000000000000000,.int .u64 100000000000000000,.int .u64 1000000000000000000,.int .u64 10000000000000000000]),(2,[.ifc true]),(3,[.ifc true])]
end Go.Proofs.YtmbofbehkalgkaaGreatDoor.Co
