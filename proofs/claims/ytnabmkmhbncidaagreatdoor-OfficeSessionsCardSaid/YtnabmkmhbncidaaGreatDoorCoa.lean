/-
  The functions of the seat in the evaluator's syntax (printed by a program of mine; checked in a text that follows).
-/
import Derived.Test.YtnabmkmhbncidaaGreatDoorEvE
namespace Go.Proofs.YtnabmkmhbncidaaGreatDoor.Co
open Go.Evl
def zg9:Nat:=3
def zhy:Nat:=7
def zju:Nat:=8
def zdn:Nat:=9
def zcr:Nat:=10
def zts:Nat:=11
def zal:Nat:=12
def zjw:Nat:=13
def zcd:Nat:=14
def zbx:Nat:=15
def ztt:Nat:=16
def zc6:Nat:=19
def zfw:Nat:=21
def zm2:Nat:=24
def zlw:Nat:=25
def zoa:Nat:=33
def zdm:Nat:=34
def zgb:Nat:=35
def zlx:Nat:=36
def zlv:Nat:=37
def zic:Nat:=38
def zpp:Nat:=39
def zcv:Nat:=40
def zkt:Nat:=41
def zpo:Nat:=42
def zee:Nat:=43
def zks:Nat:=44
def zpn:Nat:=45
def zq4:Nat:=46
def zku:Nat:=47
def zoe:Nat:=48
def ze5:Nat:=49
def zeb:Nat:=50
def ze7:Nat:=51
def zfx:Nat:=52
def zob:Nat:=53
def zft:Nat:=55
def zf2:Nat:=56
def ze6:Nat:=57
def za2:Nat:=58
def zan:Nat:=59
def zh1:Nat:=60
def zjs:Nat:=61
def zbl:Nat:=62
def zf0:Nat:=63
def zf1:Nat:=64
def zc9:Nat:=65
def zas:Nat:=66
def zaj:Nat:=67
def zid:Nat:=69
def zdx:Nat:=71
def zjt:Nat:=72
def zlf:Nat:=73
def zhr:Nat:=74
def zi3:Nat:=75
def zkr:Nat:=76
def zle:Nat:=77
def zly:Nat:=78
def zge:Nat:=79
def zbs:Nat:=80
def zo0:Nat:=81
def zxl:Nat:=82
def zkq:Nat:=83
def zl2:Nat:=84
def zd0:Nat:=85
def zei:Nat:=86
def zm5:Nat:=90
def zu5:Nat:=92
def zdh:Nat:=93
def zdi:Nat:=94
def za1:Nat:=95
def zba:Nat:=96
def zcb:Nat:=97
def zci:Nat:=98
def zg8:Nat:=99
def zov:Nat:=100
def zo1:Nat:=101
def zkf:Nat:=102
def zcu:Nat:=103
def zod:Nat:=104
def zmg:Nat:=105
def zhq:Nat:=106
def zgd:Nat:=107
def zja:Nat:=108
def zio:Nat:=109
def zf5:Nat:=110
def zc3:Nat:=111
def zeu:Nat:=112
def zda:Nat:=113
def zjq:Nat:=115
def zlc:Nat:=116
def zdb:Nat:=117
def ziq:Nat:=118
def znu:Nat:=119
def zgt:Nat:=120
def ziw:Nat:=121
def zjv:Nat:=122
def zh0:Nat:=123
def zdy:Nat:=124
def zby:Nat:=125
def zbz:Nat:=126
def zde:Nat:=127
def zfc:Nat:=128
def zb0:Nat:=129
def zb1:Nat:=130
def zcj:Nat:=131
def zd7:Nat:=132
def zdz:Nat:=133
def zbu:Nat:=134
def zfd:Nat:=135
def zcn:Nat:=136
def zg0:Nat:=137
def zay:Nat:=138
def zap:Nat:=139
def zbc:Nat:=140
def zg1:Nat:=141
def zbb:Nat:=142
def za4:Nat:=143
def zb6:Nat:=144
def za6:Nat:=145
def za7:Nat:=146
def zds:Nat:=147
def zc4:Nat:=148
def zfu:Nat:=149
def zd9:Nat:=150
def zfv:Nat:=151
def zgc:Nat:=152
def zc7:Nat:=153
def zeq:Nat:=154
def zfb:Nat:=156
def zjr:Nat:=160
def znt:Nat:=161
def zd4:Nat:=162
def zi4:Nat:=163
def zdw:Nat:=164
def zm4:Nat:=165
def zme:Nat:=166
def zm3:Nat:=167
def zhb:Nat:=168
def zdt:Nat:=169
def zbn:Nat:=170
def zm1:Nat:=171
def zjp:Nat:=172
def zer:Nat:=173
def zd6:Nat:=175
def zko:Nat:=176
def za0:Nat:=177
def zb5:Nat:=178
def zaz:Nat:=179
def zcx:Nat:=180
def zcl:Nat:=181
def zgu:Nat:=182
def zbt:Nat:=183
def zcp:Nat:=184
def zaw:Nat:=185
def zdo:Nat:=186
def zcg:Nat:=187
def zlu:Nat:=188
def zi2:Nat:=189
def zjo:Nat:=190
def zkp:Nat:=191
def zi9:Nat:=192
def zow:Nat:=193
def zmz:Nat:=194
def zbr:Nat:=195
def zm6:Nat:=196
def zoc:Nat:=200
def zmf:Nat:=201
def zep:Nat:=202
def zef:Nat:=203
def zc1:Nat:=205
def zb4:Nat:=206
def zdq:Nat:=207
def ze8:Nat:=208
def zd8:Nat:=212
def zfo:Nat:=213
def zfe:Nat:=217
def zhz:Nat:=218
def zld:Nat:=219
def zdp:Nat:=220
def zce:Nat:=221
def zq3:Nat:=222
def zcm:Nat:=223
def zat:Nat:=225
def zcw:Nat:=226
def zbg:Nat:=227
def zbw:Nat:=228
def zau:Nat:=229
def zc2:Nat:=230
def zm0:Nat:=231
def zox:Nat:=232
def zns:Nat:=233
def zao:Nat:=234
def zbe:Nat:=243
def zcf:Nat:=244
def zes:Nat:=251
def zi5:Nat:=256
def zd2:Nat:=257
def zev:Nat:=258
def zd1:Nat:=259
def zea:Nat:=260
def zd5:Nat:=261
def zcz:Nat:=262
def zdu:Nat:=263
def zej:Nat:=264
def zoy:Nat:=265
def zoz:Nat:=266
def zbo:Nat:=276
def zi6:Nat:=291
def zc5:Nat:=292
def zbh:Nat:=295
def zdf:Nat:=296
def zch:Nat:=305
def z6e:Nat:=324
def n_strings_Split:Nat:=54
def n_strconv_Itoa:Nat:=68
def n_strings_Join:Nat:=70
def ydq:Nat:=114
def n_strings_Builder_String:Nat:=159
def n_slices_Sort_Lstring_string:Nat:=174
def n_strconv_Atoi:Nat:=204
def n_strings_Builder_copyCheck:Nat:=210
def n_strings_Repeat:Nat:=214
def n_internal_stringslite_IndexByte:Nat:=215
def n_internal_stringslite_HasSuffix:Nat:=216
def zgn:Nat:=238
def znj:Nat:=239
def zhd:Nat:=240
def zpq:Nat:=293
def zql:Nat:=294
def zbq:Nat:=3
def ty_uint8:Nat:=5
def zab:Nat:=9
def zo5:Nat:=22
def zh4:Nat:=24
def zlk:Nat:=27
def zxr:Nat:=28
def zaf:Nat:=35
def yo4:Nat:=50
def zac:Nat:=52
def z11:Nat:=60
def zcs:Nat:=80
def zey:Nat:=82
def zez:Nat:=83
def zml:Nat:=96
def zha:Nat:=105
def zbk:Nat:=111
def zad:Nat:=113
def zix:Nat:=121
def zgh:Nat:=127
def zaa:Nat:=129
def zj3:Nat:=146
def zit:Nat:=154
def zlz:Nat:=173
def zvn:Nat:=181
def zw8:Nat:=186
def za3:Nat:=197
def zis:Nat:=205
def zyj:Nat:=209
def zb7:Nat:=211
def zff:Nat:=217
def zbv:Nat:=221
def za8:Nat:=224
def zbf:Nat:=226
def zai:Nat:=240
def zl0:Nat:=247
def ty_strings_Builder:Nat:=256
def zae:Nat:=272
def zdr:Nat:=286
def zam:Nat:=293
def zvo:Nat:=368
def zoh:C:=
  (sr [
tq 71 (.bin .lss (.t 70) (.t 69))] []
(.seq (.cond (.t 71) .skip
 (.exit 0))
(.seq (.block 1 (sr [
tq 72 (.idxAddr 1 (.t 68) (.t 70)),
ld 73 72,
mq 11 73] [72,73]
(.seq (sr [
mq 74 11,
tq 75 (.len .str (.t 74)),
tq 76 (.bin .gtr (.t 75) (kq 300))] [74,75]
(.cond (.t 76) (sr [
tq 77 (cl zhy []),
mq 4 77] [77]
.ret)
 .skip))
(sr [
mq 79 5,
mq 80 11,
tq 81 (cl zts [.t 79,.t 80]),
mq 78 81,
xq 82 78 0,
xq 83 78 1,
xq 84 78 2,
mq 12 82,
mq 13 83,
mq 14 84] [5,78,79,80,81,82,83,84]
(.seq (sr [
mq 86 8,
mq 87 11,
tq 88 (.callU true (.k (.fn zal [] [])) [.t 86,.t 87]),
mq 85 88,
xq 89 85 0,
xq 90 85 1,
mq 15 89,
mq 16 90] [11,85,86,87,88,89,90]
(sr [
mq 91 16,
mq 92 13,
tq 93 (.bin .neq (.t 91) (.t 92)),
mq 94 93,
gq 95 94 false (.mv (.t 15)),
gq 96 94 false (.mv (.t 12)),
gq 97 94 false (.bin .neq (.t 95) (.t 96)),
tq 98 (.pick (.t 94) (.k (.d (.bool true))) (.t 97))] [12,13,15,16,91,92,93,94,95,96,97]
(.cond (.t 98) (sr [
tq 4 (.mv (.k (.d (.bool false))))] []
.ret)
 .skip)))
(rg [
mq 99 14,
mq 5 99] [14,99]))))))
(rg [
tq 100 (.bin .add (.t 70) (kq 1)),
mq 70 100] [100]))))
def zqb:CF:=⟨[.tmp 4],
  (sr [
tq 4 (.mv (.k (.d (.bool false))))] [4]
(.seq (sr [
mq 20 0,
tq 21 (.len .str (.t 20)),
tq 22 (.bin .gtr (.t 21) (kq 1500)),
mq 23 22,
gq 24 23 false (.mv (.t 1)),
gq 25 23 false (.len .slc (.t 24)),
gq 26 23 false (.bin .gtr (.t 25) (kq 8)),
tq 27 (.pick (.t 23) (.k (.d (.bool true))) (.t 26))] [20,21,22,23,24,25,26]
(.cond (.t 27) (sr [
tq 28 (cl zhy []),
mq 4 28] [28]
.ret)
 .skip))
(sr [
mq 30 0,
tq 31 (cl zju [.t 30]),
mq 29 31,
xq 32 29 0,
xq 33 29 1,
xq 34 29 2,
mq 5 32,
mq 6 33,
mq 7 34] [6,29,30,31,32,33,34]
(sr [
mq 36 0,
tq 37 (.call false false (.k (.fn zdn [] [])) [.t 36]),
mq 35 37,
xq 38 35 0,
xq 39 35 1,
mq 8 38,
mq 9 39] [0,35,36,37,38,39]
(.seq (sr [
mq 40 7,
tq 41 (.bin .eql (.t 40) (kq 28))] [40]
(.cond (.t 41) (rg [
tq 7 (.mv (kq 0))] [])
 .skip))
(.seq (sr [
mq 42 7,
tq 43 (.bin .eql (.t 42) (kq 0))] [42]
(.cond (.t 43) (rg [
mq 45 5,
tq 46 (cl zcr [.t 45]),
mq 44 46,
xq 47 44 0,
xq 48 44 1,
xq 49 44 2,
mq 7 49] [44,45,46,47,48,49])
 .skip))
(.seq (sr [
mq 50 7,
tq 51 (.bin .neq (.t 50) (kq 0))] [50]
(.cond (.t 51) (sr [
mq 52 8,
tq 53 (.nilEq 0 false (.t 52)),
mq 54 53,
gq 55 54 true (.mv (.t 9)),
gq 56 54 true (.mv (.t 7)),
gq 57 54 true (.bin .eql (.t 55) (.t 56)),
tq 58 (.pick (.t 54) (.t 57) (.k (.d (.bool false)))),
mq 59 58,
gq 60 59 true (cl zhy []),
tq 61 (.pick (.t 59) (.t 60) (.k (.d (.bool false)))),
mq 4 61] [7,8,9,52,53,54,55,56,57,58,59,60,61]
.ret)
 .skip))
(.seq (sr [
mq 62 9,
tq 63 (.bin .neq (.t 62) (kq 0)),
mq 64 63,
gq 65 64 false (.mv (.t 8)),
gq 66 64 false (.nilEq 0 false (.t 65)),
tq 67 (.pick (.t 64) (.k (.d (.bool true))) (.t 66))] [9,62,63,64,65,66]
(.cond (.t 67) (sr [
tq 4 (.mv (.k (.d (.bool false))))] []
.ret)
 .skip))
(.seq (sr [
mq 68 1,
tq 69 (.len .slc (.t 68)),
tq 70 (.mv (kq 0))] [1]
(.block 0 (.loop [5,8,68,69,70] zoh)))
(sr [
tq 17 (.mv (.k (.d (.nilp))))] []
(sr [
mq 102 17,
tq 103 (.callU true (.k (.fn zal [] [])) [.t 102,.k (.d (.str [111,112,101,110]))]),
mq 101 103,
xq 104 101 0,
xq 105 101 1,
mq 18 104,
mq 19 105] [18,101,102,103,104,105]
(sr [
mq 106 8,
tq 107 (.callU true (.k (.fn zcd [] [])) [.t 106]),
mq 108 5,
tq 109 (cl zjw [.t 107,.t 108]),
mq 110 109,
gq 111 110 true (.mv (.t 8)),
gq 112 110 true (.callU true (.k (.fn zbx [] [])) [.t 111]),
gq 113 110 true (.mv (.t 5)),
gq 114 110 true (cl ztt [.t 113]),
gq 115 110 true (.bin .eql (.t 112) (.t 114)),
tq 116 (.pick (.t 110) (.t 115) (.k (.d (.bool false)))),
mq 117 116,
gq 118 117 true (.mv (.t 19)),
gq 119 117 true (.bin .eql (.t 118) (kq 19)),
tq 120 (.pick (.t 117) (.t 119) (.k (.d (.bool false)))),
mq 121 120,
gq 122 121 true (.mv (.t 17)),
gq 123 121 true (.callU true (.k (.fn zcd [] [])) [.t 122]),
gq 124 121 true (.len .slc (.t 123)),
gq 125 121 true (.bin .eql (.t 124) (kq 0)),
tq 126 (.pick (.t 121) (.t 125) (.k (.d (.bool false)))),
mq 127 126,
gq 128 127 true (.mv (.t 17)),
gq 129 127 true (.callU true (.k (.fn zbx [] [])) [.t 128]),
gq 130 127 true (.bin .eql (.t 129) (.k (.d (.str [])))),
tq 131 (.pick (.t 127) (.t 130) (.k (.d (.bool false)))),
mq 132 131,
gq 133 132 true (cl zhy []),
tq 134 (.pick (.t 132) (.t 133) (.k (.d (.bool false)))),
mq 4 134] [5,8,17,19,106,107,108,109,110,111,112,113,114,115,116,117,118,119,120,121,122,123,124,125,126,127,128,129,130,131,132,133,134]
.ret))))))))))))⟩
def zzf:C:=
  (sr [
tq 43 (.bin .lss (.t 42) (.t 41))] []
(.seq (.cond (.t 43) .skip
 (.exit 0))
(.seq (.block 1 (sr [
tq 44 (.idxAddr 4 (.t 40) (.t 42)),
lq 45 4 44,
tq 3 (.alloc zez [.z (.str []),.z (.int .i64 0),.z (.int .i64 0),.z (.int .i64 0)]),
⟨none,none,.store 4 (.t 3) (.t 45)⟩] [44,45]
(sr [
mq 47 1,
fa 48 0 3,
ld 49 48,
fa 50 1 3,
ld 51 50,
fa 52 2 3,
ld 53 52,
tq 54 (cl zdm [.t 47,.t 49,.t 51,.t 53]),
mq 46 54,
xq 55 46 0,
xq 56 46 1,
mq 4 55,
mq 5 56] [46,47,48,49,50,51,52,53,54,55,56]
(sr [
mq 57 5,
tq 58 (.bin .neq (.t 57) (kq 0)),
mq 59 58,
gq 60 59 false (.mv (.t 4)),
gq 61 59 false (.fieldAddr 3 (.t 3)),
gq 62 59 false (.load none (.t 61)),
gq 63 59 false (.bin .neq (.t 60) (.t 62)),
tq 64 (.pick (.t 59) (.k (.d (.bool true))) (.t 63))] [3,4,5,57,58,59,60,61,62,63]
(.cond (.t 64) (sr [
tq 0 (.mv (.k (.d (.bool false))))] []
.ret)
 .skip)))))
(rg [
tq 65 (.bin .add (.t 42) (kq 1)),
mq 42 65] [65]))))
def zzg:C:=
  (sr [
tq 231 (.bin .lss (.t 230) (.t 229))] []
(.seq (.cond (.t 231) .skip
 (.exit 2))
(.seq (.block 3 (sr [
tq 232 (.idxAddr 3 (.t 228) (.t 230)),
lq 233 3 232,
tq 25 (.alloc zad [.z (.str []),.z (.str []),.z (.int .i64 0)]),
⟨none,none,.store 3 (.t 25) (.t 233)⟩] [232,233]
(sr [
mq 235 23,
fa 236 0 25,
ld 237 236,
tq 238 (.callU true (.k (.fn zal [] [])) [.t 235,.t 237]),
mq 234 238,
xq 239 234 0,
xq 240 234 1,
mq 26 239,
mq 27 240] [234,235,236,237,238,239,240]
(sr [
mq 241 26,
fa 242 1 25,
ld 243 242,
tq 244 (.bin .neq (.t 241) (.t 243)),
mq 245 244,
gq 246 245 false (.mv (.t 27)),
gq 247 245 false (.fieldAddr 2 (.t 25)),
gq 248 245 false (.load none (.t 247)),
gq 249 245 false (.bin .neq (.t 246) (.t 248)),
tq 250 (.pick (.t 245) (.k (.d (.bool true))) (.t 249))] [25,26,27,241,242,243,244,245,246,247,248,249]
(.cond (.t 250) (sr [
tq 0 (.mv (.k (.d (.bool false))))] []
.ret)
 .skip)))))
(rg [
tq 251 (.bin .add (.t 230) (kq 1)),
mq 230 251] [251]))))
def z5d:CF:=⟨[.tmp 0],
  (sr [
tq 0 (.mv (.k (.d (.bool false))))] [0]
(sr [
tq 32 (cl zoa []),
mq 1 32] [32]
(.seq (sr [
tq 33 (.build [.z (.str []),.z (.int .i64 0),.z (.int .i64 0),.z (.int .i64 0)] [(0,1,.k (.d (.str [97]))),(1,1,kq 6),(2,1,kq 16),(3,1,kq 600)]),
tq 34 (.build [.z (.str []),.z (.int .i64 0),.z (.int .i64 0),.z (.int .i64 0)] [(0,1,.k (.d (.str [97]))),(1,1,kq 7),(2,1,kq 16),(3,1,kq 660)]),
tq 35 (.build [.z (.str []),.z (.int .i64 0),.z (.int .i64 0),.z (.int .i64 0)] [(0,1,.k (.d (.str [98]))),(1,1,kq 8),(2,1,kq 16),(3,1,kq 700)]),
tq 36 (.build [.z (.str []),.z (.int .i64 0),.z (.int .i64 0),.z (.int .i64 0)] [(0,1,.k (.d (.str [97]))),(1,1,kq 9),(2,1,kq 12),(3,1,kq 600)]),
tq 37 (.build [.z (.str []),.z (.int .i64 0),.z (.int .i64 0),.z (.int .i64 0)] [(0,1,.k (.d (.str [97]))),(1,1,kq 9),(2,1,kq 16),(3,1,kq 600)]),
tq 38 (.build [.z (.str []),.z (.int .i64 0),.z (.int .i64 0),.z (.int .i64 0)] [(0,1,.k (.d (.str [98]))),(1,1,kq 9),(2,1,kq 16),(3,1,kq 1440)]),
tq 39 (.build [.z (.str []),.z (.int .i64 0),.z (.int .i64 0),.z (.int .i64 0)] [(0,1,.k (.d (.str [97]))),(1,1,kq 4),(2,1,kq 16),(3,1,kq 1440)]),
tq 40 (.mkList 4 7 [.t 33,.t 34,.t 35,.t 36,.t 37,.t 38,.t 39]),
tq 41 (.len .slc (.t 40)),
tq 42 (.mv (kq 0))] [33,34,35,36,37,38,39]
(.block 0 (.loop [1,40,41,42] zzf)))
(sr [
mq 67 1,
tq 68 (cl zgb [.t 67,kq 8]),
mq 66 68,
xq 69 66 0,
xq 70 66 1,
mq 6 69,
mq 7 70] [66,67,68,69,70]
(sr [
mq 72 1,
tq 73 (cl zgb [.t 72,kq 9]),
mq 71 73,
xq 74 71 0,
xq 75 71 1,
mq 8 74,
mq 9 75] [71,72,73,74,75]
(sr [
mq 77 1,
tq 78 (cl zlx [.t 77,.k (.d (.str [114]))]),
mq 76 78,
xq 79 76 0,
xq 80 76 1,
mq 10 79,
mq 11 80] [76,77,78,79,80]
(sr [
mq 82 1,
tq 83 (cl zlv [.t 82,.k (.d (.str [97])),kq 16]),
mq 81 83,
xq 84 81 0,
xq 85 81 1,
mq 12 84,
mq 13 85] [81,82,83,84,85]
(sr [
mq 87 1,
tq 88 (.build [.z (.int .i64 0),.z (.int .i64 0),.z (.int .i64 0)] [(0,1,kq 10),(1,1,kq 20),(2,1,kq 127)]),
tq 89 (cl zic [.t 87,.k (.d (.str [97])),kq 8,kq 9,.t 88]),
mq 86 89,
xq 90 86 0,
xq 91 86 1,
mq 14 90,
mq 15 91] [86,87,88,89,90,91]
(sr [
mq 93 1,
tq 94 (cl zpp [.t 93,kq 8,kq 16]),
mq 92 94,
xq 95 92 0,
xq 96 92 1,
mq 16 95,
mq 17 96] [1,92,93,94,95,96]
(.seq (sr [
mq 97 7,
mq 98 9,
tq 99 (.bin .add (.t 97) (.t 98)),
mq 100 11,
tq 101 (.bin .add (.t 99) (.t 100)),
mq 102 13,
tq 103 (.bin .add (.t 101) (.t 102)),
mq 104 15,
tq 105 (.bin .add (.t 103) (.t 104)),
mq 106 17,
tq 107 (.bin .add (.t 105) (.t 106)),
tq 108 (.bin .neq (.t 107) (kq 0)),
mq 109 108,
gq 110 109 false (.mv (.t 6)),
gq 111 109 false (.mkList 1 3 [.k (.d (.str [101])),.k (.d (.str [114])),.k (.d (.str [102]))]),
gq 112 109 false (cl zcv [.t 110,.t 111]),
gq 113 109 false (.un .not (.t 112)),
tq 114 (.pick (.t 109) (.k (.d (.bool true))) (.t 113)),
mq 115 114,
gq 116 115 false (.mv (.t 8)),
gq 117 115 false (.mkList 1 1 [.k (.d (.str [101]))]),
gq 118 115 false (cl zcv [.t 116,.t 117]),
gq 119 115 false (.un .not (.t 118)),
tq 120 (.pick (.t 115) (.k (.d (.bool true))) (.t 119)),
mq 121 120,
gq 122 121 false (.mv (.t 10)),
gq 123 121 false (.mkList 1 1 [.k (.d (.str [102]))]),
gq 124 121 false (cl zcv [.t 122,.t 123]),
gq 125 121 false (.un .not (.t 124)),
tq 126 (.pick (.t 121) (.k (.d (.bool true))) (.t 125)),
mq 127 126,
gq 128 127 false (.mv (.t 12)),
gq 129 127 false (cl zpo [.t 128]),
gq 130 127 false (.build [.z (.int .i64 0),.z (.int .i64 0)] [(0,1,kq 5),(1,1,kq 600)]),
gq 131 127 false (.build [.z (.int .i64 0),.z (.int .i64 0)] [(0,1,kq 7),(1,1,kq 660)]),
gq 132 127 false (.build [.z (.int .i64 0),.z (.int .i64 0)] [(0,1,kq 9),(1,1,kq 600)]),
gq 133 127 false (.mkList 2 3 [.t 130,.t 131,.t 132]),
gq 134 127 false (cl zkt [.t 129,.t 133]),
gq 135 127 false (.un .not (.t 134)),
tq 136 (.pick (.t 127) (.k (.d (.bool true))) (.t 135)),
mq 137 136,
gq 138 137 false (.mv (.t 14)),
gq 139 137 false (.mkList 1 6 [kq 15,kq 16,kq 17,kq 18,kq 19,kq 20]),
gq 140 137 false (cl zee [.t 138,.t 139]),
gq 141 137 false (.un .not (.t 140)),
tq 142 (.pick (.t 137) (.k (.d (.bool true))) (.t 141)),
mq 143 142,
gq 144 143 false (.mv (.t 16)),
gq 145 143 false (cl zpn [.t 144]),
gq 146 143 false (.build [.z (.str []),.z (.int .i64 0)] [(0,1,.k (.d (.str [97]))),(1,1,kq 660)]),
gq 147 143 false (.build [.z (.str []),.z (.int .i64 0)] [(0,1,.k (.d (.str [98]))),(1,1,kq 700)]),
gq 148 143 false (.mkList 2 2 [.t 146,.t 147]),
gq 149 143 false (cl zks [.t 145,.t 148]),
gq 150 143 false (.un .not (.t 149)),
tq 151 (.pick (.t 143) (.k (.d (.bool true))) (.t 150))] [6,7,8,9,10,11,12,13,14,15,16,17,97,98,99,100,101,102,103,104,105,106,107,108,109,110,111,112,113,114,115,116,117,118,119,120,121,122,123,124,125,126,127,128,129,130,131,132,133,134,135,136,137,138,139,140,141,142,143,144,145,146,147,148,149,150]
(.cond (.t 151) (sr [
tq 0 (.mv (.k (.d (.bool false))))] []
.ret)
 .skip))
(sr [
tq 152 (.build [.z (.str []),.z (.int .i64 0),.z (.int .i64 0),.z (.str [])] [(0,1,.k (.d (.str [84]))),(1,1,kq 2),(2,1,kq 4),(3,1,.k (.d (.str [108,97,116,101])))]),
tq 153 (.build [.z (.str []),.z (.int .i64 0),.z (.int .i64 0),.z (.str [])] [(0,1,.k (.d (.str [84]))),(1,1,kq 1),(2,1,kq 3),(3,1,.k (.d (.str [97])))]),
tq 154 (.build [.z (.str []),.z (.int .i64 0),.z (.int .i64 0),.z (.str [])] [(0,1,.k (.d (.str [78]))),(1,1,kq 1),(2,1,kq 3),(3,1,.k (.d (.str [98])))]),
tq 155 (.build [.z (.str []),.z (.int .i64 0),.z (.int .i64 0),.z (.str [])] [(0,1,.k (.d (.str [84]))),(1,1,kq 2),(2,1,kq 4),(3,1,.k (.d (.str [108,97,116,101])))]),
tq 156 (.mkList 4 4 [.t 152,.t 153,.t 154,.t 155]),
mq 18 156] [152,153,154,155,156]
(sr [
mq 158 18,
tq 159 (cl zm2 [.t 158]),
mq 157 159,
xq 160 157 0,
xq 161 157 1,
mq 19 160,
mq 20 161] [157,158,159,160,161]
(sr [
mq 163 18,
tq 164 (.idxAddr 4 (.t 163) (kq 1)),
lq 165 4 164,
tq 166 (.build [.z (.str []),.z (.int .i64 0),.z (.int .i64 0),.z (.str [])] [(0,1,.k (.d (.str [84]))),(1,1,kq 4),(2,1,kq 5),(3,1,.k (.d (.str [99])))]),
tq 167 (.mkList 4 2 [.t 165,.t 166]),
tq 168 (cl zlw [.t 167]),
mq 162 168,
xq 169 162 0,
xq 170 162 1,
mq 21 169,
mq 22 170] [18,162,163,164,165,166,167,168,169,170]
(.seq (sr [
mq 171 20,
mq 172 22,
tq 173 (.bin .add (.t 171) (.t 172)),
tq 174 (.bin .neq (.t 173) (kq 0)),
mq 175 174,
gq 176 175 false (.mv (.t 19)),
gq 177 175 false (.len .slc (.t 176)),
gq 178 175 false (.bin .neq (.t 177) (kq 3)),
tq 179 (.pick (.t 175) (.k (.d (.bool true))) (.t 178)),
mq 180 179,
gq 181 180 false (.mv (.t 19)),
gq 182 180 false (.idxAddr 4 (.t 181) (kq 0)),
gq 183 180 false (.fieldAddr 0 (.t 182)),
gq 184 180 false (.load none (.t 183)),
gq 185 180 false (.bin .neq (.t 184) (.k (.d (.str [78])))),
tq 186 (.pick (.t 180) (.k (.d (.bool true))) (.t 185)),
mq 187 186,
gq 188 187 false (.mv (.t 19)),
gq 189 187 false (.idxAddr 4 (.t 188) (kq 2)),
gq 190 187 false (.fieldAddr 1 (.t 189)),
gq 191 187 false (.load none (.t 190)),
gq 192 187 false (.bin .neq (.t 191) (kq 2)),
tq 193 (.pick (.t 187) (.k (.d (.bool true))) (.t 192)),
mq 194 193,
gq 195 194 false (.mv (.t 21)),
gq 196 194 false (.len .slc (.t 195)),
gq 197 194 false (.bin .neq (.t 196) (kq 1)),
tq 198 (.pick (.t 194) (.k (.d (.bool true))) (.t 197)),
mq 199 198,
gq 200 199 false (.mv (.t 21)),
gq 201 199 false (.idxAddr 2 (.t 200) (kq 0)),
gq 202 199 false (.fieldAddr 0 (.t 201)),
gq 203 199 false (.load none (.t 202)),
gq 204 199 false (.bin .neq (.t 203) (.k (.d (.str [84])))),
tq 205 (.pick (.t 199) (.k (.d (.bool true))) (.t 204)),
mq 206 205,
gq 207 206 false (.mv (.t 21)),
gq 208 206 false (.idxAddr 2 (.t 207) (kq 0)),
gq 209 206 false (.fieldAddr 1 (.t 208)),
gq 210 206 false (.load none (.t 209)),
gq 211 206 false (.mkList 1 2 [kq 2,kq 3]),
gq 212 206 false (cl zee [.t 210,.t 211]),
gq 213 206 false (.un .not (.t 212)),
tq 214 (.pick (.t 206) (.k (.d (.bool true))) (.t 213))] [19,20,21,22,171,172,173,174,175,176,177,178,179,180,181,182,183,184,185,186,187,188,189,190,191,192,193,194,195,196,197,198,199,200,201,202,203,204,205,206,207,208,209,210,211,212,213]
(.cond (.t 214) (sr [
tq 0 (.mv (.k (.d (.bool false))))] []
.ret)
 .skip))
(sr [
tq 215 (.call false false (.k (.fn zq4 [] [])) []),
mq 23 215] [215]
(.seq (sr [
mq 216 23,
tq 217 (.nilEq 0 false (.t 216))] [216]
(.cond (.t 217) (sr [
tq 0 (.mv (.k (.d (.bool false))))] []
.ret)
 .skip))
(.seq (sr [
tq 218 (.build [.z (.str []),.z (.str []),.z (.int .i64 0)] [(0,1,.k (.d (.str [101,110,116,101,114,32,101,32,97,32,53,32,49,48,32,50,48,32,54,48,48]))),(1,1,.k (.d (.str [100,111,110,101,32,49]))),(2,1,kq 0)]),
tq 219 (.build [.z (.str []),.z (.str []),.z (.int .i64 0)] [(0,1,.k (.d (.str [114,117,108,101,32,114,32,97,32,55,32,49,53,32,50,48,32,54,54,48]))),(1,1,.k (.d (.str [100,111,110,101,32,50]))),(2,1,kq 0)]),
tq 220 (.build [.z (.str []),.z (.str []),.z (.int .i64 0)] [(0,1,.k (.d (.str [115,108,111,116,32,97,32,55,32,49,54]))),(1,1,.k (.d (.str [54,54,48]))),(2,1,kq 0)]),
tq 221 (.build [.z (.str []),.z (.str []),.z (.int .i64 0)] [(0,1,.k (.d (.str [114,101,118,101,114,115,101,32,101,32,57]))),(1,1,.k (.d (.str []))),(2,1,kq 13)]),
tq 222 (.build [.z (.str []),.z (.str []),.z (.int .i64 0)] [(0,1,.k (.d (.str [114,101,118,101,114,115,101,32,114,32,57]))),(1,1,.k (.d (.str [100,111,110,101,32,51]))),(2,1,kq 0)]),
tq 223 (.build [.z (.str []),.z (.str []),.z (.int .i64 0)] [(0,1,.k (.d (.str [102,111,108,108,111,119,32,103,32,98,32,114,32,57,32,49,48,32,50,48,32,53]))),(1,1,.k (.d (.str []))),(2,1,kq 20)]),
tq 224 (.build [.z (.str []),.z (.str []),.z (.int .i64 0)] [(0,1,.k (.d (.str [99,111,109,112,108,97,105,110,32,99,32,101,32,49,48]))),(1,1,.k (.d (.str [100,111,110,101,32,52]))),(2,1,kq 0)]),
tq 225 (.build [.z (.str []),.z (.str []),.z (.int .i64 0)] [(0,1,.k (.d (.str [111,112,101,110]))),(1,1,.k (.d (.str [99]))),(2,1,kq 0)]),
tq 226 (.build [.z (.str []),.z (.str []),.z (.int .i64 0)] [(0,1,.k (.d (.str [100,101,99,105,100,101,32,99,32,49,49,32,49]))),(1,1,.k (.d (.str [100,111,110,101,32,53]))),(2,1,kq 0)]),
tq 227 (.build [.z (.str []),.z (.str []),.z (.int .i64 0)] [(0,1,.k (.d (.str [100,97,121,32,49,49,32,49,54]))),(1,1,.k (.d (.str [110,111,110,101]))),(2,1,kq 0)]),
tq 228 (.mkList 3 10 [.t 218,.t 219,.t 220,.t 221,.t 222,.t 223,.t 224,.t 225,.t 226,.t 227]),
tq 229 (.len .slc (.t 228)),
tq 230 (.mv (kq 0))] [218,219,220,221,222,223,224,225,226,227]
(.block 2 (.loop [23,228,229,230] zzg)))
(sr [
mq 252 23,
tq 253 (.callU true (.k (.fn zbx [] [])) [.t 252]),
mq 28 253] [23,252,253]
(sr [
mq 255 28,
tq 256 (.bin .add (.t 255) (.k (.d (.str [54])))),
tq 257 (cl zc6 [.t 256]),
mq 254 257,
xq 258 254 0,
xq 259 254 1,
xq 260 254 2,
mq 29 258,
mq 30 259,
mq 31 260] [254,255,256,257,258,259,260]
(sr [
mq 261 31,
tq 262 (.bin .eql (.t 261) (kq 28)),
mq 263 262,
gq 264 263 true (.mv (.t 29)),
gq 265 263 true (.len .slc (.t 264)),
gq 266 263 true (.bin .eql (.t 265) (kq 5)),
tq 267 (.pick (.t 263) (.t 266) (.k (.d (.bool false)))),
mq 268 267,
gq 269 268 true (.mv (.t 30)),
gq 270 268 true (.mv (.t 28)),
gq 271 268 true (.len .str (.t 270)),
gq 272 268 true (.bin .eql (.t 269) (.t 271)),
tq 273 (.pick (.t 268) (.t 272) (.k (.d (.bool false)))),
mq 274 273,
gq 275 274 true (cl zku [.k (.d (.str [49,49]))]),
gq 276 274 true (.bin .eql (.t 275) (.k (.d (.str [48,48,57,50,55,55,57])))),
tq 277 (.pick (.t 274) (.t 276) (.k (.d (.bool false)))),
mq 0 277] [28,29,30,31,261,262,263,264,265,266,267,268,269,270,271,272,273,274,275,276,277]
.ret))))))))))))))))))))⟩
def zvw:C:=
  (.seq (sr [
mq 13 7,
mq 14 0,
tq 15 (.len .str (.t 14)),
tq 16 (.bin .lss (.t 13) (.t 15))] [13,14,15]
(.cond (.t 16) .skip
 (.exit 0)))
(.seq (.block 1 (.seq (sr [
mq 19 0,
mq 20 7,
tq 21 (.idxS (.t 19) (.t 20)),
tq 22 (.bin .neq (.t 21) (.k (.d (.int .u8 10))))] [19,20,21]
(.cond (.t 22) (.exit 1)
 .skip))
(sr [
mq 24 0,
mq 25 6,
mq 26 7,
tq 27 (.sliceS (.t 24) (some (.t 25)) (some (.t 26))),
tq 28 (cl zoe [.t 27]),
mq 23 28,
xq 29 23 0,
xq 30 23 1,
tq 8 (.alloc zac [.z (.int .i64 0),.z (.str []),.z (.list 0 []),.z (.list 0 []),.z (.str [])]),
⟨none,none,.store 5 (.t 8) (.t 29)⟩,
mq 9 30] [23,24,25,26,27,28,29,30]
(.seq (sr [
mq 31 9,
tq 32 (.bin .eql (.t 31) (kq 0)),
mq 33 32,
gq 34 33 true (.fieldAddr 0 (.t 8)),
gq 35 33 true (.load none (.t 34)),
gq 36 33 true (.mv (.t 5)),
gq 37 33 true (.len .slc (.t 36)),
gq 38 33 true (.bin .add (.t 37) (kq 1)),
gq 39 33 true (.bin .neq (.t 35) (.t 38)),
tq 40 (.pick (.t 33) (.t 39) (.k (.d (.bool false))))] [31,32,33,34,35,36,37,38,39]
(.cond (.t 40) (rg [
tq 9 (.mv (kq 11))] [])
 .skip))
(.seq (sr [
mq 41 9,
tq 42 (.bin .neq (.t 41) (kq 0))] [41]
(.cond (.t 42) (sr [
mq 43 5,
mq 44 6,
mq 45 9,
mq 2 43,
mq 3 44,
mq 4 45] [5,6,9,43,44,45]
.ret)
 .skip))
(sr [
mq 46 5,
lq 47 5 8,
tq 48 (.mkList 5 1 [.t 47]),
tq 49 (.append ⟨false,zac,5,88⟩ (.t 46) (.t 48)),
mq 5 49] [8,46,47,48,49]
(rg [
mq 50 7,
tq 51 (.bin .add (.t 50) (kq 1)),
mq 6 51] [50,51])))))))
(rg [
mq 17 7,
tq 18 (.bin .add (.t 17) (kq 1)),
mq 7 18] [17,18])))
def zz6:CF:=⟨[.tmp 2,.tmp 3,.tmp 4],
  (sr [
tq 2 (.ownNil ⟨false,zac,5,88⟩),
tq 3 (.mv (kq 0)),
tq 4 (.mv (kq 0))] [2,3,4]
(.seq (sr [
mq 10 0,
tq 11 (.len .str (.t 10)),
tq 12 (.bin .gtr (.t 11) (kq 1000000))] [10,11]
(.cond (.t 12) (sr [
tq 2 (.ownNil ⟨false,zac,5,88⟩),
tq 3 (.mv (kq 0)),
tq 4 (.mv (kq 26))] []
.ret)
 .skip))
(sr [
tq 5 (.ownNil ⟨false,zac,5,88⟩)] []
(sr [
tq 6 (.mv (kq 0))] []
(.seq (sr [
tq 7 (.mv (kq 0))] []
(.block 0 (.loop [0,5,6,7] zvw)))
(.seq (sr [
mq 52 6,
mq 53 0,
tq 54 (.len .str (.t 53)),
tq 55 (.bin .lss (.t 52) (.t 54))] [0,52,53,54]
(.cond (.t 55) (sr [
mq 56 5,
mq 57 6,
mq 2 56,
mq 3 57,
tq 4 (.mv (kq 28))] [5,6,56,57]
.ret)
 .skip))
(sr [
mq 58 5,
mq 59 6,
mq 2 58,
mq 3 59,
tq 4 (.mv (kq 0))] [5,6,58,59]
.ret)))))))⟩
def z5k:CF:=⟨[.tmp 2,.tmp 3],
  (sr [
tq 2 (.mv (.k (.d (.nilp)))),
tq 3 (.mv (kq 0))] [2,3]
(sr [
mq 10 0,
tq 11 (cl zc6 [.t 10]),
mq 9 11,
xq 12 9 0,
xq 13 9 1,
xq 14 9 2,
mq 4 12,
mq 5 13,
mq 6 14] [0,5,9,10,11,12,13,14]
(.seq (sr [
mq 15 6,
tq 16 (.bin .neq (.t 15) (kq 0)),
mq 17 16,
gq 18 17 true (.mv (.t 6)),
gq 19 17 true (.bin .neq (.t 18) (kq 28)),
tq 20 (.pick (.t 17) (.t 19) (.k (.d (.bool false))))] [15,16,17,18,19]
(.cond (.t 20) (sr [
mq 21 6,
tq 2 (.mv (.k (.d (.nilp)))),
mq 3 21] [6,21]
.ret)
 .skip))
(sr [
mq 23 4,
tq 24 (.call false false (.k (.fn ze5 [] [])) [.t 23]),
mq 22 24,
xq 25 22 0,
xq 26 22 1,
xq 27 22 2,
mq 7 25,
mq 8 26,
mq 6 27] [4,8,22,23,24,25,26,27]
(.seq (sr [
mq 28 6,
tq 29 (.bin .neq (.t 28) (kq 0))] [28]
(.cond (.t 29) (sr [
mq 30 6,
tq 2 (.mv (.k (.d (.nilp)))),
mq 3 30] [6,30]
.ret)
 .skip))
(sr [
mq 31 7,
tq 32 (.nilCheck (.t 31)),
lq 33 5 32,
tq 34 (.build [.z (.list 0 []),.z (.int .i64 0),.z (.list 0 []),.z (.list 0 []),.z (.list 0 [])] [(0,5,.t 33)]),
tq 35 (.box zaa (.t 34)),
mq 2 35,
tq 3 (.mv (kq 0))] [7,31,32,33,34,35]
.ret))))))⟩
def zx1:C:=
  (.seq (sr [
mq 13 6,
mq 14 0,
tq 15 (.len .slc (.t 14)),
tq 16 (.bin .lss (.t 13) (.t 15))] [13,14,15]
(.cond (.t 16) .skip
 (.exit 0)))
(.seq (.block 1 (sr [
mq 19 0,
mq 20 6,
tq 21 (.idxAddr 5 (.t 19) (.t 20)),
lq 22 5 21,
tq 23 (cl zeb [.t 22]),
mq 7 23] [19,20,21,22,23]
(.seq (sr [
mq 24 7,
tq 25 (.bin .eql (.t 24) (kq 0)),
mq 26 25,
gq 27 26 true (.mv (.t 0)),
gq 28 26 true (.mv (.t 6)),
gq 29 26 true (.idxAddr 5 (.t 27) (.t 28)),
gq 30 26 true (.fieldAddr 0 (.t 29)),
gq 31 26 true (.load none (.t 30)),
gq 32 26 true (.mv (.t 6)),
gq 33 26 true (.bin .add (.t 32) (kq 1)),
gq 34 26 true (.bin .neq (.t 31) (.t 33)),
tq 35 (.pick (.t 26) (.t 34) (.k (.d (.bool false))))] [24,25,26,27,28,29,30,31,32,33,34]
(.cond (.t 35) (rg [
tq 7 (.mv (kq 11))] [])
 .skip))
(.seq (sr [
mq 36 7,
tq 37 (.bin .eql (.t 36) (kq 0))] [36]
(.cond (.t 37) (.reg true [
lq 38 4 5,
mq 39 0,
mq 40 6,
tq 41 (.idxAddr 5 (.t 39) (.t 40)),
lq 42 5 41,
tq 43 (cl ze7 [.t 38,.t 42]),
mq 7 43] [38,39,40,41,42,43])
 .skip))
(.seq (sr [
mq 44 7,
tq 45 (.bin .neq (.t 44) (kq 0))] [44]
(.cond (.t 45) (sr [
tq 46 (.build [.z (.int .i64 0),.z (.list 0 []),.z (.list 0 []),.z (.list 0 [])] []),
mq 47 6,
tq 48 (.bin .add (.t 47) (kq 1)),
mq 49 7,
⟨none,none,.store 4 (.t 2) (.t 46)⟩,
mq 3 48,
mq 4 49] [6,7,46,47,48,49]
.ret)
 .skip))
(.reg true [
lq 50 4 5,
mq 51 0,
mq 52 6,
tq 53 (.idxAddr 5 (.t 51) (.t 52)),
lq 54 5 53,
tq 55 (cl zfx [.t 50,.t 54]),
⟨none,none,.store 4 (.t 5) (.t 55)⟩] [50,51,52,53,54,55]))))))
(rg [
mq 17 6,
tq 18 (.bin .add (.t 17) (kq 1)),
mq 6 18] [17,18])))
def z2p:CF:=⟨[.cell 2 (some 4),.tmp 3,.tmp 4],
  (sr [
tq 2 (.alloc zaf [.z (.int .i64 0),.z (.list 0 []),.z (.list 0 []),.z (.list 0 [])]),
tq 3 (.mv (kq 0)),
tq 4 (.mv (kq 0))] [3,4]
(.seq (sr [
mq 8 0,
tq 9 (.len .slc (.t 8)),
tq 10 (.bin .gtr (.t 9) (kq 1000))] [8,9]
(.cond (.t 10) (sr [
tq 11 (.build [.z (.int .i64 0),.z (.list 0 []),.z (.list 0 []),.z (.list 0 [])] []),
⟨none,none,.store 4 (.t 2) (.t 11)⟩,
tq 3 (.mv (kq 0)),
tq 4 (.mv (kq 5))] [11]
.ret)
 .skip))
(sr [
tq 12 (.build [.z (.int .i64 0),.z (.list 0 []),.z (.list 0 []),.z (.list 0 [])] []),
tq 5 (.alloc zaf [.z (.int .i64 0),.z (.list 0 []),.z (.list 0 []),.z (.list 0 [])]),
⟨none,none,.store 4 (.t 5) (.t 12)⟩] [12]
(.seq (sr [
tq 6 (.mv (kq 0))] []
(.block 0 (.loop [0,2,5,6] zx1)))
(sr [
lq 56 4 5,
⟨none,none,.store 4 (.t 2) (.t 56)⟩,
tq 3 (.mv (kq 0)),
tq 4 (.mv (kq 0))] [5,56]
.ret)))))⟩
def yae:CF:=⟨[.tmp 4,.tmp 5,.tmp 6],
  (sr [
tq 4 (.mv (.k (.d (.str [])))),
tq 5 (.mv (kq 0)),
tq 6 (.mv (.k (.d (.list 0 []))))] [4,5,6]
(.seq (sr [
mq 12 1,
tq 13 (.bin .eql (.t 12) (.k (.d (.str []))))] [12]
(.cond (.t 13) (sr [
mq 14 0,
tq 4 (.mv (.k (.d (.str [])))),
tq 5 (.mv (kq 25)),
mq 6 14] [0,14]
.ret)
 .skip))
(.seq (sr [
mq 15 1,
tq 16 (cl n_strings_Split [.t 15,.k (.d (.str [32]))]),
tq 17 (.idxAddr 1 (.t 16) (kq 0)),
ld 18 17,
tq 19 (cl zob [.t 18]),
tq 20 (.un .not (.t 19))] [15,16,17,18,19]
(.cond (.t 20) (sr [
mq 22 0,
mq 23 1,
tq 24 (cl zft [.t 22,.t 23]),
mq 21 24,
xq 25 21 0,
xq 26 21 1,
mq 7 25,
mq 8 26] [1,21,22,23,24,25,26]
(sr [
mq 27 7,
mq 28 8,
mq 29 0,
mq 4 27,
mq 5 28,
mq 6 29] [0,7,8,27,28,29]
.ret))
 .skip))
(sr [
mq 31 1,
tq 32 (cl zf2 [.t 31]),
mq 30 32,
xq 33 30 0,
xq 34 30 1,
tq 9 (.alloc zac [.z (.int .i64 0),.z (.str []),.z (.list 0 []),.z (.list 0 []),.z (.str [])]),
⟨none,none,.store 5 (.t 9) (.t 33)⟩,
mq 10 34] [1,30,31,32,33,34]
(.seq (sr [
mq 35 10,
tq 36 (.un .not (.t 35))] [10,35]
(.cond (.t 36) (sr [
mq 37 0,
tq 4 (.mv (.k (.d (.str [])))),
tq 5 (.mv (kq 25)),
mq 6 37] [0,37]
.ret)
 .skip))
(sr [
mq 38 0,
tq 39 (.len .slc (.t 38)),
tq 40 (.bin .add (.t 39) (kq 1)),
fa 41 0 9,
⟨none,none,.store 1 (.t 41) (.t 40)⟩] [38,39,40,41]
(.seq (sr [
mq 42 0,
lq 43 5 9,
tq 44 (cl ze6 [.t 42,.t 43]),
mq 11 44] [42,43,44]
(sr [
mq 45 11,
tq 46 (.bin .neq (.t 45) (kq 0))] [45]
(.cond (.t 46) (sr [
mq 47 11,
mq 48 0,
tq 4 (.mv (.k (.d (.str [])))),
mq 5 47,
mq 6 48] [0,11,47,48]
.ret)
 .skip)))
(.seq (.regC [
fa 49 0 9,
ld 50 49,
tq 51 (cl zfw [.t 50]),
tq 52 (.bin .add (.k (.d (.str [100,111,110,101,32]))) (.t 51)),
tq 53 (.mkRow ⟨false,zac,5,88⟩ 0 []),
mq 54 0,
tq 55 (.append ⟨false,zac,5,88⟩ (.t 53) (.t 54)),
lq 56 5 9,
tq 57 (.mkListD 5 1 [.t 56]),
tq 58 (.appendF ⟨false,zac,5,88⟩ (.t 55) (.t 57)),
mq 4 52,
tq 5 (.mv (kq 0)),
mq 6 58] [0,9,49,50,51,52,53,54,55,56,57,58] [(9,55)])
.ret))))))))⟩
def zta:CF:=⟨[.tmp 4,.tmp 5],
  (sr [
tq 4 (.mv (.k (.d (.str [])))),
tq 5 (.mv (kq 0))] [4,5]
(.seq (sr [
mq 17 0,
tq 18 (.nilEq 0 false (.t 17))] [17]
(.cond (.t 18) (sr [
tq 4 (.mv (.k (.d (.str [])))),
tq 5 (.mv (kq 19))] []
.ret)
 .skip))
(.seq (sr [
mq 19 1,
tq 20 (.len .str (.t 19)),
tq 21 (.bin .gtr (.t 20) (kq 4096)),
tq 22 (cl zan [.t 21,kq 26]),
mq 23 1,
tq 24 (.bin .eql (.t 23) (.k (.d (.str [])))),
tq 25 (cl zan [.t 24,kq 25]),
tq 26 (.mkList 1 2 [.t 22,.t 25]),
tq 27 (cl za2 [.t 26]),
mq 6 27] [19,20,21,22,23,24,25,26,27]
(sr [
mq 28 6,
tq 29 (.bin .neq (.t 28) (kq 0))] [28]
(.cond (.t 29) (sr [
mq 30 6,
tq 4 (.mv (.k (.d (.str [])))),
mq 5 30] [6,30]
.ret)
 .skip)))
(sr [
mq 32 1,
tq 33 (cl zh1 [.t 32,.k (.d (.str [32]))]),
mq 31 33,
xq 34 31 0,
xq 35 31 1,
xq 36 31 2,
mq 7 34,
mq 8 35,
mq 9 36] [8,9,31,32,33,34,35,36]
(.seq (sr [
tq 38 (.call false false (.k (.fn zjs [] [])) []),
mq 39 7,
tq 40 (.lookup .str (.agg [.int .i64 0,.int .i64 0,.nilf]) true (.t 38) (.t 39)),
mq 37 40,
xq 41 37 0,
xq 42 37 1,
tq 10 (.alloc zj3 [.z (.int .i64 0),.z (.int .i64 0),.z (.nilf)]),
⟨none,none,.store 3 (.t 10) (.t 41)⟩,
mq 11 42] [37,38,39,40,41,42]
(sr [
mq 43 11] [11]
(.cond (.t 43) (sr [
mq 44 0,
lq 45 3 10,
mq 46 1,
tq 47 (.callU true (.k (.fn zbl [] [])) [.t 44,.t 45,.t 46]),
xq 48 47 0,
xq 49 47 1,
mq 4 48,
mq 5 49] [0,1,10,44,45,46,47,48,49]
.ret)
 .skip)))
(.seq (sr [
tq 51 (.call false false (.k (.fn zf0 [] [])) []),
mq 52 7,
tq 53 (.lookup .str (.agg [.int .i64 0,.int .i64 0,.nilf,.nilf]) true (.t 51) (.t 52)),
mq 50 53,
xq 54 50 0,
xq 55 50 1,
tq 12 (.alloc zit [.z (.int .i64 0),.z (.int .i64 0),.z (.nilf),.z (.nilf)]),
⟨none,none,.store 4 (.t 12) (.t 54)⟩,
mq 13 55] [7,12,50,51,52,53,54,55]
(sr [
mq 56 13,
tq 57 (.un .not (.t 56))] [13,56]
(.cond (.t 57) (sr [
tq 4 (.mv (.k (.d (.str [])))),
tq 5 (.mv (kq 13))] []
.ret)
 .skip)))
(sr [
mq 59 1,
tq 60 (cl zf1 [.t 59]),
mq 58 60,
xq 61 58 0,
xq 62 58 1,
tq 14 (.alloc zac [.z (.int .i64 0),.z (.str []),.z (.list 0 []),.z (.list 0 []),.z (.str [])]),
⟨none,none,.store 5 (.t 14) (.t 61)⟩,
mq 15 62] [1,58,59,60,61,62]
(sr [
mq 63 0,
tq 64 (.nilCheck (.t 63)),
fa 65 0 64,
fa 66 0 65,
ld 67 66,
tq 68 (.len .slc (.t 67)),
tq 69 (.bin .add (.t 68) (kq 1)),
fa 70 0 14,
⟨none,none,.store 1 (.t 70) (.t 69)⟩] [63,64,65,66,67,68,69,70]
(.seq (.reg true [
mq 71 15,
tq 72 (.un .not (.t 71)),
tq 73 (cl zan [.t 72,kq 25]),
mq 74 0,
tq 75 (.nilCheck (.t 74)),
fa 76 0 75,
fa 77 0 76,
ld 78 77,
tq 79 (.len .slc (.t 78)),
tq 80 (.bin .geq (.t 79) (kq 1000)),
tq 81 (cl zan [.t 80,kq 5]),
tq 82 (.mkList 1 2 [.t 73,.t 81]),
tq 83 (cl za2 [.t 82]),
mq 16 83] [15,71,72,73,74,75,76,77,78,79,80,81,82,83])
(.seq (sr [
mq 84 16,
tq 85 (.bin .eql (.t 84) (kq 0))] [84]
(.cond (.t 85) (rg [
lq 86 5 14,
tq 87 (cl zc9 [.t 86]),
mq 16 87] [86,87])
 .skip))
(.seq (sr [
mq 88 16,
tq 89 (.bin .eql (.t 88) (kq 0))] [88]
(.cond (.t 89) (.reg true [
mq 90 0,
tq 91 (.nilCheck (.t 90)),
fa 92 0 91,
lq 93 5 14,
tq 94 (.callQ (.k (.fn zas [] [])) [.t 92,.t 93]),
mq 16 94] [90,91,92,93,94])
 .skip))
(.seq (sr [
mq 95 16,
tq 96 (.bin .neq (.t 95) (kq 0))] [95]
(.cond (.t 96) (sr [
mq 97 16,
tq 4 (.mv (.k (.d (.str [])))),
mq 5 97] [16,97]
.ret)
 .skip))
(.seq (.reg true [
mq 98 0,
tq 99 (.nilCheck (.t 98)),
fa 100 0 99,
lq 101 5 14,
tq 102 (.callU false (.k (.fn zaj [] [])) [.t 100,.t 101])] [0,98,99,100,101,102])
(sr [
fa 103 0 14,
ld 104 103,
tq 105 (cl n_strconv_Itoa [.t 104]),
tq 106 (.bin .add (.k (.d (.str [100,111,110,101,32]))) (.t 105)),
mq 4 106,
tq 5 (.mv (kq 0))] [14,103,104,105,106]
.ret))))))))))))))⟩
def zry:C:=
  (.seq (sr [
mq 11 5,
mq 12 0,
tq 13 (.len .slc (.t 12)),
tq 14 (.bin .lss (.t 11) (.t 13))] [11,12,13]
(.cond (.t 14) .skip
 (.exit 0)))
(.seq (.block 1 (.seq (.reg true [
mq 17 0,
mq 18 5,
tq 19 (.idxAddr 5 (.t 17) (.t 18)),
fa 20 0 19,
ld 21 20,
mq 22 1,
mq 23 5,
tq 24 (.idxAddr 5 (.t 22) (.t 23)),
fa 25 0 24,
ld 26 25,
tq 27 (.bin .neq (.t 21) (.t 26)),
mq 28 27,
gq 29 28 false (.mv (.t 0)),
gq 30 28 false (.mv (.t 5)),
gq 31 28 false (.idxAddr 5 (.t 29) (.t 30)),
gq 32 28 false (.fieldAddr 1 (.t 31)),
gq 33 28 false (.load none (.t 32)),
gq 34 28 false (.mv (.t 1)),
gq 35 28 false (.mv (.t 5)),
gq 36 28 false (.idxAddr 5 (.t 34) (.t 35)),
gq 37 28 false (.fieldAddr 1 (.t 36)),
gq 38 28 false (.load none (.t 37)),
gq 39 28 false (.bin .neq (.t 33) (.t 38)),
tq 40 (.pick (.t 28) (.k (.d (.bool true))) (.t 39)),
mq 41 40,
gq 42 41 false (.mv (.t 0)),
gq 43 41 false (.mv (.t 5)),
gq 44 41 false (.idxAddr 5 (.t 42) (.t 43)),
gq 45 41 false (.fieldAddr 2 (.t 44)),
gq 46 41 false (.load none (.t 45)),
gq 47 41 false (.mv (.t 1)),
gq 48 41 false (.mv (.t 5)),
gq 49 41 false (.idxAddr 5 (.t 47) (.t 48)),
gq 50 41 false (.fieldAddr 2 (.t 49)),
gq 51 41 false (.load none (.t 50)),
gq 52 41 false (cl zcv [.t 46,.t 51]),
gq 53 41 false (.un .not (.t 52)),
tq 54 (.pick (.t 41) (.k (.d (.bool true))) (.t 53)),
mq 55 54,
gq 56 55 false (.mv (.t 0)),
gq 57 55 false (.mv (.t 5)),
gq 58 55 false (.idxAddr 5 (.t 56) (.t 57)),
gq 59 55 false (.fieldAddr 3 (.t 58)),
gq 60 55 false (.load none (.t 59)),
gq 61 55 false (.mv (.t 1)),
gq 62 55 false (.mv (.t 5)),
gq 63 55 false (.idxAddr 5 (.t 61) (.t 62)),
gq 64 55 false (.fieldAddr 3 (.t 63)),
gq 65 55 false (.load none (.t 64)),
gq 66 55 false (cl zee [.t 60,.t 65]),
gq 67 55 false (.un .not (.t 66)),
tq 68 (.pick (.t 55) (.k (.d (.bool true))) (.t 67)),
mq 69 68,
gq 70 69 false (.mv (.t 0)),
gq 71 69 false (.mv (.t 5)),
gq 72 69 false (.idxAddr 5 (.t 70) (.t 71)),
gq 73 69 false (.fieldAddr 4 (.t 72)),
gq 74 69 false (.load none (.t 73)),
gq 75 69 false (.mv (.t 1)),
gq 76 69 false (.mv (.t 5)),
gq 77 69 false (.idxAddr 5 (.t 75) (.t 76)),
gq 78 69 false (.fieldAddr 4 (.t 77)),
gq 79 69 false (.load none (.t 78)),
gq 80 69 false (.bin .neq (.t 74) (.t 79)),
tq 81 (.pick (.t 69) (.k (.d (.bool true))) (.t 80))] [17,18,19,20,21,22,23,24,25,26,27,28,29,30,31,32,33,34,35,36,37,38,39,40,41,42,43,44,45,46,47,48,49,50,51,52,53,54,55,56,57,58,59,60,61,62,63,64,65,66,67,68,69,70,71,72,73,74,75,76,77,78,79,80])
(.cond (.t 81) (sr [
tq 4 (.mv (.k (.d (.bool false))))] []
.ret)
 .skip)))
(rg [
mq 15 5,
tq 16 (.bin .add (.t 15) (kq 1)),
mq 5 16] [15,16])))
def zuo:CF:=⟨[.tmp 4],
  (sr [
tq 4 (.mv (.k (.d (.bool false))))] [4]
(.seq (sr [
mq 6 0,
tq 7 (.len .slc (.t 6)),
mq 8 1,
tq 9 (.len .slc (.t 8)),
tq 10 (.bin .neq (.t 7) (.t 9))] [6,7,8,9]
(.cond (.t 10) (sr [
tq 4 (.mv (.k (.d (.bool false))))] []
.ret)
 .skip))
(.seq (sr [
tq 5 (.mv (kq 0))] []
(.block 0 (.loop [0,1,5] zry)))
(sr [
tq 4 (.mv (.k (.d (.bool true))))] []
.ret))))⟩
def zih:C:=
  (rg [
tq 4 (.alloc zac [.z (.int .i64 0),.z (.str []),.z (.list 0 []),.z (.list 0 []),.z (.str [])]),
⟨none,none,.store 5 (.t 4) (.t 9)⟩] [9])
def zii:C:=
  (.block 1 (rg [
ld 10 3,
lq 11 5 4,
tq 12 (.mkList 5 1 [.t 11]),
tq 13 (.append ⟨false,zac,5,88⟩ (.t 10) (.t 12)),
⟨none,none,.store 1 (.t 3) (.t 13)⟩] [3,4,10,11,12,13]))
def zpb:CF:=⟨[.tmp 2],
  (sr [
tq 2 (.ownNil ⟨false,zac,5,88⟩)] []
(.seq (sr [
mq 5 0,
tq 6 (.nilEq 0 false (.t 5))] [5]
(.cond (.t 6) (sr [
tq 2 (.ownNil ⟨false,zac,5,88⟩)] []
.ret)
 .skip))
(sr [
tq 3 (.alloc zh4 [.own ⟨false,zac,5,88⟩])] []
(.seq (sr [
mq 7 0,
tq 8 (.call true false (.k (.fn zid [] [])) [.t 7])] [0,7]
(.block 0 (.rangeFn 16 (.t 8) [9] zih zii)))
(sr [
ld 14 3,
mq 2 14] [3,14]
.ret)))))⟩
def zr1:CF:=⟨[.tmp 2],
  (sr [
tq 2 (.mv (.k (.d (.str []))))] [2]
(.seq (sr [
mq 3 0,
tq 4 (.nilEq 0 false (.t 3))] [3]
(.cond (.t 4) (sr [
tq 2 (.mv (.k (.d (.str []))))] []
.ret)
 .skip))
(sr [
mq 5 0,
tq 6 (.nilCheck (.t 5)),
fa 7 0 6,
fa 8 0 7,
ld 9 8,
tq 10 (.call true true (.k (.fn zdx [] [])) [.t 9,.k (.fn zjt [] [])]),
tq 11 (cl n_strings_Join [.t 10,.k (.d (.str []))]),
mq 2 11] [0,5,6,7,8,9,10,11]
.ret)))⟩
def z47:C:=
  (.seq (sr [
mq 5 4,
mq 6 0,
tq 7 (.len .slc (.t 6)),
tq 8 (.bin .lss (.t 5) (.t 7))] [5,6,7]
(.cond (.t 8) .skip
 (.exit 0)))
(.seq (.block 1 (.reg true [
mq 11 3,
mq 12 0,
mq 13 4,
tq 14 (.idxAddr 5 (.t 12) (.t 13)),
lq 15 5 14,
tq 16 (cl zlf [.t 15]),
tq 17 (.bin .add (.t 11) (.t 16)),
tq 18 (.bin .add (.t 17) (.k (.d (.str [35])))),
mq 19 0,
mq 20 4,
tq 21 (.idxAddr 5 (.t 19) (.t 20)),
lq 22 5 21,
tq 23 (cl zlf [.t 22]),
tq 24 (cl zku [.t 23]),
tq 25 (.bin .add (.t 18) (.t 24)),
tq 26 (.bin .add (.t 25) (.k (.d (.str [10])))),
mq 3 26] [11,12,13,14,15,16,17,18,19,20,21,22,23,24,25,26]))
(rg [
mq 9 4,
tq 10 (.bin .add (.t 9) (kq 1)),
mq 4 10] [9,10])))
def yaf:CF:=⟨[.tmp 2],
  (sr [
tq 2 (.mv (.k (.d (.str []))))] [2]
(sr [
tq 3 (.mv (.k (.d (.str []))))] []
(.seq (sr [
tq 4 (.mv (kq 0))] []
(.block 0 (.loop [0,3,4] z47)))
(sr [
mq 27 3,
mq 2 27] [3,27]
.ret))))⟩
def zno:C:=
  (rg [
mq 7 17] [17])
def znp:C:=
  (.block 1 (sr [
mq 19 7,
tq 20 (cl zi3 [.t 19,.k (.d (.str [10]))]),
mq 18 20,
xq 21 18 0,
xq 22 18 1,
mq 8 21,
mq 9 22] [18,19,20,21,22]
(.seq (sr [
mq 23 9,
tq 24 (.un .not (.t 23))] [9,23]
(.cond (.t 24) (.seq (.reg true [
ld 25 5,
ld 26 6,
⟨none,none,.storeR 1 (.t 2) (.t 25) [6]⟩,
⟨none,none,.store 1 (.t 3) (.t 26)⟩,
⟨none,none,.store 1 (.t 4) (kq 28)⟩] [5,6,25,26])
.ret)
 .skip))
(sr [
mq 28 8,
ld 29 5,
tq 30 (.len .slc (.t 29)),
tq 31 (cl zkr [.t 28,.t 30]),
mq 27 31,
xq 32 27 0,
xq 33 27 1,
tq 10 (.alloc zac [.z (.int .i64 0),.z (.str []),.z (.list 0 []),.z (.list 0 []),.z (.str [])]),
⟨none,none,.store 5 (.t 10) (.t 32)⟩,
mq 11 33] [8,27,28,29,30,31,32,33]
(.seq (sr [
mq 34 11,
tq 35 (.bin .neq (.t 34) (kq 0))] [34]
(.cond (.t 35) (.seq (.reg true [
ld 36 5,
ld 37 6,
mq 38 11,
⟨none,none,.storeR 1 (.t 2) (.t 36) [6]⟩,
⟨none,none,.store 1 (.t 3) (.t 37)⟩,
⟨none,none,.store 1 (.t 4) (.t 38)⟩] [5,6,11,36,37,38])
.ret)
 .skip))
(sr [
ld 39 5,
lq 40 5 10,
tq 41 (.mkList 5 1 [.t 40]),
tq 42 (.append ⟨false,zac,5,88⟩ (.t 39) (.t 41)),
⟨none,none,.store 1 (.t 5) (.t 42)⟩] [5,10,39,40,41,42]
(rg [
ld 43 6,
mq 44 7,
tq 45 (.len .str (.t 44)),
tq 46 (.bin .add (.t 43) (.t 45)),
⟨none,none,.store 1 (.t 6) (.t 46)⟩] [6,7,43,44,45,46])))))))
def zx9:CF:=⟨[.cell 2 none,.cell 3 none,.cell 4 none],
  (sr [
tq 2 (.alloc zh4 [.own ⟨false,zac,5,88⟩]),
tq 3 (.alloc zbq [.z (.int .i64 0)]),
tq 4 (.alloc zxr [.z (.int .i64 0)])] []
(.seq (sr [
mq 12 0,
tq 13 (.len .str (.t 12)),
tq 14 (.bin .gtr (.t 13) (kq 1000000))] [12,13]
(.cond (.t 14) (sr [
⟨none,none,.store 1 (.t 2) (.k (.d (.list 0 [])))⟩,
⟨none,none,.store 1 (.t 3) (kq 0)⟩,
⟨none,none,.store 1 (.t 4) (kq 26)⟩] []
.ret)
 .skip))
(sr [
tq 5 (.alloc zh4 [.own ⟨false,zac,5,88⟩])] []
(sr [
tq 6 (.alloc zbq [.z (.int .i64 0)]),
⟨none,none,.store 1 (.t 6) (kq 0)⟩] []
(.seq (sr [
mq 15 0,
tq 16 (.call false false (.k (.fn zhr [] [])) [.t 15])] [0,15]
(.block 0 (.rangeFn 50 (.t 16) [17] zno znp)))
(.seq (.reg true [
ld 47 5,
ld 48 6,
⟨none,none,.storeR 1 (.t 2) (.t 47) [6]⟩,
⟨none,none,.store 1 (.t 3) (.t 48)⟩,
⟨none,none,.store 1 (.t 4) (kq 0)⟩] [5,6,47,48])
.ret))))))⟩
def z7w:CF:=⟨[.tmp 2],
  (sr [
tq 2 (.mv (.k (.d (.str []))))] [2]
(sr [
mq 3 0,
tq 4 (cl zle [.t 3]),
mq 2 4] [0,3,4]
.ret))⟩
def zzv:CF:=⟨[.tmp 2,.tmp 3],
  (sr [
tq 2 (.mv (.k (.d (.list 0 [])))),
tq 3 (.mv (kq 0))] [2,3]
(sr [
mq 7 0,
tq 8 (.call false false (.k (.fn zly [] [])) [.t 7]),
mq 6 8,
xq 9 6 0,
xq 10 6 1,
mq 4 9,
mq 5 10] [0,6,7,8,9,10]
(.seq (sr [
mq 11 5,
tq 12 (.bin .neq (.t 11) (kq 0))] [11]
(.cond (.t 12) (sr [
mq 13 5,
tq 2 (.mv (.k (.d (.list 0 [])))),
mq 3 13] [5,13]
.ret)
 .skip))
(sr [
mq 14 4,
tq 15 (.call true false (.k (.fn zbs [] [])) [.t 14]),
tq 16 (.call true true (.k (.fn zge [] [])) [.t 15,.k (.fn zo0 [] [])]),
mq 2 16,
tq 3 (.mv (kq 0))] [4,14,15,16]
.ret))))⟩
def zub:C:=
  (rg [
mq 32 6,
fa 33 0 7,
ld 34 33,
mq 35 6,
fa 36 0 7,
ld 37 36,
tq 38 (.lookup .str (.int .i64 0) false (.t 35) (.t 37)),
fa 39 1 7,
ld 40 39,
tq 41 (.minmax true [.t 38,.t 40]),
⟨none,none,.mapSet .str (.t 32) (.t 34) (.t 41)⟩] [7,32,33,34,35,36,37,38,39,40,41])
def zuc:C:=
  (sr [
mq 48 9,
tq 49 (.bin .gtr (.t 48) (kq 1000))] [9,48]
(.cond (.t 49) (sr [
tq 2 (.ownNil ⟨false,zey,2,40⟩),
tq 3 (.mv (kq 22))] []
.ret)
 .skip))
def zud:C:=
  (.seq (sr [
mq 60 14,
mq 61 6,
mq 62 12,
tq 63 (.lookup .str (.int .i64 0) false (.t 61) (.t 62)),
tq 64 (.bin .lss (.t 60) (.t 63))] [60,61,62,63]
(.cond (.t 64) .skip
 (.exit 6)))
(.seq (.block 7 (sr [
mq 68 4,
mq 69 12,
mq 70 14,
tq 71 (.build [.z (.str []),.z (.int .i64 0)] [(0,1,.t 69),(1,1,.t 70)]),
tq 72 (.lookup (.rc [true,false]) (.agg [.str [],.int .i64 0,.int .i64 0,.str []]) true (.t 68) (.t 71)),
mq 67 72,
xq 73 67 0,
xq 74 67 1,
tq 15 (.alloc zcs [.z (.str []),.z (.int .i64 0),.z (.int .i64 0),.z (.str [])]),
⟨none,none,.store 4 (.t 15) (.t 73)⟩,
mq 16 74] [15,67,68,69,70,71,72,73,74]
(sr [
mq 75 16,
tq 76 (.un .not (.t 75))] [16,75]
(.cond (.t 76) (rg [
fa 77 1 13,
ld 78 77,
mq 79 14,
tq 80 (.mkList 1 1 [.t 79]),
tq 81 (.append ⟨false,zbq,1,8⟩ (.t 78) (.t 80)),
fa 82 1 13,
⟨none,none,.store 1 (.t 82) (.t 81)⟩] [77,78,79,80,81,82])
 .skip))))
(rg [
mq 65 14,
tq 66 (.bin .add (.t 65) (kq 1)),
mq 14 66] [65,66])))
def zue:C:=
  (sr [
tq 55 (.bin .lss (.t 54) (.t 53))] []
(.seq (.cond (.t 55) .skip
 (.exit 4))
(.seq (.block 5 (sr [
tq 56 (.idxAddr 1 (.t 52) (.t 54)),
ld 57 56,
mq 12 57] [56,57]
(sr [
mq 58 12,
tq 59 (.build [.z (.str []),.own ⟨false,zbq,1,8⟩] [(0,1,.t 58)]),
tq 13 (.alloc zey [.z (.str []),.own ⟨false,zbq,1,8⟩]),
⟨none,none,.store 2 (.t 13) (.t 59)⟩] [58,59]
(.seq (sr [
tq 14 (.mv (kq 1))] []
(.block 6 (.loop [4,6,10,12,13,14,52,53,54] zud)))
(sr [
fa 83 1 13,
ld 84 83,
tq 85 (.len .slc (.t 84)),
tq 86 (.bin .gtr (.t 85) (kq 0))] [83,84,85]
(.cond (.t 86) (rg [
mq 87 10,
lq 88 2 13,
tq 89 (.mkList 2 1 [.t 88]),
tq 90 (.append ⟨false,zey,2,40⟩ (.t 87) (.t 89)),
mq 10 90] [13,87,88,89,90])
 .skip))))))
(rg [
tq 91 (.bin .add (.t 54) (kq 1)),
mq 54 91] [91]))))
def zx8:CF:=⟨[.tmp 2,.tmp 3],
  (sr [
tq 2 (.ownNil ⟨false,zey,2,40⟩),
tq 3 (.mv (kq 0))] [2,3]
(sr [
mq 18 0,
tq 19 (.call false false (.k (.fn zly [] [])) [.t 18]),
mq 17 19,
xq 20 17 0,
xq 21 17 1,
mq 4 20,
mq 5 21] [0,17,18,19,20,21]
(.seq (sr [
mq 22 5,
tq 23 (.bin .neq (.t 22) (kq 0))] [22]
(.cond (.t 23) (sr [
mq 24 5,
tq 2 (.ownNil ⟨false,zey,2,40⟩),
mq 3 24] [5,24]
.ret)
 .skip))
(sr [
tq 25 (.mkMap),
mq 6 25] [25]
(.seq (.rangeM [mq 26 4] 27 (.t 26) 0 1 30 [4,6,27] [xq 31 30 0,
tq 7 (.alloc zvn [.z (.str []),.z (.int .i64 0)]),
⟨none,none,.store 2 (.t 7) (.t 31)⟩] [30,31] zub)
(.seq (.rangeM [mq 42 6] 43 (.t 42) 2 3 46 [4,6,43] [xq 47 46 1,
mq 9 47] [46,47] zuc)
(sr [
tq 10 (.ownNil ⟨false,zey,2,40⟩)] []
(.seq (sr [
mq 50 6,
tq 51 (.call true false (.k (.fn zei [] [])) [.t 50]),
tq 52 (.call true true (.k (.fn zd0 [] [])) [.t 51]),
tq 53 (.len .slc (.t 52)),
tq 54 (.mv (kq 0))] [50,51]
(.block 4 (.loop [4,6,10,52,53,54] zue)))
(sr [
mq 92 10,
mq 2 92,
tq 3 (.mv (kq 0))] [10,92]
.ret)))))))))⟩
def zxu:C:=
  (sr [
tq 9 (.bin .lss (.t 8) (.t 7))] []
(.seq (.cond (.t 9) .skip
 (.exit 0))
(.seq (.block 1 (sr [
mq 10 8,
tq 11 (.idxAddr 1 (.t 6) (.t 8)),
ld 12 11,
mq 2 10,
mq 3 12] [10,11,12]
(sr [
mq 14 3,
tq 15 (cl zf2 [.t 14]),
mq 13 15,
xq 16 13 0,
xq 17 13 1,
tq 4 (.alloc zac [.z (.int .i64 0),.z (.str []),.z (.list 0 []),.z (.list 0 []),.z (.str [])]),
⟨none,none,.store 5 (.t 4) (.t 16)⟩,
mq 5 17] [3,5,13,14,15,16,17]
(sr [
mq 18 2,
tq 19 (.bin .add (.t 18) (kq 1)),
fa 20 0 4,
⟨none,none,.store 1 (.t 20) (.t 19)⟩] [2,18,19,20]
(rg [
mq 21 1,
lq 22 5 4,
tq 23 (.mkList 5 1 [.t 22]),
tq 24 (.append ⟨false,zac,5,88⟩ (.t 21) (.t 23)),
mq 1 24] [4,21,22,23,24])))))
(rg [
tq 25 (.bin .add (.t 8) (kq 1)),
mq 8 25] [25]))))
def z2e:CF:=⟨[.tmp 0],
  (sr [
tq 0 (.ownNil ⟨false,zac,5,88⟩)] [0]
(sr [
tq 1 (.ownNil ⟨false,zac,5,88⟩)] []
(.seq (sr [
tq 6 (cl zu5 []),
tq 7 (.len .slc (.t 6)),
tq 8 (.mv (kq 0))] []
(.block 0 (.loop [1,6,7,8] zxu)))
(sr [
mq 26 1,
mq 0 26] [1,26]
.ret))))⟩
def zzw:CF:=⟨[.tmp 8,.tmp 9],
  (sr [
tq 8 (.mv (kq 0)),
tq 9 (.mv (kq 0))] [8,9]
(sr [
mq 13 0,
mq 14 1,
tq 15 (cl zdi [.t 14]),
mq 16 2,
tq 17 (cl za1 [.t 16]),
mq 18 3,
tq 19 (cl za1 [.t 18]),
tq 20 (.mkList 1 3 [.t 15,.t 17,.t 19]),
tq 21 (.call false false (.k (.fn zdh [] [])) [.t 13,.t 20]),
mq 12 21,
xq 22 12 0,
xq 23 12 1,
mq 10 22,
mq 11 23] [0,12,13,14,15,16,17,18,19,20,21,22,23]
(.seq (sr [
mq 24 11,
tq 25 (.bin .neq (.t 24) (kq 0))] [24]
(.cond (.t 25) (sr [
mq 26 11,
tq 8 (.mv (kq 0)),
mq 9 26] [11,26]
.ret)
 .skip))
(sr [
mq 27 10,
mq 28 1,
mq 29 2,
mq 30 3,
tq 31 (.callQ (.k (.fn zba [] [])) [.t 27,.t 28,.t 29,.t 30]),
mq 8 31,
tq 9 (.mv (kq 0))] [1,2,3,10,27,28,29,30,31]
.ret))))⟩
def zwc:CF:=⟨[.tmp 4,.tmp 5],
  (sr [
tq 4 (.mv (.k (.d (.list 0 [])))),
tq 5 (.mv (kq 0))] [4,5]
(sr [
mq 9 0,
mq 10 1,
tq 11 (cl za1 [.t 10]),
tq 12 (.mkList 1 1 [.t 11]),
tq 13 (.call false false (.k (.fn zdh [] [])) [.t 9,.t 12]),
mq 8 13,
xq 14 8 0,
xq 15 8 1,
mq 6 14,
mq 7 15] [0,8,9,10,11,12,13,14,15]
(.seq (sr [
mq 16 7,
tq 17 (.bin .neq (.t 16) (kq 0))] [16]
(.cond (.t 17) (sr [
mq 18 7,
tq 4 (.mv (.k (.d (.list 0 [])))),
mq 5 18] [7,18]
.ret)
 .skip))
(sr [
mq 19 6,
mq 20 1,
tq 21 (.call true true (.k (.fn zcb [] [])) [.t 19,.t 20]),
mq 4 21,
tq 5 (.mv (kq 0))] [1,6,19,20,21]
.ret))))⟩
def zya:CF:=⟨[.tmp 4,.tmp 5],
  (sr [
tq 4 (.mv (.k (.d (.list 0 [])))),
tq 5 (.mv (kq 0))] [4,5]
(sr [
mq 9 0,
mq 10 1,
tq 11 (cl zdi [.t 10]),
tq 12 (.mkList 1 1 [.t 11]),
tq 13 (.call false false (.k (.fn zdh [] [])) [.t 9,.t 12]),
mq 8 13,
xq 14 8 0,
xq 15 8 1,
mq 6 14,
mq 7 15] [0,8,9,10,11,12,13,14,15]
(.seq (sr [
mq 16 7,
tq 17 (.bin .neq (.t 16) (kq 0))] [16]
(.cond (.t 17) (sr [
mq 18 7,
tq 4 (.mv (.k (.d (.list 0 [])))),
mq 5 18] [7,18]
.ret)
 .skip))
(sr [
mq 19 6,
mq 20 1,
tq 21 (.call true true (.k (.fn zci [] [])) [.t 19,.t 20]),
xq 22 21 0,
xq 23 21 1,
mq 4 22,
mq 5 23] [1,6,19,20,21,22,23]
.ret))))⟩
def zua:C:=
  (sr [
tq 31 (.bin .lss (.t 30) (.t 29))] []
(.seq (.cond (.t 31) .skip
 (.exit 0))
(.seq (.block 1 (sr [
tq 32 (.idxAddr 5 (.t 28) (.t 30)),
lq 33 5 32,
tq 13 (.alloc zac [.z (.int .i64 0),.z (.str []),.z (.list 0 []),.z (.list 0 []),.z (.str [])]),
⟨none,none,.store 5 (.t 13) (.t 33)⟩] [32,33]
(sr [
mq 34 8,
mq 35 1,
fa 36 3 13,
ld 37 36,
tq 38 (.idxAddr 1 (.t 37) (kq 0)),
ld 39 38,
mq 40 2,
tq 41 (.callQ (.k (.fn zba [] [])) [.t 34,.t 35,.t 39,.t 40]),
mq 14 41] [34,35,36,37,38,39,40,41]
(sr [
mq 42 14,
mq 43 11,
tq 44 (.bin .neq (.t 42) (.t 43))] [42,43]
(.cond (.t 44) (sr [
mq 45 10,
fa 46 3 13,
ld 47 46,
tq 48 (.idxAddr 1 (.t 47) (kq 0)),
ld 49 48,
mq 50 14,
tq 51 (.build [.z (.int .i64 0),.z (.int .i64 0)] [(0,1,.t 49),(1,1,.t 50)]),
tq 52 (.mkList 2 1 [.t 51]),
tq 53 (.append ⟨false,zis,2,16⟩ (.t 45) (.t 52)),
mq 10 53] [13,45,46,47,48,49,50,51,52,53]
(rg [
mq 54 14,
mq 11 54] [14,54]))
 .skip)))))
(rg [
tq 55 (.bin .add (.t 30) (kq 1)),
mq 30 55] [55]))))
def zx7:CF:=⟨[.tmp 6,.tmp 7],
  (sr [
tq 6 (.ownNil ⟨false,zis,2,16⟩),
tq 7 (.mv (kq 0))] [6,7]
(sr [
mq 16 0,
mq 17 1,
tq 18 (cl zdi [.t 17]),
mq 19 2,
tq 20 (cl za1 [.t 19]),
tq 21 (.mkList 1 2 [.t 18,.t 20]),
tq 22 (.call false false (.k (.fn zdh [] [])) [.t 16,.t 21]),
mq 15 22,
xq 23 15 0,
xq 24 15 1,
mq 8 23,
mq 9 24] [15,16,17,18,19,20,21,22,23,24]
(.seq (sr [
mq 25 9,
tq 26 (.bin .neq (.t 25) (kq 0))] [25]
(.cond (.t 26) (sr [
mq 27 9,
tq 6 (.ownNil ⟨false,zis,2,16⟩),
mq 7 27] [9,27]
.ret)
 .skip))
(sr [
tq 10 (.ownNil ⟨false,zis,2,16⟩)] []
(sr [
tq 11 (.mv (kq 1440))] []
(.seq (sr [
mq 28 0,
tq 29 (.len .slc (.t 28)),
tq 30 (.mv (kq 0))] [0]
(.block 0 (.loop [1,2,8,10,11,28,29,30] zua)))
(sr [
mq 56 10,
mq 6 56,
tq 7 (.mv (kq 0))] [10,56]
.ret)))))))⟩
def zr0:CF:=⟨[.tmp 10,.tmp 11],
  (sr [
tq 6 (.box zab (.t 1)),
tq 7 (.box zbq (.t 2)),
tq 8 (.box zbq (.t 3)),
tq 9 (.box zml (.t 4)),
tq 10 (.mv (.k (.d (.list 0 [])))),
tq 11 (.mv (kq 0))] [1,2,3,4,10,11]
(.seq (.reg true [
mq 16 0,
ld 17 6,
tq 18 (cl zdi [.t 17]),
ld 19 7,
tq 20 (cl za1 [.t 19]),
ld 21 8,
tq 22 (cl za1 [.t 21]),
lq 23 3 9,
tq 24 (cl zg8 [.t 23]),
tq 25 (.mkList 1 4 [.t 18,.t 20,.t 22,.t 24]),
tq 26 (.callN (.k (.fn zdh [] [])) [.t 16,.t 25]),
mq 15 26,
xq 27 15 0,
xq 28 15 1,
tq 12 (.alloc za3 [.z (.nilp)]),
⟨none,none,.store 1 (.t 12) (.t 27)⟩,
mq 13 28] [0,15,16,17,18,19,20,21,22,23,24,25,26,27,28])
(.seq (sr [
mq 29 13,
tq 30 (.bin .neq (.t 29) (kq 0))] [29]
(.cond (.t 30) (sr [
mq 31 13,
tq 10 (.mv (.k (.d (.list 0 [])))),
mq 11 31] [13,31]
.ret)
 .skip))
(sr [
lq 33 3 9,
tq 34 (cl zov [.t 33]),
mq 32 34,
xq 35 32 0,
xq 36 32 1,
mq 14 35,
mq 13 36] [9,32,33,34,35,36]
(.seq (sr [
mq 37 13,
tq 38 (.bin .neq (.t 37) (kq 0))] [37]
(.cond (.t 38) (sr [
mq 39 13,
tq 10 (.mv (.k (.d (.list 0 [])))),
mq 11 39] [13,39]
.ret)
 .skip))
(sr [
mq 40 14,
tq 41 (.mkFunc zkf [] [.t 12,.t 6,.t 7,.t 8]),
tq 42 (.call true true (.k (.fn zo1 [] [])) [.t 40,.t 41]),
mq 10 42,
tq 11 (.mv (kq 0))] [6,7,8,12,14,40,41,42]
.ret))))))⟩
def z5j:CF:=⟨[.tmp 6,.tmp 7],
  (sr [
tq 6 (.mv (.k (.d (.list 0 [])))),
tq 7 (.mv (kq 0))] [6,7]
(sr [
mq 11 0,
mq 12 1,
tq 13 (cl za1 [.t 12]),
mq 14 2,
tq 15 (cl za1 [.t 14]),
tq 16 (.mkList 1 2 [.t 13,.t 15]),
tq 17 (.call false false (.k (.fn zdh [] [])) [.t 11,.t 16]),
mq 10 17,
xq 18 10 0,
xq 19 10 1,
mq 8 18,
mq 9 19] [0,10,11,12,13,14,15,16,17,18,19]
(.seq (sr [
mq 20 9,
tq 21 (.bin .neq (.t 20) (kq 0))] [20]
(.cond (.t 21) (sr [
mq 22 9,
tq 6 (.mv (.k (.d (.list 0 [])))),
mq 7 22] [9,22]
.ret)
 .skip))
(sr [
mq 23 8,
mq 24 1,
mq 25 2,
tq 26 (.call true true (.k (.fn zcu [] [])) [.t 23,.t 24,.t 25]),
mq 6 26,
tq 7 (.mv (kq 0))] [1,2,8,23,24,25,26]
.ret))))⟩
def zsx:C:=
  (.seq (sr [
mq 11 5,
mq 12 0,
tq 13 (.len .slc (.t 12)),
tq 14 (.bin .lss (.t 11) (.t 13))] [11,12,13]
(.cond (.t 14) .skip
 (.exit 0)))
(.seq (.block 1 (.seq (.reg true [
mq 17 0,
mq 18 5,
tq 19 (.idxAddr 1 (.t 17) (.t 18)),
ld 20 19,
mq 21 1,
mq 22 5,
tq 23 (.idxAddr 1 (.t 21) (.t 22)),
ld 24 23,
tq 25 (.bin .neq (.t 20) (.t 24))] [17,18,19,20,21,22,23,24])
(.cond (.t 25) (sr [
tq 4 (.mv (.k (.d (.bool false))))] []
.ret)
 .skip)))
(rg [
mq 15 5,
tq 16 (.bin .add (.t 15) (kq 1)),
mq 5 16] [15,16])))
def zwi:CF:=⟨[.tmp 4],
  (sr [
tq 4 (.mv (.k (.d (.bool false))))] [4]
(.seq (sr [
mq 6 0,
tq 7 (.len .slc (.t 6)),
mq 8 1,
tq 9 (.len .slc (.t 8)),
tq 10 (.bin .neq (.t 7) (.t 9))] [6,7,8,9]
(.cond (.t 10) (sr [
tq 4 (.mv (.k (.d (.bool false))))] []
.ret)
 .skip))
(.seq (sr [
tq 5 (.mv (kq 0))] []
(.block 0 (.loop [0,1,5] zsx)))
(sr [
tq 4 (.mv (.k (.d (.bool true))))] []
.ret))))⟩
def zs0:C:=
  (.seq (sr [
mq 11 5,
mq 12 0,
tq 13 (.len .slc (.t 12)),
tq 14 (.bin .lss (.t 11) (.t 13))] [11,12,13]
(.cond (.t 14) .skip
 (.exit 0)))
(.seq (.block 1 (.seq (.reg true [
mq 17 0,
mq 18 5,
tq 19 (.idxAddr 2 (.t 17) (.t 18)),
lq 20 2 19,
mq 21 1,
mq 22 5,
tq 23 (.idxAddr 2 (.t 21) (.t 22)),
lq 24 2 23,
tq 25 (.eqv (some [.int,.int]) true (.t 20) (.t 24))] [17,18,19,20,21,22,23,24])
(.cond (.t 25) (sr [
tq 4 (.mv (.k (.d (.bool false))))] []
.ret)
 .skip)))
(rg [
mq 15 5,
tq 16 (.bin .add (.t 15) (kq 1)),
mq 5 16] [15,16])))
def zwl:CF:=⟨[.tmp 4],
  (sr [
tq 4 (.mv (.k (.d (.bool false))))] [4]
(.seq (sr [
mq 6 0,
tq 7 (.len .slc (.t 6)),
mq 8 1,
tq 9 (.len .slc (.t 8)),
tq 10 (.bin .neq (.t 7) (.t 9))] [6,7,8,9]
(.cond (.t 10) (sr [
tq 4 (.mv (.k (.d (.bool false))))] []
.ret)
 .skip))
(.seq (sr [
tq 5 (.mv (kq 0))] []
(.block 0 (.loop [0,1,5] zs0)))
(sr [
tq 4 (.mv (.k (.d (.bool true))))] []
.ret))))⟩
def zzj:C:=
  (sr [
tq 9 (.bin .lss (.t 8) (.t 7))] []
(.seq (.cond (.t 9) .skip
 (.exit 0))
(.seq (.block 1 (sr [
tq 10 (.idxAddr 2 (.t 6) (.t 8)),
lq 11 2 10,
tq 5 (.alloc zis [.z (.int .i64 0),.z (.int .i64 0)]),
⟨none,none,.store 2 (.t 5) (.t 11)⟩] [10,11]
(rg [
mq 12 3,
lq 13 2 5,
tq 14 (.mkList 2 1 [.t 13]),
tq 15 (.append ⟨false,zha,2,16⟩ (.t 12) (.t 14)),
mq 3 15] [5,12,13,14,15])))
(rg [
tq 16 (.bin .add (.t 8) (kq 1)),
mq 8 16] [16]))))
def z5h:CF:=⟨[.tmp 2],
  (sr [
tq 2 (.ownNil ⟨false,zha,2,16⟩)] [2]
(sr [
tq 3 (.ownNil ⟨false,zha,2,16⟩)] []
(.seq (sr [
mq 6 0,
tq 7 (.len .slc (.t 6)),
tq 8 (.mv (kq 0))] [0]
(.block 0 (.loop [3,6,7,8] zzj)))
(sr [
mq 17 3,
mq 2 17] [3,17]
.ret))))⟩
def zug:C:=
  (.seq (sr [
mq 11 5,
mq 12 0,
tq 13 (.len .slc (.t 12)),
tq 14 (.bin .lss (.t 11) (.t 13))] [11,12,13]
(.cond (.t 14) .skip
 (.exit 0)))
(.seq (.block 1 (.seq (.reg true [
mq 17 0,
mq 18 5,
tq 19 (.idxAddr 1 (.t 17) (.t 18)),
ld 20 19,
mq 21 1,
mq 22 5,
tq 23 (.idxAddr 1 (.t 21) (.t 22)),
ld 24 23,
tq 25 (.bin .neq (.t 20) (.t 24))] [17,18,19,20,21,22,23,24])
(.cond (.t 25) (sr [
tq 4 (.mv (.k (.d (.bool false))))] []
.ret)
 .skip)))
(rg [
mq 15 5,
tq 16 (.bin .add (.t 15) (kq 1)),
mq 5 16] [15,16])))
def zye:CF:=⟨[.tmp 4],
  (sr [
tq 4 (.mv (.k (.d (.bool false))))] [4]
(.seq (sr [
mq 6 0,
tq 7 (.len .slc (.t 6)),
mq 8 1,
tq 9 (.len .slc (.t 8)),
tq 10 (.bin .neq (.t 7) (.t 9))] [6,7,8,9]
(.cond (.t 10) (sr [
tq 4 (.mv (.k (.d (.bool false))))] []
.ret)
 .skip))
(.seq (sr [
tq 5 (.mv (kq 0))] []
(.block 0 (.loop [0,1,5] zug)))
(sr [
tq 4 (.mv (.k (.d (.bool true))))] []
.ret))))⟩
def zsz:C:=
  (.seq (sr [
mq 11 5,
mq 12 0,
tq 13 (.len .slc (.t 12)),
tq 14 (.bin .lss (.t 11) (.t 13))] [11,12,13]
(.cond (.t 14) .skip
 (.exit 0)))
(.seq (.block 1 (.seq (.reg true [
mq 17 0,
mq 18 5,
tq 19 (.idxAddr 2 (.t 17) (.t 18)),
lq 20 2 19,
mq 21 1,
mq 22 5,
tq 23 (.idxAddr 2 (.t 21) (.t 22)),
lq 24 2 23,
tq 25 (.eqv (some [.str,.int]) true (.t 20) (.t 24))] [17,18,19,20,21,22,23,24])
(.cond (.t 25) (sr [
tq 4 (.mv (.k (.d (.bool false))))] []
.ret)
 .skip)))
(rg [
mq 15 5,
tq 16 (.bin .add (.t 15) (kq 1)),
mq 5 16] [15,16])))
def zwk:CF:=⟨[.tmp 4],
  (sr [
tq 4 (.mv (.k (.d (.bool false))))] [4]
(.seq (sr [
mq 6 0,
tq 7 (.len .slc (.t 6)),
mq 8 1,
tq 9 (.len .slc (.t 8)),
tq 10 (.bin .neq (.t 7) (.t 9))] [6,7,8,9]
(.cond (.t 10) (sr [
tq 4 (.mv (.k (.d (.bool false))))] []
.ret)
 .skip))
(.seq (sr [
tq 5 (.mv (kq 0))] []
(.block 0 (.loop [0,1,5] zsz)))
(sr [
tq 4 (.mv (.k (.d (.bool true))))] []
.ret))))⟩
def zzi:C:=
  (sr [
tq 9 (.bin .lss (.t 8) (.t 7))] []
(.seq (.cond (.t 9) .skip
 (.exit 0))
(.seq (.block 1 (sr [
tq 10 (.idxAddr 2 (.t 6) (.t 8)),
lq 11 2 10,
tq 5 (.alloc zb7 [.z (.str []),.z (.int .i64 0)]),
⟨none,none,.store 2 (.t 5) (.t 11)⟩] [10,11]
(rg [
mq 12 3,
lq 13 2 5,
tq 14 (.mkList 2 1 [.t 13]),
tq 15 (.append ⟨false,zbk,2,24⟩ (.t 12) (.t 14)),
mq 3 15] [5,12,13,14,15])))
(rg [
tq 16 (.bin .add (.t 8) (kq 1)),
mq 8 16] [16]))))
def z5g:CF:=⟨[.tmp 2],
  (sr [
tq 2 (.ownNil ⟨false,zbk,2,24⟩)] [2]
(sr [
tq 3 (.ownNil ⟨false,zbk,2,24⟩)] []
(.seq (sr [
mq 6 0,
tq 7 (.len .slc (.t 6)),
tq 8 (.mv (kq 0))] [0]
(.block 0 (.loop [3,6,7,8] zzi)))
(sr [
mq 17 3,
mq 2 17] [3,17]
.ret))))⟩
def z7q:CF:=⟨[.tmp 0],
  (sr [
tq 0 (.mv (.k (.d (.nilp))))] [0]
(sr [
tq 1 (.build [.own ⟨false,zac,5,88⟩,.z (.int .i64 0),.own ⟨false,zae,8,96⟩,.own ⟨false,zam,2,24⟩,.own ⟨true,zai,5,48⟩] []),
tq 2 (.box zaa (.t 1)),
mq 0 2] [1,2]
.ret))⟩
def z48:C:=
  (.seq (sr [
mq 6 4,
mq 7 0,
tq 8 (.len .str (.t 7)),
tq 9 (.bin .lss (.t 6) (.t 8))] [6,7,8]
(.cond (.t 9) .skip
 (.exit 0)))
(.seq (.block 1 (rg [
mq 12 3,
tq 13 (.bin .mul (kq 281) (.t 12)),
mq 14 0,
mq 15 4,
tq 16 (.idxS (.t 14) (.t 15)),
tq 17 (.conv .i64 (.t 16)),
tq 18 (.bin .add (.t 13) (.t 17)),
tq 19 (.bin .rem (.t 18) (kq 9999943)),
mq 3 19] [12,13,14,15,16,17,18,19]))
(rg [
mq 10 4,
tq 11 (.bin .add (.t 10) (kq 1)),
mq 4 11] [10,11])))
def z49:C:=
  (.seq (sr [
mq 22 5,
tq 23 (.len .str (.t 22)),
tq 24 (.bin .lss (.t 23) (kq 7))] [22,23]
(.cond (.t 24) .skip
 (.exit 2)))
(.block 3 (rg [
mq 25 5,
tq 26 (.bin .add (.k (.d (.str [48]))) (.t 25)),
mq 5 26] [25,26])))
def yag:CF:=⟨[.tmp 2],
  (sr [
tq 2 (.mv (.k (.d (.str []))))] [2]
(sr [
tq 3 (.mv (kq 1))] []
(.seq (sr [
tq 4 (.mv (kq 0))] []
(.block 0 (.loop [0,3,4] z48)))
(sr [
mq 20 3,
tq 21 (cl zfw [.t 20]),
mq 5 21] [3,20,21]
(.seq (.block 2 (.loop [5] z49))
(sr [
mq 27 5,
mq 2 27] [5,27]
.ret))))))⟩
def z2s:CF:=⟨[.cell 2 (some 5),.tmp 3],
  (sr [
tq 2 (.alloc zac [.z (.int .i64 0),.z (.str []),.z (.list 0 []),.z (.list 0 []),.z (.str [])]),
tq 3 (.mv (kq 0))] [3]
(sr [
mq 11 0,
tq 12 (.len .str (.t 11)),
tq 13 (.bin .sub (.t 12) (kq 8)),
mq 4 13] [11,12,13]
(.seq (sr [
mq 14 4,
tq 15 (.bin .lss (.t 14) (kq 0)),
mq 16 15,
gq 17 16 false (.mv (.t 0)),
gq 18 16 false (.mv (.t 4)),
gq 19 16 false (.idxS (.t 17) (.t 18)),
gq 20 16 false (.bin .neq (.t 19) (.k (.d (.int .u8 35)))),
tq 21 (.pick (.t 16) (.k (.d (.bool true))) (.t 20)),
mq 22 21,
gq 23 22 false (.mv (.t 0)),
gq 24 22 false (.mv (.t 4)),
gq 25 22 false (.bin .add (.t 24) (kq 1)),
gq 26 22 false (.sliceS (.t 23) (some (.t 25)) none),
gq 27 22 false (cl zod [.t 26]),
gq 28 22 false (.un .not (.t 27)),
tq 29 (.pick (.t 22) (.k (.d (.bool true))) (.t 28))] [14,15,16,17,18,19,20,21,22,23,24,25,26,27,28]
(.cond (.t 29) (sr [
tq 30 (.build [.z (.int .i64 0),.z (.str []),.z (.list 0 []),.z (.list 0 []),.z (.str [])] []),
⟨none,none,.store 5 (.t 2) (.t 30)⟩,
tq 3 (.mv (kq 25))] [30]
.ret)
 .skip))
(sr [
mq 31 0,
mq 32 4,
tq 33 (.sliceS (.t 31) none (some (.t 32))),
mq 5 33] [31,32,33]
(.seq (.seq (.reg true [
mq 34 0,
mq 35 4,
tq 36 (.bin .add (.t 35) (kq 1)),
tq 37 (.sliceS (.t 34) (some (.t 36)) none),
mq 38 5,
tq 39 (cl zku [.t 38]),
tq 40 (.bin .neq (.t 37) (.t 39))] [0,4,34,35,36,37,38,39])
(.cond (.t 40) (sr [
tq 41 (.build [.z (.int .i64 0),.z (.str []),.z (.list 0 []),.z (.list 0 []),.z (.str [])] []),
⟨none,none,.store 5 (.t 2) (.t 41)⟩,
tq 3 (.mv (kq 27))] [41]
.ret)
 .skip))
(sr [
mq 42 5,
tq 43 (cl zmg [.t 42]),
mq 6 43] [42,43]
(sr [
mq 45 6,
tq 46 (.idxAddr 1 (.t 45) (kq 0)),
ld 47 46,
tq 48 (cl zhq [.t 47]),
mq 44 48,
xq 49 44 0,
xq 50 44 1,
mq 7 49,
mq 8 50] [44,45,46,47,48,49,50]
(.seq (sr [
mq 51 8,
tq 52 (.un .not (.t 51)),
mq 53 52,
gq 54 53 false (.mv (.t 6)),
gq 55 53 false (.len .slc (.t 54)),
gq 56 53 false (.bin .lss (.t 55) (kq 2)),
tq 57 (.pick (.t 53) (.k (.d (.bool true))) (.t 56))] [8,51,52,53,54,55,56]
(.cond (.t 57) (sr [
tq 58 (.build [.z (.int .i64 0),.z (.str []),.z (.list 0 []),.z (.list 0 []),.z (.str [])] []),
⟨none,none,.store 5 (.t 2) (.t 58)⟩,
tq 3 (.mv (kq 25))] [58]
.ret)
 .skip))
(sr [
mq 60 5,
mq 61 6,
tq 62 (.idxAddr 1 (.t 61) (kq 0)),
ld 63 62,
tq 64 (.len .str (.t 63)),
tq 65 (.bin .add (.t 64) (kq 1)),
tq 66 (.sliceS (.t 60) (some (.t 65)) none),
tq 67 (cl zf2 [.t 66]),
mq 59 67,
xq 68 59 0,
xq 69 59 1,
tq 9 (.alloc zac [.z (.int .i64 0),.z (.str []),.z (.list 0 []),.z (.list 0 []),.z (.str [])]),
⟨none,none,.store 5 (.t 9) (.t 68)⟩,
mq 10 69] [5,6,59,60,61,62,63,64,65,66,67,68,69]
(sr [
mq 70 7,
fa 71 0 9,
⟨none,none,.store 1 (.t 71) (.t 70)⟩] [7,70,71]
(.seq (sr [
mq 72 10,
tq 73 (.un .not (.t 72)),
mq 74 73,
gq 75 74 false (.load (some 5) (.t 9)),
gq 76 74 false (cl zeb [.t 75]),
gq 77 74 false (.bin .neq (.t 76) (kq 0)),
tq 78 (.pick (.t 74) (.k (.d (.bool true))) (.t 77))] [10,72,73,74,75,76,77]
(.cond (.t 78) (sr [
tq 79 (.build [.z (.int .i64 0),.z (.str []),.z (.list 0 []),.z (.list 0 []),.z (.str [])] []),
⟨none,none,.store 5 (.t 2) (.t 79)⟩,
tq 3 (.mv (kq 25))] [79]
.ret)
 .skip))
(sr [
lq 80 5 9,
⟨none,none,.store 5 (.t 2) (.t 80)⟩,
tq 3 (.mv (kq 0))] [9,80]
.ret))))))))))))⟩
def zvs:C:=
  (sr [
tq 17 (.bin .lss (.t 16) (.t 15))] []
(.seq (.cond (.t 17) .skip
 (.exit 0))
(.seq (.block 1 (sr [
mq 18 16,
tq 19 (.idxAddr 5 (.t 14) (.t 16)),
lq 20 5 19,
tq 7 (.alloc zac [.z (.int .i64 0),.z (.str []),.z (.list 0 []),.z (.list 0 []),.z (.str [])]),
mq 6 18,
⟨none,none,.store 5 (.t 7) (.t 20)⟩] [18,19,20]
(sr [
lq 21 5 7,
tq 22 (cl zc9 [.t 21]),
mq 8 22] [21,22]
(.seq (sr [
mq 23 8,
tq 24 (.bin .eql (.t 23) (kq 0))] [23]
(.cond (.t 24) (rg [
mq 25 5,
lq 26 5 7,
tq 27 (.callQ (.k (.fn zas [] [])) [.t 25,.t 26]),
mq 8 27] [25,26,27])
 .skip))
(.seq (sr [
mq 28 8,
tq 29 (.bin .neq (.t 28) (kq 0))] [28]
(.cond (.t 29) (sr [
mq 30 6,
tq 31 (.bin .add (.t 30) (kq 1)),
mq 32 8,
tq 2 (.mv (.k (.d (.nilp)))),
mq 3 31,
mq 4 32] [6,8,30,31,32]
.ret)
 .skip))
(rg [
mq 33 5,
lq 34 5 7,
tq 35 (.call true true (.k (.fn zaj [] [])) [.t 33,.t 34])] [7,33,34,35]))))))
(rg [
tq 36 (.bin .add (.t 16) (kq 1)),
mq 16 36] [36]))))
def zzz:CF:=⟨[.tmp 2,.tmp 3,.tmp 4],
  (sr [
tq 2 (.mv (.k (.d (.nilp)))),
tq 3 (.mv (kq 0)),
tq 4 (.mv (kq 0))] [2,3,4]
(.seq (sr [
mq 9 0,
tq 10 (.len .slc (.t 9)),
tq 11 (.bin .gtr (.t 10) (kq 1000))] [9,10]
(.cond (.t 11) (sr [
tq 2 (.mv (.k (.d (.nilp)))),
tq 3 (.mv (kq 0)),
tq 4 (.mv (kq 5))] []
.ret)
 .skip))
(sr [
tq 12 (.build [.own ⟨false,zac,5,88⟩,.z (.int .i64 0),.own ⟨false,zae,8,96⟩,.own ⟨false,zam,2,24⟩,.own ⟨true,zai,5,48⟩] []),
tq 13 (.box zgh (.t 12)),
mq 5 13] [12,13]
(.seq (sr [
mq 14 0,
tq 15 (.len .slc (.t 14)),
tq 16 (.mv (kq 0))] [0]
(.block 0 (.loop [5,14,15,16] zvs)))
(sr [
mq 37 5,
mq 2 37,
tq 3 (.mv (kq 0)),
tq 4 (.mv (kq 0))] [5,37]
.ret)))))⟩
def zrw:C:=
  (.seq (sr [
mq 29 4,
fa 30 0 3,
ld 31 30,
tq 32 (.bin .lss (.t 29) (.t 31))] [29,30,31]
(.cond (.t 32) .skip
 (.exit 0)))
(.seq (.block 1 (sr [
fa 35 2 1,
ld 36 35,
mq 37 4,
tq 38 (.idxAddr 1 (.t 36) (.t 37)),
ld 39 38,
tq 40 (cl zio [.t 39]),
tq 41 (.un .not (.t 40))] [35,36,37,38,39,40]
(.cond (.t 41) (sr [
tq 2 (.mv (kq 8))] []
.ret)
 .skip)))
(rg [
mq 33 4,
tq 34 (.bin .add (.t 33) (kq 1)),
mq 4 34] [33,34])))
def zrx:C:=
  (.seq (sr [
mq 42 5,
fa 43 1 3,
ld 44 43,
tq 45 (.bin .lss (.t 42) (.t 44))] [42,43,44]
(.cond (.t 45) .skip
 (.exit 2)))
(.seq (.block 3 (sr [
fa 48 3 1,
ld 49 48,
mq 50 5,
tq 51 (.idxAddr 1 (.t 49) (.t 50)),
ld 52 51,
tq 53 (cl zgd [.t 52,kq 0,kq 999999999])] [48,49,50,51,52]
(.cond (.t 53) (sr [
tq 2 (.mv (kq 3))] []
.ret)
 .skip)))
(rg [
mq 46 5,
tq 47 (.bin .add (.t 46) (kq 1)),
mq 5 47] [46,47])))
def zun:CF:=⟨[.tmp 2],
  (sr [
tq 1 (.box zac (.t 0)),
tq 2 (.mv (kq 0))] [0,2]
(.seq (sr [
fa 6 0 1,
ld 7 6,
tq 8 (cl zgd [.t 7,kq 1,kq 1000])] [6,7]
(.cond (.t 8) (sr [
tq 2 (.mv (kq 3))] []
.ret)
 .skip))
(sr [
fa 9 1 1,
ld 10 9,
tq 11 (cl zja [.t 10]),
tq 3 (.alloc zff [.z (.int .i64 0),.z (.int .i64 0),.z (.bool false)]),
⟨none,none,.store 3 (.t 3) (.t 11)⟩] [9,10,11]
(.seq (sr [
fa 12 2 3,
ld 13 12,
tq 14 (.un .not (.t 13))] [12,13]
(.cond (.t 14) (sr [
tq 2 (.mv (kq 13))] []
.ret)
 .skip))
(.seq (sr [
fa 15 2 1,
ld 16 15,
tq 17 (.len .slc (.t 16)),
fa 18 0 3,
ld 19 18,
tq 20 (.bin .neq (.t 17) (.t 19)),
mq 21 20,
gq 22 21 false (.fieldAddr 3 (.t 1)),
gq 23 21 false (.load none (.t 22)),
gq 24 21 false (.len .slc (.t 23)),
gq 25 21 false (.fieldAddr 1 (.t 3)),
gq 26 21 false (.load none (.t 25)),
gq 27 21 false (.bin .neq (.t 24) (.t 26)),
tq 28 (.pick (.t 21) (.k (.d (.bool true))) (.t 27))] [15,16,17,18,19,20,21,22,23,24,25,26,27]
(.cond (.t 28) (sr [
tq 2 (.mv (kq 2))] []
.ret)
 .skip))
(.seq (sr [
tq 4 (.mv (kq 0))] []
(.block 0 (.loop [1,3,4] zrw)))
(.seq (sr [
tq 5 (.mv (kq 0))] []
(.block 2 (.loop [1,3,5] zrx)))
(.seq (sr [
fa 54 4 1,
ld 55 54,
tq 56 (.bin .neq (.t 55) (.k (.d (.str []))))] [1,54,55]
(.cond (.t 56) (sr [
tq 2 (.mv (kq 1))] []
.ret)
 .skip))
(sr [
tq 2 (.mv (kq 0))] []
.ret)))))))))⟩
def zz8:CF:=⟨[.tmp 4],
  (sr [
tq 2 (.box zaf (.t 0)),
tq 3 (.box zac (.t 1)),
tq 4 (.mv (kq 0))] [0,1,4]
(sr [
fa 9 3 3,
ld 10 9,
tq 11 (.idxAddr 1 (.t 10) (kq 0)),
ld 12 11,
mq 5 12] [9,10,11,12]
(.seq (sr [
mq 13 5,
fa 14 0 2,
ld 15 14,
tq 16 (.bin .lss (.t 13) (.t 15))] [13,14,15]
(.cond (.t 16) (sr [
tq 4 (.mv (kq 19))] []
.ret)
 .skip))
(.seq (sr [
mq 17 5,
tq 18 (.bin .gtr (.t 17) (kq 99999))] [17]
(.cond (.t 18) (sr [
tq 4 (.mv (kq 3))] []
.ret)
 .skip))
(.seq (sr [
fa 19 1 3,
ld 20 19] [19]
(.block 0 (.seq (sr [
tq 22 (.bin .eql (.t 20) (.k (.d (.str [101,110,116,101,114])))),
mq 21 22] [22]
(.cond (.t 21) .skip
 (sr [
tq 23 (.bin .eql (.t 20) (.k (.d (.str [114,117,108,101])))),
mq 21 23] [23]
(.cond (.t 21) .skip
 (rg [
tq 24 (.bin .eql (.t 20) (.k (.d (.str [102,111,108,108,111,119])))),
mq 21 24] [24])))))
(.cond (.t 21) (sr [
lq 25 4 2,
lq 26 5 3,
tq 27 (cl zf5 [.t 25,.t 26]),
mq 4 27] [2,3,25,26,27]
.ret)
 (sr [
tq 29 (.bin .eql (.t 20) (.k (.d (.str [114,101,118,101,114,115,101])))),
mq 28 29] [29]
(.cond (.t 28) (.seq (.reg true [
lq 30 4 2,
fa 31 2 3,
ld 32 31,
tq 33 (.idxAddr 1 (.t 32) (kq 0)),
ld 34 33,
tq 35 (cl zc3 [.t 30,.t 34]),
mq 6 35] [3,30,31,32,33,34,35])
(.seq (sr [
mq 36 6,
tq 37 (.bin .lss (.t 36) (kq 0))] [36]
(.cond (.t 37) (sr [
tq 4 (.mv (kq 10))] []
.ret)
 .skip))
(.seq (sr [
fa 38 1 2,
ld 39 38,
mq 40 6,
tq 41 (.idxAddr 8 (.t 39) (.t 40)),
fa 42 1 41,
ld 43 42,
tq 44 (.bin .neq (.t 43) (.k (.d (.str [114,117,108,101]))))] [38,39,40,41,42,43]
(.cond (.t 44) (sr [
tq 4 (.mv (kq 13))] []
.ret)
 .skip))
(sr [
lq 45 4 2,
mq 46 6,
mq 47 5,
tq 48 (cl zeu [.t 45,.t 46,.t 47]),
tq 49 (.un .not (.t 48))] [2,5,6,45,46,47,48]
(.cond (.t 49) (sr [
tq 4 (.mv (kq 20))] []
.ret)
 .skip)))))
 (sr [
tq 51 (.bin .eql (.t 20) (.k (.d (.str [99,111,109,112,108,97,105,110])))),
mq 50 51] [51]
(.cond (.t 50) (.seq (.seq (.reg true [
lq 52 4 2,
fa 53 2 3,
ld 54 53,
tq 55 (.idxAddr 1 (.t 54) (kq 0)),
ld 56 55,
tq 57 (cl zda [.t 52,.t 56]),
tq 58 (.bin .geq (.t 57) (kq 0))] [52,53,54,55,56,57])
(.cond (.t 58) (sr [
tq 4 (.mv (kq 9))] []
.ret)
 .skip))
(.seq (sr [
fa 59 3 2,
ld 60 59,
tq 61 (.len .slc (.t 60)),
tq 62 (.bin .geq (.t 61) (kq 64))] [59,60,61]
(.cond (.t 62) (sr [
tq 4 (.mv (kq 5))] []
.ret)
 .skip))
(.seq (.reg true [
lq 63 4 2,
fa 64 2 3,
ld 65 64,
tq 66 (.idxAddr 1 (.t 65) (kq 1)),
ld 67 66,
tq 68 (cl zc3 [.t 63,.t 67]),
mq 7 68] [3,63,64,65,66,67,68])
(.seq (sr [
mq 69 7,
tq 70 (.bin .lss (.t 69) (kq 0))] [69]
(.cond (.t 70) (sr [
tq 4 (.mv (kq 10))] []
.ret)
 .skip))
(sr [
lq 71 4 2,
mq 72 7,
mq 73 5,
tq 74 (cl zeu [.t 71,.t 72,.t 73]),
tq 75 (.un .not (.t 74))] [2,5,7,71,72,73,74]
(.cond (.t 75) (sr [
tq 4 (.mv (kq 20))] []
.ret)
 .skip))))))
 (sr [
tq 77 (.bin .eql (.t 20) (.k (.d (.str [100,101,99,105,100,101])))),
mq 76 77] [20,77]
(.cond (.t 76) (.seq (.reg true [
lq 78 4 2,
fa 79 2 3,
ld 80 79,
tq 81 (.idxAddr 1 (.t 80) (kq 0)),
ld 82 81,
tq 83 (cl zda [.t 78,.t 82]),
mq 8 83] [78,79,80,81,82,83])
(.seq (sr [
mq 84 8,
tq 85 (.bin .lss (.t 84) (kq 0))] [84]
(.cond (.t 85) (sr [
tq 4 (.mv (kq 10))] []
.ret)
 .skip))
(.seq (sr [
fa 86 3 2,
ld 87 86,
mq 88 8,
tq 89 (.idxAddr 5 (.t 87) (.t 88)),
fa 90 3 89,
ld 91 90] [2,8,86,87,88,89,90]
(.cond (.t 91) (sr [
tq 4 (.mv (kq 20))] []
.ret)
 .skip))
(sr [
fa 92 3 3,
ld 93 92,
tq 94 (.idxAddr 1 (.t 93) (kq 1)),
ld 95 94,
tq 96 (.bin .gtr (.t 95) (kq 1))] [3,92,93,94,95]
(.cond (.t 96) (sr [
tq 4 (.mv (kq 3))] []
.ret)
 .skip)))))
 .skip))))))))))
(sr [
tq 4 (.mv (kq 0))] []
.ret))))))⟩
def z5r:CF:=⟨[.cell 4 (some 4)],
  (sr [
tq 2 (.box zaf (.t 0)),
tq 3 (.box zac (.t 1)),
tq 4 (.alloc zaf [.z (.int .i64 0),.own ⟨false,zbv,8,96⟩,.own ⟨false,zbf,2,24⟩,.own ⟨true,za8,5,48⟩])] [0,1]
(sr [
fa 8 3 3,
ld 9 8,
tq 10 (.idxAddr 1 (.t 9) (kq 0)),
ld 11 10,
fa 12 0 2,
⟨none,none,.store 1 (.t 12) (.t 11)⟩] [8,9,10,11,12]
(.seq (sr [
fa 13 1 3,
ld 14 13] [13]
(.block 0 (.seq (sr [
tq 16 (.bin .eql (.t 14) (.k (.d (.str [101,110,116,101,114])))),
mq 15 16] [16]
(.cond (.t 15) .skip
 (sr [
tq 17 (.bin .eql (.t 14) (.k (.d (.str [114,117,108,101])))),
mq 15 17] [17]
(.cond (.t 15) .skip
 (rg [
tq 18 (.bin .eql (.t 14) (.k (.d (.str [102,111,108,108,111,119])))),
mq 15 18] [18])))))
(.cond (.t 15) (.seq (.reg true [
fa 19 2 3,
ld 20 19,
tq 21 (.idxAddr 1 (.t 20) (kq 0)),
ld 22 21,
fa 23 1 3,
ld 24 23,
fa 25 2 3,
ld 26 25,
tq 27 (.idxAddr 1 (.t 26) (kq 1)),
ld 28 27,
fa 29 3 3,
ld 30 29,
tq 31 (.idxAddr 1 (.t 30) (kq 0)),
ld 32 31,
fa 33 3 3,
ld 34 33,
tq 35 (.idxAddr 1 (.t 34) (kq 1)),
ld 36 35,
fa 37 3 3,
ld 38 37,
tq 39 (.idxAddr 1 (.t 38) (kq 2)),
ld 40 39,
fa 41 3 3,
ld 42 41,
tq 43 (.idxAddr 1 (.t 42) (kq 3)),
ld 44 43,
tq 45 (.build [.z (.str []),.z (.str []),.z (.str []),.z (.str []),.z (.int .i64 0),.z (.int .i64 0),.z (.int .i64 0),.z (.int .i64 0)] [(0,1,.t 22),(1,1,.t 24),(2,1,.t 28),(4,1,.t 32),(5,1,.t 36),(6,1,.t 40),(7,1,.t 44)]),
tq 5 (.alloc zbv [.z (.str []),.z (.str []),.z (.str []),.z (.str []),.z (.int .i64 0),.z (.int .i64 0),.z (.int .i64 0),.z (.int .i64 0)]),
⟨none,none,.store 8 (.t 5) (.t 45)⟩] [19,20,21,22,23,24,25,26,27,28,29,30,31,32,33,34,35,36,37,38,39,40,41,42,43,44,45])
(.seq (sr [
fa 46 1 3,
ld 47 46,
tq 48 (.bin .eql (.t 47) (.k (.d (.str [102,111,108,108,111,119]))))] [46,47]
(.cond (.t 48) (rg [
fa 49 2 3,
ld 50 49,
tq 51 (.idxAddr 1 (.t 50) (kq 2)),
ld 52 51,
fa 53 3 5,
⟨none,none,.store 1 (.t 53) (.t 52)⟩] [3,49,50,51,52,53])
 .skip))
(.regC [
tq 54 (.mkRow ⟨false,zbv,8,96⟩ 0 []),
fa 55 1 2,
ld 56 55,
tq 57 (.append ⟨false,zbv,8,96⟩ (.t 54) (.t 56)),
lq 58 8 5,
tq 59 (.mkListD 8 1 [.t 58]),
tq 60 (.append ⟨false,zbv,8,96⟩ (.t 57) (.t 59)),
fa 61 1 2,
⟨none,none,.store 1 (.t 61) (.t 60)⟩] [5,54,55,56,57,58,59,60,61] [(5,57)])))
 (sr [
tq 63 (.bin .eql (.t 14) (.k (.d (.str [114,101,118,101,114,115,101])))),
mq 62 63] [63]
(.cond (.t 62) (.regC [
tq 64 (.mkRow ⟨false,zbf,2,24⟩ 0 []),
fa 65 2 2,
ld 66 65,
tq 67 (.append ⟨false,zbf,2,24⟩ (.t 64) (.t 66)),
fa 68 2 3,
ld 69 68,
tq 70 (.idxAddr 1 (.t 69) (kq 0)),
ld 71 70,
fa 72 3 3,
ld 73 72,
tq 74 (.idxAddr 1 (.t 73) (kq 0)),
ld 75 74,
tq 76 (.build [.z (.str []),.z (.int .i64 0)] [(0,1,.t 71),(1,1,.t 75)]),
tq 77 (.mkListD 2 1 [.t 76]),
tq 78 (.append ⟨false,zbf,2,24⟩ (.t 67) (.t 77)),
fa 79 2 2,
⟨none,none,.store 1 (.t 79) (.t 78)⟩] [3,64,65,66,67,68,69,70,71,72,73,74,75,76,77,78,79] [(3,67),(68,67),(69,67),(70,67),(72,67),(73,67),(74,67)])
 (sr [
tq 81 (.bin .eql (.t 14) (.k (.d (.str [99,111,109,112,108,97,105,110])))),
mq 80 81] [81]
(.cond (.t 80) (.regC [
tq 82 (.mkRow ⟨true,za8,5,48⟩ 0 []),
fa 83 3 2,
ld 84 83,
tq 85 (.append ⟨true,za8,5,48⟩ (.t 82) (.t 84)),
fa 86 2 3,
ld 87 86,
tq 88 (.idxAddr 1 (.t 87) (kq 0)),
ld 89 88,
fa 90 2 3,
ld 91 90,
tq 92 (.idxAddr 1 (.t 91) (kq 1)),
ld 93 92,
fa 94 3 3,
ld 95 94,
tq 96 (.idxAddr 1 (.t 95) (kq 0)),
ld 97 96,
tq 98 (.build [.z (.str []),.z (.str []),.z (.int .i64 0),.z (.bool false),.z (.bool false)] [(0,1,.t 89),(1,1,.t 93),(2,1,.t 97)]),
tq 99 (.mkListD 5 1 [.t 98]),
tq 100 (.append ⟨true,za8,5,48⟩ (.t 85) (.t 99)),
fa 101 3 2,
⟨none,none,.store 1 (.t 101) (.t 100)⟩] [3,82,83,84,85,86,87,88,89,90,91,92,93,94,95,96,97,98,99,100,101] [(3,85),(86,85),(87,85),(88,85),(90,85),(91,85),(92,85),(94,85),(95,85),(96,85)])
 (sr [
tq 103 (.bin .eql (.t 14) (.k (.d (.str [100,101,99,105,100,101])))),
mq 102 103] [14,103]
(.cond (.t 102) (.seq (.reg true [
lq 104 4 2,
fa 105 2 3,
ld 106 105,
tq 107 (.idxAddr 1 (.t 106) (kq 0)),
ld 108 107,
tq 109 (.call true true (.k (.fn zda [] [])) [.t 104,.t 108]),
mq 6 109] [104,105,106,107,108,109])
(sr [
fa 110 3 2,
ld 111 110,
mq 112 6,
tq 113 (.idxAddr 5 (.t 111) (.t 112)),
lq 114 5 113,
tq 7 (.alloc za8 [.z (.str []),.z (.str []),.z (.int .i64 0),.z (.bool false),.z (.bool false)]),
⟨none,none,.store 5 (.t 7) (.t 114)⟩] [110,111,112,113,114]
(.seq (.reg true [
fa 115 3 3,
ld 116 115,
tq 117 (.idxAddrD 1 (.t 116) (kq 1)),
tq 118 (.loadD none (.t 117)),
tq 119 (.bin .eql (.t 118) (kq 1)),
fa 120 3 7,
⟨none,none,.storeR 1 (.t 120) (.k (.d (.bool true))) [3]⟩,
fa 121 4 7,
⟨none,none,.store 1 (.t 121) (.t 119)⟩] [115,116,117,118,119,120,121])
(sr [
tq 122 (.mkRow ⟨true,za8,5,48⟩ 0 []),
fa 123 3 2,
ld 124 123,
tq 125 (.append ⟨true,za8,5,48⟩ (.t 122) (.t 124)),
fa 126 3 2,
⟨none,none,.store 1 (.t 126) (.t 125)⟩] [122,123,124,125,126]
(sr [
fa 127 3 2,
ld 128 127,
mq 129 6,
lq 130 5 7,
tq 131 (.idxAddr 5 (.t 128) (.t 129)),
⟨none,none,.store 5 (.t 131) (.t 130)⟩] [6,127,128,129,130,131]
(sr [
fa 132 4 7,
ld 133 132] [132]
(.cond (.t 133) (.regC [
tq 134 (.mkRow ⟨false,zbf,2,24⟩ 0 []),
fa 135 2 2,
ld 136 135,
tq 137 (.append ⟨false,zbf,2,24⟩ (.t 134) (.t 136)),
fa 138 1 7,
ld 139 138,
fa 140 3 3,
ld 141 140,
tq 142 (.idxAddr 1 (.t 141) (kq 0)),
ld 143 142,
tq 144 (.build [.z (.str []),.z (.int .i64 0)] [(0,1,.t 139),(1,1,.t 143)]),
tq 145 (.mkListD 2 1 [.t 144]),
tq 146 (.append ⟨false,zbf,2,24⟩ (.t 137) (.t 145)),
fa 147 2 2,
⟨none,none,.store 1 (.t 147) (.t 146)⟩] [3,7,134,135,136,137,138,139,140,141,142,143,144,145,146,147] [(7,137),(138,137),(3,137),(140,137),(141,137),(142,137)])
 .skip)))))))
 .skip))))))))))
(sr [
lq 148 4 2,
⟨none,none,.store 4 (.t 4) (.t 148)⟩] [2,148]
.ret))))⟩
def z2m:CF:=⟨[.tmp 2],
  (sr [
tq 2 (.mv (.k (.d (.bool false))))] [2]
(sr [
mq 3 0,
tq 4 (cl zja [.t 3]),
tq 5 (.field 2 none (.t 4)),
mq 2 5] [0,3,4,5]
.ret))⟩
def zzd:C:=
  (sr [
tq 42 (.bin .lss (.t 41) (.t 40))] []
(.seq (.cond (.t 42) .skip
 (.exit 0))
(.seq (.block 1 (sr [
mq 43 41,
tq 44 (.idxAddr 1 (.t 39) (.t 41)),
ld 45 44,
mq 9 43,
mq 10 45] [43,44,45]
(.seq (sr [
mq 46 10,
tq 47 (.bin .eql (.t 46) (.k (.d (.str []))))] [46]
(.cond (.t 47) (sr [
tq 4 (.mv (.k (.d (.str [])))),
tq 5 (.mv (kq 25))] []
.ret)
 .skip))
(sr [
mq 48 6,
tq 49 (.idxAddr 1 (.t 48) (kq 0)),
ld 50 49,
tq 51 (.bin .eql (.t 50) (.k (.d (.str [114,101,115,116,115])))),
mq 52 51,
gq 53 52 false (.mv (.t 6)),
gq 54 52 false (.idxAddr 1 (.t 53) (kq 0)),
gq 55 52 false (.load none (.t 54)),
gq 56 52 false (.bin .eql (.t 55) (.k (.d (.str [115,108,111,116])))),
gq 57 52 false (.mv (.t 56)),
gq 58 57 true (.mv (.t 9)),
gq 59 57 true (.bin .eql (.t 58) (kq 1)),
gq 60 52 false (.pick (.t 57) (.t 59) (.k (.d (.bool false)))),
tq 61 (.pick (.t 52) (.k (.d (.bool true))) (.t 60)),
mq 11 61] [48,49,50,51,52,53,54,55,56,57,58,59,60,61]
(.seq (sr [
mq 62 9,
tq 63 (.bin .eql (.t 62) (kq 0)),
mq 64 63,
gq 65 64 false (.mv (.t 11)),
tq 66 (.pick (.t 64) (.k (.d (.bool true))) (.t 65))] [9,11,62,63,64,65]
(.cond (.t 66) (.exit 1)
 .skip))
(sr [
mq 68 10,
tq 69 (cl zhq [.t 68]),
mq 67 69,
xq 70 67 0,
xq 71 67 1,
mq 12 70,
mq 13 71] [10,67,68,69,70,71]
(.seq (sr [
mq 72 13,
tq 73 (.un .not (.t 72))] [13,72]
(.cond (.t 73) (sr [
tq 4 (.mv (.k (.d (.str [])))),
tq 5 (.mv (kq 25))] []
.ret)
 .skip))
(rg [
mq 74 8,
mq 75 12,
tq 76 (.mkList 1 1 [.t 75]),
tq 77 (.append ⟨false,zbq,1,8⟩ (.t 74) (.t 76)),
mq 8 77] [12,74,75,76,77]))))))))
(rg [
tq 78 (.bin .add (.t 41) (kq 1)),
mq 41 78] [78]))))
def zze:C:=
  (sr [
tq 135 (.bin .lss (.t 134) (.t 133))] []
(.seq (.cond (.t 135) .skip
 (.exit 3))
(.seq (.block 4 (sr [
tq 136 (.idxAddr 2 (.t 132) (.t 134)),
lq 137 2 136,
tq 22 (.alloc zbk [.z (.str []),.z (.int .i64 0)]),
⟨none,none,.store 2 (.t 22) (.t 137)⟩] [136,137]
(.reg true [
mq 138 20,
fa 139 0 22,
ld 140 139,
fa 141 1 22,
ld 142 141,
tq 143 (cl zfw [.t 142]),
tq 144 (.mkList 1 2 [.t 140,.t 143]),
tq 145 (.append ⟨false,zab,1,16⟩ (.t 138) (.t 144)),
mq 20 145] [22,138,139,140,141,142,143,144,145])))
(rg [
tq 146 (.bin .add (.t 134) (kq 1)),
mq 134 146] [146]))))
def z5c:CF:=⟨[.tmp 4,.tmp 5],
  (sr [
tq 4 (.mv (.k (.d (.str [])))),
tq 5 (.mv (kq 0))] [4,5]
(sr [
mq 25 1,
tq 26 (cl n_strings_Split [.t 25,.k (.d (.str [32]))]),
mq 6 26] [1,25,26]
(sr [
tq 27 (.mkMap),
⟨none,none,.mapSet .str (.t 27) (.k (.d (.str [115,108,111,116]))) (kq 4)⟩,
⟨none,none,.mapSet .str (.t 27) (.k (.d (.str [100,97,121]))) (kq 3)⟩,
⟨none,none,.mapSet .str (.t 27) (.k (.d (.str [99,111,117,110,116,115]))) (kq 2)⟩,
⟨none,none,.mapSet .str (.t 27) (.k (.d (.str [114,101,115,116,115]))) (kq 2)⟩,
⟨none,none,.mapSet .str (.t 27) (.k (.d (.str [111,112,101,110]))) (kq 1)⟩,
mq 28 27,
mq 29 6,
tq 30 (.idxAddr 1 (.t 29) (kq 0)),
ld 31 30,
tq 32 (.lookup .str (.int .i64 0) false (.t 28) (.t 31)),
mq 7 32] [27,28,29,30,31,32]
(.seq (sr [
mq 33 7,
tq 34 (.bin .eql (.t 33) (kq 0))] [33]
(.cond (.t 34) (sr [
tq 4 (.mv (.k (.d (.str [])))),
tq 5 (.mv (kq 13))] []
.ret)
 .skip))
(.seq (sr [
mq 35 6,
tq 36 (.len .slc (.t 35)),
mq 37 7,
tq 38 (.bin .neq (.t 36) (.t 37))] [7,35,36,37]
(.cond (.t 38) (sr [
tq 4 (.mv (.k (.d (.str [])))),
tq 5 (.mv (kq 25))] []
.ret)
 .skip))
(sr [
tq 8 (.ownNil ⟨false,zbq,1,8⟩)] []
(.seq (sr [
mq 39 6,
tq 40 (.len .slc (.t 39)),
tq 41 (.mv (kq 0))] []
(.block 0 (.loop [0,6,8,39,40,41] zzd)))
(sr [
mq 80 0,
tq 81 (cl zcr [.t 80]),
mq 79 81,
xq 82 79 0,
xq 83 79 1,
xq 84 79 2,
tq 14 (.alloc zaf [.z (.int .i64 0),.z (.list 0 []),.z (.list 0 []),.z (.list 0 [])]),
⟨none,none,.store 4 (.t 14) (.t 82)⟩,
mq 15 83,
mq 16 84] [0,15,16,79,80,81,82,83,84]
(.seq (sr [
mq 85 6,
tq 86 (.idxAddr 1 (.t 85) (kq 0)),
ld 87 86] [85,86]
(.block 2 (sr [
tq 89 (.bin .eql (.t 87) (.k (.d (.str [115,108,111,116])))),
mq 88 89] [89]
(.cond (.t 88) (.seq (sr [
mq 90 6,
tq 91 (.idxAddr 1 (.t 90) (kq 1)),
ld 92 91,
tq 93 (cl zio [.t 92]),
tq 94 (.un .not (.t 93)),
tq 95 (cl zlc [.t 94,kq 8]),
mq 96 8,
tq 97 (cl zdb [.t 96]),
tq 98 (.mkList 1 2 [.t 95,.t 97]),
tq 99 (cl zjq [.t 98]),
mq 17 99] [90,91,92,93,94,95,96,97,98,99]
(sr [
mq 100 17,
tq 101 (.bin .neq (.t 100) (kq 0))] [100]
(.cond (.t 101) (sr [
mq 102 17,
tq 4 (.mv (.k (.d (.str [])))),
mq 5 102] [17,102]
.ret)
 .skip)))
(.seq (.seq (.reg true [
lq 103 4 14,
mq 104 6,
tq 105 (.idxAddr 1 (.t 104) (kq 1)),
ld 106 105,
mq 107 8,
tq 108 (.idxAddr 1 (.t 107) (kq 0)),
ld 109 108,
mq 110 8,
tq 111 (.idxAddr 1 (.t 110) (kq 1)),
ld 112 111,
tq 113 (cl ziq [.t 103,.t 106,.t 109,.t 112]),
mq 18 113] [6,8,14,103,104,105,106,107,108,109,110,111,112,113])
(sr [
mq 114 18,
tq 115 (.bin .lss (.t 114) (kq 1440))] [114]
(.cond (.t 115) (sr [
mq 116 18,
tq 117 (cl zfw [.t 116]),
mq 4 117,
tq 5 (.mv (kq 0))] [18,116,117]
.ret)
 .skip)))
(sr [
tq 4 (.mv (.k (.d (.str [110,111,110,101])))),
tq 5 (.mv (kq 0))] []
.ret)))
 (sr [
tq 119 (.bin .eql (.t 87) (.k (.d (.str [100,97,121])))),
mq 118 119] [119]
(.cond (.t 118) (.seq (sr [
mq 120 8,
tq 121 (cl zdb [.t 120]),
mq 19 121] [120,121]
(sr [
mq 122 19,
tq 123 (.bin .neq (.t 122) (kq 0))] [122]
(.cond (.t 123) (sr [
mq 124 19,
tq 4 (.mv (.k (.d (.str [])))),
mq 5 124] [19,124]
.ret)
 .skip)))
(sr [
tq 20 (.ownNil ⟨false,zab,1,16⟩)] []
(.seq (.seq (.reg true [
lq 125 4 14,
mq 126 8,
tq 127 (.idxAddr 1 (.t 126) (kq 0)),
ld 128 127,
mq 129 8,
tq 130 (.idxAddr 1 (.t 129) (kq 1)),
ld 131 130,
tq 132 (cl znu [.t 125,.t 128,.t 131]),
tq 133 (.len .slc (.t 132)),
tq 134 (.mv (kq 0))] [8,14,125,126,127,128,129,130,131])
(.block 3 (.loop [20,132,133,134] zze)))
(sr [
mq 147 20,
tq 148 (cl zgt [.t 147]),
mq 4 148,
tq 5 (.mv (kq 0))] [20,147,148]
.ret))))
 (sr [
tq 150 (.bin .eql (.t 87) (.k (.d (.str [99,111,117,110,116,115])))),
mq 149 150] [150]
(.cond (.t 149) (.seq (sr [
mq 151 8,
tq 152 (cl zdb [.t 151]),
mq 23 152] [151,152]
(sr [
mq 153 23,
tq 154 (.bin .neq (.t 153) (kq 0))] [153]
(.cond (.t 154) (sr [
mq 155 23,
tq 4 (.mv (.k (.d (.str [])))),
mq 5 155] [23,155]
.ret)
 .skip)))
(.seq (.reg true [
lq 156 4 14,
mq 157 8,
tq 158 (.idxAddr 1 (.t 157) (kq 0)),
ld 159 158,
tq 160 (cl ziw [.t 156,.t 159]),
tq 161 (cl zgt [.t 160]),
mq 4 161,
tq 5 (.mv (kq 0))] [8,14,156,157,158,159,160,161])
.ret))
 (sr [
tq 163 (.bin .eql (.t 87) (.k (.d (.str [114,101,115,116,115])))),
mq 162 163] [87,163]
(.cond (.t 162) (.seq (.seq (.reg true [
mq 164 6,
tq 165 (.idxAddr 1 (.t 164) (kq 1)),
ld 166 165,
tq 167 (cl zio [.t 166]),
tq 168 (.un .not (.t 167)),
tq 169 (cl zlc [.t 168,kq 8]),
lq 170 4 14,
mq 171 6,
tq 172 (.idxAddr 1 (.t 171) (kq 1)),
ld 173 172,
tq 174 (cl zc3 [.t 170,.t 173]),
tq 175 (.bin .lss (.t 174) (kq 0)),
tq 176 (cl zlc [.t 175,kq 10]),
tq 177 (.mkList 1 2 [.t 169,.t 176]),
tq 178 (cl zjq [.t 177]),
mq 24 178] [164,165,166,167,168,169,170,171,172,173,174,175,176,177,178])
(sr [
mq 179 24,
tq 180 (.bin .neq (.t 179) (kq 0))] [179]
(.cond (.t 180) (sr [
mq 181 24,
tq 4 (.mv (.k (.d (.str [])))),
mq 5 181] [24,181]
.ret)
 .skip)))
(.seq (.reg true [
lq 182 4 14,
mq 183 6,
tq 184 (.idxAddr 1 (.t 183) (kq 1)),
ld 185 184,
tq 186 (cl zjv [.t 182,.t 185]),
tq 187 (cl zgt [.t 186]),
mq 4 187,
tq 5 (.mv (kq 0))] [6,14,182,183,184,185,186,187])
.ret))
 .skip))))))))))
(sr [
lq 188 4 14,
tq 189 (cl zh0 [.t 188]),
tq 190 (cl zgt [.t 189]),
mq 4 190,
tq 5 (.mv (kq 0))] [14,188,189,190]
.ret))))))))))⟩
def zx0:C:=
  (.seq (sr [
mq 35 7,
mq 36 4,
tq 37 (.len .slc (.t 36)),
tq 38 (.bin .lss (.t 35) (.t 37))] [35,36,37]
(.cond (.t 38) .skip
 (.exit 0)))
(.seq (.block 1 (.seq (sr [
mq 41 4,
mq 42 7,
tq 43 (.idxAddr 1 (.t 41) (.t 42)),
ld 44 43,
tq 45 (.bin .eql (.t 44) (.k (.d (.str []))))] [41,42,43,44]
(.cond (.t 45) (sr [
tq 46 (.build [.z (.int .i64 0),.z (.str []),.own ⟨false,zab,1,16⟩,.own ⟨false,zbq,1,8⟩,.z (.str [])] []),
⟨none,none,.store 5 (.t 2) (.t 46)⟩,
tq 3 (.mv (.k (.d (.bool false))))] [46]
.ret)
 .skip))
(.seq (sr [
mq 47 7,
fa 48 0 5,
ld 49 48,
tq 50 (.bin .leq (.t 47) (.t 49))] [47,48,49]
(.cond (.t 50) (.seq (.reg true [
fa 51 2 6,
ld 52 51,
mq 53 4,
mq 54 7,
tq 55 (.idxAddr 1 (.t 53) (.t 54)),
ld 56 55,
tq 57 (.mkList 1 1 [.t 56]),
tq 58 (.append ⟨false,zab,1,16⟩ (.t 52) (.t 57)),
fa 59 2 6,
⟨none,none,.store 1 (.t 59) (.t 58)⟩] [51,52,53,54,55,56,57,58,59])
(.exit 1))
 .skip))
(sr [
mq 61 4,
mq 62 7,
tq 63 (.idxAddr 1 (.t 61) (.t 62)),
ld 64 63,
tq 65 (cl zhq [.t 64]),
mq 60 65,
xq 66 60 0,
xq 67 60 1,
mq 8 66,
mq 9 67] [60,61,62,63,64,65,66,67]
(.seq (sr [
mq 68 9,
tq 69 (.un .not (.t 68))] [9,68]
(.cond (.t 69) (sr [
tq 70 (.build [.z (.int .i64 0),.z (.str []),.own ⟨false,zab,1,16⟩,.own ⟨false,zbq,1,8⟩,.z (.str [])] []),
⟨none,none,.store 5 (.t 2) (.t 70)⟩,
tq 3 (.mv (.k (.d (.bool false))))] [70]
.ret)
 .skip))
(rg [
fa 71 3 6,
ld 72 71,
mq 73 8,
tq 74 (.mkList 1 1 [.t 73]),
tq 75 (.append ⟨false,zbq,1,8⟩ (.t 72) (.t 74)),
fa 76 3 6,
⟨none,none,.store 1 (.t 76) (.t 75)⟩] [8,71,72,73,74,75,76]))))))
(rg [
mq 39 7,
tq 40 (.bin .add (.t 39) (kq 1)),
mq 7 40] [39,40])))
def z2o:CF:=⟨[.cell 2 (some 5),.tmp 3],
  (sr [
tq 2 (.alloc zac [.z (.int .i64 0),.z (.str []),.own ⟨false,zab,1,16⟩,.own ⟨false,zbq,1,8⟩,.z (.str [])]),
tq 3 (.mv (.k (.d (.bool false))))] [3]
(sr [
mq 10 0,
tq 11 (cl zmg [.t 10]),
mq 4 11] [0,10,11]
(sr [
mq 12 4,
tq 13 (.idxAddr 1 (.t 12) (kq 0)),
ld 14 13,
tq 15 (cl zja [.t 14]),
tq 5 (.alloc zff [.z (.int .i64 0),.z (.int .i64 0),.z (.bool false)]),
⟨none,none,.store 3 (.t 5) (.t 15)⟩] [12,13,14,15]
(.seq (sr [
fa 16 2 5,
ld 17 16,
tq 18 (.un .not (.t 17)),
mq 19 18,
gq 20 19 false (.mv (.t 4)),
gq 21 19 false (.len .slc (.t 20)),
gq 22 19 false (.fieldAddr 0 (.t 5)),
gq 23 19 false (.load none (.t 22)),
gq 24 19 false (.bin .add (kq 1) (.t 23)),
gq 25 19 false (.fieldAddr 1 (.t 5)),
gq 26 19 false (.load none (.t 25)),
gq 27 19 false (.bin .add (.t 24) (.t 26)),
gq 28 19 false (.bin .neq (.t 21) (.t 27)),
tq 29 (.pick (.t 19) (.k (.d (.bool true))) (.t 28))] [16,17,18,19,20,21,22,23,24,25,26,27,28]
(.cond (.t 29) (sr [
tq 30 (.build [.z (.int .i64 0),.z (.str []),.own ⟨false,zab,1,16⟩,.own ⟨false,zbq,1,8⟩,.z (.str [])] []),
⟨none,none,.store 5 (.t 2) (.t 30)⟩,
tq 3 (.mv (.k (.d (.bool false))))] [30]
.ret)
 .skip))
(sr [
mq 31 4,
tq 32 (.idxAddr 1 (.t 31) (kq 0)),
ld 33 32,
tq 34 (.build [.z (.int .i64 0),.z (.str []),.own ⟨false,zab,1,16⟩,.own ⟨false,zbq,1,8⟩,.z (.str [])] [(1,1,.t 33)]),
tq 6 (.alloc zac [.z (.int .i64 0),.z (.str []),.own ⟨false,zab,1,16⟩,.own ⟨false,zbq,1,8⟩,.z (.str [])]),
⟨none,none,.store 5 (.t 6) (.t 34)⟩] [31,32,33,34]
(.seq (sr [
tq 7 (.mv (kq 1))] []
(.block 0 (.loop [2,4,5,6,7] zx0)))
(sr [
lq 77 5 6,
⟨none,none,.store 5 (.t 2) (.t 77)⟩,
tq 3 (.mv (.k (.d (.bool true))))] [6,77]
.ret)))))))⟩
def zz2:CF:=⟨[.tmp 4],
  (sr [
tq 3 (.box zac (.t 1)),
tq 4 (.mv (kq 0))] [1,4]
(sr [
mq 9 0,
tq 10 (cl zcr [.t 9]),
mq 8 10,
xq 11 8 0,
xq 12 8 1,
xq 13 8 2,
tq 5 (.alloc zaf [.z (.int .i64 0),.z (.list 0 []),.z (.list 0 []),.z (.list 0 [])]),
⟨none,none,.store 4 (.t 5) (.t 11)⟩,
mq 6 12,
mq 7 13] [5,6,8,9,10,11,12,13]
(.seq (sr [
mq 14 7,
tq 15 (.bin .eql (.t 14) (kq 0))] [14]
(.cond (.t 15) (rg [
lq 16 5 3,
tq 17 (cl zeb [.t 16]),
mq 7 17] [16,17])
 .skip))
(.seq (sr [
mq 18 7,
tq 19 (.bin .neq (.t 18) (kq 0))] [18]
(.cond (.t 19) (sr [
mq 20 7,
mq 4 20] [7,20]
.ret)
 .skip))
(.seq (sr [
mq 21 0,
tq 22 (.len .slc (.t 21)),
tq 23 (.bin .geq (.t 22) (kq 1000))] [21,22]
(.cond (.t 23) (sr [
tq 4 (.mv (kq 5))] []
.ret)
 .skip))
(.seq (.regC [
tq 25 (.mkRow ⟨false,zac,5,88⟩ 0 []),
mq 26 0,
tq 27 (.append ⟨false,zac,5,88⟩ (.t 25) (.t 26)),
lq 28 5 3,
tq 29 (.mkListD 5 1 [.t 28]),
tq 30 (.append ⟨false,zac,5,88⟩ (.t 27) (.t 29)),
tq 31 (cl zcr [.t 30]),
mq 24 31,
xq 32 24 0,
xq 33 24 1,
xq 34 24 2,
mq 7 34] [0,3,24,25,26,27,28,29,30,31,32,33,34] [(3,27)])
(sr [
mq 35 7,
mq 4 35] [7,35]
.ret)))))))⟩
def zxv:C:=
  (sr [
tq 8 (.bin .lss (.t 7) (.t 6))] []
(.seq (.cond (.t 8) .skip
 (.exit 0))
(.seq (.block 1 (sr [
tq 9 (.idxAddr 1 (.t 5) (.t 7)),
ld 10 9,
mq 4 10] [9,10]
(sr [
mq 11 4,
tq 12 (.bin .neq (.t 11) (kq 0))] [11]
(.cond (.t 12) (sr [
mq 13 4,
mq 2 13] [4,13]
.ret)
 .skip))))
(rg [
tq 14 (.bin .add (.t 7) (kq 1)),
mq 7 14] [14]))))
def z2g:CF:=⟨[.tmp 2],
  (sr [
tq 2 (.mv (kq 0))] [2]
(.seq (sr [
mq 5 0,
tq 6 (.len .slc (.t 5)),
tq 7 (.mv (kq 0))] [0]
(.block 0 (.loop [5,6,7] zxv)))
(sr [
tq 2 (.mv (kq 0))] []
.ret)))⟩
def z5n:CF:=⟨[.tmp 4],
  (sr [
tq 4 (.mv (kq 0))] [4]
(.seq (sr [
mq 5 0] [0]
(.cond (.t 5) (sr [
mq 6 1,
mq 4 6] [1,6]
.ret)
 .skip))
(sr [
tq 4 (.mv (kq 0))] []
.ret)))⟩
def z5s:CF:=⟨[.tmp 4,.tmp 5,.tmp 6],
  (sr [
tq 4 (.mv (.k (.d (.str [])))),
tq 5 (.mv (.k (.d (.str [])))),
tq 6 (.mv (.k (.d (.bool false))))] [4,5,6]
(sr [
mq 7 0,
mq 8 1,
tq 9 (cl zdy [.t 7,.t 8]),
xq 10 9 0,
xq 11 9 1,
xq 12 9 2,
mq 4 10,
mq 5 11,
mq 6 12] [0,1,7,8,9,10,11,12]
.ret))⟩
def zum:CF:=⟨[.tmp 0],
  (sr [
tq 0 (.mv (.k (.d (.nilm))))] [0]
(sr [
tq 1 (.mkMap),
tq 2 (.build [.z (.int .i64 0),.z (.int .i64 0),.z (.nilf)] [(0,1,kq 4),(1,1,kq 2),(2,1,.k (.fn zby [] []))]),
⟨none,none,.mapSet .str (.t 1) (.k (.d (.str [115,108,111,116]))) (.t 2)⟩,
tq 3 (.build [.z (.int .i64 0),.z (.int .i64 0),.z (.nilf)] [(0,1,kq 3),(1,1,kq 2),(2,1,.k (.fn zbz [] []))]),
⟨none,none,.mapSet .str (.t 1) (.k (.d (.str [100,97,121]))) (.t 3)⟩,
tq 4 (.build [.z (.int .i64 0),.z (.int .i64 0),.z (.nilf)] [(0,1,kq 2),(1,1,kq 1),(2,1,.k (.fn zb0 [] []))]),
⟨none,none,.mapSet .str (.t 1) (.k (.d (.str [99,111,117,110,116,115]))) (.t 4)⟩,
tq 5 (.build [.z (.int .i64 0),.z (.int .i64 0),.z (.nilf)] [(0,1,kq 2),(1,1,kq 0),(2,1,.k (.fn zb1 [] []))]),
⟨none,none,.mapSet .str (.t 1) (.k (.d (.str [114,101,115,116,115]))) (.t 5)⟩,
tq 6 (.build [.z (.int .i64 0),.z (.int .i64 0),.z (.nilf)] [(0,1,kq 1),(1,1,kq 0),(2,1,.k (.fn zcj [] []))]),
⟨none,none,.mapSet .str (.t 1) (.k (.d (.str [111,112,101,110]))) (.t 6)⟩,
mq 7 1,
mq 0 7] [1,2,3,4,5,6,7]
.ret))⟩
def zp9:C:=
  (sr [
tq 36 (.bin .lss (.t 35) (.t 34))] []
(.seq (.cond (.t 36) .skip
 (.exit 0))
(.seq (.block 1 (sr [
tq 37 (.idxAddr 1 (.t 33) (.t 35)),
ld 38 37,
mq 11 38] [37,38]
(sr [
mq 40 11,
tq 41 (cl zg0 [.t 40]),
mq 39 41,
xq 42 39 0,
xq 43 39 1,
mq 12 42,
mq 13 43] [11,39,40,41,42,43]
(.seq (sr [
mq 44 13,
tq 45 (.un .not (.t 44))] [13,44]
(.cond (.t 45) (sr [
tq 6 (.mv (.k (.d (.str [])))),
tq 7 (.mv (kq 25))] []
.ret)
 .skip))
(rg [
mq 46 9,
mq 47 12,
tq 48 (.mkList 1 1 [.t 47]),
tq 49 (.append ⟨false,zbq,1,8⟩ (.t 46) (.t 48)),
mq 9 49] [12,46,47,48,49])))))
(rg [
tq 50 (.bin .add (.t 35) (kq 1)),
mq 35 50] [50]))))
def zr3:CF:=⟨[.tmp 6,.tmp 7],
  (sr [
tq 4 (.box zj3 (.t 1)),
tq 6 (.mv (.k (.d (.str [])))),
tq 7 (.mv (kq 0))] [1,6,7]
(sr [
mq 16 2,
tq 17 (cl n_strings_Split [.t 16,.k (.d (.str [32]))]),
mq 8 17] [2,16,17]
(.seq (sr [
mq 18 8,
tq 19 (.len .slc (.t 18)),
fa 20 0 4,
ld 21 20,
tq 22 (.bin .neq (.t 19) (.t 21)),
mq 23 22,
gq 24 23 false (.mv (.t 8)),
gq 25 23 false (cl zcn [.t 24,.k (.d (.str []))]),
tq 26 (.pick (.t 23) (.k (.d (.bool true))) (.t 25))] [18,19,20,21,22,23,24,25]
(.cond (.t 26) (sr [
tq 6 (.mv (.k (.d (.str [])))),
tq 7 (.mv (kq 25))] []
.ret)
 .skip))
(sr [
tq 9 (.ownNil ⟨false,zbq,1,8⟩)] []
(.seq (sr [
mq 27 8,
mq 28 8,
tq 29 (.len .slc (.t 28)),
fa 30 1 4,
ld 31 30,
tq 32 (.bin .sub (.t 29) (.t 31)),
tq 33 (.slice 1 (.t 27) (some (.t 32)) none none),
tq 34 (.len .slc (.t 33)),
tq 35 (.mv (kq 0))] [27,28,29,30,31,32]
(.block 0 (.loop [0,4,8,9,33,34,35] zp9)))
(.seq (.reg true [
fa 52 2 4,
ld 53 52,
mq 54 0,
tq 55 (.nilCheck (.t 54)),
fa 56 0 55,
fa 57 1 56,
mq 58 8,
mq 59 9,
tq 60 (.callU true (.t 53) [.t 57,.t 58,.t 59]),
mq 51 60,
xq 61 51 0,
xq 62 51 1,
mq 14 61,
mq 15 62] [0,4,8,9,51,52,53,54,55,56,57,58,59,60,61,62])
(.seq (sr [
mq 63 15,
tq 64 (.bin .neq (.t 63) (kq 0))] [63]
(.cond (.t 64) (sr [
mq 65 15,
tq 6 (.mv (.k (.d (.str [])))),
mq 7 65] [15,65]
.ret)
 .skip))
(.seq (sr [
mq 66 14,
tq 67 (.len .slc (.t 66)),
tq 68 (.bin .eql (.t 67) (kq 0))] [66,67]
(.cond (.t 68) (sr [
tq 6 (.mv (.k (.d (.str [110,111,110,101])))),
tq 7 (.mv (kq 0))] []
.ret)
 .skip))
(sr [
mq 69 14,
tq 70 (cl n_strings_Join [.t 69,.k (.d (.str [32]))]),
mq 6 70,
tq 7 (.mv (kq 0))] [14,69,70]
.ret)))))))))⟩
def z2h:CF:=⟨[.tmp 0],
  (sr [
tq 0 (.mv (.k (.d (.nilm))))] [0]
(sr [
tq 1 (.mkMap),
tq 2 (.build [.z (.int .i64 0),.z (.int .i64 0),.z (.nilf),.z (.nilf)] [(0,1,kq 2),(1,1,kq 4),(2,1,.k (.fn zay [] [])),(3,1,.k (.fn zap [] []))]),
⟨none,none,.mapSet .str (.t 1) (.k (.d (.str [101,110,116,101,114]))) (.t 2)⟩,
tq 3 (.build [.z (.int .i64 0),.z (.int .i64 0),.z (.nilf),.z (.nilf)] [(0,1,kq 2),(1,1,kq 4),(2,1,.k (.fn zay [] [])),(3,1,.k (.fn zap [] []))]),
⟨none,none,.mapSet .str (.t 1) (.k (.d (.str [114,117,108,101]))) (.t 3)⟩,
tq 4 (.build [.z (.int .i64 0),.z (.int .i64 0),.z (.nilf),.z (.nilf)] [(0,1,kq 3),(1,1,kq 4),(2,1,.k (.fn zay [] [])),(3,1,.k (.fn zap [] []))]),
⟨none,none,.mapSet .str (.t 1) (.k (.d (.str [102,111,108,108,111,119]))) (.t 4)⟩,
tq 5 (.build [.z (.int .i64 0),.z (.int .i64 0),.z (.nilf),.z (.nilf)] [(0,1,kq 1),(1,1,kq 1),(2,1,.k (.fn zbc [] [])),(3,1,.k (.fn zg1 [] []))]),
⟨none,none,.mapSet .str (.t 1) (.k (.d (.str [114,101,118,101,114,115,101]))) (.t 5)⟩,
tq 6 (.build [.z (.int .i64 0),.z (.int .i64 0),.z (.nilf),.z (.nilf)] [(0,1,kq 2),(1,1,kq 1),(2,1,.k (.fn za4 [] [])),(3,1,.k (.fn zb6 [] []))]),
⟨none,none,.mapSet .str (.t 1) (.k (.d (.str [99,111,109,112,108,97,105,110]))) (.t 6)⟩,
tq 7 (.build [.z (.int .i64 0),.z (.int .i64 0),.z (.nilf),.z (.nilf)] [(0,1,kq 1),(1,1,kq 2),(2,1,.k (.fn za6 [] [])),(3,1,.k (.fn za7 [] []))]),
⟨none,none,.mapSet .str (.t 1) (.k (.d (.str [100,101,99,105,100,101]))) (.t 7)⟩,
mq 8 1,
mq 0 8] [1,2,3,4,5,6,7,8]
.ret))⟩
def zxw:C:=
  (sr [
tq 50 (.bin .lss (.t 49) (.t 48))] []
(.seq (.cond (.t 50) .skip
 (.exit 0))
(.seq (.block 1 (.reg true [
fa 51 2 7,
ld 52 51,
mq 53 6,
tq 54 (.callR true (.t 53) [] [7]),
tq 55 (.mkList 1 1 [.t 54]),
tq 56 (.append ⟨false,zab,1,16⟩ (.t 52) (.t 55)),
fa 57 2 7,
⟨none,none,.store 1 (.t 57) (.t 56)⟩] [51,52,53,54,55,56,57]))
(rg [
tq 58 (.bin .add (.t 49) (kq 1)),
mq 49 58] [58]))))
def zxx:C:=
  (sr [
tq 62 (.bin .lss (.t 61) (.t 60))] []
(.seq (.cond (.t 62) .skip
 (.exit 2))
(.seq (.block 3 (sr [
mq 64 6,
tq 65 (.call true true (.t 64) []),
tq 66 (cl zg0 [.t 65]),
mq 63 66,
xq 67 63 0,
xq 68 63 1,
mq 10 67,
mq 11 68] [63,64,65,66,67,68]
(.seq (sr [
mq 69 11,
tq 70 (.un .not (.t 69))] [11,69]
(.cond (.t 70) (sr [
tq 71 (.build [.z (.int .i64 0),.z (.str []),.own ⟨false,zab,1,16⟩,.own ⟨false,zbq,1,8⟩,.z (.str [])] []),
⟨none,none,.store 5 (.t 2) (.t 71)⟩,
tq 3 (.mv (.k (.d (.bool false))))] [71]
.ret)
 .skip))
(rg [
fa 72 3 7,
ld 73 72,
mq 74 10,
tq 75 (.mkList 1 1 [.t 74]),
tq 76 (.append ⟨false,zbq,1,8⟩ (.t 73) (.t 75)),
fa 77 3 7,
⟨none,none,.store 1 (.t 77) (.t 76)⟩] [10,72,73,74,75,76,77]))))
(rg [
tq 78 (.bin .add (.t 61) (kq 1)),
mq 61 78] [78]))))
def z2j:CF:=⟨[.cell 2 (some 5),.tmp 3],
  (sr [
tq 2 (.alloc zac [.z (.int .i64 0),.z (.str []),.own ⟨false,zab,1,16⟩,.own ⟨false,zbq,1,8⟩,.z (.str [])]),
tq 3 (.mv (.k (.d (.bool false))))] [3]
(sr [
mq 12 0,
tq 13 (cl n_strings_Split [.t 12,.k (.d (.str [32]))]),
mq 4 13] [0,12,13]
(sr [
mq 14 4,
tq 15 (.build [.z (.list 0 [])] [(0,1,.t 14)]),
tq 16 (.box zl0 (.t 15)),
mq 5 16] [14,15,16]
(sr [
mq 17 5,
tq 18 (.mkFunc zds [.t 17] []),
mq 6 18] [5,17,18]
(sr [
mq 19 6,
tq 20 (.call true true (.t 19) []),
tq 21 (.build [.z (.int .i64 0),.z (.str []),.own ⟨false,zab,1,16⟩,.own ⟨false,zbq,1,8⟩,.z (.str [])] [(1,1,.t 20)]),
tq 7 (.alloc zac [.z (.int .i64 0),.z (.str []),.own ⟨false,zab,1,16⟩,.own ⟨false,zbq,1,8⟩,.z (.str [])]),
⟨none,none,.store 5 (.t 7) (.t 21)⟩] [19,20,21]
(.seq (.reg true [
tq 23 (.callN (.k (.fn zf0 [] [])) []),
fa 24 1 7,
ld 25 24,
tq 26 (.lookup .str (.agg [.int .i64 0,.int .i64 0,.nilf,.nilf]) true (.t 23) (.t 25)),
mq 22 26,
xq 27 22 0,
xq 28 22 1,
tq 8 (.alloc zit [.z (.int .i64 0),.z (.int .i64 0),.z (.nilf),.z (.nilf)]),
⟨none,none,.store 4 (.t 8) (.t 27)⟩,
mq 9 28] [22,23,24,25,26,27,28])
(.seq (sr [
mq 29 9,
tq 30 (.un .not (.t 29)),
mq 31 30,
gq 32 31 false (.mv (.t 4)),
gq 33 31 false (.len .slc (.t 32)),
gq 34 31 false (.fieldAddr 0 (.t 8)),
gq 35 31 false (.load none (.t 34)),
gq 36 31 false (.bin .add (kq 1) (.t 35)),
gq 37 31 false (.fieldAddr 1 (.t 8)),
gq 38 31 false (.load none (.t 37)),
gq 39 31 false (.bin .add (.t 36) (.t 38)),
gq 40 31 false (.bin .neq (.t 33) (.t 39)),
tq 41 (.pick (.t 31) (.k (.d (.bool true))) (.t 40)),
mq 42 41,
gq 43 42 false (.mv (.t 4)),
gq 44 42 false (cl zcn [.t 43,.k (.d (.str []))]),
tq 45 (.pick (.t 42) (.k (.d (.bool true))) (.t 44))] [4,9,29,30,31,32,33,34,35,36,37,38,39,40,41,42,43,44]
(.cond (.t 45) (sr [
tq 46 (.build [.z (.int .i64 0),.z (.str []),.own ⟨false,zab,1,16⟩,.own ⟨false,zbq,1,8⟩,.z (.str [])] []),
⟨none,none,.store 5 (.t 2) (.t 46)⟩,
tq 3 (.mv (.k (.d (.bool false))))] [46]
.ret)
 .skip))
(.seq (sr [
fa 47 0 8,
ld 48 47,
tq 49 (.mv (kq 0))] [47]
(.block 0 (.loop [2,6,7,8,48,49] zxw)))
(.seq (sr [
fa 59 1 8,
ld 60 59,
tq 61 (.mv (kq 0))] [8,59]
(.block 2 (.loop [2,6,7,60,61] zxx)))
(sr [
lq 79 5 7,
⟨none,none,.store 5 (.t 2) (.t 79)⟩,
tq 3 (.mv (.k (.d (.bool true))))] [7,79]
.ret))))))))))⟩
def zs8:CF:=⟨[.tmp 2],
  (sr [
tq 1 (.box zac (.t 0)),
tq 2 (.mv (kq 0))] [0,2]
(.seq (.reg true [
tq 8 (.callN (.k (.fn zf0 [] [])) []),
fa 9 1 1,
ld 10 9,
tq 11 (.lookup .str (.agg [.int .i64 0,.int .i64 0,.nilf,.nilf]) true (.t 8) (.t 10)),
mq 7 11,
xq 12 7 0,
xq 13 7 1,
tq 3 (.alloc zit [.z (.int .i64 0),.z (.int .i64 0),.z (.nilf),.z (.nilf)]),
⟨none,none,.store 4 (.t 3) (.t 12)⟩,
mq 4 13] [7,8,9,10,11,12,13])
(sr [
fa 14 2 1,
ld 15 14,
tq 16 (cl zc4 [.t 15,.k (.fn zfu [] [])]),
mq 5 16] [14,15,16]
(sr [
fa 17 3 1,
ld 18 17,
tq 19 (cl zd9 [.t 18,.k (.fn zfv [] [])]),
mq 6 19] [17,18,19]
(.seq (.reg true [
fa 20 0 1,
ld 21 20,
tq 22 (cl zgc [.t 21,kq 1,kq 1000]),
mq 23 4,
tq 24 (.un .not (.t 23)),
tq 25 (cl zan [.t 24,kq 13]),
fa 26 2 1,
ld 27 26,
tq 28 (.len .slc (.t 27)),
fa 29 0 3,
ld 30 29,
tq 31 (.bin .neq (.t 28) (.t 30)),
mq 32 31,
gq 33 32 false (.fieldAddr 3 (.t 1)),
gq 34 32 false (.load none (.t 33)),
gq 35 32 false (.len .slc (.t 34)),
gq 36 32 false (.fieldAddr 1 (.t 3)),
gq 37 32 false (.load none (.t 36)),
gq 38 32 false (.bin .neq (.t 35) (.t 37)),
tq 39 (.pick (.t 32) (.k (.d (.bool true))) (.t 38)),
tq 40 (cl zan [.t 39,kq 2]),
mq 41 5,
tq 42 (cl zan [.t 41,kq 8]),
mq 43 6,
tq 44 (cl zan [.t 43,kq 3]),
fa 45 4 1,
ld 46 45,
tq 47 (.bin .neq (.t 46) (.k (.d (.str [])))),
tq 48 (cl zan [.t 47,kq 1]),
tq 49 (.mkList 1 6 [.t 22,.t 25,.t 40,.t 42,.t 44,.t 48]),
tq 50 (cl za2 [.t 49]),
mq 2 50] [1,3,4,5,6,20,21,22,23,24,25,26,27,28,29,30,31,32,33,34,35,36,37,38,39,40,41,42,43,44,45,46,47,48,49,50])
.ret)))))⟩
def zon:CF:=⟨[.tmp 4],
  (sr [
tq 3 (.box zac (.t 1)),
tq 4 (.mv (kq 0))] [1,4]
(sr [
mq 7 0,
tq 8 (.nilCheck (.t 7)),
fa 9 1 8,
mq 5 9] [7,8,9]
(.seq (.seq (.reg true [
fa 10 0 3,
ld 11 10,
mq 12 0,
tq 13 (.nilCheck (.t 12)),
fa 14 0 13,
ld 15 14,
tq 16 (.len .slc (.t 15)),
tq 17 (.bin .add (.t 16) (kq 1)),
tq 18 (.bin .neq (.t 11) (.t 17)),
tq 19 (cl zan [.t 18,kq 11]),
fa 20 3 3,
ld 21 20,
tq 22 (.idxAddr 1 (.t 21) (kq 0)),
ld 23 22,
mq 24 5,
tq 25 (.nilCheck (.t 24)),
fa 26 0 25,
ld 27 26,
tq 28 (.bin .lss (.t 23) (.t 27)),
tq 29 (cl zan [.t 28,kq 19]),
fa 30 3 3,
ld 31 30,
tq 32 (.idxAddr 1 (.t 31) (kq 0)),
ld 33 32,
tq 34 (.bin .gtr (.t 33) (kq 99999)),
tq 35 (cl zan [.t 34,kq 3]),
tq 36 (.mkList 1 3 [.t 19,.t 29,.t 35]),
tq 37 (cl za2 [.t 36]),
mq 6 37] [0,10,11,12,13,14,15,16,17,18,19,20,21,22,23,24,25,26,27,28,29,30,31,32,33,34,35,36,37])
(sr [
mq 38 6,
tq 39 (.bin .neq (.t 38) (kq 0))] [38]
(.cond (.t 39) (sr [
mq 40 6,
mq 4 40] [6,40]
.ret)
 .skip)))
(.seq (.reg true [
tq 41 (.call false false (.k (.fn zf0 [] [])) []),
fa 42 1 3,
ld 43 42,
tq 44 (.lookup .str (.agg [.int .i64 0,.int .i64 0,.nilf,.nilf]) false (.t 41) (.t 43)),
tq 45 (.field 2 none (.t 44)),
mq 46 5,
lq 47 5 3,
tq 48 (.callQ (.t 45) [.t 46,.t 47]),
mq 4 48] [3,5,41,42,43,44,45,46,47,48])
.ret))))⟩
def zr4:CF:=⟨[],
  (sr [
tq 3 (.box zac (.t 1))] [1]
(.seq (.reg true [
fa 4 2 3,
ld 5 4,
tq 6 (cl zc7 [.t 5]),
fa 7 3 3,
ld 8 7,
tq 9 (cl zeq [.t 8]),
fa 10 2 3,
⟨none,none,.store 1 (.t 10) (.t 6)⟩,
fa 11 3 3,
⟨none,none,.store 1 (.t 11) (.t 9)⟩] [4,5,6,7,8,9,10,11])
(.seq (.reg true [
mq 12 0,
mq 13 0,
tq 14 (.nilCheck (.t 13)),
fa 15 0 14,
ld 16 15,
lq 17 5 3,
tq 18 (.mkList 5 1 [.t 17]),
tq 19 (.append ⟨false,zac,5,88⟩ (.t 16) (.t 18)),
tq 20 (.nilCheck (.t 12)),
fa 21 0 20,
⟨none,none,.store 1 (.t 21) (.t 19)⟩] [12,13,14,15,16,17,18,19,20,21])
(sr [
mq 22 0,
fa 23 3 3,
ld 24 23,
tq 25 (.idxAddr 1 (.t 24) (kq 0)),
ld 26 25,
tq 27 (.nilCheck (.t 22)),
fa 28 1 27,
fa 29 0 28,
⟨none,none,.store 1 (.t 29) (.t 26)⟩] [22,23,24,25,26,27,28,29]
(.reg true [
tq 30 (.call false false (.k (.fn zf0 [] [])) []),
fa 31 1 3,
ld 32 31,
tq 33 (.lookup .str (.agg [.int .i64 0,.int .i64 0,.nilf,.nilf]) false (.t 30) (.t 32)),
tq 34 (.field 3 none (.t 33)),
mq 35 0,
tq 36 (.nilCheck (.t 35)),
fa 37 1 36,
lq 38 5 3,
tq 39 (.call true true (.t 34) [.t 37,.t 38])] [0,3,30,31,32,33,34,35,36,37,38,39])))))⟩
def zr2:CF:=⟨[.tmp 2],
  (sr [
tq 1 (.box zlk (.t 0)),
tq 2 (.mv (.k (.d (.nilf))))] [0,2]
(sr [
tq 3 (.mkFunc zfb [] [.t 1]),
mq 2 3] [1,3]
.ret))⟩
def zjc:C:=
  (sr [
tq 11 (.bin .lss (.t 10) (.t 9))] []
(.seq (.cond (.t 11) .skip
 (.exit 0))
(.seq (.block 1 (sr [
tq 12 (.idxAddr 5 (.t 8) (.t 10)),
lq 13 5 12,
tq 7 (.alloc zac [.z (.int .i64 0),.z (.str []),.z (.list 0 []),.z (.list 0 []),.z (.str [])]),
⟨none,none,.store 5 (.t 7) (.t 13)⟩] [12,13]
(rg [
mq 14 5,
mq 15 1,
lq 16 5 7,
tq 17 (.call true true (.t 15) [.t 16]),
tq 18 (.mkList 1 1 [.t 17]),
tq 19 (.append ⟨false,zab,1,16⟩ (.t 14) (.t 18)),
mq 5 19] [7,14,15,16,17,18,19])))
(rg [
tq 20 (.bin .add (.t 10) (kq 1)),
mq 10 20] [20]))))
def zkb:CF:=⟨[.tmp 4],
  (sr [
tq 4 (.ownNil ⟨false,zab,1,16⟩)] [4]
(sr [
tq 5 (.ownNil ⟨false,zab,1,16⟩)] []
(.seq (sr [
mq 8 0,
tq 9 (.len .slc (.t 8)),
tq 10 (.mv (kq 0))] [0]
(.block 0 (.loop [1,5,8,9,10] zjc)))
(sr [
mq 21 5,
mq 4 21] [5,21]
.ret))))⟩
def zzy:CF:=⟨[.tmp 2],
  (sr [
tq 1 (.box zac (.t 0)),
tq 2 (.mv (.k (.d (.str []))))] [0,2]
(.seq (.reg true [
fa 4 0 1,
ld 5 4,
tq 6 (cl n_strconv_Itoa [.t 5]),
tq 7 (.bin .add (.t 6) (.k (.d (.str [32])))),
lq 8 5 1,
tq 9 (cl zjr [.t 8]),
tq 10 (.bin .add (.t 7) (.t 9)),
mq 3 10] [1,4,5,6,7,8,9,10])
(sr [
mq 11 3,
tq 12 (.bin .add (.t 11) (.k (.d (.str [35])))),
mq 13 3,
tq 14 (cl znt [.t 13]),
tq 15 (.bin .add (.t 12) (.t 14)),
tq 16 (.bin .add (.t 15) (.k (.d (.str [10])))),
mq 2 16] [3,11,12,13,14,15,16]
.ret)))⟩
def z2c:C:=
  (.seq (sr [
mq 13 4,
fa 14 2 1,
ld 15 14,
tq 16 (.len .slc (.t 15)),
tq 17 (.bin .lss (.t 13) (.t 16))] [13,14,15,16]
(.cond (.t 17) .skip
 (.exit 0)))
(.seq (.block 1 (rg [
mq 20 3,
tq 21 (.bin .add (.t 20) (.k (.d (.str [32])))),
fa 22 2 1,
ld 23 22,
mq 24 4,
tq 25 (.idxAddr 1 (.t 23) (.t 24)),
ld 26 25,
tq 27 (.bin .add (.t 21) (.t 26)),
mq 3 27] [20,21,22,23,24,25,26,27]))
(rg [
mq 18 4,
tq 19 (.bin .add (.t 18) (kq 1)),
mq 4 19] [18,19])))
def z2d:C:=
  (.seq (sr [
mq 28 5,
fa 29 3 1,
ld 30 29,
tq 31 (.len .slc (.t 30)),
tq 32 (.bin .lss (.t 28) (.t 31))] [28,29,30,31]
(.cond (.t 32) .skip
 (.exit 2)))
(.seq (.block 3 (rg [
mq 35 3,
tq 36 (.bin .add (.t 35) (.k (.d (.str [32])))),
fa 37 3 1,
ld 38 37,
mq 39 5,
tq 40 (.idxAddr 1 (.t 38) (.t 39)),
ld 41 40,
tq 42 (cl zfw [.t 41]),
tq 43 (.bin .add (.t 36) (.t 42)),
mq 3 43] [35,36,37,38,39,40,41,42,43]))
(rg [
mq 33 5,
tq 34 (.bin .add (.t 33) (kq 1)),
mq 5 34] [33,34])))
def z7u:CF:=⟨[.tmp 2],
  (sr [
tq 1 (.box zac (.t 0)),
tq 2 (.mv (.k (.d (.str []))))] [0,2]
(.seq (.reg true [
fa 6 0 1,
ld 7 6,
tq 8 (cl zfw [.t 7]),
tq 9 (.bin .add (.t 8) (.k (.d (.str [32])))),
fa 10 1 1,
ld 11 10,
tq 12 (.bin .add (.t 9) (.t 11)),
mq 3 12] [6,7,8,9,10,11,12])
(.seq (sr [
tq 4 (.mv (kq 0))] []
(.block 0 (.loop [1,3,4] z2c)))
(.seq (sr [
tq 5 (.mv (kq 0))] []
(.block 2 (.loop [1,3,5] z2d)))
(sr [
mq 44 3,
mq 2 44] [3,44]
.ret)))))⟩
def z0a:CF:=⟨[.tmp 2],
  (sr [
tq 1 (.box zab (.t 0)),
tq 2 (.mv (.k (.d (.nilf))))] [0,2]
(sr [
tq 3 (.mkFunc zd4 [] [.t 1]),
mq 2 3] [1,3]
.ret))⟩
def ztc:CF:=⟨[.tmp 4,.tmp 5],
  (sr [
tq 4 (.mv (.k (.d (.str [])))),
tq 5 (.mv (.k (.d (.bool false))))] [4,5]
(sr [
mq 6 0,
mq 7 1,
tq 8 (cl zdw [.t 6,.t 7]),
xq 9 8 0,
xq 10 8 1,
mq 4 9,
mq 5 10] [0,1,6,7,8,9,10]
.ret))⟩
def zwh:CF:=⟨[.cell 4 (some 5),.tmp 5],
  (sr [
tq 4 (.alloc zac [.z (.int .i64 0),.z (.str []),.z (.list 0 []),.z (.list 0 []),.z (.str [])]),
tq 5 (.mv (kq 0))] [5]
(sr [
mq 15 0,
tq 16 (.len .str (.t 15)),
tq 17 (.bin .sub (.t 16) (kq 8)),
mq 6 17] [15,16,17]
(.seq (sr [
mq 18 6,
tq 19 (.bin .lss (.t 18) (kq 0)),
mq 20 19,
gq 21 20 false (.mv (.t 0)),
gq 22 20 false (.mv (.t 6)),
gq 23 20 false (.idxS (.t 21) (.t 22)),
gq 24 20 false (.bin .neq (.t 23) (.k (.d (.int .u8 35)))),
tq 25 (.pick (.t 20) (.k (.d (.bool true))) (.t 24)),
mq 26 25,
gq 27 26 false (.mv (.t 0)),
gq 28 26 false (.mv (.t 6)),
gq 29 26 false (.bin .add (.t 28) (kq 1)),
gq 30 26 false (.sliceS (.t 27) (some (.t 29)) none),
gq 31 26 false (cl zm4 [.t 30]),
gq 32 26 false (.un .not (.t 31)),
tq 33 (.pick (.t 26) (.k (.d (.bool true))) (.t 32))] [18,19,20,21,22,23,24,25,26,27,28,29,30,31,32]
(.cond (.t 33) (sr [
tq 34 (.build [.z (.int .i64 0),.z (.str []),.z (.list 0 []),.z (.list 0 []),.z (.str [])] []),
⟨none,none,.store 5 (.t 4) (.t 34)⟩,
tq 5 (.mv (kq 25))] [34]
.ret)
 .skip))
(sr [
mq 35 0,
mq 36 6,
tq 37 (.sliceS (.t 35) none (some (.t 36))),
mq 7 37] [35,36,37]
(.seq (.seq (.reg true [
mq 38 7,
tq 39 (cl znt [.t 38]),
mq 40 0,
mq 41 6,
tq 42 (.bin .add (.t 41) (kq 1)),
tq 43 (.sliceS (.t 40) (some (.t 42)) none),
tq 44 (.bin .neq (.t 39) (.t 43))] [0,6,38,39,40,41,42,43])
(.cond (.t 44) (sr [
tq 45 (.build [.z (.int .i64 0),.z (.str []),.z (.list 0 []),.z (.list 0 []),.z (.str [])] []),
⟨none,none,.store 5 (.t 4) (.t 45)⟩,
tq 5 (.mv (kq 27))] [45]
.ret)
 .skip))
(sr [
mq 47 7,
tq 48 (cl zh1 [.t 47,.k (.d (.str [32]))]),
mq 46 48,
xq 49 46 0,
xq 50 46 1,
xq 51 46 2,
mq 8 49,
mq 9 50,
mq 10 51] [7,46,47,48,49,50,51]
(sr [
mq 53 8,
tq 54 (cl zg0 [.t 53]),
mq 52 54,
xq 55 52 0,
xq 56 52 1,
mq 11 55,
mq 12 56] [8,52,53,54,55,56]
(sr [
mq 58 9,
tq 59 (cl zf1 [.t 58]),
mq 57 59,
xq 60 57 0,
xq 61 57 1,
tq 13 (.alloc zac [.z (.int .i64 0),.z (.str []),.z (.list 0 []),.z (.list 0 []),.z (.str [])]),
⟨none,none,.store 5 (.t 13) (.t 60)⟩,
mq 14 61] [9,57,58,59,60,61]
(sr [
mq 62 11,
fa 63 0 13,
⟨none,none,.store 1 (.t 63) (.t 62)⟩] [62,63]
(.seq (sr [
mq 64 10,
tq 65 (.un .not (.t 64)),
mq 66 65,
gq 67 66 false (.mv (.t 12)),
gq 68 66 false (.un .not (.t 67)),
tq 69 (.pick (.t 66) (.k (.d (.bool true))) (.t 68)),
mq 70 69,
gq 71 70 false (.mv (.t 14)),
gq 72 70 false (.un .not (.t 71)),
tq 73 (.pick (.t 70) (.k (.d (.bool true))) (.t 72)),
mq 74 73,
gq 75 74 false (.load (some 5) (.t 13)),
gq 76 74 false (cl zc9 [.t 75]),
gq 77 74 false (.bin .neq (.t 76) (kq 0)),
tq 78 (.pick (.t 74) (.k (.d (.bool true))) (.t 77))] [10,12,14,64,65,66,67,68,69,70,71,72,73,74,75,76,77]
(.cond (.t 78) (sr [
tq 79 (.build [.z (.int .i64 0),.z (.str []),.z (.list 0 []),.z (.list 0 []),.z (.str [])] []),
⟨none,none,.store 5 (.t 4) (.t 79)⟩,
tq 5 (.mv (kq 25))] [79]
.ret)
 .skip))
(.seq (.reg true [
lq 80 5 13,
mq 81 11,
mq 82 1,
tq 83 (.bin .add (.t 82) (kq 1)),
tq 84 (.bin .neq (.t 81) (.t 83)),
tq 85 (cl zan [.t 84,kq 11]),
⟨none,none,.store 5 (.t 4) (.t 80)⟩,
mq 5 85] [1,11,13,80,81,82,83,84,85])
.ret)))))))))))⟩
def z7s:CF:=⟨[.tmp 2],
  (sr [
tq 2 (.mv (.k (.d (.str []))))] [2]
(.seq (sr [
mq 3 0,
tq 4 (.bin .lss (.t 3) (kq 10))] [3]
(.cond (.t 4) (sr [
mq 5 0,
tq 6 (cl zme [.t 5]),
mq 2 6] [0,5,6]
.ret)
 .skip))
(sr [
mq 7 0,
tq 8 (.bin .quo (.t 7) (kq 10)),
tq 9 (cl zle [.t 8]),
mq 10 0,
tq 11 (.bin .rem (.t 10) (kq 10)),
tq 12 (cl zme [.t 11]),
tq 13 (.bin .add (.t 9) (.t 12)),
mq 2 13] [0,7,8,9,10,11,12,13]
.ret)))⟩
def zuf:C:=
  (sr [
tq 18 (.bin .lss (.t 17) (.t 16))] []
(.seq (.cond (.t 18) .skip
 (.exit 0))
(.seq (.block 1 (sr [
tq 19 (.idxAddr 4 (.t 15) (.t 17)),
lq 20 4 19,
tq 6 (.alloc zcs [.z (.str []),.z (.int .i64 0),.z (.int .i64 0),.z (.str [])]),
⟨none,none,.store 4 (.t 6) (.t 20)⟩] [19,20]
(sr [
fa 21 0 6,
ld 22 21,
fa 23 1 6,
ld 24 23,
tq 25 (.build [.z (.str []),.z (.int .i64 0)] [(0,1,.t 22),(1,1,.t 24)]),
tq 7 (.alloc zvn [.z (.str []),.z (.int .i64 0)]),
⟨none,none,.store 2 (.t 7) (.t 25)⟩] [21,22,23,24,25]
(sr [
mq 27 4,
lq 28 2 7,
tq 29 (.lookup (.rc [true,false]) (.agg [.str [],.int .i64 0,.int .i64 0,.str []]) true (.t 27) (.t 28)),
mq 26 29,
xq 30 26 0,
xq 31 26 1,
tq 8 (.alloc zcs [.z (.str []),.z (.int .i64 0),.z (.int .i64 0),.z (.str [])]),
⟨none,none,.store 4 (.t 8) (.t 30)⟩,
mq 9 31] [26,27,28,29,30,31]
(.seq (sr [
lq 32 4 6,
tq 33 (cl zm3 [.t 32]),
mq 34 9,
mq 35 34,
gq 36 35 true (.load (some 4) (.t 8)),
gq 37 35 true (.load (some 4) (.t 6)),
gq 38 35 true (.eqv (some [.str,.int,.int,.str]) true (.t 36) (.t 37)),
tq 39 (.pick (.t 35) (.t 38) (.k (.d (.bool false)))),
tq 40 (cl zan [.t 39,kq 29]),
tq 41 (.mkList 1 2 [.t 33,.t 40]),
tq 42 (cl za2 [.t 41]),
mq 10 42] [8,9,32,33,34,35,36,37,38,39,40,41,42]
(sr [
mq 43 10,
tq 44 (.bin .neq (.t 43) (kq 0))] [43]
(.cond (.t 44) (sr [
mq 45 10,
tq 2 (.mv (.k (.d (.nilm)))),
mq 3 45] [10,45]
.ret)
 .skip)))
(rg [
mq 46 4,
lq 47 2 7,
lq 48 4 6,
⟨none,none,.mapSet (.rc [true,false]) (.t 46) (.t 47) (.t 48)⟩] [6,7,46,47,48]))))))
(rg [
tq 49 (.bin .add (.t 17) (kq 1)),
mq 17 49] [49]))))
def zyb:CF:=⟨[.tmp 2,.tmp 3],
  (sr [
tq 2 (.mv (.k (.d (.nilm)))),
tq 3 (.mv (kq 0))] [2,3]
(.seq (sr [
mq 11 0,
tq 12 (.len .slc (.t 11)),
tq 13 (.bin .gtr (.t 12) (kq 256))] [11,12]
(.cond (.t 13) (sr [
tq 2 (.mv (.k (.d (.nilm)))),
tq 3 (.mv (kq 5))] []
.ret)
 .skip))
(sr [
tq 14 (.mkMap),
mq 4 14] [14]
(.seq (sr [
mq 15 0,
tq 16 (.len .slc (.t 15)),
tq 17 (.mv (kq 0))] [0]
(.block 0 (.loop [4,15,16,17] zuf)))
(sr [
mq 50 4,
mq 2 50,
tq 3 (.mv (kq 0))] [4,50]
.ret)))))⟩
def zkj:CF:=⟨[.tmp 4],
  (sr [
tq 4 (.ownNil ⟨true,zcs,4,48⟩)] [4]
(sr [
mq 6 0,
tq 7 (.call true false (.k (.fn zhb [] [])) [.t 6]),
mq 5 7] [0,6,7]
(sr [
mq 8 5,
mq 9 1,
tq 10 (.callB true (.k (.fn zdt [] [])) [.t 8,.t 9] 8)] [1,8,9,10]
(sr [
mq 11 5,
mq 4 11] [5,11]
.ret))))⟩
def zdj:CF:=⟨[.tmp 2],
  (sr [
tq 1 (.box zlz (.t 0)),
tq 2 (.mv (.k (.d (.nilf))))] [0,2]
(sr [
tq 3 (.mkFunc zbn [] [.t 1]),
mq 2 3] [1,3]
.ret))⟩
def zwd:CF:=⟨[.tmp 4],
  (sr [
tq 2 (.box zcs (.t 0)),
tq 3 (.box zcs (.t 1)),
tq 4 (.mv (kq 0))] [0,1,4]
(.seq (.reg true [
fa 5 2 2,
ld 6 5,
fa 7 2 3,
ld 8 7,
tq 9 (cl zkq [.t 6,.t 8]),
fa 10 0 2,
ld 11 10,
fa 12 0 3,
ld 13 12,
tq 14 (cl zl2 [.t 11,.t 13]),
fa 15 1 2,
ld 16 15,
fa 17 1 3,
ld 18 17,
tq 19 (cl zkq [.t 16,.t 18]),
tq 20 (.mkList 1 3 [.t 9,.t 14,.t 19]),
tq 21 (cl zxl [.t 20]),
mq 4 21] [2,3,5,6,7,8,9,10,11,12,13,14,15,16,17,18,19,20,21])
.ret))⟩
def z19:C:=
  (sr [
tq 9 (.bin .lss (.t 8) (.t 7))] []
(.seq (.cond (.t 9) .skip
 (.exit 0))
(.seq (.block 1 (sr [
tq 10 (.idxAddr 1 (.t 6) (.t 8)),
ld 11 10,
mq 5 11] [10,11]
(sr [
mq 12 5,
mq 13 3,
tq 14 (.bin .neq (.t 12) (.t 13))] [12,13]
(.cond (.t 14) (sr [
mq 15 5,
mq 2 15] [5,15]
.ret)
 .skip))))
(rg [
tq 16 (.bin .add (.t 8) (kq 1)),
mq 8 16] [16]))))
def z7o:CF:=⟨[.tmp 2],
  (sr [
tq 2 (.mv (kq 0))] [2]
(sr [
tq 3 (.mv (kq 0))] []
(.seq (sr [
mq 6 0,
tq 7 (.len .slc (.t 6)),
tq 8 (.mv (kq 0))] [0]
(.block 0 (.loop [3,6,7,8] z19)))
(sr [
mq 17 3,
mq 2 17] [3,17]
.ret))))⟩
def zv9:CF:=⟨[.tmp 4],
  (sr [
tq 4 (.mv (kq 0))] [4]
(sr [
mq 7 0,
tq 8 (cl zm1 [.t 7]),
mq 5 8] [7,8]
(sr [
mq 9 1,
tq 10 (cl zm1 [.t 9]),
mq 6 10] [9,10]
(.seq (sr [
mq 11 5] [5]
(.cond (.t 11) (.seq (sr [
mq 12 6] [6]
(.cond (.t 12) (sr [
tq 4 (.mv (kq 0))] []
.ret)
 .skip))
(sr [
tq 4 (.mv (kq (-1)))] []
.ret))
 .skip))
(.seq (sr [
mq 13 6] [6]
(.cond (.t 13) (sr [
tq 4 (.mv (kq 1))] []
.ret)
 .skip))
(.seq (sr [
mq 14 0,
mq 15 1,
tq 16 (.bin .lss (.t 14) (.t 15))] [14,15]
(.cond (.t 16) (sr [
tq 4 (.mv (kq (-1)))] []
.ret)
 .skip))
(.seq (sr [
mq 17 0,
mq 18 1,
tq 19 (.bin .gtr (.t 17) (.t 18))] [0,1,17,18]
(.cond (.t 19) (sr [
tq 4 (.mv (kq 1))] []
.ret)
 .skip))
(sr [
tq 4 (.mv (kq 0))] []
.ret))))))))⟩
def zrz:CF:=⟨[.tmp 4],
  (sr [
tq 4 (.mv (kq 0))] [4]
(sr [
mq 7 0,
tq 8 (cl zjp [.t 7]),
mq 5 8] [7,8]
(sr [
mq 9 1,
tq 10 (cl zjp [.t 9]),
mq 6 10] [9,10]
(.seq (sr [
mq 11 5] [5]
(.cond (.t 11) (.seq (sr [
mq 12 6] [6]
(.cond (.t 12) (sr [
tq 4 (.mv (kq 0))] []
.ret)
 .skip))
(sr [
tq 4 (.mv (kq (-1)))] []
.ret))
 .skip))
(.seq (sr [
mq 13 6] [6]
(.cond (.t 13) (sr [
tq 4 (.mv (kq 1))] []
.ret)
 .skip))
(.seq (sr [
mq 14 0,
mq 15 1,
tq 16 (.bin .lss (.t 14) (.t 15))] [14,15]
(.cond (.t 16) (sr [
tq 4 (.mv (kq (-1)))] []
.ret)
 .skip))
(.seq (sr [
mq 17 0,
mq 18 1,
tq 19 (.bin .gtr (.t 17) (.t 18))] [0,1,17,18]
(.cond (.t 19) (sr [
tq 4 (.mv (kq 1))] []
.ret)
 .skip))
(sr [
tq 4 (.mv (kq 0))] []
.ret))))))))⟩
def zqi:CF:=⟨[.tmp 2],
  (sr [
tq 2 (.ownNil ⟨true,zab,1,16⟩)] [2]
(sr [
mq 4 0,
tq 5 (.call true false (.k (.fn zer [] [])) [.t 4]),
mq 3 5] [0,4,5]
(sr [
mq 6 3,
tq 7 (.callB true (.k (.fn n_slices_Sort_Lstring_string [] [])) [.t 6] 6)] [6,7]
(sr [
mq 8 3,
mq 2 8] [3,8]
.ret))))⟩
def zh9:CF:=⟨[.tmp 2],
  (sr [
tq 1 (.box zw8 (.t 0)),
tq 2 (.mv (.k (.d (.nilf))))] [0,2]
(sr [
tq 3 (.mkFunc zd6 [] [.t 1]),
mq 2 3] [1,3]
.ret))⟩
def zvt:C:=
  (.seq (sr [
mq 6 5,
mq 7 0,
tq 8 (.len .slc (.t 7)),
tq 9 (.bin .lss (.t 6) (.t 8))] [6,7,8]
(.cond (.t 9) .skip
 (.exit 0)))
(.seq (.block 1 (sr [
mq 12 0,
mq 13 5,
tq 14 (.idxAddr 1 (.t 12) (.t 13)),
ld 15 14,
mq 16 1,
tq 17 (.bin .eql (.t 15) (.t 16))] [12,13,14,15,16]
(.cond (.t 17) (sr [
tq 4 (.mv (.k (.d (.bool true))))] []
.ret)
 .skip)))
(rg [
mq 10 5,
tq 11 (.bin .add (.t 10) (kq 1)),
mq 5 11] [10,11])))
def zz1:CF:=⟨[.tmp 4],
  (sr [
tq 4 (.mv (.k (.d (.bool false))))] [4]
(.seq (sr [
tq 5 (.mv (kq 0))] []
(.block 0 (.loop [0,1,5] zvt)))
(sr [
tq 4 (.mv (.k (.d (.bool false))))] []
.ret)))⟩
def z5f:CF:=⟨[.tmp 0],
  (sr [
tq 0 (.mv (.k (.d (.list 0 []))))] [0]
(sr [
tq 1 (.mkList 1 4 [.k (.d (.str [101,110,116,101,114,32,101,32,97,32,53,32,49,48,32,50,48,32,54,48,48])),.k (.d (.str [114,117,108,101,32,114,32,97,32,55,32,49,53,32,50,48,32,54,54,48])),.k (.d (.str [102,111,108,108,111,119,32,102,32,98,32,114,32,56,32,49,53,32,50,48,32,55,48,48])),.k (.d (.str [114,101,118,101,114,115,101,32,114,32,57]))]),
mq 0 1] [1]
.ret))⟩
def z2f:CF:=⟨[.tmp 4,.tmp 5],
  (sr [
tq 4 (.mv (.k (.d (.nilp)))),
tq 5 (.mv (kq 0))] [4,5]
(sr [
mq 10 0,
tq 11 (.call false false (.k (.fn ze5 [] [])) [.t 10]),
mq 9 11,
xq 12 9 0,
xq 13 9 1,
xq 14 9 2,
mq 6 12,
mq 7 13,
mq 8 14] [0,7,9,10,11,12,13,14]
(.seq (sr [
mq 15 8,
mq 16 1,
tq 17 (cl za2 [.t 16]),
tq 18 (.mkList 1 2 [.t 15,.t 17]),
tq 19 (cl za2 [.t 18]),
mq 8 19] [1,15,16,17,18,19]
(sr [
mq 20 8,
tq 21 (.bin .neq (.t 20) (kq 0))] [20]
(.cond (.t 21) (sr [
mq 22 8,
tq 4 (.mv (.k (.d (.nilp)))),
mq 5 22] [8,22]
.ret)
 .skip)))
(sr [
mq 23 6,
tq 24 (.nilCheck (.t 23)),
fa 25 1 24,
mq 4 25,
tq 5 (.mv (kq 0))] [6,23,24,25]
.ret))))⟩
def z2i:CF:=⟨[.tmp 2],
  (sr [
tq 2 (.mv (kq 0))] [2]
(sr [
mq 3 0,
tq 4 (cl zko [.t 3]),
tq 5 (.un .not (.t 4)),
tq 6 (cl zan [.t 5,kq 8]),
mq 2 6] [0,3,4,5,6]
.ret))⟩
def zwe:CF:=⟨[.tmp 2],
  (sr [
tq 2 (.mv (kq 0))] [2]
(sr [
mq 3 0,
tq 4 (cl zgc [.t 3,kq 0,kq 99999]),
mq 2 4] [0,3,4]
.ret))⟩
def zh5:C:=
  (rg [
tq 10 (.alloc zae [.z (.str []),.z (.str []),.z (.str []),.z (.str []),.z (.int .i64 0),.z (.int .i64 0),.z (.int .i64 0),.z (.int .i64 0)]),
⟨none,none,.store 8 (.t 10) (.t 17)⟩] [17])
def zh6:C:=
  (.block 1 (sr [
fa 18 2 10,
ld 19 18,
ld 20 5,
tq 21 (.bin .eql (.t 19) (.t 20)),
mq 22 21,
gq 23 22 true (.fieldAddr 5 (.t 10)),
gq 24 22 true (.load none (.t 23)),
gq 25 22 true (.load none (.t 7)),
gq 26 22 true (.bin .leq (.t 24) (.t 25)),
tq 27 (.pick (.t 22) (.t 26) (.k (.d (.bool false)))),
mq 28 27,
gq 29 28 true (.load none (.t 7)),
gq 30 28 true (.fieldAddr 6 (.t 10)),
gq 31 28 true (.load none (.t 30)),
gq 32 28 true (.bin .leq (.t 29) (.t 31)),
tq 33 (.pick (.t 28) (.t 32) (.k (.d (.bool false)))),
mq 34 33,
gq 35 34 true (.load none (.t 4)),
gq 36 34 true (.load (some 8) (.t 10)),
gq 37 34 true (.load none (.t 6)),
gq 38 34 true (.callQ (.k (.fn zb5 [] [])) [.t 35,.t 36,.t 37]),
tq 39 (.pick (.t 34) (.t 38) (.k (.d (.bool false))))] [4,5,6,7,18,19,20,21,22,23,24,25,26,27,28,29,30,31,32,33,34,35,36,37,38]
(.cond (.t 39) (sr [
fa 40 7 10,
ld 41 40,
⟨none,none,.store 1 (.t 8) (.t 41)⟩] [10,40,41]
.ret)
 .skip)))
def zol:CF:=⟨[.cell 8 none],
  (sr [
tq 4 (.box za3 (.t 0)),
tq 5 (.box zab (.t 1)),
tq 6 (.box zbq (.t 2)),
tq 7 (.box zbq (.t 3)),
tq 8 (.alloc zbq [.z (.int .i64 0)])] [0,1,2,3]
(.seq (sr [
ld 11 4,
tq 12 (.nilCheck (.t 11)),
fa 13 1 12,
ld 14 13,
tq 15 (.call false false (.k (.fn za0 [] [])) [.t 14])] [11,12,13,14]
(.block 0 (.rangeFn 43 (.t 15) [16,17] zh5 zh6)))
(sr [
⟨none,none,.store 1 (.t 8) (kq 1440)⟩] []
.ret)))⟩
def znf:CF:=⟨[.tmp 4],
  (sr [
tq 2 (.box za3 (.t 0)),
tq 3 (.box zbq (.t 1)),
tq 4 (.mv (.k (.d (.list 0 []))))] [0,1,4]
(sr [
ld 5 2,
tq 6 (.nilCheck (.t 5)),
fa 7 1 6,
ld 8 7,
tq 9 (.mkFunc zcl [] [.t 2,.t 3]),
tq 10 (.call true true (.k (.fn zcx [] [])) [.t 8,.t 9]),
tq 11 (.call true true (.k (.fn zaz [] [])) [.t 10,.k (.fn zgu [] [])]),
mq 4 11] [2,3,5,6,7,8,9,10,11]
.ret))⟩
def zn7:CF:=⟨[.tmp 4,.tmp 5],
  (sr [
tq 2 (.box za3 (.t 0)),
tq 3 (.box zab (.t 1)),
tq 4 (.mv (.k (.d (.list 0 [])))),
tq 5 (.mv (kq 0))] [0,1,4,5]
(.seq (sr [
ld 7 2,
ld 8 3,
tq 9 (.callQ (.k (.fn zbt [] [])) [.t 7,.t 8]),
tq 10 (.nilEq 0 false (.t 9))] [7,8,9]
(.cond (.t 10) (sr [
tq 4 (.mv (.k (.d (.list 0 [])))),
tq 5 (.mv (kq 10))] []
.ret)
 .skip))
(sr [
tq 11 (.mkFunc zcp [] [.t 2,.t 3]),
mq 6 11] [3,11]
(sr [
ld 12 2,
tq 13 (.nilCheck (.t 12)),
fa 14 1 13,
ld 15 14,
mq 16 6,
tq 17 (.call true true (.k (.fn zcx [] [])) [.t 15,.t 16]),
tq 18 (.call true true (.k (.fn zaz [] [])) [.t 17,.k (.fn zgu [] [])]),
mq 4 18,
tq 5 (.mv (kq 0))] [2,6,12,13,14,15,16,17,18]
.ret))))⟩
def zqa:CF:=⟨[.tmp 2],
  (sr [
tq 1 (.box zml (.t 0)),
tq 2 (.mv (kq 0))] [0,2]
(.seq (.seq (.reg true [
fa 4 0 1,
ld 5 4,
tq 6 (cl zi2 [.t 5]),
fa 7 1 1,
ld 8 7,
tq 9 (cl zi2 [.t 8]),
tq 10 (.mkList 1 2 [.t 6,.t 9]),
tq 11 (cl zlu [.t 10]),
mq 3 11] [4,5,6,7,8,9,10,11])
(sr [
mq 12 3,
tq 13 (.bin .neq (.t 12) (kq 0))] [12]
(.cond (.t 13) (sr [
mq 14 3,
mq 2 14] [3,14]
.ret)
 .skip)))
(.seq (.reg true [
fa 15 1 1,
ld 16 15,
fa 17 0 1,
ld 18 17,
tq 19 (.bin .lss (.t 16) (.t 18)),
tq 20 (cl zjo [.t 19,kq 11]),
fa 21 1 1,
ld 22 21,
fa 23 0 1,
ld 24 23,
tq 25 (.bin .sub (.t 22) (.t 24)),
tq 26 (.bin .gtr (.t 25) (kq 400)),
tq 27 (cl zjo [.t 26,kq 4]),
fa 28 2 1,
ld 29 28,
tq 30 (cl zkp [.t 29,kq 1,kq 127]),
tq 31 (.mkList 1 3 [.t 20,.t 27,.t 30]),
tq 32 (cl zlu [.t 31]),
mq 2 32] [1,15,16,17,18,19,20,21,22,23,24,25,26,27,28,29,30,31,32])
.ret)))⟩
def zv4:CF:=⟨[.tmp 2,.tmp 3],
  (sr [
tq 1 (.box zml (.t 0)),
tq 2 (.mv (.k (.d (.list 0 [])))),
tq 3 (.mv (kq 0))] [0,2,3]
(.seq (sr [
lq 5 3 1,
tq 6 (cl zg8 [.t 5]),
mq 4 6] [5,6]
(sr [
mq 7 4,
tq 8 (.bin .neq (.t 7) (kq 0))] [7]
(.cond (.t 8) (sr [
mq 9 4,
tq 2 (.mv (.k (.d (.list 0 [])))),
mq 3 9] [4,9]
.ret)
 .skip)))
(sr [
lq 10 3 1,
tq 11 (.call false false (.k (.fn zow [] [])) [.t 10]),
tq 12 (.call true true (.k (.fn zi9 [] [])) [.t 11,.k (.fn zmz [] [])]),
mq 2 12,
tq 3 (.mv (kq 0))] [1,10,11,12]
.ret)))⟩
def zsw:C:=
  (sr [
tq 11 (.bin .lss (.t 10) (.t 9))] []
(.seq (.cond (.t 11) .skip
 (.exit 0))
(.seq (.block 1 (sr [
tq 12 (.idxAddr 1 (.t 8) (.t 10)),
ld 13 12,
mq 7 13] [12,13]
(sr [
mq 14 1,
mq 15 7,
tq 16 (.call true true (.t 14) [.t 15])] [14,15]
(.cond (.t 16) (rg [
mq 17 5,
mq 18 7,
tq 19 (.mkList 1 1 [.t 18]),
tq 20 (.append ⟨false,zbq,1,8⟩ (.t 17) (.t 19)),
mq 5 20] [7,17,18,19,20])
 .skip))))
(rg [
tq 21 (.bin .add (.t 10) (kq 1)),
mq 10 21] [21]))))
def zwg:CF:=⟨[.tmp 4],
  (sr [
tq 4 (.ownNil ⟨false,zbq,1,8⟩)] [4]
(sr [
tq 5 (.ownNil ⟨false,zbq,1,8⟩)] []
(.seq (sr [
mq 8 0,
tq 9 (.len .slc (.t 8)),
tq 10 (.mv (kq 0))] [0]
(.block 0 (.loop [1,5,8,9,10] zsw)))
(sr [
mq 22 5,
mq 4 22] [5,22]
.ret))))⟩
def zqc:CF:=⟨[.tmp 6],
  (sr [
tq 6 (.mv (.k (.d (.bool false))))] [6]
(.seq (.reg true [
ld 7 1,
ld 8 2,
ld 9 3,
mq 10 0,
tq 11 (.callQ (.k (.fn zba [] [])) [.t 7,.t 8,.t 9,.t 10]),
ld 12 1,
ld 13 2,
ld 14 4,
mq 15 0,
tq 16 (.callQ (.k (.fn zba [] [])) [.t 12,.t 13,.t 14,.t 15]),
tq 17 (.bin .neq (.t 11) (.t 16)),
mq 6 17] [0,1,2,3,4,7,8,9,10,11,12,13,14,15,16,17])
.ret))⟩
def zn4:C:=
  (sr [
tq 21 (.bin .lss (.t 20) (.t 19))] []
(.seq (.cond (.t 21) .skip
 (.exit 0))
(.seq (.block 1 (sr [
tq 22 (.idxAddr 8 (.t 18) (.t 20)),
lq 23 8 22,
tq 9 (.alloc zae [.z (.str []),.z (.str []),.z (.str []),.z (.str []),.z (.int .i64 0),.z (.int .i64 0),.z (.int .i64 0),.z (.int .i64 0)]),
⟨none,none,.store 8 (.t 9) (.t 23)⟩] [22,23]
(rg [
mq 24 7,
fa 25 2 9,
ld 26 25,
⟨none,none,.mapSet .str (.t 24) (.t 26) (.k (.d (.bool true)))⟩] [9,24,25,26])))
(rg [
tq 27 (.bin .add (.t 20) (kq 1)),
mq 20 27] [27]))))
def zn5:C:=
  (sr [
tq 33 (.bin .lss (.t 32) (.t 31))] []
(.seq (.cond (.t 33) .skip
 (.exit 2))
(.seq (.block 3 (sr [
tq 34 (.idxAddr 1 (.t 30) (.t 32)),
ld 35 34,
mq 12 35] [34,35]
(sr [
mq 36 12,
mq 37 0,
mq 38 12,
mq 39 1,
mq 40 2,
tq 41 (.callQ (.k (.fn zba [] [])) [.t 37,.t 38,.t 39,.t 40]),
tq 42 (.build [.z (.str []),.z (.int .i64 0)] [(0,1,.t 36),(1,1,.t 41)]),
tq 13 (.alloc zb7 [.z (.str []),.z (.int .i64 0)]),
⟨none,none,.store 2 (.t 13) (.t 42)⟩] [36,37,38,39,40,41,42]
(sr [
lq 43 2 13,
mq 44 12,
tq 45 (.build [.z (.str []),.z (.int .i64 0)] [(0,1,.t 44),(1,1,kq 1440)]),
tq 46 (.eqv (some [.str,.int]) true (.t 43) (.t 45))] [12,43,44,45]
(.cond (.t 46) (rg [
mq 47 10,
lq 48 2 13,
tq 49 (.mkList 2 1 [.t 48]),
tq 50 (.append ⟨false,zb7,2,24⟩ (.t 47) (.t 49)),
mq 10 50] [13,47,48,49,50])
 .skip)))))
(rg [
tq 51 (.bin .add (.t 32) (kq 1)),
mq 32 51] [51]))))
def zpa:CF:=⟨[.tmp 6],
  (sr [
tq 6 (.ownNil ⟨false,zb7,2,24⟩)] [6]
(sr [
tq 14 (.mkMap),
mq 7 14] [14]
(.seq (sr [
mq 15 0,
tq 16 (.nilCheck (.t 15)),
fa 17 1 16,
ld 18 17,
tq 19 (.len .slc (.t 18)),
tq 20 (.mv (kq 0))] [15,16,17]
(.block 0 (.loop [0,1,2,7,18,19,20] zn4)))
(sr [
tq 10 (.ownNil ⟨false,zb7,2,24⟩)] []
(.seq (sr [
mq 28 7,
tq 29 (.call true false (.k (.fn zbr [] [])) [.t 28]),
tq 30 (.call true true (.k (.fn zd0 [] [])) [.t 29]),
tq 31 (.len .slc (.t 30)),
tq 32 (.mv (kq 0))] [7,28,29]
(.block 2 (.loop [0,1,2,10,30,31,32] zn5)))
(sr [
mq 52 10,
mq 6 52] [10,52]
.ret))))))⟩
def zx4:C:=
  (.seq (sr [
mq 4 3,
mq 5 0,
tq 6 (.len .str (.t 5)),
tq 7 (.bin .lss (.t 4) (.t 6))] [4,5,6]
(.cond (.t 7) .skip
 (.exit 0)))
(.seq (.block 1 (sr [
mq 10 0,
mq 11 3,
tq 12 (.idxS (.t 10) (.t 11)),
tq 13 (.bin .lss (.t 12) (.k (.d (.int .u8 48)))),
mq 14 13,
gq 15 14 false (.mv (.t 0)),
gq 16 14 false (.mv (.t 3)),
gq 17 14 false (.idxS (.t 15) (.t 16)),
gq 18 14 false (.bin .gtr (.t 17) (.k (.d (.int .u8 57)))),
tq 19 (.pick (.t 14) (.k (.d (.bool true))) (.t 18))] [10,11,12,13,14,15,16,17,18]
(.cond (.t 19) (sr [
tq 2 (.mv (.k (.d (.bool false))))] []
.ret)
 .skip)))
(rg [
mq 8 3,
tq 9 (.bin .add (.t 8) (kq 1)),
mq 3 9] [8,9])))
def z2r:CF:=⟨[.tmp 2],
  (sr [
tq 2 (.mv (.k (.d (.bool false))))] [2]
(.seq (sr [
tq 3 (.mv (kq 0))] []
(.block 0 (.loop [0,3] zx4)))
(sr [
mq 20 0,
tq 21 (.len .str (.t 20)),
tq 22 (.bin .eql (.t 21) (kq 7)),
mq 2 22] [0,20,21,22]
.ret)))⟩
def zzk:C:=
  (.seq (sr [
mq 6 5,
mq 7 0,
tq 8 (.len .str (.t 7)),
tq 9 (.bin .leq (.t 6) (.t 8))] [6,7,8]
(.cond (.t 9) .skip
 (.exit 0)))
(.seq (.block 1 (sr [
mq 12 5,
mq 13 0,
tq 14 (.len .str (.t 13)),
tq 15 (.bin .eql (.t 12) (.t 14)),
mq 16 15,
gq 17 16 false (.mv (.t 0)),
gq 18 16 false (.mv (.t 5)),
gq 19 16 false (.idxS (.t 17) (.t 18)),
gq 20 16 false (.bin .eql (.t 19) (.k (.d (.int .u8 32)))),
tq 21 (.pick (.t 16) (.k (.d (.bool true))) (.t 20))] [12,13,14,15,16,17,18,19,20]
(.cond (.t 21) (sr [
mq 22 3,
mq 23 0,
mq 24 4,
mq 25 5,
tq 26 (.sliceS (.t 23) (some (.t 24)) (some (.t 25))),
tq 27 (.mkList 1 1 [.t 26]),
tq 28 (.append ⟨false,zab,1,16⟩ (.t 22) (.t 27)),
mq 3 28] [4,22,23,24,25,26,27,28]
(rg [
mq 29 5,
tq 30 (.bin .add (.t 29) (kq 1)),
mq 4 30] [29,30]))
 .skip)))
(rg [
mq 10 5,
tq 11 (.bin .add (.t 10) (kq 1)),
mq 5 11] [10,11])))
def z5q:CF:=⟨[.tmp 2],
  (sr [
tq 2 (.ownNil ⟨false,zab,1,16⟩)] [2]
(sr [
tq 3 (.ownNil ⟨false,zab,1,16⟩)] []
(sr [
tq 4 (.mv (kq 0))] []
(.seq (sr [
tq 5 (.mv (kq 0))] []
(.block 0 (.loop [0,3,4,5] zzk)))
(sr [
mq 31 3,
mq 2 31] [3,31]
.ret)))))⟩
def zvv:C:=
  (.seq (sr [
mq 24 5,
mq 25 0,
tq 26 (.len .str (.t 25)),
tq 27 (.bin .lss (.t 24) (.t 26))] [24,25,26]
(.cond (.t 27) .skip
 (.exit 0)))
(.seq (.block 1 (.seq (sr [
mq 30 0,
mq 31 5,
tq 32 (.idxS (.t 30) (.t 31)),
tq 33 (.bin .lss (.t 32) (.k (.d (.int .u8 48)))),
mq 34 33,
gq 35 34 false (.mv (.t 0)),
gq 36 34 false (.mv (.t 5)),
gq 37 34 false (.idxS (.t 35) (.t 36)),
gq 38 34 false (.bin .gtr (.t 37) (.k (.d (.int .u8 57)))),
tq 39 (.pick (.t 34) (.k (.d (.bool true))) (.t 38))] [30,31,32,33,34,35,36,37,38]
(.cond (.t 39) (sr [
tq 2 (.mv (kq 0)),
tq 3 (.mv (.k (.d (.bool false))))] []
.ret)
 .skip))
(rg [
mq 40 4,
tq 41 (.bin .mul (kq 10) (.t 40)),
mq 42 0,
mq 43 5,
tq 44 (.idxS (.t 42) (.t 43)),
tq 45 (.bin .sub (.t 44) (.k (.d (.int .u8 48)))),
tq 46 (.conv .i64 (.t 45)),
tq 47 (.bin .add (.t 41) (.t 46)),
mq 4 47] [40,41,42,43,44,45,46,47])))
(rg [
mq 28 5,
tq 29 (.bin .add (.t 28) (kq 1)),
mq 5 29] [28,29])))
def zz4:CF:=⟨[.tmp 2,.tmp 3],
  (sr [
tq 2 (.mv (kq 0)),
tq 3 (.mv (.k (.d (.bool false))))] [2,3]
(.seq (sr [
mq 6 0,
tq 7 (.len .str (.t 6)),
tq 8 (.bin .eql (.t 7) (kq 0)),
mq 9 8,
gq 10 9 false (.mv (.t 0)),
gq 11 9 false (.len .str (.t 10)),
gq 12 9 false (.bin .gtr (.t 11) (kq 9)),
tq 13 (.pick (.t 9) (.k (.d (.bool true))) (.t 12)),
mq 14 13,
gq 15 14 false (.mv (.t 0)),
gq 16 14 false (.len .str (.t 15)),
gq 17 14 false (.bin .gtr (.t 16) (kq 1)),
gq 18 14 false (.mv (.t 17)),
gq 19 18 true (.mv (.t 0)),
gq 20 18 true (.idxS (.t 19) (kq 0)),
gq 21 18 true (.bin .eql (.t 20) (.k (.d (.int .u8 48)))),
gq 22 14 false (.pick (.t 18) (.t 21) (.k (.d (.bool false)))),
tq 23 (.pick (.t 14) (.k (.d (.bool true))) (.t 22))] [6,7,8,9,10,11,12,13,14,15,16,17,18,19,20,21,22]
(.cond (.t 23) (sr [
tq 2 (.mv (kq 0)),
tq 3 (.mv (.k (.d (.bool false))))] []
.ret)
 .skip))
(sr [
tq 4 (.mv (kq 0))] []
(.seq (sr [
tq 5 (.mv (kq 0))] []
(.block 0 (.loop [0,4,5] zvv)))
(sr [
mq 48 4,
mq 2 48,
tq 3 (.mv (.k (.d (.bool true))))] [4,48]
.ret)))))⟩
def zz5:CF:=⟨[.tmp 6],
  (sr [
tq 6 (.mv (.k (.d (.bool false))))] [6]
(sr [
mq 7 0,
mq 8 1,
tq 9 (.bin .lss (.t 7) (.t 8)),
mq 10 9,
gq 11 10 false (.mv (.t 0)),
gq 12 10 false (.mv (.t 2)),
gq 13 10 false (.bin .gtr (.t 11) (.t 12)),
tq 14 (.pick (.t 10) (.k (.d (.bool true))) (.t 13)),
mq 6 14] [0,1,2,7,8,9,10,11,12,13,14]
.ret))⟩
def z7v:CF:=⟨[.cell 2 (some 3)],
  (sr [
tq 2 (.alloc zff [.z (.int .i64 0),.z (.int .i64 0),.z (.bool false)])] []
(.seq (sr [
mq 3 0] [0]
(.block 0 (.seq (sr [
tq 5 (.bin .eql (.t 3) (.k (.d (.str [101,110,116,101,114])))),
mq 4 5] [5]
(.cond (.t 4) .skip
 (rg [
tq 6 (.bin .eql (.t 3) (.k (.d (.str [114,117,108,101])))),
mq 4 6] [6])))
(.cond (.t 4) (sr [
tq 7 (.build [.z (.int .i64 0),.z (.int .i64 0),.z (.bool false)] [(0,1,kq 2),(1,1,kq 4),(2,1,.k (.d (.bool true)))]),
⟨none,none,.store 3 (.t 2) (.t 7)⟩] [7]
.ret)
 (sr [
tq 9 (.bin .eql (.t 3) (.k (.d (.str [102,111,108,108,111,119])))),
mq 8 9] [9]
(.cond (.t 8) (sr [
tq 10 (.build [.z (.int .i64 0),.z (.int .i64 0),.z (.bool false)] [(0,1,kq 3),(1,1,kq 4),(2,1,.k (.d (.bool true)))]),
⟨none,none,.store 3 (.t 2) (.t 10)⟩] [10]
.ret)
 (sr [
tq 12 (.bin .eql (.t 3) (.k (.d (.str [114,101,118,101,114,115,101])))),
mq 11 12] [12]
(.cond (.t 11) (sr [
tq 13 (.build [.z (.int .i64 0),.z (.int .i64 0),.z (.bool false)] [(0,1,kq 1),(1,1,kq 1),(2,1,.k (.d (.bool true)))]),
⟨none,none,.store 3 (.t 2) (.t 13)⟩] [13]
.ret)
 (sr [
tq 15 (.bin .eql (.t 3) (.k (.d (.str [99,111,109,112,108,97,105,110])))),
mq 14 15] [15]
(.cond (.t 14) (sr [
tq 16 (.build [.z (.int .i64 0),.z (.int .i64 0),.z (.bool false)] [(0,1,kq 2),(1,1,kq 1),(2,1,.k (.d (.bool true)))]),
⟨none,none,.store 3 (.t 2) (.t 16)⟩] [16]
.ret)
 (sr [
tq 18 (.bin .eql (.t 3) (.k (.d (.str [100,101,99,105,100,101])))),
mq 17 18] [3,18]
(.cond (.t 17) (sr [
tq 19 (.build [.z (.int .i64 0),.z (.int .i64 0),.z (.bool false)] [(0,1,kq 1),(1,1,kq 2),(2,1,.k (.d (.bool true)))]),
⟨none,none,.store 3 (.t 2) (.t 19)⟩] [19]
.ret)
 .skip))))))))))))
(sr [
tq 20 (.build [.z (.int .i64 0),.z (.int .i64 0),.z (.bool false)] []),
⟨none,none,.store 3 (.t 2) (.t 20)⟩] [20]
.ret)))⟩
def zxy:C:=
  (.seq (sr [
mq 14 3,
mq 15 0,
tq 16 (.len .str (.t 15)),
tq 17 (.bin .lss (.t 14) (.t 16))] [14,15,16]
(.cond (.t 17) .skip
 (.exit 0)))
(.seq (.block 1 (sr [
mq 20 0,
mq 21 3,
tq 22 (.idxS (.t 20) (.t 21)),
mq 4 22] [20,21,22]
(sr [
mq 23 4,
tq 24 (.bin .geq (.t 23) (.k (.d (.int .u8 97)))),
mq 25 24,
gq 26 25 true (.mv (.t 4)),
gq 27 25 true (.bin .leq (.t 26) (.k (.d (.int .u8 122)))),
tq 28 (.pick (.t 25) (.t 27) (.k (.d (.bool false)))),
mq 29 28,
gq 30 29 false (.mv (.t 4)),
gq 31 29 false (.bin .geq (.t 30) (.k (.d (.int .u8 65)))),
gq 32 29 false (.mv (.t 31)),
gq 33 32 true (.mv (.t 4)),
gq 34 32 true (.bin .leq (.t 33) (.k (.d (.int .u8 90)))),
gq 35 29 false (.pick (.t 32) (.t 34) (.k (.d (.bool false)))),
tq 36 (.pick (.t 29) (.k (.d (.bool true))) (.t 35)),
mq 5 36] [23,24,25,26,27,28,29,30,31,32,33,34,35,36]
(sr [
mq 37 5,
tq 38 (.un .not (.t 37)),
mq 39 38,
gq 40 39 true (.mv (.t 3)),
gq 41 39 true (.bin .eql (.t 40) (kq 0)),
gq 42 39 true (.mv (.t 41)),
gq 43 42 false (.mv (.t 4)),
gq 44 42 false (.bin .neq (.t 43) (.k (.d (.int .u8 95)))),
gq 45 42 false (.mv (.t 44)),
gq 46 45 true (.mv (.t 4)),
gq 47 45 true (.bin .lss (.t 46) (.k (.d (.int .u8 48)))),
gq 48 45 true (.mv (.t 47)),
gq 49 48 false (.mv (.t 4)),
gq 50 48 false (.bin .gtr (.t 49) (.k (.d (.int .u8 57)))),
gq 51 45 true (.pick (.t 48) (.k (.d (.bool true))) (.t 50)),
gq 52 42 false (.pick (.t 45) (.t 51) (.k (.d (.bool false)))),
gq 53 39 true (.pick (.t 42) (.k (.d (.bool true))) (.t 52)),
tq 54 (.pick (.t 39) (.t 53) (.k (.d (.bool false))))] [4,5,37,38,39,40,41,42,43,44,45,46,47,48,49,50,51,52,53]
(.cond (.t 54) (sr [
tq 2 (.mv (.k (.d (.bool false))))] []
.ret)
 .skip)))))
(rg [
mq 18 3,
tq 19 (.bin .add (.t 18) (kq 1)),
mq 3 19] [18,19])))
def z2k:CF:=⟨[.tmp 2],
  (sr [
tq 2 (.mv (.k (.d (.bool false))))] [2]
(.seq (sr [
mq 6 0,
tq 7 (.len .str (.t 6)),
tq 8 (.bin .eql (.t 7) (kq 0)),
mq 9 8,
gq 10 9 false (.mv (.t 0)),
gq 11 9 false (.len .str (.t 10)),
gq 12 9 false (.bin .gtr (.t 11) (kq 24)),
tq 13 (.pick (.t 9) (.k (.d (.bool true))) (.t 12))] [6,7,8,9,10,11,12]
(.cond (.t 13) (sr [
tq 2 (.mv (.k (.d (.bool false))))] []
.ret)
 .skip))
(.seq (sr [
tq 3 (.mv (kq 0))] []
(.block 0 (.loop [0,3] zxy)))
(sr [
tq 2 (.mv (.k (.d (.bool true))))] []
.ret))))⟩
def zsb:CF:=⟨[.tmp 4],
  (sr [
tq 2 (.box zaf (.t 0)),
tq 3 (.box zac (.t 1)),
tq 4 (.mv (kq 0))] [0,1,4]
(.seq (.seq (.reg true [
lq 6 4 2,
fa 7 2 3,
ld 8 7,
tq 9 (.idxAddr 1 (.t 8) (kq 0)),
ld 10 9,
tq 11 (cl zc3 [.t 6,.t 10]),
tq 12 (.bin .geq (.t 11) (kq 0))] [6,7,8,9,10,11])
(.cond (.t 12) (sr [
tq 4 (.mv (kq 9))] []
.ret)
 .skip))
(.seq (sr [
fa 13 1 2,
ld 14 13,
tq 15 (.len .slc (.t 14)),
tq 16 (.bin .geq (.t 15) (kq 256))] [13,14,15]
(.cond (.t 16) (sr [
tq 4 (.mv (kq 5))] []
.ret)
 .skip))
(.seq (sr [
fa 17 1 3,
ld 18 17,
tq 19 (.bin .eql (.t 18) (.k (.d (.str [102,111,108,108,111,119]))))] [17,18]
(.cond (.t 19) (.seq (.reg true [
lq 20 4 2,
fa 21 2 3,
ld 22 21,
tq 23 (.idxAddr 1 (.t 22) (kq 2)),
ld 24 23,
tq 25 (cl zc3 [.t 20,.t 24]),
mq 5 25] [20,21,22,23,24,25])
(.seq (sr [
mq 26 5,
tq 27 (.bin .lss (.t 26) (kq 0))] [26]
(.cond (.t 27) (sr [
tq 4 (.mv (kq 10))] []
.ret)
 .skip))
(.seq (.reg true [
lq 28 4 2,
mq 29 5,
fa 30 3 3,
ld 31 30,
tq 32 (.idxAddr 1 (.t 31) (kq 0)),
ld 33 32,
tq 34 (cl zeu [.t 28,.t 29,.t 33]),
tq 35 (.un .not (.t 34))] [2,5,28,29,30,31,32,33,34])
(.cond (.t 35) (sr [
tq 4 (.mv (kq 20))] []
.ret)
 .skip))))
 .skip))
(.seq (sr [
fa 36 3 3,
ld 37 36,
tq 38 (.idxAddr 1 (.t 37) (kq 1)),
ld 39 38,
tq 40 (.bin .gtr (.t 39) (kq 99999)),
mq 41 40,
gq 42 41 false (.fieldAddr 3 (.t 3)),
gq 43 41 false (.load none (.t 42)),
gq 44 41 false (.idxAddr 1 (.t 43) (kq 2)),
gq 45 41 false (.load none (.t 44)),
gq 46 41 false (.bin .gtr (.t 45) (kq 99999)),
tq 47 (.pick (.t 41) (.k (.d (.bool true))) (.t 46)),
mq 48 47,
gq 49 48 false (.fieldAddr 3 (.t 3)),
gq 50 48 false (.load none (.t 49)),
gq 51 48 false (.idxAddr 1 (.t 50) (kq 3)),
gq 52 48 false (.load none (.t 51)),
gq 53 48 false (.bin .gtr (.t 52) (kq 1440)),
tq 54 (.pick (.t 48) (.k (.d (.bool true))) (.t 53))] [36,37,38,39,40,41,42,43,44,45,46,47,48,49,50,51,52,53]
(.cond (.t 54) (sr [
tq 4 (.mv (kq 3))] []
.ret)
 .skip))
(.seq (.seq (.reg true [
fa 55 3 3,
ld 56 55,
tq 57 (.idxAddr 1 (.t 56) (kq 2)),
ld 58 57,
fa 59 3 3,
ld 60 59,
tq 61 (.idxAddr 1 (.t 60) (kq 1)),
ld 62 61,
tq 63 (.bin .lss (.t 58) (.t 62))] [3,55,56,57,58,59,60,61,62])
(.cond (.t 63) (sr [
tq 4 (.mv (kq 11))] []
.ret)
 .skip))
(sr [
tq 4 (.mv (kq 0))] []
.ret)))))))⟩
def zvu:C:=
  (.seq (sr [
mq 6 5,
fa 7 1 2,
ld 8 7,
tq 9 (.len .slc (.t 8)),
tq 10 (.bin .lss (.t 6) (.t 9))] [6,7,8,9]
(.cond (.t 10) .skip
 (.exit 0)))
(.seq (.block 1 (sr [
fa 13 1 2,
ld 14 13,
mq 15 5,
tq 16 (.idxAddr 8 (.t 14) (.t 15)),
fa 17 0 16,
ld 18 17,
mq 19 1,
tq 20 (.bin .eql (.t 18) (.t 19))] [13,14,15,16,17,18,19]
(.cond (.t 20) (sr [
mq 21 5,
mq 4 21] [5,21]
.ret)
 .skip)))
(rg [
mq 11 5,
tq 12 (.bin .add (.t 11) (kq 1)),
mq 5 12] [11,12])))
def zz3:CF:=⟨[.tmp 4],
  (sr [
tq 2 (.box zaf (.t 0)),
tq 4 (.mv (kq 0))] [0,4]
(.seq (sr [
tq 5 (.mv (kq 0))] []
(.block 0 (.loop [1,2,5] zvu)))
(sr [
tq 4 (.mv (kq (-1)))] []
.ret)))⟩
def z2l:CF:=⟨[.tmp 6],
  (sr [
tq 3 (.box zaf (.t 0)),
tq 6 (.mv (.k (.d (.bool false))))] [0,6]
(sr [
fa 8 1 3,
ld 9 8,
mq 10 1,
tq 11 (.idxAddr 8 (.t 9) (.t 10)),
lq 12 8 11,
tq 7 (.alloc zbv [.z (.str []),.z (.str []),.z (.str []),.z (.str []),.z (.int .i64 0),.z (.int .i64 0),.z (.int .i64 0),.z (.int .i64 0)]),
⟨none,none,.store 8 (.t 7) (.t 12)⟩] [1,8,9,10,11,12]
(.seq (sr [
fa 13 4 7,
ld 14 13,
mq 15 2,
tq 16 (.bin .gtr (.t 14) (.t 15)),
mq 17 16,
gq 18 17 false (.load (some 4) (.t 3)),
gq 19 17 false (.fieldAddr 0 (.t 7)),
gq 20 17 false (.load none (.t 19)),
gq 21 17 false (.mv (.t 2)),
gq 22 17 false (cl zm6 [.t 18,.t 20,.t 21]),
tq 23 (.pick (.t 17) (.k (.d (.bool true))) (.t 22))] [13,14,15,16,17,18,19,20,21,22]
(.cond (.t 23) (sr [
tq 6 (.mv (.k (.d (.bool false))))] []
.ret)
 .skip))
(.seq (.reg true [
fa 24 3 7,
ld 25 24,
tq 26 (.bin .eql (.t 25) (.k (.d (.str [])))),
mq 27 26,
gq 28 27 false (.load (some 4) (.t 3)),
gq 29 27 false (.load (some 4) (.t 3)),
gq 30 27 false (.fieldAddr 3 (.t 7)),
gq 31 27 false (.load none (.t 30)),
gq 32 27 false (cl zc3 [.t 29,.t 31]),
gq 33 27 false (.mv (.t 2)),
gq 34 27 false (cl zeu [.t 28,.t 32,.t 33]),
tq 35 (.pick (.t 27) (.k (.d (.bool true))) (.t 34)),
mq 6 35] [2,3,7,24,25,26,27,28,29,30,31,32,33,34,35])
.ret))))⟩
def zqs:C:=
  (.seq (sr [
mq 6 5,
fa 7 3 2,
ld 8 7,
tq 9 (.len .slc (.t 8)),
tq 10 (.bin .lss (.t 6) (.t 9))] [6,7,8,9]
(.cond (.t 10) .skip
 (.exit 0)))
(.seq (.block 1 (sr [
fa 13 3 2,
ld 14 13,
mq 15 5,
tq 16 (.idxAddr 5 (.t 14) (.t 15)),
fa 17 0 16,
ld 18 17,
mq 19 1,
tq 20 (.bin .eql (.t 18) (.t 19))] [13,14,15,16,17,18,19]
(.cond (.t 20) (sr [
mq 21 5,
mq 4 21] [5,21]
.ret)
 .skip)))
(rg [
mq 11 5,
tq 12 (.bin .add (.t 11) (kq 1)),
mq 5 12] [11,12])))
def ztb:CF:=⟨[.tmp 4],
  (sr [
tq 2 (.box zaf (.t 0)),
tq 4 (.mv (kq 0))] [0,4]
(.seq (sr [
tq 5 (.mv (kq 0))] []
(.block 0 (.loop [1,2,5] zqs)))
(sr [
tq 4 (.mv (kq (-1)))] []
.ret)))⟩
def zzh:C:=
  (sr [
tq 8 (.bin .lss (.t 7) (.t 6))] []
(.seq (.cond (.t 8) .skip
 (.exit 0))
(.seq (.block 1 (sr [
tq 9 (.idxAddr 1 (.t 5) (.t 7)),
ld 10 9,
mq 4 10] [9,10]
(sr [
mq 11 4,
tq 12 (.bin .neq (.t 11) (kq 0))] [11]
(.cond (.t 12) (sr [
mq 13 4,
mq 2 13] [4,13]
.ret)
 .skip))))
(rg [
tq 14 (.bin .add (.t 7) (kq 1)),
mq 7 14] [14]))))
def z5e:CF:=⟨[.tmp 2],
  (sr [
tq 2 (.mv (kq 0))] [2]
(.seq (sr [
mq 5 0,
tq 6 (.len .slc (.t 5)),
tq 7 (.mv (kq 0))] [0]
(.block 0 (.loop [5,6,7] zzh)))
(sr [
tq 2 (.mv (kq 0))] []
.ret)))⟩
def z7p:CF:=⟨[.tmp 4],
  (sr [
tq 4 (.mv (kq 0))] [4]
(.seq (sr [
mq 5 0] [0]
(.cond (.t 5) (sr [
mq 6 1,
mq 4 6] [1,6]
.ret)
 .skip))
(sr [
tq 4 (.mv (kq 0))] []
.ret)))⟩
def zsy:C:=
  (.seq (sr [
mq 4 3,
mq 5 0,
tq 6 (.len .slc (.t 5)),
tq 7 (.bin .lss (.t 4) (.t 6))] [4,5,6]
(.cond (.t 7) .skip
 (.exit 0)))
(.seq (.block 1 (sr [
mq 10 0,
mq 11 3,
tq 12 (.idxAddr 1 (.t 10) (.t 11)),
ld 13 12,
tq 14 (cl zgd [.t 13,kq 0,kq 99999])] [10,11,12,13]
(.cond (.t 14) (sr [
tq 2 (.mv (kq 3))] []
.ret)
 .skip)))
(rg [
mq 8 3,
tq 9 (.bin .add (.t 8) (kq 1)),
mq 3 9] [8,9])))
def zwj:CF:=⟨[.tmp 2],
  (sr [
tq 2 (.mv (kq 0))] [2]
(.seq (sr [
tq 3 (.mv (kq 0))] []
(.block 0 (.loop [0,3] zsy)))
(sr [
tq 2 (.mv (kq 0))] []
.ret)))⟩
def zxz:C:=
  (.seq (sr [
mq 12 10,
fa 13 1 4,
ld 14 13,
tq 15 (.len .slc (.t 14)),
tq 16 (.bin .lss (.t 12) (.t 15))] [12,13,14,15]
(.cond (.t 16) .skip
 (.exit 0)))
(.seq (.block 1 (sr [
fa 19 1 4,
ld 20 19,
mq 21 10,
tq 22 (.idxAddr 8 (.t 20) (.t 21)),
lq 23 8 22,
tq 11 (.alloc zbv [.z (.str []),.z (.str []),.z (.str []),.z (.str []),.z (.int .i64 0),.z (.int .i64 0),.z (.int .i64 0),.z (.int .i64 0)]),
⟨none,none,.store 8 (.t 11) (.t 23)⟩] [19,20,21,22,23]
(sr [
fa 24 2 11,
ld 25 24,
mq 26 1,
tq 27 (.bin .eql (.t 25) (.t 26)),
mq 28 27,
gq 29 28 true (.fieldAddr 5 (.t 11)),
gq 30 28 true (.load none (.t 29)),
gq 31 28 true (.mv (.t 3)),
gq 32 28 true (.bin .leq (.t 30) (.t 31)),
tq 33 (.pick (.t 28) (.t 32) (.k (.d (.bool false)))),
mq 34 33,
gq 35 34 true (.mv (.t 3)),
gq 36 34 true (.fieldAddr 6 (.t 11)),
gq 37 34 true (.load none (.t 36)),
gq 38 34 true (.bin .leq (.t 35) (.t 37)),
tq 39 (.pick (.t 34) (.t 38) (.k (.d (.bool false)))),
mq 40 39,
gq 41 40 true (.load (some 4) (.t 4)),
gq 42 40 true (.mv (.t 10)),
gq 43 40 true (.mv (.t 2)),
gq 44 40 true (cl zeu [.t 41,.t 42,.t 43]),
tq 45 (.pick (.t 40) (.t 44) (.k (.d (.bool false))))] [24,25,26,27,28,29,30,31,32,33,34,35,36,37,38,39,40,41,42,43,44]
(.cond (.t 45) (rg [
fa 46 7 11,
ld 47 46,
mq 9 47] [11,46,47])
 .skip))))
(rg [
mq 17 10,
tq 18 (.bin .add (.t 17) (kq 1)),
mq 10 18] [17,18])))
def z2n:CF:=⟨[.tmp 8],
  (sr [
tq 4 (.box zaf (.t 0)),
tq 8 (.mv (kq 0))] [0,8]
(sr [
tq 9 (.mv (kq 1440))] []
(.seq (sr [
tq 10 (.mv (kq 0))] []
(.block 0 (.loop [1,2,3,4,9,10] zxz)))
(sr [
mq 48 9,
mq 8 48] [9,48]
.ret))))⟩
def z2b:C:=
  (.seq (sr [
mq 13 9,
mq 14 7,
tq 15 (.len .slc (.t 14)),
tq 16 (.bin .lss (.t 13) (.t 15))] [13,14,15]
(.cond (.t 16) .skip
 (.exit 0)))
(.seq (.block 1 (.seq (.reg true [
lq 19 4 3,
mq 20 7,
mq 21 9,
tq 22 (.idxAddr 1 (.t 20) (.t 21)),
ld 23 22,
mq 24 1,
mq 25 2,
tq 26 (cl ziq [.t 19,.t 23,.t 24,.t 25]),
mq 10 26] [19,20,21,22,23,24,25,26])
(sr [
mq 27 10,
tq 28 (.bin .lss (.t 27) (kq 1440))] [27]
(.cond (.t 28) (rg [
mq 29 8,
mq 30 7,
mq 31 9,
tq 32 (.idxAddr 1 (.t 30) (.t 31)),
ld 33 32,
mq 34 10,
tq 35 (.build [.z (.str []),.z (.int .i64 0)] [(0,1,.t 33),(1,1,.t 34)]),
tq 36 (.mkList 2 1 [.t 35]),
tq 37 (.append ⟨false,zbk,2,24⟩ (.t 29) (.t 36)),
mq 8 37] [10,29,30,31,32,33,34,35,36,37])
 .skip))))
(rg [
mq 17 9,
tq 18 (.bin .add (.t 17) (kq 1)),
mq 9 18] [17,18])))
def z7t:CF:=⟨[.tmp 6],
  (sr [
tq 3 (.box zaf (.t 0)),
tq 6 (.ownNil ⟨false,zbk,2,24⟩)] [0,6]
(sr [
lq 11 4 3,
tq 12 (cl zoc [.t 11]),
mq 7 12] [11,12]
(sr [
tq 8 (.ownNil ⟨false,zbk,2,24⟩)] []
(.seq (sr [
tq 9 (.mv (kq 0))] []
(.block 0 (.loop [1,2,3,7,8,9] z2b)))
(sr [
mq 38 8,
mq 6 38] [8,38]
.ret)))))⟩
def z5i:CF:=⟨[.tmp 2],
  (sr [
tq 2 (.mv (.k (.d (.str []))))] [2]
(.seq (sr [
mq 3 0,
tq 4 (.len .slc (.t 3)),
tq 5 (.bin .eql (.t 4) (kq 0))] [3,4]
(.cond (.t 5) (sr [
tq 2 (.mv (.k (.d (.str [110,111,110,101]))))] []
.ret)
 .skip))
(sr [
mq 6 0,
tq 7 (cl n_strings_Join [.t 6,.k (.d (.str [32]))]),
mq 2 7] [0,6,7]
.ret)))⟩
def zuh:C:=
  (.seq (sr [
mq 7 6,
fa 8 1 2,
ld 9 8,
tq 10 (.len .slc (.t 9)),
tq 11 (.bin .lss (.t 7) (.t 10))] [7,8,9,10]
(.cond (.t 11) .skip
 (.exit 0)))
(.seq (.block 1 (sr [
lq 14 4 2,
mq 15 6,
mq 16 1,
tq 17 (cl zeu [.t 14,.t 15,.t 16])] [14,15,16]
(.cond (.t 17) (rg [
mq 18 5,
fa 19 1 2,
ld 20 19,
mq 21 6,
tq 22 (.idxAddr 8 (.t 20) (.t 21)),
fa 23 0 22,
ld 24 23,
tq 25 (.mkList 1 1 [.t 24]),
tq 26 (.append ⟨false,zab,1,16⟩ (.t 18) (.t 25)),
mq 5 26] [18,19,20,21,22,23,24,25,26])
 .skip)))
(rg [
mq 12 6,
tq 13 (.bin .add (.t 12) (kq 1)),
mq 6 13] [12,13])))
def zyf:CF:=⟨[.tmp 4],
  (sr [
tq 2 (.box zaf (.t 0)),
tq 4 (.ownNil ⟨false,zab,1,16⟩)] [0,4]
(sr [
tq 5 (.ownNil ⟨false,zab,1,16⟩)] []
(.seq (sr [
tq 6 (.mv (kq 0))] []
(.block 0 (.loop [1,2,5,6] zuh)))
(sr [
mq 27 5,
mq 4 27] [5,27]
.ret))))⟩
def zvx:C:=
  (.seq (sr [
mq 7 6,
fa 8 1 2,
ld 9 8,
tq 10 (.len .slc (.t 9)),
tq 11 (.bin .lss (.t 7) (.t 10))] [7,8,9,10]
(.cond (.t 11) .skip
 (.exit 0)))
(.seq (.block 1 (sr [
lq 14 4 2,
mq 15 6,
mq 16 1,
tq 17 (cl zmf [.t 14,.t 15,.t 16])] [14,15,16]
(.cond (.t 17) (rg [
mq 18 5,
fa 19 1 2,
ld 20 19,
mq 21 6,
tq 22 (.idxAddr 8 (.t 20) (.t 21)),
fa 23 0 22,
ld 24 23,
tq 25 (.mkList 1 1 [.t 24]),
tq 26 (.append ⟨false,zab,1,16⟩ (.t 18) (.t 25)),
mq 5 26] [18,19,20,21,22,23,24,25,26])
 .skip)))
(rg [
mq 12 6,
tq 13 (.bin .add (.t 12) (kq 1)),
mq 6 13] [12,13])))
def zz7:CF:=⟨[.tmp 4],
  (sr [
tq 2 (.box zaf (.t 0)),
tq 4 (.ownNil ⟨false,zab,1,16⟩)] [0,4]
(sr [
tq 5 (.ownNil ⟨false,zab,1,16⟩)] []
(.seq (sr [
tq 6 (.mv (kq 0))] []
(.block 0 (.loop [1,2,5,6] zvx)))
(sr [
mq 27 5,
mq 4 27] [5,27]
.ret))))⟩
def zs1:C:=
  (.seq (sr [
mq 5 4,
fa 6 3 1,
ld 7 6,
tq 8 (.len .slc (.t 7)),
tq 9 (.bin .lss (.t 5) (.t 8))] [5,6,7,8]
(.cond (.t 9) .skip
 (.exit 0)))
(.seq (.block 1 (sr [
fa 12 3 1,
ld 13 12,
mq 14 4,
tq 15 (.idxAddr 5 (.t 13) (.t 14)),
fa 16 3 15,
ld 17 16,
tq 18 (.un .not (.t 17))] [12,13,14,15,16,17]
(.cond (.t 18) (rg [
mq 19 3,
fa 20 3 1,
ld 21 20,
mq 22 4,
tq 23 (.idxAddr 5 (.t 21) (.t 22)),
fa 24 0 23,
ld 25 24,
tq 26 (.mkList 1 1 [.t 25]),
tq 27 (.append ⟨false,zab,1,16⟩ (.t 19) (.t 26)),
mq 3 27] [19,20,21,22,23,24,25,26,27])
 .skip)))
(rg [
mq 10 4,
tq 11 (.bin .add (.t 10) (kq 1)),
mq 4 11] [10,11])))
def zwm:CF:=⟨[.tmp 2],
  (sr [
tq 1 (.box zaf (.t 0)),
tq 2 (.ownNil ⟨false,zab,1,16⟩)] [0,2]
(sr [
tq 3 (.ownNil ⟨false,zab,1,16⟩)] []
(.seq (sr [
tq 4 (.mv (kq 0))] []
(.block 0 (.loop [1,3,4] zs1)))
(sr [
mq 28 3,
mq 2 28] [3,28]
.ret))))⟩
def zne:CF:=⟨[.tmp 4,.tmp 5,.tmp 6],
  (sr [
tq 4 (.mv (.k (.d (.str [])))),
tq 5 (.mv (.k (.d (.str [])))),
tq 6 (.mv (.k (.d (.bool false))))] [4,5,6]
(.seq (sr [
mq 8 0,
mq 9 1,
tq 10 (cl zep [.t 8,.t 9]),
mq 7 10] [8,9,10]
(sr [
mq 11 7,
tq 12 (.bin .geq (.t 11) (kq 0))] [11]
(.cond (.t 12) (.seq (.reg true [
mq 13 0,
mq 14 7,
tq 15 (.sliceS (.t 13) none (some (.t 14))),
mq 16 0,
mq 17 7,
mq 18 1,
tq 19 (.len .str (.t 18)),
tq 20 (.bin .add (.t 17) (.t 19)),
tq 21 (.sliceS (.t 16) (some (.t 20)) none),
mq 4 15,
mq 5 21,
tq 6 (.mv (.k (.d (.bool true))))] [0,1,7,13,14,15,16,17,18,19,20,21])
.ret)
 .skip)))
(sr [
mq 22 0,
mq 4 22,
tq 5 (.mv (.k (.d (.str [])))),
tq 6 (.mv (.k (.d (.bool false))))] [0,22]
.ret)))⟩
def zr5:CF:=⟨[.tmp 6,.tmp 7],
  (sr [
tq 6 (.mv (.k (.d (.list 0 [])))),
tq 7 (.mv (kq 0))] [6,7]
(.seq (.seq (.reg true [
mq 10 1,
tq 11 (.idxAddr 1 (.t 10) (kq 1)),
ld 12 11,
tq 13 (cl zdi [.t 12]),
mq 14 2,
tq 15 (.idxAddr 1 (.t 14) (kq 0)),
ld 16 15,
tq 17 (cl za1 [.t 16]),
mq 18 2,
tq 19 (.idxAddr 1 (.t 18) (kq 1)),
ld 20 19,
tq 21 (cl za1 [.t 20]),
tq 22 (.mkList 1 3 [.t 13,.t 17,.t 21]),
tq 23 (cl za2 [.t 22]),
mq 8 23] [10,11,12,13,14,15,16,17,18,19,20,21,22,23])
(sr [
mq 24 8,
tq 25 (.bin .neq (.t 24) (kq 0))] [24]
(.cond (.t 25) (sr [
mq 26 8,
tq 6 (.mv (.k (.d (.list 0 [])))),
mq 7 26] [8,26]
.ret)
 .skip)))
(.seq (.seq (.reg true [
mq 27 0,
mq 28 1,
tq 29 (.idxAddr 1 (.t 28) (kq 1)),
ld 30 29,
mq 31 2,
tq 32 (.idxAddr 1 (.t 31) (kq 0)),
ld 33 32,
mq 34 2,
tq 35 (.idxAddr 1 (.t 34) (kq 1)),
ld 36 35,
tq 37 (.callQ (.k (.fn zba [] [])) [.t 27,.t 30,.t 33,.t 36]),
mq 9 37] [0,1,2,27,28,29,30,31,32,33,34,35,36,37])
(sr [
mq 38 9,
tq 39 (.bin .neq (.t 38) (kq 1440))] [38]
(.cond (.t 39) (sr [
mq 40 9,
tq 41 (cl n_strconv_Itoa [.t 40]),
tq 42 (.mkList 1 1 [.t 41]),
mq 6 42,
tq 7 (.mv (kq 0))] [9,40,41,42]
.ret)
 .skip)))
(sr [
tq 6 (.mv (.k (.d (.list 0 [])))),
tq 7 (.mv (kq 0))] []
.ret))))⟩
def zr6:CF:=⟨[.tmp 6,.tmp 7],
  (sr [
tq 6 (.mv (.k (.d (.list 0 [])))),
tq 7 (.mv (kq 0))] [6,7]
(.seq (.seq (.reg true [
mq 9 2,
tq 10 (.idxAddr 1 (.t 9) (kq 0)),
ld 11 10,
tq 12 (cl za1 [.t 11]),
mq 13 2,
tq 14 (.idxAddr 1 (.t 13) (kq 1)),
ld 15 14,
tq 16 (cl za1 [.t 15]),
tq 17 (.mkList 1 2 [.t 12,.t 16]),
tq 18 (cl za2 [.t 17]),
mq 8 18] [9,10,11,12,13,14,15,16,17,18])
(sr [
mq 19 8,
tq 20 (.bin .neq (.t 19) (kq 0))] [19]
(.cond (.t 20) (sr [
mq 21 8,
tq 6 (.mv (.k (.d (.list 0 [])))),
mq 7 21] [8,21]
.ret)
 .skip)))
(.seq (.reg true [
mq 22 0,
mq 23 2,
tq 24 (.idxAddr 1 (.t 23) (kq 0)),
ld 25 24,
mq 26 2,
tq 27 (.idxAddr 1 (.t 26) (kq 1)),
ld 28 27,
tq 29 (.callU true (.k (.fn zcu [] [])) [.t 22,.t 25,.t 28]),
tq 30 (.call true true (.k (.fn zde [] [])) [.t 29,.k (.fn zfc [] [])]),
mq 6 30,
tq 7 (.mv (kq 0))] [0,2,22,23,24,25,26,27,28,29,30])
.ret)))⟩
def zij:C:=
  (sr [
tq 11 (.bin .lss (.t 10) (.t 9))] []
(.seq (.cond (.t 11) .skip
 (.exit 0))
(.seq (.block 1 (sr [
tq 12 (.idxAddr 2 (.t 8) (.t 10)),
lq 13 2 12,
tq 7 (.alloc zb7 [.z (.str []),.z (.int .i64 0)]),
⟨none,none,.store 2 (.t 7) (.t 13)⟩] [12,13]
(rg [
mq 14 5,
mq 15 1,
lq 16 2 7,
tq 17 (.call true true (.t 15) [.t 16]),
tq 18 (.mkList 1 1 [.t 17]),
tq 19 (.append ⟨false,zab,1,16⟩ (.t 14) (.t 18)),
mq 5 19] [7,14,15,16,17,18,19])))
(rg [
tq 20 (.bin .add (.t 10) (kq 1)),
mq 10 20] [20]))))
def zjd:CF:=⟨[.tmp 4],
  (sr [
tq 4 (.ownNil ⟨false,zab,1,16⟩)] [4]
(sr [
tq 5 (.ownNil ⟨false,zab,1,16⟩)] []
(.seq (sr [
mq 8 0,
tq 9 (.len .slc (.t 8)),
tq 10 (.mv (kq 0))] [0]
(.block 0 (.loop [1,5,8,9,10] zij)))
(sr [
mq 21 5,
mq 4 21] [5,21]
.ret))))⟩
def zqf:CF:=⟨[.tmp 2],
  (sr [
tq 1 (.box zb7 (.t 0)),
tq 2 (.mv (.k (.d (.str []))))] [0,2]
(.seq (.reg true [
fa 3 0 1,
ld 4 3,
tq 5 (.bin .add (.t 4) (.k (.d (.str [32])))),
fa 6 1 1,
ld 7 6,
tq 8 (cl n_strconv_Itoa [.t 7]),
tq 9 (.bin .add (.t 5) (.t 8)),
mq 2 9] [1,3,4,5,6,7,8,9])
.ret))⟩
def zr7:CF:=⟨[.tmp 6,.tmp 7],
  (sr [
tq 6 (.mv (.k (.d (.list 0 [])))),
tq 7 (.mv (kq 0))] [6,7]
(.seq (sr [
mq 9 2,
tq 10 (.idxAddr 1 (.t 9) (kq 0)),
ld 11 10,
tq 12 (cl za1 [.t 11]),
mq 8 12] [9,10,11,12]
(sr [
mq 13 8,
tq 14 (.bin .neq (.t 13) (kq 0))] [13]
(.cond (.t 14) (sr [
mq 15 8,
tq 6 (.mv (.k (.d (.list 0 [])))),
mq 7 15] [8,15]
.ret)
 .skip)))
(sr [
mq 16 0,
mq 17 2,
tq 18 (.idxAddr 1 (.t 17) (kq 0)),
ld 19 18,
tq 20 (.callU true (.k (.fn zcb [] [])) [.t 16,.t 19]),
mq 6 20,
tq 7 (.mv (kq 0))] [0,2,16,17,18,19,20]
.ret)))⟩
def zr8:CF:=⟨[.tmp 6,.tmp 7],
  (sr [
tq 6 (.mv (.k (.d (.list 0 [])))),
tq 7 (.mv (kq 0))] [6,7]
(.seq (sr [
mq 9 1,
tq 10 (.idxAddr 1 (.t 9) (kq 1)),
ld 11 10,
tq 12 (cl zdi [.t 11]),
mq 8 12] [9,10,11,12]
(sr [
mq 13 8,
tq 14 (.bin .neq (.t 13) (kq 0))] [13]
(.cond (.t 14) (sr [
mq 15 8,
tq 6 (.mv (.k (.d (.list 0 [])))),
mq 7 15] [8,15]
.ret)
 .skip)))
(sr [
mq 16 0,
mq 17 1,
tq 18 (.idxAddr 1 (.t 17) (kq 1)),
ld 19 18,
tq 20 (.callU true (.k (.fn zci [] [])) [.t 16,.t 19]),
xq 21 20 0,
xq 22 20 1,
mq 6 21,
mq 7 22] [0,1,16,17,18,19,20,21,22]
.ret)))⟩
def zr9:CF:=⟨[.tmp 6,.tmp 7],
  (sr [
tq 6 (.mv (.k (.d (.list 0 [])))),
tq 7 (.mv (kq 0))] [6,7]
(sr [
mq 9 0,
tq 10 (.nilCheck (.t 9)),
fa 11 3 10,
ld 12 11,
tq 13 (.call true true (.k (.fn zd7 [] [])) [.t 12,.k (.fn zdz [] [])]),
mq 8 13] [0,9,10,11,12,13]
(sr [
mq 14 8,
tq 15 (.call true true (.k (.fn zbu [] [])) [.t 14,.k (.fn zfd [] [])]),
mq 6 15,
tq 7 (.mv (kq 0))] [8,14,15]
.ret)))⟩
def zj7:C:=
  (sr [
tq 11 (.bin .lss (.t 10) (.t 9))] []
(.seq (.cond (.t 11) .skip
 (.exit 0))
(.seq (.block 1 (sr [
tq 12 (.idxAddr 5 (.t 8) (.t 10)),
lq 13 5 12,
tq 7 (.alloc zai [.z (.str []),.z (.str []),.z (.int .i64 0),.z (.bool false),.z (.bool false)]),
⟨none,none,.store 5 (.t 7) (.t 13)⟩] [12,13]
(sr [
mq 14 1,
lq 15 5 7,
tq 16 (.call true true (.t 14) [.t 15])] [14,15]
(.cond (.t 16) (rg [
mq 17 5,
lq 18 5 7,
tq 19 (.mkList 5 1 [.t 18]),
tq 20 (.append ⟨false,zai,5,48⟩ (.t 17) (.t 19)),
mq 5 20] [7,17,18,19,20])
 .skip))))
(rg [
tq 21 (.bin .add (.t 10) (kq 1)),
mq 10 21] [21]))))
def zk3:CF:=⟨[.tmp 4],
  (sr [
tq 4 (.ownNil ⟨false,zai,5,48⟩)] [4]
(sr [
tq 5 (.ownNil ⟨false,zai,5,48⟩)] []
(.seq (sr [
mq 8 0,
tq 9 (.len .slc (.t 8)),
tq 10 (.mv (kq 0))] [0]
(.block 0 (.loop [1,5,8,9,10] zj7)))
(sr [
mq 22 5,
mq 4 22] [5,22]
.ret))))⟩
def zqg:CF:=⟨[.tmp 2],
  (sr [
tq 1 (.box zai (.t 0)),
tq 2 (.mv (.k (.d (.bool false))))] [0,2]
(sr [
fa 3 3 1,
ld 4 3,
tq 5 (.un .not (.t 4)),
mq 2 5] [1,3,4,5]
.ret))⟩
def zg4:C:=
  (sr [
tq 11 (.bin .lss (.t 10) (.t 9))] []
(.seq (.cond (.t 11) .skip
 (.exit 0))
(.seq (.block 1 (sr [
tq 12 (.idxAddr 5 (.t 8) (.t 10)),
lq 13 5 12,
tq 7 (.alloc zai [.z (.str []),.z (.str []),.z (.int .i64 0),.z (.bool false),.z (.bool false)]),
⟨none,none,.store 5 (.t 7) (.t 13)⟩] [12,13]
(rg [
mq 14 5,
mq 15 1,
lq 16 5 7,
tq 17 (.call true true (.t 15) [.t 16]),
tq 18 (.mkList 1 1 [.t 17]),
tq 19 (.append ⟨false,zab,1,16⟩ (.t 14) (.t 18)),
mq 5 19] [7,14,15,16,17,18,19])))
(rg [
tq 20 (.bin .add (.t 10) (kq 1)),
mq 10 20] [20]))))
def zhl:CF:=⟨[.tmp 4],
  (sr [
tq 4 (.ownNil ⟨false,zab,1,16⟩)] [4]
(sr [
tq 5 (.ownNil ⟨false,zab,1,16⟩)] []
(.seq (sr [
mq 8 0,
tq 9 (.len .slc (.t 8)),
tq 10 (.mv (kq 0))] [0]
(.block 0 (.loop [1,5,8,9,10] zg4)))
(sr [
mq 21 5,
mq 4 21] [5,21]
.ret))))⟩
def zqh:CF:=⟨[.tmp 2],
  (sr [
tq 1 (.box zai (.t 0)),
tq 2 (.mv (.k (.d (.str []))))] [0,2]
(sr [
fa 3 0 1,
ld 4 3,
mq 2 4] [1,3,4]
.ret))⟩
def zkc:CF:=⟨[.tmp 4],
  (sr [
tq 4 (.mv (.k (.d (.bool false))))] [4]
(sr [
mq 5 0,
mq 6 1,
tq 7 (cl zef [.t 5,.t 6]),
tq 8 (.bin .geq (.t 7) (kq 0)),
mq 4 8] [0,1,5,6,7,8]
.ret))⟩
def zyc:CF:=⟨[.tmp 2,.tmp 3],
  (sr [
tq 2 (.mv (kq 0)),
tq 3 (.mv (.k (.d (.bool false))))] [2,3]
(sr [
mq 7 0,
tq 8 (.call false false (.k (.fn n_strconv_Atoi [] [])) [.t 7]),
mq 6 8,
xq 9 6 0,
xq 10 6 1,
mq 4 9,
mq 5 10] [6,7,8,9,10]
(sr [
mq 11 4,
mq 12 5,
tq 13 (.nilEq 1 false (.t 12)),
mq 14 13,
gq 15 14 true (.mv (.t 0)),
gq 16 14 true (.len .str (.t 15)),
gq 17 14 true (.bin .leq (.t 16) (kq 9)),
tq 18 (.pick (.t 14) (.t 17) (.k (.d (.bool false)))),
mq 19 18,
gq 20 19 true (.mv (.t 4)),
gq 21 19 true (.bin .geq (.t 20) (kq 0)),
tq 22 (.pick (.t 19) (.t 21) (.k (.d (.bool false)))),
mq 23 22,
gq 24 23 true (.mv (.t 4)),
gq 25 23 true (cl n_strconv_Itoa [.t 24]),
gq 26 23 true (.mv (.t 0)),
gq 27 23 true (.bin .eql (.t 25) (.t 26)),
tq 28 (.pick (.t 23) (.t 27) (.k (.d (.bool false)))),
mq 2 11,
mq 3 28] [0,4,5,11,12,13,14,15,16,17,18,19,20,21,22,23,24,25,26,27,28]
.ret)))⟩
def zmr:CF:=⟨[.tmp 4],
  (sr [
tq 3 (.box zac (.t 1)),
tq 4 (.mv (kq 0))] [1,4]
(.seq (.reg true [
fa 11 3 3,
ld 12 11,
tq 13 (.idxAddr 1 (.t 12) (kq 0)),
ld 14 13,
fa 15 3 3,
ld 16 15,
tq 17 (.idxAddr 1 (.t 16) (kq 1)),
ld 18 17,
fa 19 3 3,
ld 20 19,
tq 21 (.idxAddr 1 (.t 20) (kq 2)),
ld 22 21,
fa 23 3 3,
ld 24 23,
tq 25 (.idxAddr 1 (.t 24) (kq 3)),
ld 26 25,
mq 5 14,
mq 6 18,
mq 7 22,
mq 8 26] [11,12,13,14,15,16,17,18,19,20,21,22,23,24,25,26])
(.seq (.seq (.reg true [
mq 27 0,
fa 28 2 3,
ld 29 28,
tq 30 (.idxAddr 1 (.t 29) (kq 0)),
ld 31 30,
tq 32 (.callQ (.k (.fn zbt [] [])) [.t 27,.t 31]),
tq 33 (.nilEq 0 true (.t 32)),
tq 34 (cl zan [.t 33,kq 9]),
mq 35 0,
tq 36 (.nilCheck (.t 35)),
fa 37 1 36,
ld 38 37,
tq 39 (.len .slc (.t 38)),
tq 40 (.bin .geq (.t 39) (kq 256)),
tq 41 (cl zan [.t 40,kq 5]),
tq 42 (.mkList 1 2 [.t 34,.t 41]),
tq 43 (cl za2 [.t 42]),
mq 9 43] [27,28,29,30,31,32,33,34,35,36,37,38,39,40,41,42,43])
(sr [
mq 44 9,
tq 45 (.bin .neq (.t 44) (kq 0))] [44]
(.cond (.t 45) (sr [
mq 46 9,
mq 4 46] [9,46]
.ret)
 .skip)))
(.seq (sr [
fa 47 1 3,
ld 48 47,
tq 49 (.bin .eql (.t 48) (.k (.d (.str [102,111,108,108,111,119]))))] [47,48]
(.cond (.t 49) (sr [
mq 50 0,
fa 51 2 3,
ld 52 51,
tq 53 (.idxAddr 1 (.t 52) (kq 2)),
ld 54 53,
mq 55 5,
tq 56 (.callQ (.k (.fn zc1 [] [])) [.t 50,.t 54,.t 55]),
mq 10 56] [0,3,5,50,51,52,53,54,55,56]
(sr [
mq 57 10,
tq 58 (.bin .neq (.t 57) (kq 0))] [57]
(.cond (.t 58) (sr [
mq 59 10,
mq 4 59] [10,59]
.ret)
 .skip)))
 .skip))
(sr [
mq 60 6,
tq 61 (.bin .gtr (.t 60) (kq 99999)),
mq 62 61,
gq 63 62 false (.mv (.t 7)),
gq 64 62 false (.bin .gtr (.t 63) (kq 99999)),
tq 65 (.pick (.t 62) (.k (.d (.bool true))) (.t 64)),
mq 66 65,
gq 67 66 false (.mv (.t 8)),
gq 68 66 false (.bin .gtr (.t 67) (kq 1440)),
tq 69 (.pick (.t 66) (.k (.d (.bool true))) (.t 68)),
tq 70 (cl zan [.t 69,kq 3]),
mq 71 7,
mq 72 6,
tq 73 (.bin .lss (.t 71) (.t 72)),
tq 74 (cl zan [.t 73,kq 11]),
tq 75 (.mkList 1 2 [.t 70,.t 74]),
tq 76 (cl za2 [.t 75]),
mq 4 76] [6,7,8,60,61,62,63,64,65,66,67,68,69,70,71,72,73,74,75,76]
.ret)))))⟩
def zmt:CF:=⟨[],
  (sr [
tq 3 (.box zac (.t 1))] [1]
(.seq (.reg true [
fa 5 2 3,
ld 6 5,
tq 7 (.idxAddr 1 (.t 6) (kq 0)),
ld 8 7,
fa 9 1 3,
ld 10 9,
fa 11 2 3,
ld 12 11,
tq 13 (.idxAddr 1 (.t 12) (kq 1)),
ld 14 13,
fa 15 3 3,
ld 16 15,
tq 17 (.idxAddr 1 (.t 16) (kq 0)),
ld 18 17,
fa 19 3 3,
ld 20 19,
tq 21 (.idxAddr 1 (.t 20) (kq 1)),
ld 22 21,
fa 23 3 3,
ld 24 23,
tq 25 (.idxAddr 1 (.t 24) (kq 2)),
ld 26 25,
fa 27 3 3,
ld 28 27,
tq 29 (.idxAddr 1 (.t 28) (kq 3)),
ld 30 29,
tq 31 (.build [.z (.str []),.z (.str []),.z (.str []),.z (.str []),.z (.int .i64 0),.z (.int .i64 0),.z (.int .i64 0),.z (.int .i64 0)] [(0,1,.t 8),(1,1,.t 10),(2,1,.t 14),(4,1,.t 18),(5,1,.t 22),(6,1,.t 26),(7,1,.t 30)]),
tq 4 (.alloc zae [.z (.str []),.z (.str []),.z (.str []),.z (.str []),.z (.int .i64 0),.z (.int .i64 0),.z (.int .i64 0),.z (.int .i64 0)]),
⟨none,none,.store 8 (.t 4) (.t 31)⟩] [5,6,7,8,9,10,11,12,13,14,15,16,17,18,19,20,21,22,23,24,25,26,27,28,29,30,31])
(.seq (sr [
fa 32 1 3,
ld 33 32,
tq 34 (.bin .eql (.t 33) (.k (.d (.str [102,111,108,108,111,119]))))] [32,33]
(.cond (.t 34) (rg [
fa 35 2 3,
ld 36 35,
tq 37 (.idxAddr 1 (.t 36) (kq 2)),
ld 38 37,
fa 39 3 4,
⟨none,none,.store 1 (.t 39) (.t 38)⟩] [3,35,36,37,38,39])
 .skip))
(.reg true [
mq 40 0,
mq 41 0,
tq 42 (.nilCheck (.t 41)),
fa 43 1 42,
ld 44 43,
lq 45 8 4,
tq 46 (.mkList 8 1 [.t 45]),
tq 47 (.append ⟨false,zae,8,96⟩ (.t 44) (.t 46)),
tq 48 (.nilCheck (.t 40)),
fa 49 1 48,
⟨none,none,.store 1 (.t 49) (.t 47)⟩] [0,4,40,41,42,43,44,45,46,47,48,49]))))⟩
def zln:CF:=⟨[.tmp 4],
  (sr [
tq 3 (.box zac (.t 1)),
tq 4 (.mv (kq 0))] [1,4]
(sr [
mq 6 0,
fa 7 2 3,
ld 8 7,
tq 9 (.idxAddr 1 (.t 8) (kq 0)),
ld 10 9,
tq 11 (.callQ (.k (.fn zbt [] [])) [.t 6,.t 10]),
mq 5 11] [6,7,8,9,10,11]
(.seq (sr [
mq 12 5,
tq 13 (.nilEq 0 false (.t 12))] [12]
(.cond (.t 13) (sr [
tq 4 (.mv (kq 10))] []
.ret)
 .skip))
(.seq (.reg true [
mq 14 5,
tq 15 (.nilCheck (.t 14)),
fa 16 1 15,
ld 17 16,
tq 18 (.bin .neq (.t 17) (.k (.d (.str [114,117,108,101])))),
tq 19 (cl zan [.t 18,kq 13]),
mq 20 0,
mq 21 5,
tq 22 (.nilCheck (.t 21)),
fa 23 0 22,
ld 24 23,
fa 25 3 3,
ld 26 25,
tq 27 (.idxAddr 1 (.t 26) (kq 0)),
ld 28 27,
tq 29 (.callQ (.k (.fn zc1 [] [])) [.t 20,.t 24,.t 28]),
tq 30 (.mkList 1 2 [.t 19,.t 29]),
tq 31 (cl za2 [.t 30]),
mq 4 31] [0,3,5,14,15,16,17,18,19,20,21,22,23,24,25,26,27,28,29,30,31])
.ret))))⟩
def zyd:CF:=⟨[],
  (sr [
tq 3 (.box zac (.t 1))] [1]
(.reg true [
mq 4 0,
fa 5 2 3,
ld 6 5,
tq 7 (.idxAddr 1 (.t 6) (kq 0)),
ld 8 7,
fa 9 3 3,
ld 10 9,
tq 11 (.idxAddr 1 (.t 10) (kq 0)),
ld 12 11,
tq 13 (.call true true (.k (.fn zbb [] [])) [.t 4,.t 8,.t 12])] [0,3,4,5,6,7,8,9,10,11,12,13]))⟩
def zom:CF:=⟨[],
  (rg [
mq 6 0,
mq 7 0,
tq 8 (.nilCheck (.t 7)),
fa 9 2 8,
ld 10 9,
mq 11 1,
mq 12 2,
tq 13 (.build [.z (.str []),.z (.int .i64 0)] [(0,1,.t 11),(1,1,.t 12)]),
tq 14 (.mkList 2 1 [.t 13]),
tq 15 (.append ⟨false,zam,2,24⟩ (.t 10) (.t 14)),
tq 16 (.nilCheck (.t 6)),
fa 17 2 16,
⟨none,none,.store 1 (.t 17) (.t 15)⟩] [0,1,2,6,7,8,9,10,11,12,13,14,15,16,17])⟩
def zkh:CF:=⟨[.tmp 4],
  (sr [
tq 3 (.box zac (.t 1)),
tq 4 (.mv (kq 0))] [1,4]
(.seq (.reg true [
mq 5 0,
fa 6 2 3,
ld 7 6,
tq 8 (.idxAddr 1 (.t 7) (kq 0)),
ld 9 8,
tq 10 (.callQ (.k (.fn zb4 [] [])) [.t 5,.t 9]),
tq 11 (.nilEq 0 true (.t 10)),
tq 12 (cl zan [.t 11,kq 9]),
mq 13 0,
tq 14 (.nilCheck (.t 13)),
fa 15 3 14,
ld 16 15,
tq 17 (.len .slc (.t 16)),
tq 18 (.bin .geq (.t 17) (kq 64)),
tq 19 (cl zan [.t 18,kq 5]),
mq 20 0,
fa 21 2 3,
ld 22 21,
tq 23 (.idxAddr 1 (.t 22) (kq 1)),
ld 24 23,
fa 25 3 3,
ld 26 25,
tq 27 (.idxAddr 1 (.t 26) (kq 0)),
ld 28 27,
tq 29 (.callQ (.k (.fn zc1 [] [])) [.t 20,.t 24,.t 28]),
tq 30 (.mkList 1 3 [.t 12,.t 19,.t 29]),
tq 31 (cl za2 [.t 30]),
mq 4 31] [0,3,5,6,7,8,9,10,11,12,13,14,15,16,17,18,19,20,21,22,23,24,25,26,27,28,29,30,31])
.ret))⟩
def zki:CF:=⟨[],
  (sr [
tq 3 (.box zac (.t 1))] [1]
(.reg true [
mq 4 0,
mq 5 0,
tq 6 (.nilCheck (.t 5)),
fa 7 3 6,
ld 8 7,
fa 9 2 3,
ld 10 9,
tq 11 (.idxAddr 1 (.t 10) (kq 0)),
ld 12 11,
fa 13 2 3,
ld 14 13,
tq 15 (.idxAddr 1 (.t 14) (kq 1)),
ld 16 15,
fa 17 3 3,
ld 18 17,
tq 19 (.idxAddr 1 (.t 18) (kq 0)),
ld 20 19,
tq 21 (.build [.z (.str []),.z (.str []),.z (.int .i64 0),.z (.bool false),.z (.bool false)] [(0,1,.t 12),(1,1,.t 16),(2,1,.t 20)]),
tq 22 (.mkList 5 1 [.t 21]),
tq 23 (.append ⟨false,zai,5,48⟩ (.t 8) (.t 22)),
tq 24 (.nilCheck (.t 4)),
fa 25 3 24,
⟨none,none,.store 1 (.t 25) (.t 23)⟩] [0,3,4,5,6,7,8,9,10,11,12,13,14,15,16,17,18,19,20,21,22,23,24,25]))⟩
def zk1:CF:=⟨[.tmp 4],
  (sr [
tq 3 (.box zac (.t 1)),
tq 4 (.mv (kq 0))] [1,4]
(sr [
mq 6 0,
fa 7 2 3,
ld 8 7,
tq 9 (.idxAddr 1 (.t 8) (kq 0)),
ld 10 9,
tq 11 (.callQ (.k (.fn zb4 [] [])) [.t 6,.t 10]),
mq 5 11] [0,6,7,8,9,10,11]
(.seq (sr [
mq 12 5,
tq 13 (.nilEq 0 false (.t 12))] [12]
(.cond (.t 13) (sr [
tq 4 (.mv (kq 10))] []
.ret)
 .skip))
(.seq (.reg true [
mq 14 5,
tq 15 (.nilCheck (.t 14)),
fa 16 3 15,
ld 17 16,
tq 18 (cl zan [.t 17,kq 20]),
fa 19 3 3,
ld 20 19,
tq 21 (.idxAddr 1 (.t 20) (kq 1)),
ld 22 21,
tq 23 (.bin .gtr (.t 22) (kq 1)),
tq 24 (cl zan [.t 23,kq 3]),
tq 25 (.mkList 1 2 [.t 18,.t 24]),
tq 26 (cl za2 [.t 25]),
mq 4 26] [3,5,14,15,16,17,18,19,20,21,22,23,24,25,26])
.ret))))⟩
def zk2:CF:=⟨[],
  (sr [
tq 3 (.box zac (.t 1))] [1]
(sr [
mq 5 0,
fa 6 2 3,
ld 7 6,
tq 8 (.idxAddr 1 (.t 7) (kq 0)),
ld 9 8,
tq 10 (.callQ (.k (.fn zb4 [] [])) [.t 5,.t 9]),
mq 4 10] [5,6,7,8,9,10]
(sr [
mq 11 4,
mq 12 4,
fa 13 3 3,
ld 14 13,
tq 15 (.idxAddr 1 (.t 14) (kq 1)),
ld 16 15,
tq 17 (.bin .eql (.t 16) (kq 1)),
tq 18 (.nilCheck (.t 11)),
fa 19 3 18,
⟨none,none,.store 1 (.t 19) (.k (.d (.bool true)))⟩,
tq 20 (.nilCheck (.t 12)),
fa 21 4 20,
⟨none,none,.store 1 (.t 21) (.t 17)⟩] [11,12,13,14,15,16,17,18,19,20,21]
(sr [
mq 22 4,
tq 23 (.nilCheck (.t 22)),
fa 24 4 23,
ld 25 24] [22,23,24]
(.cond (.t 25) (.reg true [
mq 26 0,
mq 27 4,
tq 28 (.nilCheck (.t 27)),
fa 29 1 28,
ld 30 29,
fa 31 3 3,
ld 32 31,
tq 33 (.idxAddr 1 (.t 32) (kq 0)),
ld 34 33,
tq 35 (.call true true (.k (.fn zbb [] [])) [.t 26,.t 30,.t 34])] [0,3,4,26,27,28,29,30,31,32,33,34,35])
 .skip)))))⟩
def zsa:CF:=⟨[.tmp 2],
  (sr [
tq 2 (.mv (.k (.d (.str []))))] [2]
(.seq (sr [
mq 4 0,
tq 5 (.nilCheck (.t 4)),
fa 6 0 5,
ld 7 6,
tq 8 (.len .slc (.t 7)),
tq 9 (.bin .eql (.t 8) (kq 0))] [4,5,6,7,8]
(.cond (.t 9) (sr [
tq 2 (.mv (.k (.d (.str []))))] []
.ret)
 .skip))
(sr [
mq 10 0,
tq 11 (.nilCheck (.t 10)),
fa 12 0 11,
ld 13 12,
tq 14 (.idxAddr 1 (.t 13) (kq 0)),
ld 15 14,
mq 3 15] [10,11,12,13,14,15]
(sr [
mq 16 0,
mq 17 0,
tq 18 (.nilCheck (.t 17)),
fa 19 0 18,
ld 20 19,
tq 21 (.slice 1 (.t 20) (some (kq 1)) none none),
tq 22 (.nilCheck (.t 16)),
fa 23 0 22,
⟨none,none,.store 1 (.t 23) (.t 21)⟩] [0,16,17,18,19,20,21,22,23]
(sr [
mq 24 3,
mq 2 24] [3,24]
.ret)))))⟩
def zik:CF:=⟨[.tmp 4],
  (sr [
tq 4 (.mv (.k (.d (.bool false))))] [4]
(sr [
mq 5 0,
mq 6 1,
tq 7 (cl zdq [.t 5,.t 6]),
tq 8 (.bin .geq (.t 7) (kq 0)),
mq 4 8] [0,1,5,6,7,8]
.ret))⟩
def zqu:CF:=⟨[.tmp 2],
  (sr [
tq 2 (.mv (.k (.d (.bool false))))] [2]
(sr [
mq 3 0,
tq 4 (cl zdi [.t 3]),
tq 5 (.bin .neq (.t 4) (kq 0)),
mq 2 5] [0,3,4,5]
.ret))⟩
def zk5:CF:=⟨[.tmp 4],
  (sr [
tq 4 (.mv (.k (.d (.bool false))))] [4]
(sr [
mq 5 0,
mq 6 1,
tq 7 (cl ze8 [.t 5,.t 6]),
tq 8 (.bin .geq (.t 7) (kq 0)),
mq 4 8] [0,1,5,6,7,8]
.ret))⟩
def zqv:CF:=⟨[.tmp 2],
  (sr [
tq 2 (.mv (.k (.d (.bool false))))] [2]
(sr [
mq 3 0,
tq 4 (cl zgc [.t 3,kq 0,kq 999999999]),
tq 5 (.bin .neq (.t 4) (kq 0)),
mq 2 5] [0,3,4,5]
.ret))⟩
def zz0:CF:=⟨[.tmp 6],
  (sr [
tq 6 (.mv (kq 0))] [6]
(sr [
mq 7 0,
mq 8 1,
tq 9 (.bin .lss (.t 7) (.t 8)),
mq 10 9,
gq 11 10 false (.mv (.t 0)),
gq 12 10 false (.mv (.t 2)),
gq 13 10 false (.bin .gtr (.t 11) (.t 12)),
tq 14 (.pick (.t 10) (.k (.d (.bool true))) (.t 13)),
tq 15 (cl zan [.t 14,kq 3]),
mq 6 15] [0,1,2,7,8,9,10,11,12,13,14,15]
.ret))⟩
def zlq:CF:=⟨[.tmp 2],
  (sr [
tq 2 (.ownNil ⟨false,zab,1,16⟩)] [2]
(.seq (sr [
mq 3 0,
tq 4 (.nilEq 2 false (.t 3))] [3]
(.cond (.t 4) (sr [
tq 2 (.ownNil ⟨false,zab,1,16⟩)] []
.ret)
 .skip))
(sr [
tq 5 (.mkRow ⟨false,zab,1,16⟩ 0 []),
mq 6 0,
tq 7 (.append ⟨false,zab,1,16⟩ (.t 5) (.t 6)),
mq 2 7] [0,5,6,7]
.ret)))⟩
def zpc:CF:=⟨[.tmp 2],
  (sr [
tq 2 (.ownNil ⟨false,zbq,1,8⟩)] [2]
(.seq (sr [
mq 3 0,
tq 4 (.nilEq 2 false (.t 3))] [3]
(.cond (.t 4) (sr [
tq 2 (.ownNil ⟨false,zbq,1,8⟩)] []
.ret)
 .skip))
(sr [
tq 5 (.mkRow ⟨false,zbq,1,8⟩ 0 []),
mq 6 0,
tq 7 (.append ⟨false,zbq,1,8⟩ (.t 5) (.t 6)),
mq 2 7] [0,5,6,7]
.ret)))⟩
def zoi:C:=
  (sr [
tq 12 (.bin .lss (.t 11) (.t 10))] []
(.seq (.cond (.t 12) .skip
 (.exit 0))
(.seq (.block 1 (sr [
tq 13 (.idxAddr 5 (.t 9) (.t 11)),
lq 14 5 13,
tq 4 (.alloc zac [.z (.int .i64 0),.z (.str []),.z (.list 0 []),.z (.list 0 []),.z (.str [])]),
⟨none,none,.store 5 (.t 4) (.t 14)⟩] [13,14]
(.seq (.reg true [
fa 15 2 4,
ld 16 15,
tq 17 (cl zc7 [.t 16]),
fa 18 3 4,
ld 19 18,
tq 20 (cl zeq [.t 19]),
fa 21 2 4,
⟨none,none,.store 1 (.t 21) (.t 17)⟩,
fa 22 3 4,
⟨none,none,.store 1 (.t 22) (.t 20)⟩] [15,16,17,18,19,20,21,22])
(sr [
mq 23 0,
lq 24 5 4,
tq 25 (.call true true (.t 23) [.t 24]),
tq 26 (.un .not (.t 25))] [4,23,24,25]
(.cond (.t 26) .ret
 .skip)))))
(rg [
tq 27 (.bin .add (.t 11) (kq 1)),
mq 11 27] [27]))))
def zqe:CF:=⟨[],
  (sr [
ld 5 1,
tq 6 (.nilCheck (.t 5)),
fa 7 0 6,
fa 8 0 7,
ld 9 8,
tq 10 (.len .slc (.t 9)),
tq 11 (.mv (kq 0))] [1,5,6,7,8]
(.block 0 (.loop [0,9,10,11] zoi)))⟩
def z5l:CF:=⟨[.tmp 2],
  (sr [
tq 1 (.box zac (.t 0)),
tq 2 (.mv (.k (.d (.str []))))] [0,2]
(.seq (.reg true [
fa 3 1 1,
ld 4 3,
tq 5 (.mkList 1 1 [.t 4]),
fa 6 2 1,
ld 7 6,
fa 8 3 1,
ld 9 8,
tq 10 (cl zfo [.t 9,.k (.fn n_strconv_Itoa [] [])]),
tq 11 (.mkList 1 3 [.t 5,.t 7,.t 10]),
tq 12 (cl zd8 [.t 11]),
tq 13 (cl n_strings_Join [.t 12,.k (.d (.str [32]))]),
mq 2 13] [1,3,4,5,6,7,8,9,10,11,12,13])
.ret))⟩
def z2a:C:=
  (sr [
tq 9 (.bin .lss (.t 8) (.t 7))] []
(.seq (.cond (.t 9) .skip
 (.exit 0))
(.seq (.block 1 (sr [
mq 10 8,
mq 4 10] [10]
(rg [
mq 11 3,
tq 12 (.bin .mul (kq 281) (.t 11)),
mq 13 0,
mq 14 4,
tq 15 (.idxS (.t 13) (.t 14)),
tq 16 (.conv .i64 (.t 15)),
tq 17 (.bin .add (.t 12) (.t 16)),
tq 18 (.bin .rem (.t 17) (kq 9999943)),
mq 3 18] [4,11,12,13,14,15,16,17,18])))
(rg [
tq 19 (.bin .add (.t 8) (kq 1)),
mq 8 19] [19]))))
def z7r:CF:=⟨[.tmp 2],
  (sr [
tq 2 (.mv (.k (.d (.str []))))] [2]
(sr [
tq 3 (.mv (kq 1))] []
(.seq (sr [
mq 6 0,
tq 7 (.len .str (.t 6)),
tq 8 (.mv (kq 0))] [6]
(.block 0 (.loop [0,3,7,8] z2a)))
(sr [
mq 20 3,
tq 21 (cl n_strconv_Itoa [.t 20]),
mq 5 21] [3,20,21]
(sr [
mq 22 5,
tq 23 (.len .str (.t 22)),
tq 24 (.bin .sub (kq 7) (.t 23)),
tq 25 (cl n_strings_Repeat [.k (.d (.str [48])),.t 24]),
mq 26 5,
tq 27 (.bin .add (.t 25) (.t 26)),
mq 2 27] [5,22,23,24,25,26,27]
.ret)))))⟩
def zs2:C:=
  (.seq (sr [
ld 5 1,
tq 6 (.len .str (.t 5)),
tq 7 (.bin .gtr (.t 6) (kq 0))] [5,6]
(.cond (.t 7) .skip
 (.exit 0)))
(.block 1 (sr [
tq 3 (.mv (.k (.d (.str []))))] [3]
(.seq (sr [
ld 8 1,
tq 9 (cl zi4 [.t 8,.k (.d (.int .u8 10))]),
mq 4 9] [8,9]
(sr [
mq 10 4,
tq 11 (.bin .geq (.t 10) (kq 0))] [10]
(.cond (.t 11) (.reg true [
ld 12 1,
mq 13 4,
tq 14 (.bin .add (.t 13) (kq 1)),
tq 15 (.sliceS (.t 12) none (some (.t 14))),
ld 16 1,
mq 17 4,
tq 18 (.bin .add (.t 17) (kq 1)),
tq 19 (.sliceS (.t 16) (some (.t 18)) none),
mq 3 15,
⟨none,none,.store 1 (.t 1) (.t 19)⟩] [4,12,13,14,15,16,17,18,19])
 (rg [
ld 20 1,
mq 3 20,
⟨none,none,.store 1 (.t 1) (.k (.d (.str [])))⟩] [20]))))
(sr [
mq 21 0,
mq 22 3,
tq 23 (.call true true (.t 21) [.t 22]),
tq 24 (.un .not (.t 23))] [3,21,22,23]
(.cond (.t 24) .ret
 .skip))))))
def zwn:CF:=⟨[],
  (.block 0 (.loop [0,1] zs2))⟩
def ztd:CF:=⟨[.tmp 4],
  (sr [
tq 4 (.mv (kq 0))] [4]
(sr [
mq 5 0,
mq 6 1,
tq 7 (cl n_internal_stringslite_IndexByte [.t 5,.t 6]),
mq 4 7] [0,1,5,6,7]
.ret))⟩
def zka:CF:=⟨[.tmp 4,.tmp 5],
  (sr [
tq 4 (.mv (.k (.d (.str [])))),
tq 5 (.mv (.k (.d (.bool false))))] [4,5]
(.seq (sr [
mq 6 0,
mq 7 1,
tq 8 (cl n_internal_stringslite_HasSuffix [.t 6,.t 7]),
tq 9 (.un .not (.t 8))] [6,7,8]
(.cond (.t 9) (sr [
mq 10 0,
mq 4 10,
tq 5 (.mv (.k (.d (.bool false))))] [0,10]
.ret)
 .skip))
(sr [
mq 11 0,
mq 12 0,
tq 13 (.len .str (.t 12)),
mq 14 1,
tq 15 (.len .str (.t 14)),
tq 16 (.bin .sub (.t 13) (.t 15)),
tq 17 (.sliceS (.t 11) none (some (.t 16))),
mq 4 17,
tq 5 (.mv (.k (.d (.bool true))))] [0,1,11,12,13,14,15,16,17]
.ret)))⟩
def zzx:CF:=⟨[.tmp 2],
  (sr [
tq 2 (.mv (.k (.d (.bool false))))] [2]
(sr [
mq 3 0,
tq 4 (.len .str (.t 3)),
tq 5 (.bin .eql (.t 4) (kq 7)),
mq 6 5,
gq 7 6 true (.mv (.t 0)),
gq 8 6 true (cl zfe [.t 7,.k (.fn zhz [] [])]),
gq 9 6 true (.un .not (.t 8)),
tq 10 (.pick (.t 6) (.t 9) (.k (.d (.bool false)))),
mq 2 10] [0,3,4,5,6,7,8,9,10]
.ret))⟩
def z5o:CF:=⟨[.tmp 2],
  (sr [
tq 2 (.mv (.k (.d (.str []))))] [2]
(sr [
mq 3 0,
mq 4 0,
tq 5 (.bin .add (.t 4) (kq 1)),
tq 6 (.sliceS (.k (.d (.str [48,49,50,51,52,53,54,55,56,57]))) (some (.t 3)) (some (.t 5))),
mq 2 6] [0,3,4,5,6]
.ret))⟩
def zs9:CF:=⟨[.tmp 2],
  (sr [
tq 1 (.box zcs (.t 0)),
tq 2 (.mv (kq 0))] [0,2]
(sr [
fa 4 3 1,
ld 5 4,
tq 6 (cl zfe [.t 5,.k (.fn zld [] [])]),
mq 3 6] [4,5,6]
(.seq (.reg true [
fa 7 0 1,
ld 8 7,
tq 9 (cl zdi [.t 8]),
fa 10 1 1,
ld 11 10,
tq 12 (cl zgc [.t 11,kq 1,kq 999999999]),
fa 13 2 1,
ld 14 13,
tq 15 (cl za1 [.t 14]),
fa 16 3 1,
ld 17 16,
tq 18 (.bin .eql (.t 17) (.k (.d (.str [])))),
mq 19 18,
gq 20 19 false (.fieldAddr 3 (.t 1)),
gq 21 19 false (.load none (.t 20)),
gq 22 19 false (.len .str (.t 21)),
gq 23 19 false (.bin .gtr (.t 22) (kq 80)),
tq 24 (.pick (.t 19) (.k (.d (.bool true))) (.t 23)),
mq 25 24,
gq 26 25 false (.mv (.t 3)),
tq 27 (.pick (.t 25) (.k (.d (.bool true))) (.t 26)),
tq 28 (cl zan [.t 27,kq 1]),
tq 29 (.mkList 1 4 [.t 9,.t 12,.t 15,.t 28]),
tq 30 (cl za2 [.t 29]),
mq 2 30] [1,3,7,8,9,10,11,12,13,14,15,16,17,18,19,20,21,22,23,24,25,26,27,28,29,30])
.ret)))⟩
def zl8:CF:=⟨[.tmp 2],
  (sr [
tq 2 (.ownNil ⟨true,zcs,4,48⟩)] [2]
(sr [
mq 3 0,
tq 4 (.call true false (.k (.fn zdp [] [])) [.k (.d .nil),.t 3]),
mq 2 4] [0,3,4]
.ret))⟩
def zgw:CF:=⟨[],
  (sr [
mq 5 0,
tq 6 (.len .slc (.t 5)),
mq 4 6] [5,6]
(rg [
mq 7 0,
mq 8 4,
mq 9 4,
tq 10 (.conv .u64 (.t 9)),
tq 11 (cl zq3 [.t 10]),
mq 12 1,
tq 13 (.call true true (.k (.fn zce [] [])) [.t 7,kq 0,.t 8,.t 11,.t 12])] [0,1,4,7,8,9,10,11,12,13]))⟩
def zc8:C:=
  (sr [
mq 11 0,
lq 12 4 4,
tq 13 (.call true true (.t 11) [.t 12]),
tq 14 (.un .not (.t 13))] [4,11,12,13]
(.cond (.t 14) .ret
 .skip))
def zdd:CF:=⟨[],
  (.rangeM [ld 5 1] 6 (.t 5) 0 1 9 [0,6] [xq 10 9 1,
tq 4 (.alloc zcs [.z (.str []),.z (.int .i64 0),.z (.int .i64 0),.z (.str [])]),
⟨none,none,.store 4 (.t 4) (.t 10)⟩] [9,10] zc8)⟩
def zzt:CF:=⟨[.tmp 2],
  (sr [
tq 2 (.mv (.k (.d (.bool false))))] [2]
(sr [
mq 3 0,
mq 4 0,
tq 5 (.bin .neq (.t 3) (.t 4)),
mq 2 5] [0,3,4,5]
.ret))⟩
def zul:CF:=⟨[.tmp 2],
  (sr [
tq 2 (.mv (.k (.d (.bool false))))] [2]
(sr [
mq 3 0,
mq 4 0,
tq 5 (.bin .neq (.t 3) (.t 4)),
mq 2 5] [0,3,4,5]
.ret))⟩
def zpd:CF:=⟨[.tmp 2],
  (sr [
tq 2 (.ownNil ⟨true,zab,1,16⟩)] [2]
(sr [
mq 3 0,
tq 4 (.call true false (.k (.fn zcm [] [])) [.k (.d .nil),.t 3]),
mq 2 4] [0,3,4]
.ret))⟩
def zg3:C:=
  (sr [
mq 10 0,
mq 11 3,
tq 12 (.call true true (.t 10) [.t 11]),
tq 13 (.un .not (.t 12))] [3,10,11,12]
(.cond (.t 13) .ret
 .skip))
def zhk:CF:=⟨[],
  (.rangeM [ld 4 1] 5 (.t 4) 0 1 8 [0,5] [xq 9 8 0,
mq 3 9] [8,9] zg3)⟩
def zsv:C:=
  (sr [
tq 16 (.nextS (.t 15)),
xq 17 16 0] []
(.seq (.cond (.t 17) .skip
 (.exit 0))
(.block 1 (sr [
xq 18 16 1,
xq 19 16 2,
mq 3 18,
mq 4 19] [16,18,19]
(sr [
mq 20 4,
tq 21 (.bin .geq (.t 20) (.k (.d (.int .i32 65)))),
mq 22 21,
gq 23 22 true (.mv (.t 4)),
gq 24 22 true (.bin .leq (.t 23) (.k (.d (.int .i32 90)))),
tq 25 (.pick (.t 22) (.t 24) (.k (.d (.bool false)))),
mq 26 25,
gq 27 26 false (.mv (.t 4)),
gq 28 26 false (.bin .geq (.t 27) (.k (.d (.int .i32 97)))),
gq 29 26 false (.mv (.t 28)),
gq 30 29 true (.mv (.t 4)),
gq 31 29 true (.bin .leq (.t 30) (.k (.d (.int .i32 122)))),
gq 32 26 false (.pick (.t 29) (.t 31) (.k (.d (.bool false)))),
tq 33 (.pick (.t 26) (.k (.d (.bool true))) (.t 32)),
mq 5 33] [20,21,22,23,24,25,26,27,28,29,30,31,32,33]
(sr [
mq 34 5,
tq 35 (.un .not (.t 34)),
mq 36 35,
gq 37 36 true (.mv (.t 3)),
gq 38 36 true (.bin .eql (.t 37) (kq 0)),
gq 39 36 true (.mv (.t 38)),
gq 40 39 false (.mv (.t 4)),
gq 41 39 false (.bin .neq (.t 40) (.k (.d (.int .i32 95)))),
gq 42 39 false (.mv (.t 41)),
gq 43 42 true (.mv (.t 4)),
gq 44 42 true (.bin .lss (.t 43) (.k (.d (.int .i32 48)))),
gq 45 42 true (.mv (.t 44)),
gq 46 45 false (.mv (.t 4)),
gq 47 45 false (.bin .gtr (.t 46) (.k (.d (.int .i32 57)))),
gq 48 42 true (.pick (.t 45) (.k (.d (.bool true))) (.t 47)),
gq 49 39 false (.pick (.t 42) (.t 48) (.k (.d (.bool false)))),
gq 50 36 true (.pick (.t 39) (.k (.d (.bool true))) (.t 49)),
tq 51 (.pick (.t 36) (.t 50) (.k (.d (.bool false))))] [3,4,5,34,35,36,37,38,39,40,41,42,43,44,45,46,47,48,49,50]
(.cond (.t 51) (sr [
tq 2 (.mv (.k (.d (.bool false))))] []
.ret)
 .skip)))))))
def zv5:CF:=⟨[.tmp 2],
  (sr [
tq 2 (.mv (.k (.d (.bool false))))] [2]
(.seq (sr [
mq 6 0,
tq 7 (.len .str (.t 6)),
tq 8 (.bin .eql (.t 7) (kq 0)),
mq 9 8,
gq 10 9 false (.mv (.t 0)),
gq 11 9 false (.len .str (.t 10)),
gq 12 9 false (.bin .gtr (.t 11) (kq 24)),
tq 13 (.pick (.t 9) (.k (.d (.bool true))) (.t 12))] [6,7,8,9,10,11,12]
(.cond (.t 13) (sr [
tq 2 (.mv (.k (.d (.bool false))))] []
.ret)
 .skip))
(.seq (sr [
mq 14 0,
tq 15 (.rangeS (.t 14))] [0,14]
(.block 0 (.loop [15] zsv)))
(sr [
tq 2 (.mv (.k (.d (.bool true))))] []
.ret))))⟩
def zgm:CF:=⟨[.tmp 2],
  (sr [
tq 1 (.box zix (.t 0)),
tq 2 (.mv (.k (.d (.nilf))))] [0,2]
(sr [
tq 3 (.mkFunc zat [] [.t 1]),
mq 2 3] [1,3]
.ret))⟩
def zok:CF:=⟨[.tmp 6],
  (sr [
tq 3 (.box za3 (.t 0)),
tq 4 (.box zae (.t 1)),
tq 5 (.box zbq (.t 2)),
tq 6 (.mv (.k (.d (.bool false))))] [0,1,2,6]
(sr [
ld 8 3,
lq 9 8 4,
tq 10 (.call true true (.k (.fn zdo [] [])) [.t 8,.t 9]),
tq 11 (.mkFunc zcw [] [.t 3,.t 5]),
tq 12 (.call true true (.k (.fn zaw [] [])) [.t 10,.t 11]),
mq 7 12] [3,8,9,10,11,12]
(sr [
fa 13 4 4,
ld 14 13,
ld 15 5,
tq 16 (.bin .leq (.t 14) (.t 15)),
mq 17 16,
gq 18 17 true (.mv (.t 7)),
gq 19 17 true (.un .not (.t 18)),
tq 20 (.pick (.t 17) (.t 19) (.k (.d (.bool false)))),
mq 6 20] [4,5,7,13,14,15,16,17,18,19,20]
.ret)))⟩
def zh7:C:=
  (sr [
tq 11 (.bin .lss (.t 10) (.t 9))] []
(.seq (.cond (.t 11) .skip
 (.exit 0))
(.seq (.block 1 (sr [
tq 12 (.idxAddr 8 (.t 8) (.t 10)),
lq 13 8 12,
tq 7 (.alloc zae [.z (.str []),.z (.str []),.z (.str []),.z (.str []),.z (.int .i64 0),.z (.int .i64 0),.z (.int .i64 0),.z (.int .i64 0)]),
⟨none,none,.store 8 (.t 7) (.t 13)⟩] [12,13]
(rg [
mq 14 5,
mq 15 1,
lq 16 8 7,
tq 17 (.call true true (.t 15) [.t 16]),
tq 18 (.mkList 1 1 [.t 17]),
tq 19 (.append ⟨false,zab,1,16⟩ (.t 14) (.t 18)),
mq 5 19] [7,14,15,16,17,18,19])))
(rg [
tq 20 (.bin .add (.t 10) (kq 1)),
mq 10 20] [20]))))
def ziz:CF:=⟨[.tmp 4],
  (sr [
tq 4 (.ownNil ⟨false,zab,1,16⟩)] [4]
(sr [
tq 5 (.ownNil ⟨false,zab,1,16⟩)] []
(.seq (sr [
mq 8 0,
tq 9 (.len .slc (.t 8)),
tq 10 (.mv (kq 0))] [0]
(.block 0 (.loop [1,5,8,9,10] zh7)))
(sr [
mq 21 5,
mq 4 21] [5,21]
.ret))))⟩
def zl3:C:=
  (sr [
tq 11 (.bin .lss (.t 10) (.t 9))] []
(.seq (.cond (.t 11) .skip
 (.exit 0))
(.seq (.block 1 (sr [
tq 12 (.idxAddr 8 (.t 8) (.t 10)),
lq 13 8 12,
tq 7 (.alloc zae [.z (.str []),.z (.str []),.z (.str []),.z (.str []),.z (.int .i64 0),.z (.int .i64 0),.z (.int .i64 0),.z (.int .i64 0)]),
⟨none,none,.store 8 (.t 7) (.t 13)⟩] [12,13]
(sr [
mq 14 1,
lq 15 8 7,
tq 16 (.call true true (.t 14) [.t 15])] [14,15]
(.cond (.t 16) (rg [
mq 17 5,
lq 18 8 7,
tq 19 (.mkList 8 1 [.t 18]),
tq 20 (.append ⟨false,zae,8,96⟩ (.t 17) (.t 19)),
mq 5 20] [7,17,18,19,20])
 .skip))))
(rg [
tq 21 (.bin .add (.t 10) (kq 1)),
mq 10 21] [21]))))
def znh:CF:=⟨[.tmp 4],
  (sr [
tq 4 (.ownNil ⟨false,zae,8,96⟩)] [4]
(sr [
tq 5 (.ownNil ⟨false,zae,8,96⟩)] []
(.seq (sr [
mq 8 0,
tq 9 (.len .slc (.t 8)),
tq 10 (.mv (kq 0))] [0]
(.block 0 (.loop [1,5,8,9,10] zl3)))
(sr [
mq 22 5,
mq 4 22] [5,22]
.ret))))⟩
def zl6:CF:=⟨[.tmp 4],
  (sr [
tq 3 (.box zae (.t 0)),
tq 4 (.mv (.k (.d (.bool false))))] [0,4]
(sr [
ld 5 1,
lq 6 8 3,
ld 7 2,
tq 8 (.callQ (.k (.fn zb5 [] [])) [.t 5,.t 6,.t 7]),
mq 4 8] [1,2,3,5,6,7,8]
.ret))⟩
def z5m:CF:=⟨[.tmp 2],
  (sr [
tq 1 (.box zae (.t 0)),
tq 2 (.mv (.k (.d (.str []))))] [0,2]
(sr [
fa 3 0 1,
ld 4 3,
mq 2 4] [1,3,4]
.ret))⟩
def zo9:CF:=⟨[.tmp 4],
  (sr [
tq 3 (.box zab (.t 1)),
tq 4 (.mv (.k (.d (.nilp))))] [1,4]
(.seq (sr [
mq 6 0,
tq 7 (.nilCheck (.t 6)),
fa 8 1 7,
ld 9 8,
tq 10 (.mkFunc zc2 [] [.t 3]),
tq 11 (.call true true (.k (.fn zau [] [])) [.t 9,.t 10]),
mq 5 11] [3,6,7,8,9,10,11]
(sr [
mq 12 5,
tq 13 (.bin .geq (.t 12) (kq 0))] [12]
(.cond (.t 13) (sr [
mq 14 0,
tq 15 (.nilCheck (.t 14)),
fa 16 1 15,
ld 17 16,
mq 18 5,
tq 19 (.idxAddr 8 (.t 17) (.t 18)),
mq 4 19] [0,5,14,15,16,17,18,19]
.ret)
 .skip)))
(sr [
tq 4 (.mv (.k (.d (.nilp))))] []
.ret)))⟩
def zmu:CF:=⟨[.tmp 4],
  (sr [
tq 3 (.box zae (.t 0)),
tq 4 (.mv (.k (.d (.bool false))))] [0,4]
(sr [
ld 5 1,
lq 6 8 3,
tq 7 (.call true true (.k (.fn zdo [] [])) [.t 5,.t 6]),
tq 8 (.slice 8 (.t 7) (some (kq 1)) none none),
tq 9 (.mkFunc zcg [] [.t 2]),
tq 10 (.call true true (.k (.fn zaw [] [])) [.t 8,.t 9]),
mq 4 10] [1,2,3,5,6,7,8,9,10]
.ret))⟩
def zfr:CF:=⟨[.tmp 4],
  (sr [
tq 4 (.mv (.k (.d (.bool false))))] [4]
(sr [
mq 5 0,
mq 6 1,
tq 7 (.call true true (.k (.fn zau [] [])) [.t 5,.t 6]),
tq 8 (.bin .geq (.t 7) (kq 0)),
mq 4 8] [0,1,5,6,7,8]
.ret))⟩
def zn3:C:=
  (.block 1 (sr [
mq 9 0,
mq 10 5,
mq 11 5,
tq 12 (.len .slc (.t 11)),
tq 13 (.bin .sub (.t 12) (kq 1)),
tq 14 (.idxAddr 8 (.t 10) (.t 13)),
fa 15 3 14,
ld 16 15,
tq 17 (.callQ (.k (.fn zbt [] [])) [.t 9,.t 16]),
mq 6 17] [9,10,11,12,13,14,15,16,17]
(.seq (sr [
mq 18 6,
tq 19 (.nilEq 0 false (.t 18))] [18]
(.cond (.t 19) (.exit 0)
 .skip))
(rg [
mq 20 5,
mq 21 6,
tq 22 (.nilCheck (.t 21)),
lq 23 8 22,
tq 24 (.mkList 8 1 [.t 23]),
tq 25 (.append ⟨false,zae,8,96⟩ (.t 20) (.t 24)),
mq 5 25] [6,20,21,22,23,24,25]))))
def zo8:CF:=⟨[.tmp 4],
  (sr [
tq 3 (.box zae (.t 1)),
tq 4 (.ownNil ⟨false,zae,8,96⟩)] [1,4]
(.scope (sr [
lq 7 8 3,
tq 8 (.mkRow ⟨false,zae,8,96⟩ 1 [.t 7]),
mq 5 8] [3,7,8]
(.seq .label
(.seq (.block 0 (.loop [0,5] zn3))
(sr [
mq 26 5,
mq 4 26] [5,26]
.ret))))))⟩
def zlp:CF:=⟨[.tmp 3],
  (sr [
tq 2 (.box zae (.t 0)),
tq 3 (.mv (.k (.d (.bool false))))] [0,3]
(sr [
fa 4 0 2,
ld 5 4,
ld 6 1,
tq 7 (.bin .eql (.t 5) (.t 6)),
mq 3 7] [1,2,4,5,6,7]
.ret))⟩
def zt9:C:=
  (sr [
tq 8 (.bin .lss (.t 7) (.t 6))] []
(.seq (.cond (.t 8) .skip
 (.exit 0))
(.seq (.block 1 (sr [
tq 9 (.idxAddr 1 (.t 5) (.t 7)),
ld 10 9,
mq 4 10] [9,10]
(sr [
mq 11 4,
tq 12 (.bin .neq (.t 11) (kq 0))] [11]
(.cond (.t 12) (sr [
mq 13 4,
mq 2 13] [4,13]
.ret)
 .skip))))
(rg [
tq 14 (.bin .add (.t 7) (kq 1)),
mq 7 14] [14]))))
def zx6:CF:=⟨[.tmp 2],
  (sr [
tq 2 (.mv (kq 0))] [2]
(.seq (sr [
mq 5 0,
tq 6 (.len .slc (.t 5)),
tq 7 (.mv (kq 0))] [0]
(.block 0 (.loop [5,6,7] zt9)))
(sr [
tq 2 (.mv (kq 0))] []
.ret)))⟩
def zs6:CF:=⟨[.tmp 2],
  (sr [
tq 2 (.mv (kq 0))] [2]
(sr [
mq 3 0,
tq 4 (cl zkp [.t 3,kq 0,kq 99999]),
mq 2 4] [0,3,4]
.ret))⟩
def zzs:CF:=⟨[.tmp 4],
  (sr [
tq 4 (.mv (kq 0))] [4]
(.seq (sr [
mq 5 0] [0]
(.cond (.t 5) (sr [
mq 6 1,
mq 4 6] [1,6]
.ret)
 .skip))
(sr [
tq 4 (.mv (kq 0))] []
.ret)))⟩
def zv8:CF:=⟨[.tmp 6],
  (sr [
tq 6 (.mv (kq 0))] [6]
(sr [
mq 7 0,
mq 8 1,
tq 9 (.bin .lss (.t 7) (.t 8)),
mq 10 9,
gq 11 10 false (.mv (.t 0)),
gq 12 10 false (.mv (.t 2)),
gq 13 10 false (.bin .gtr (.t 11) (.t 12)),
tq 14 (.pick (.t 10) (.k (.d (.bool true))) (.t 13)),
tq 15 (cl zjo [.t 14,kq 3]),
mq 6 15] [0,1,2,7,8,9,10,11,12,13,14,15]
.ret))⟩
def znb:C:=
  (rg [
mq 6 8] [8])
def znc:C:=
  (.block 1 (sr [
ld 9 3,
mq 10 6,
tq 11 (.call true true (.t 9) [.t 10])] [3,9,10]
(.cond (.t 11) (rg [
ld 12 5,
mq 13 6,
tq 14 (.mkList 1 1 [.t 13]),
tq 15 (.append ⟨false,zbq,1,8⟩ (.t 12) (.t 14)),
⟨none,none,.store 1 (.t 5) (.t 15)⟩] [5,6,12,13,14,15])
 .skip)))
def zoj:CF:=⟨[.tmp 4],
  (sr [
tq 3 (.box zyj (.t 1)),
tq 4 (.ownNil ⟨false,zbq,1,8⟩)] [1]
(sr [
tq 5 (.alloc yo4 [.own ⟨false,zbq,1,8⟩])] []
(.seq (sr [
mq 7 0] [0]
(.block 0 (.rangeFn 18 (.t 7) [8] znb znc)))
(sr [
ld 16 5,
mq 4 16] [5,16]
.ret))))⟩
def zv6:CF:=⟨[.tmp 2],
  (sr [
tq 1 (.box zml (.t 0)),
tq 2 (.mv (.k (.d (.nilf))))] [0,2]
(sr [
tq 3 (.mkFunc zm0 [] [.t 1]),
mq 2 3] [1,3]
.ret))⟩
def zs5:CF:=⟨[.tmp 2],
  (sr [
tq 2 (.mv (.k (.d (.bool false))))] [2]
(sr [
tq 2 (.mv (.k (.d (.bool true))))] []
.ret))⟩
def zhj:CF:=⟨[.tmp 2],
  (sr [
tq 1 (.box zdr (.t 0)),
tq 2 (.mv (.k (.d (.nilf))))] [0,2]
(sr [
tq 3 (.mkFunc zao [] [.t 1]),
mq 2 3] [1,3]
.ret))⟩
def zvy:C:=
  (.seq (sr [
mq 8 7,
fa 9 2 3,
ld 10 9,
tq 11 (.len .slc (.t 10)),
tq 12 (.bin .lss (.t 8) (.t 11))] [8,9,10,11]
(.cond (.t 12) .skip
 (.exit 0)))
(.seq (.block 1 (sr [
fa 15 2 3,
ld 16 15,
mq 17 7,
tq 18 (.idxAddr 2 (.t 16) (.t 17)),
fa 19 0 18,
ld 20 19,
mq 21 1,
tq 22 (.bin .eql (.t 20) (.t 21)),
mq 23 22,
gq 24 23 true (.fieldAddr 2 (.t 3)),
gq 25 23 true (.load none (.t 24)),
gq 26 23 true (.mv (.t 7)),
gq 27 23 true (.idxAddr 2 (.t 25) (.t 26)),
gq 28 23 true (.fieldAddr 1 (.t 27)),
gq 29 23 true (.load none (.t 28)),
gq 30 23 true (.mv (.t 2)),
gq 31 23 true (.bin .leq (.t 29) (.t 30)),
tq 32 (.pick (.t 23) (.t 31) (.k (.d (.bool false))))] [15,16,17,18,19,20,21,22,23,24,25,26,27,28,29,30,31]
(.cond (.t 32) (sr [
tq 6 (.mv (.k (.d (.bool true))))] []
.ret)
 .skip)))
(rg [
mq 13 7,
tq 14 (.bin .add (.t 13) (kq 1)),
mq 7 14] [13,14])))
def zz9:CF:=⟨[.tmp 6],
  (sr [
tq 3 (.box zaf (.t 0)),
tq 6 (.mv (.k (.d (.bool false))))] [0,6]
(.seq (sr [
tq 7 (.mv (kq 0))] []
(.block 0 (.loop [1,2,3,7] zvy)))
(sr [
tq 6 (.mv (.k (.d (.bool false))))] []
.ret)))⟩
def zx2:C:=
  (.seq (sr [
mq 25 6,
tq 26 (.bin .gtr (.t 25) (kq 0)),
mq 27 26,
gq 28 27 true (.mv (.t 3)),
gq 29 27 true (.mv (.t 6)),
gq 30 27 true (.bin .sub (.t 29) (kq 1)),
gq 31 27 true (.idxAddr 1 (.t 28) (.t 30)),
gq 32 27 true (.load none (.t 31)),
gq 33 27 true (.mv (.t 5)),
gq 34 27 true (.bin .gtr (.t 32) (.t 33)),
tq 35 (.pick (.t 27) (.t 34) (.k (.d (.bool false))))] [25,26,27,28,29,30,31,32,33,34]
(.cond (.t 35) .skip
 (.exit 2)))
(.block 3 (rg [
mq 36 6,
tq 37 (.bin .sub (.t 36) (kq 1)),
mq 6 37] [36,37])))
def zx3:C:=
  (.seq (sr [
mq 7 4,
fa 8 1 1,
ld 9 8,
tq 10 (.len .slc (.t 9)),
tq 11 (.bin .lss (.t 7) (.t 10))] [7,8,9,10]
(.cond (.t 11) .skip
 (.exit 0)))
(.seq (.block 1 (sr [
fa 14 1 1,
ld 15 14,
mq 16 4,
tq 17 (.idxAddr 8 (.t 15) (.t 16)),
fa 18 2 17,
ld 19 18,
mq 5 19] [14,15,16,17,18,19]
(.seq (sr [
mq 20 3,
mq 21 5,
tq 22 (cl zm5 [.t 20,.t 21])] [20,21]
(.cond (.t 22) (.exit 1)
 .skip))
(sr [
mq 23 3,
tq 24 (.len .slc (.t 23)),
mq 6 24] [23,24]
(.seq (.block 2 (.loop [1,3,4,5,6] zx2))
(.regC [
tq 38 (.mkRow ⟨false,zab,1,16⟩ 0 []),
mq 39 3,
mq 40 6,
tq 41 (.slice 1 (.t 39) none (some (.t 40)) none),
tq 42 (.append ⟨false,zab,1,16⟩ (.t 38) (.t 41)),
mq 43 5,
tq 44 (.mkListD 1 1 [.t 43]),
tq 45 (.append ⟨false,zab,1,16⟩ (.t 42) (.t 44)),
mq 46 3,
mq 47 6,
tq 48 (.slice 1 (.t 46) (some (.t 47)) none none),
tq 49 (.append ⟨false,zab,1,16⟩ (.t 45) (.t 48)),
mq 3 49] [5,6,38,39,40,41,42,43,44,45,46,47,48,49] [(46,42),(46,45)]))))))
(rg [
mq 12 4,
tq 13 (.bin .add (.t 12) (kq 1)),
mq 4 13] [12,13])))
def z2q:CF:=⟨[.tmp 2],
  (sr [
tq 1 (.box zaf (.t 0)),
tq 2 (.ownNil ⟨false,zab,1,16⟩)] [0,2]
(sr [
tq 3 (.ownNil ⟨false,zab,1,16⟩)] []
(.seq (sr [
tq 4 (.mv (kq 0))] []
(.block 0 (.loop [1,3,4] zx3)))
(sr [
mq 50 3,
mq 2 50] [3,50]
.ret))))⟩
def z5p:CF:=⟨[.tmp 6],
  (sr [
tq 3 (.box zaf (.t 0)),
tq 6 (.mv (.k (.d (.bool false))))] [0,6]
(sr [
fa 8 1 3,
ld 9 8,
mq 10 1,
tq 11 (.idxAddr 8 (.t 9) (.t 10)),
fa 12 3 11,
ld 13 12,
mq 7 13] [1,8,9,10,11,12,13]
(.seq (.reg true [
mq 14 7,
tq 15 (.bin .neq (.t 14) (.k (.d (.str [])))),
mq 16 15,
gq 17 16 true (.mv (.t 7)),
gq 18 16 true (.mv (.t 2)),
gq 19 16 true (.bin .eql (.t 17) (.t 18)),
gq 20 16 true (.mv (.t 19)),
gq 21 20 false (.load (some 4) (.t 3)),
gq 22 20 false (.load (some 4) (.t 3)),
gq 23 20 false (.mv (.t 7)),
gq 24 20 false (cl zc3 [.t 22,.t 23]),
gq 25 20 false (.mv (.t 2)),
gq 26 20 false (cl zmf [.t 21,.t 24,.t 25]),
gq 27 16 true (.pick (.t 20) (.k (.d (.bool true))) (.t 26)),
tq 28 (.pick (.t 16) (.t 27) (.k (.d (.bool false)))),
mq 6 28] [2,3,7,14,15,16,17,18,19,20,21,22,23,24,25,26,27,28])
.ret)))⟩
def zk0:C:=
  (.seq (sr [
mq 57 8,
mq 58 9,
tq 59 (.bin .lss (.t 57) (.t 58))] [57,58]
(.cond (.t 59) .skip
 (.exit 1)))
(.block 2 (.seq (sr [
mq 60 0,
mq 61 8,
tq 62 (.idxS (.t 60) (.t 61)),
mq 63 6,
tq 64 (.bin .neq (.t 62) (.t 63))] [60,61,62,63]
(.cond (.t 64) (sr [
mq 65 0,
mq 66 8,
tq 67 (.bin .add (.t 66) (kq 1)),
mq 68 9,
tq 69 (.sliceS (.t 65) (some (.t 67)) (some (.t 68))),
mq 70 6,
tq 71 (cl n_internal_stringslite_IndexByte [.t 69,.t 70]),
mq 11 71] [65,66,67,68,69,70,71]
(.seq (sr [
mq 72 11,
tq 73 (.bin .lss (.t 72) (kq 0))] [72]
(.cond (.t 73) (sr [
tq 4 (.mv (kq (-1)))] []
.ret)
 .skip))
(rg [
mq 74 8,
mq 75 11,
tq 76 (.bin .add (.t 75) (kq 1)),
tq 77 (.bin .add (.t 74) (.t 76)),
mq 8 77] [11,74,75,76,77])))
 .skip))
(.seq (sr [
mq 78 0,
mq 79 8,
tq 80 (.bin .add (.t 79) (kq 1)),
tq 81 (.idxS (.t 78) (.t 80)),
mq 82 7,
tq 83 (.bin .eql (.t 81) (.t 82)),
mq 84 83,
gq 85 84 true (.mv (.t 0)),
gq 86 84 true (.mv (.t 8)),
gq 87 84 true (.mv (.t 8)),
gq 88 84 true (.mv (.t 5)),
gq 89 84 true (.bin .add (.t 87) (.t 88)),
gq 90 84 true (.sliceS (.t 85) (some (.t 86)) (some (.t 89))),
gq 91 84 true (.mv (.t 1)),
gq 92 84 true (.bin .eql (.t 90) (.t 91)),
tq 93 (.pick (.t 84) (.t 92) (.k (.d (.bool false))))] [78,79,80,81,82,83,84,85,86,87,88,89,90,91,92]
(.cond (.t 93) (sr [
mq 94 8,
mq 4 94] [8,94]
.ret)
 .skip))
(sr [
mq 95 8,
tq 96 (.bin .add (.t 95) (kq 1)),
mq 8 96] [95,96]
(sr [
mq 97 10,
tq 98 (.bin .add (.t 97) (kq 1)),
mq 10 98] [97,98]
(sr [
mq 99 5,
tq 100 (.bad),
tq 101 (.bin .leq (.t 99) (.t 100)),
mq 102 101,
gq 103 102 true (.mv (.t 10)),
gq 104 102 true (.mv (.t 8)),
gq 105 102 true (cl znj [.t 104]),
gq 106 102 true (.bin .gtr (.t 103) (.t 105)),
tq 107 (.pick (.t 102) (.t 106) (.k (.d (.bool false))))] [99,100,101,102,103,104,105,106]
(.cond (.t 107) (sr [
mq 108 0,
mq 109 8,
tq 110 (.sliceS (.t 108) (some (.t 109)) none),
mq 111 1,
tq 112 (cl zgn [.t 110,.t 111]),
mq 12 112] [0,1,108,109,110,111,112]
(.seq (sr [
mq 113 12,
tq 114 (.bin .geq (.t 113) (kq 0))] [113]
(.cond (.t 114) (sr [
mq 115 12,
mq 116 8,
tq 117 (.bin .add (.t 115) (.t 116)),
mq 4 117] [8,12,115,116,117]
.ret)
 .skip))
(sr [
tq 4 (.mv (kq (-1)))] []
.ret)))
 (sr [
mq 118 5,
tq 119 (.bad),
tq 120 (.bin .gtr (.t 118) (.t 119)),
mq 121 120,
gq 122 121 true (.mv (.t 10)),
gq 123 121 true (.mv (.t 8)),
gq 124 121 true (.bin .shr (.t 123) (.k (.d (.int .u64 4)))),
gq 125 121 true (.bin .add (kq 4) (.t 124)),
gq 126 121 true (.bin .geq (.t 122) (.t 125)),
tq 127 (.pick (.t 121) (.t 126) (.k (.d (.bool false)))),
mq 128 127,
gq 129 128 true (.mv (.t 8)),
gq 130 128 true (.mv (.t 9)),
gq 131 128 true (.bin .lss (.t 129) (.t 130)),
tq 132 (.pick (.t 128) (.t 131) (.k (.d (.bool false))))] [118,119,120,121,122,123,124,125,126,127,128,129,130,131]
(.cond (.t 132) (sr [
mq 133 0,
mq 134 8,
tq 135 (.sliceS (.t 133) (some (.t 134)) none),
mq 136 1,
tq 137 (cl zhd [.t 135,.t 136]),
mq 13 137] [0,1,133,134,135,136,137]
(.seq (sr [
mq 138 13,
tq 139 (.bin .lss (.t 138) (kq 0))] [138]
(.cond (.t 139) (sr [
tq 4 (.mv (kq (-1)))] []
.ret)
 .skip))
(sr [
mq 140 8,
mq 141 13,
tq 142 (.bin .add (.t 140) (.t 141)),
mq 4 142] [8,13,140,141,142]
.ret)))
 .skip))))))))))
def zl5:CF:=⟨[.tmp 4],
  (sr [
tq 4 (.mv (kq 0))] [4]
(sr [
mq 14 1,
tq 15 (.len .str (.t 14)),
mq 5 15] [14,15]
(.seq (.block 0 (sr [
mq 17 5,
tq 18 (.bin .eql (.t 17) (kq 0)),
mq 19 18,
gq 20 19 false (.mv (.t 1)),
gq 21 19 false (.mv (.t 0)),
gq 22 19 false (.bin .eql (.t 20) (.t 21)),
tq 23 (.pick (.t 19) (.k (.d (.bool true))) (.t 22)),
mq 16 23] [17,18,19,20,21,22,23]
(.cond (.t 16) (sr [
tq 4 (.mv (kq 0))] []
.ret)
 (sr [
mq 25 5,
tq 26 (.bin .eql (.t 25) (kq 1)),
mq 24 26] [25,26]
(.cond (.t 24) (sr [
mq 27 0,
mq 28 1,
tq 29 (.idxS (.t 28) (kq 0)),
tq 30 (cl n_internal_stringslite_IndexByte [.t 27,.t 29]),
mq 4 30] [0,1,27,28,29,30]
.ret)
 (sr [
mq 32 5,
mq 33 0,
tq 34 (.len .str (.t 33)),
tq 35 (.bin .geq (.t 32) (.t 34)),
mq 31 35] [32,33,34,35]
(.cond (.t 31) (sr [
tq 4 (.mv (kq (-1)))] []
.ret)
 (sr [
mq 37 5,
tq 38 (.bad),
tq 39 (.bin .leq (.t 37) (.t 38)),
mq 40 39,
gq 41 40 true (.mv (.t 0)),
gq 42 40 true (.len .str (.t 41)),
gq 43 40 true (.bin .leq (.t 42) (kq 64)),
tq 44 (.pick (.t 40) (.t 43) (.k (.d (.bool false)))),
mq 36 44] [37,38,39,40,41,42,43,44]
(.cond (.t 36) (sr [
mq 45 0,
mq 46 1,
tq 47 (cl zgn [.t 45,.t 46]),
mq 4 47] [0,1,45,46,47]
.ret)
 .skip)))))))))
(sr [
mq 48 1,
tq 49 (.idxS (.t 48) (kq 0)),
mq 6 49] [48,49]
(sr [
mq 50 1,
tq 51 (.idxS (.t 50) (kq 1)),
mq 7 51] [50,51]
(sr [
tq 8 (.mv (kq 0))] []
(sr [
mq 52 0,
tq 53 (.len .str (.t 52)),
mq 54 5,
tq 55 (.bin .sub (.t 53) (.t 54)),
tq 56 (.bin .add (.t 55) (kq 1)),
mq 9 56] [52,53,54,55,56]
(sr [
tq 10 (.mv (kq 0))] []
(.seq (.block 1 (.loop [0,1,5,6,7,8,9,10] zk0))
(sr [
tq 4 (.mv (kq (-1)))] []
.ret))))))))))⟩
def zkg:C:=
  (sr [
tq 9 (.bin .lss (.t 8) (.t 7))] []
(.seq (.cond (.t 9) .skip
 (.exit 0))
(.seq (.block 1 (sr [
mq 10 8,
mq 5 10] [10]
(sr [
mq 11 1,
mq 12 0,
mq 13 5,
tq 14 (.idxAddr 1 (.t 12) (.t 13)),
ld 15 14,
tq 16 (.bin .eql (.t 11) (.t 15))] [11,12,13,14,15]
(.cond (.t 16) (sr [
mq 17 5,
mq 4 17] [5,17]
.ret)
 .skip))))
(rg [
tq 18 (.bin .add (.t 8) (kq 1)),
mq 8 18] [18]))))
def zlr:CF:=⟨[.tmp 4],
  (sr [
tq 4 (.mv (kq 0))] [4]
(.seq (sr [
mq 6 0,
tq 7 (.len .slc (.t 6)),
tq 8 (.mv (kq 0))] [6]
(.block 0 (.loop [0,1,7,8] zkg)))
(sr [
tq 4 (.mv (kq (-1)))] []
.ret)))⟩
def zqd:CF:=⟨[.tmp 6],
  (sr [
tq 6 (.mv (kq 0))] [6]
(sr [
mq 8 0,
mq 9 1,
tq 10 (.callQ (.k (.fn zbt [] [])) [.t 8,.t 9]),
mq 7 10] [1,8,9,10]
(.seq (sr [
mq 11 7,
tq 12 (.nilEq 0 false (.t 11))] [11]
(.cond (.t 12) (sr [
tq 6 (.mv (kq 10))] []
.ret)
 .skip))
(sr [
mq 13 0,
mq 14 7,
tq 15 (.nilCheck (.t 14)),
lq 16 8 15,
mq 17 2,
tq 18 (.callQ (.k (.fn zb5 [] [])) [.t 13,.t 16,.t 17]),
tq 19 (.un .not (.t 18)),
tq 20 (cl zan [.t 19,kq 20]),
mq 6 20] [0,2,7,13,14,15,16,17,18,19,20]
.ret))))⟩
def zms:CF:=⟨[.tmp 4],
  (sr [
tq 3 (.box zab (.t 1)),
tq 4 (.mv (.k (.d (.nilp))))] [1,4]
(.seq (sr [
mq 6 0,
tq 7 (.nilCheck (.t 6)),
fa 8 3 7,
ld 9 8,
tq 10 (.mkFunc zcf [] [.t 3]),
tq 11 (.call true true (.k (.fn zbe [] [])) [.t 9,.t 10]),
mq 5 11] [3,6,7,8,9,10,11]
(sr [
mq 12 5,
tq 13 (.bin .geq (.t 12) (kq 0))] [12]
(.cond (.t 13) (sr [
mq 14 0,
tq 15 (.nilCheck (.t 14)),
fa 16 3 15,
ld 17 16,
mq 18 5,
tq 19 (.idxAddr 5 (.t 17) (.t 18)),
mq 4 19] [0,5,14,15,16,17,18,19]
.ret)
 .skip)))
(sr [
tq 4 (.mv (.k (.d (.nilp))))] []
.ret)))⟩
def ziy:C:=
  (sr [
tq 9 (.bin .lss (.t 8) (.t 7))] []
(.seq (.cond (.t 9) .skip
 (.exit 0))
(.seq (.block 1 (sr [
mq 10 8,
mq 5 10] [10]
(sr [
mq 11 1,
mq 12 0,
mq 13 5,
tq 14 (.idxAddr 1 (.t 12) (.t 13)),
ld 15 14,
tq 16 (.call false true (.t 11) [.t 15])] [11,12,13,14,15]
(.cond (.t 16) (sr [
mq 17 5,
mq 4 17] [5,17]
.ret)
 .skip))))
(rg [
tq 18 (.bin .add (.t 8) (kq 1)),
mq 8 18] [18]))))
def zjj:CF:=⟨[.tmp 4],
  (sr [
tq 4 (.mv (kq 0))] [4]
(.seq (sr [
mq 6 0,
tq 7 (.len .slc (.t 6)),
tq 8 (.mv (kq 0))] [6]
(.block 0 (.loop [0,1,7,8] ziy)))
(sr [
tq 4 (.mv (kq (-1)))] []
.ret)))⟩
def zlm:C:=
  (sr [
tq 9 (.bin .lss (.t 8) (.t 7))] []
(.seq (.cond (.t 9) .skip
 (.exit 0))
(.seq (.block 1 (sr [
mq 10 8,
mq 5 10] [10]
(sr [
mq 11 1,
mq 12 0,
mq 13 5,
tq 14 (.idxAddr 1 (.t 12) (.t 13)),
ld 15 14,
tq 16 (.call false true (.t 11) [.t 15])] [11,12,13,14,15]
(.cond (.t 16) (sr [
mq 17 5,
mq 4 17] [5,17]
.ret)
 .skip))))
(rg [
tq 18 (.bin .add (.t 8) (kq 1)),
mq 8 18] [18]))))
def zmv:CF:=⟨[.tmp 4],
  (sr [
tq 4 (.mv (kq 0))] [4]
(.seq (sr [
mq 6 0,
tq 7 (.len .slc (.t 6)),
tq 8 (.mv (kq 0))] [6]
(.block 0 (.loop [0,1,7,8] zlm)))
(sr [
tq 4 (.mv (kq (-1)))] []
.ret)))⟩
def zj8:C:=
  (sr [
tq 12 (.bin .lss (.t 11) (.t 10))] []
(.seq (.cond (.t 12) .skip
 (.exit 0))
(.seq (.block 1 (sr [
tq 13 (.idxAddr 1 (.t 9) (.t 11)),
ld 14 13,
mq 5 14] [13,14]
(sr [
mq 15 3,
mq 16 5,
tq 17 (.len .slc (.t 16)),
tq 18 (.bin .add (.t 15) (.t 17)),
mq 3 18] [5,15,16,17,18]
(sr [
mq 19 3,
tq 20 (.bin .lss (.t 19) (kq 0))] [19]
(.cond (.t 20) (rg [
tq 21 (.bad),
⟨none,none,.bad⟩] [21])
 .skip)))))
(rg [
tq 22 (.bin .add (.t 11) (kq 1)),
mq 11 22] [22]))))
def zj9:C:=
  (sr [
tq 28 (.bin .lss (.t 27) (.t 26))] []
(.seq (.cond (.t 28) .skip
 (.exit 2))
(.seq (.block 3 (sr [
tq 29 (.idxAddr 1 (.t 25) (.t 27)),
ld 30 29,
mq 8 30] [29,30]
(rg [
mq 31 6,
mq 32 8,
tq 33 (.appendIn ⟨false,zab,1,16⟩ (.t 31) (.t 32)),
mq 6 33] [8,31,32,33])))
(rg [
tq 34 (.bin .add (.t 27) (kq 1)),
mq 27 34] [34]))))
def zk4:CF:=⟨[.tmp 2],
  (sr [
tq 2 (.ownNil ⟨false,zab,1,16⟩)] [2]
(sr [
tq 3 (.mv (kq 0))] []
(.seq (sr [
mq 9 0,
tq 10 (.len .slc (.t 9)),
tq 11 (.mv (kq 0))] []
(.block 0 (.loop [0,3,9,10,11] zj8)))
(sr [
mq 23 3,
tq 24 (.call true false (.k (.fn zes [] [])) [.k (.d .nil),.t 23]),
mq 6 24] [3,23,24]
(.seq (sr [
mq 25 0,
tq 26 (.len .slc (.t 25)),
tq 27 (.mv (kq 0))] [0]
(.block 2 (.loop [6,25,26,27] zj9)))
(sr [
mq 35 6,
mq 2 35] [6,35]
.ret))))))⟩
def zl4:C:=
  (sr [
tq 11 (.bin .lss (.t 10) (.t 9))] []
(.seq (.cond (.t 11) .skip
 (.exit 0))
(.seq (.block 1 (sr [
tq 12 (.idxAddr 1 (.t 8) (.t 10)),
ld 13 12,
mq 7 13] [12,13]
(rg [
mq 14 5,
mq 15 1,
mq 16 7,
tq 17 (.call false true (.t 15) [.t 16]),
tq 18 (.mkList 1 1 [.t 17]),
tq 19 (.append ⟨false,zab,1,16⟩ (.t 14) (.t 18)),
mq 5 19] [7,14,15,16,17,18,19])))
(rg [
tq 20 (.bin .add (.t 10) (kq 1)),
mq 10 20] [20]))))
def zni:CF:=⟨[.tmp 4],
  (sr [
tq 4 (.ownNil ⟨false,zab,1,16⟩)] [4]
(sr [
tq 5 (.ownNil ⟨false,zab,1,16⟩)] []
(.seq (sr [
mq 8 0,
tq 9 (.len .slc (.t 8)),
tq 10 (.mv (kq 0))] [0]
(.block 0 (.loop [1,5,8,9,10] zl4)))
(sr [
mq 21 5,
mq 4 21] [5,21]
.ret))))⟩
def zqj:CF:=⟨[.tmp 4],
  (sr [
tq 4 (.mv (.k (.d (.bool false))))] [4]
(sr [
mq 5 0,
mq 6 1,
tq 7 (cl zi5 [.t 5,.t 6]),
tq 8 (.bin .geq (.t 7) (kq 0)),
mq 4 8] [0,1,5,6,7,8]
.ret))⟩
def zwf:CF:=⟨[.tmp 2],
  (sr [
tq 2 (.mv (.k (.d (.bool false))))] [2]
(sr [
mq 3 0,
tq 4 (.bin .lss (.t 3) (.k (.d (.int .i32 48)))),
mq 5 4,
gq 6 5 false (.mv (.t 0)),
gq 7 5 false (.bin .gtr (.t 6) (.k (.d (.int .i32 57)))),
tq 8 (.pick (.t 5) (.k (.d (.bool true))) (.t 7)),
mq 2 8] [0,3,4,5,6,7,8]
.ret))⟩
def zqw:CF:=⟨[.tmp 2],
  (sr [
tq 2 (.mv (.k (.d (.bool false))))] [2]
(sr [
mq 3 0,
tq 4 (.bin .lss (.t 3) (.k (.d (.int .i32 32)))),
mq 5 4,
gq 6 5 false (.mv (.t 0)),
gq 7 5 false (.bin .gtr (.t 6) (.k (.d (.int .i32 126)))),
tq 8 (.pick (.t 5) (.k (.d (.bool true))) (.t 7)),
mq 2 8] [0,3,4,5,6,7,8]
.ret))⟩
def zf7:C:=
  (rg [
tq 5 (.alloc zcs [.z (.str []),.z (.int .i64 0),.z (.int .i64 0),.z (.str [])]),
⟨none,none,.store 4 (.t 5) (.t 7)⟩] [7])
def zf8:C:=
  (.block 1 (rg [
ld 8 2,
lq 9 4 5,
tq 10 (.mkList 4 1 [.t 9]),
tq 11 (.append ⟨true,zcs,4,48⟩ (.t 8) (.t 10)),
⟨none,none,.store 1 (.t 2) (.t 11)⟩] [2,5,8,9,10,11]))
def zgr:CF:=⟨[.tmp 4],
  (sr [
tq 2 (.box z11 (.t 0)),
tq 4 (.ownNil ⟨true,zcs,4,48⟩)] [0]
(.seq (sr [
mq 6 1] [1]
(.block 0 (.rangeFn 14 (.t 6) [7] zf7 zf8)))
(sr [
ld 12 2,
mq 4 12] [2,12]
.ret)))⟩
def zh8:C:=
  (.block 1 (sr [
mq 21 2,
mq 22 1,
tq 23 (.bin .sub (.t 21) (.t 22)),
mq 12 23] [21,22,23]
(.seq (sr [
mq 24 12,
tq 25 (.bin .leq (.t 24) (kq 12))] [24]
(.cond (.t 25) (sr [
mq 26 0,
mq 27 1,
mq 28 2,
mq 29 4,
tq 30 (.call true true (.k (.fn zd2 [] [])) [.t 26,.t 27,.t 28,.t 29])] [0,1,2,4,26,27,28,29,30]
.ret)
 .skip))
(.seq (sr [
mq 31 3,
tq 32 (.bin .eql (.t 31) (kq 0))] [31]
(.cond (.t 32) (sr [
mq 33 0,
mq 34 1,
mq 35 2,
mq 36 4,
tq 37 (.call true true (.k (.fn zev [] [])) [.t 33,.t 34,.t 35,.t 36])] [0,1,2,4,33,34,35,36,37]
.ret)
 .skip))
(.seq (sr [
mq 38 10,
tq 39 (.un .not (.t 38))] [38]
(.cond (.t 39) (sr [
mq 40 0,
mq 41 1,
mq 42 2,
mq 43 4,
tq 44 (.call true true (.k (.fn zd1 [] [])) [.t 40,.t 41,.t 42,.t 43])] [40,41,42,43,44]
(rg [
mq 45 3,
tq 46 (.bin .sub (.t 45) (kq 1)),
mq 3 46] [45,46]))
 .skip))
(sr [
mq 48 0,
mq 49 1,
mq 50 2,
mq 51 4,
tq 52 (.call true true (.k (.fn zea [] [])) [.t 48,.t 49,.t 50,.t 51]),
mq 47 52,
xq 53 47 0,
xq 54 47 1,
mq 13 53,
mq 14 54] [47,48,49,50,51,52,53,54]
(.seq (sr [
mq 55 14,
tq 56 (.bin .eql (.t 55) (kq 2))] [55]
(.cond (.t 56) (sr [
mq 57 0,
mq 58 1,
mq 59 2,
mq 60 4,
tq 61 (.call true true (.k (.fn zd5 [] [])) [.t 57,.t 58,.t 59,.t 60])] [57,58,59,60,61]
(sr [
mq 62 2,
tq 63 (.bin .sub (.t 62) (kq 1)),
mq 64 13,
mq 65 1,
tq 66 (.bin .sub (.t 64) (.t 65)),
tq 67 (.bin .sub (.t 63) (.t 66)),
mq 13 67] [62,63,64,65,66,67]
(rg [
tq 14 (.mv (kq 1))] [])))
 .skip))
(.seq (sr [
mq 68 10,
mq 69 68,
gq 70 69 true (.mv (.t 11)),
tq 71 (.pick (.t 69) (.t 70) (.k (.d (.bool false)))),
mq 72 71,
gq 73 72 true (.mv (.t 14)),
gq 74 72 true (.bin .eql (.t 73) (kq 1)),
tq 75 (.pick (.t 72) (.t 74) (.k (.d (.bool false))))] [14,68,69,70,71,72,73,74]
(.cond (.t 75) (sr [
mq 76 0,
mq 77 1,
mq 78 2,
mq 79 4,
tq 80 (.call true true (.k (.fn zcz [] [])) [.t 76,.t 77,.t 78,.t 79])] [76,77,78,79]
(.cond (.t 80) .ret
 .skip))
 .skip))
(.seq (.seq (.reg true [
mq 81 1,
tq 82 (.bin .gtr (.t 81) (kq 0)),
mq 83 82,
gq 84 83 true (.mv (.t 4)),
gq 85 83 true (.mv (.t 0)),
gq 86 83 true (.mv (.t 1)),
gq 87 83 true (.bin .sub (.t 86) (kq 1)),
gq 88 83 true (.idxAddr 4 (.t 85) (.t 87)),
gq 89 83 true (.load (some 4) (.t 88)),
gq 90 83 true (.mv (.t 0)),
gq 91 83 true (.mv (.t 13)),
gq 92 83 true (.idxAddr 4 (.t 90) (.t 91)),
gq 93 83 true (.load (some 4) (.t 92)),
gq 94 83 true (.call true true (.t 84) [.t 89,.t 93]),
gq 95 83 true (.bin .lss (.t 94) (kq 0)),
gq 96 83 true (.un .not (.t 95)),
tq 97 (.pick (.t 83) (.t 96) (.k (.d (.bool false))))] [81,82,83,84,85,86,87,88,89,90,91,92,93,94,95,96])
(.cond (.t 97) (sr [
mq 98 0,
mq 99 1,
mq 100 2,
mq 101 13,
mq 102 4,
tq 103 (.call true true (.k (.fn zdu [] [])) [.t 98,.t 99,.t 100,.t 101,.t 102]),
mq 15 103] [1,13,98,99,100,101,102,103]
(sr [
mq 104 15,
mq 1 104] [15,104]
(.exit 1)))
 .skip))
(sr [
mq 106 0,
mq 107 1,
mq 108 2,
mq 109 13,
mq 110 4,
tq 111 (.call true true (.k (.fn zej [] [])) [.t 106,.t 107,.t 108,.t 109,.t 110]),
mq 105 111,
xq 112 105 0,
xq 113 105 1,
mq 16 112,
mq 17 113] [13,105,106,107,108,109,110,111,112,113]
(sr [
mq 114 17,
mq 11 114] [17,114]
(sr [
mq 115 16,
mq 116 1,
tq 117 (.bin .sub (.t 115) (.t 116)),
mq 118 2,
mq 119 16,
tq 120 (.bin .sub (.t 118) (.t 119)),
mq 18 117,
mq 19 120] [115,116,117,118,119,120]
(sr [
mq 121 12,
tq 122 (.bin .quo (.t 121) (kq 8)),
mq 20 122] [12,121,122]
(sr [
mq 123 18,
mq 124 19,
tq 125 (.bin .lss (.t 123) (.t 124))] [123,124]
(.cond (.t 125) (sr [
mq 126 18,
mq 127 20,
tq 128 (.bin .geq (.t 126) (.t 127)),
mq 10 128] [18,20,126,127,128]
(sr [
mq 129 0,
mq 130 1,
mq 131 16,
mq 132 3,
mq 133 4,
tq 134 (.call true true (.k (.fn zce [] [])) [.t 129,.t 130,.t 131,.t 132,.t 133])] [1,129,130,131,132,133,134]
(rg [
mq 135 16,
tq 136 (.bin .add (.t 135) (kq 1)),
mq 1 136] [16,135,136])))
 (sr [
mq 137 19,
mq 138 20,
tq 139 (.bin .geq (.t 137) (.t 138)),
mq 10 139] [19,20,137,138,139]
(sr [
mq 140 0,
mq 141 16,
tq 142 (.bin .add (.t 141) (kq 1)),
mq 143 2,
mq 144 3,
mq 145 4,
tq 146 (.call true true (.k (.fn zce [] [])) [.t 140,.t 142,.t 143,.t 144,.t 145])] [2,140,141,142,143,144,145,146]
(rg [
mq 147 16,
mq 2 147] [16,147]))))))))))))))))))
def zi0:CF:=⟨[],
  (sr [
tq 10 (.mv (.k (.d (.bool true))))] []
(sr [
tq 11 (.mv (.k (.d (.bool true))))] []
(.block 0 (.loop [0,1,2,3,4,10,11] zh8))))⟩
def zzu:CF:=⟨[.tmp 2],
  (sr [
tq 2 (.mv (kq 0))] [2]
(.seq (.cond (.k (.d (.bool false))) (sr [
mq 3 0,
tq 4 (.conv .u32 (.t 3)),
tq 5 (cl zoy [.t 4]),
mq 2 5] [0,3,4,5]
.ret)
 .skip)
(sr [
mq 6 0,
tq 7 (cl zoz [.t 6]),
mq 2 7] [0,6,7]
.ret)))⟩
def ze0:C:=
  (rg [
mq 5 7] [7])
def ze1:C:=
  (.block 1 (rg [
ld 8 2,
mq 9 5,
tq 10 (.mkList 1 1 [.t 9]),
tq 11 (.append ⟨true,zab,1,16⟩ (.t 8) (.t 10)),
⟨none,none,.store 1 (.t 2) (.t 11)⟩] [2,5,8,9,10,11]))
def zji:CF:=⟨[.tmp 4],
  (sr [
tq 2 (.box zo5 (.t 0)),
tq 4 (.ownNil ⟨true,zab,1,16⟩)] [0]
(.seq (sr [
mq 6 1] [1]
(.block 0 (.rangeFn 14 (.t 6) [7] ze0 ze1)))
(sr [
ld 12 2,
mq 4 12] [2,12]
.ret)))⟩
def zfq:C:=
  (.seq (sr [
mq 7 3,
tq 8 (.bin .geq (.t 7) (kq 0))] [7]
(.cond (.t 8) .skip
 (.exit 0)))
(.seq (.block 1 (sr [
mq 11 0,
mq 12 3,
ld 13 1,
mq 14 3,
tq 15 (.idxAddr 8 (.t 13) (.t 14)),
lq 16 8 15,
tq 17 (.call true true (.t 11) [.t 12,.t 16]),
tq 18 (.un .not (.t 17))] [11,12,13,14,15,16,17]
(.cond (.t 18) .ret
 .skip)))
(rg [
mq 9 3,
tq 10 (.bin .sub (.t 9) (kq 1)),
mq 3 10] [9,10])))
def zf4:CF:=⟨[],
  (sr [
ld 4 1,
tq 5 (.len .slc (.t 4)),
tq 6 (.bin .sub (.t 5) (kq 1)),
mq 3 6] [4,5,6]
(.block 0 (.loop [0,1,3] zfq)))⟩
def zng:CF:=⟨[.tmp 4],
  (sr [
tq 3 (.box zae (.t 0)),
tq 4 (.mv (.k (.d (.bool false))))] [0,4]
(sr [
ld 5 1,
tq 6 (.nilCheck (.t 5)),
fa 7 2 6,
ld 8 7,
tq 9 (.mkFunc zbw [] [.t 3,.t 2]),
tq 10 (.call true true (.k (.fn zbg [] [])) [.t 8,.t 9]),
mq 4 10] [1,2,3,5,6,7,8,9,10]
.ret))⟩
def zew:CF:=⟨[.tmp 4],
  (sr [
tq 4 (.mv (.k (.d (.bool false))))] [4]
(sr [
mq 5 0,
mq 6 1,
tq 7 (.call true true (.k (.fn zbo [] [])) [.t 5,.t 6]),
tq 8 (.bin .geq (.t 7) (kq 0)),
mq 4 8] [0,1,5,6,7,8]
.ret))⟩
def zl7:CF:=⟨[.tmp 4],
  (sr [
tq 3 (.box zam (.t 0)),
tq 4 (.mv (.k (.d (.bool false))))] [0,4]
(sr [
fa 5 0 3,
ld 6 5,
fa 7 0 1,
ld 8 7,
tq 9 (.bin .eql (.t 6) (.t 8)),
mq 10 9,
gq 11 10 true (.fieldAddr 1 (.t 3)),
gq 12 10 true (.load none (.t 11)),
gq 13 10 true (.load none (.t 2)),
gq 14 10 true (.bin .leq (.t 12) (.t 13)),
tq 15 (.pick (.t 10) (.t 14) (.k (.d (.bool false)))),
mq 4 15] [1,2,3,5,6,7,8,9,10,11,12,13,14,15]
.ret))⟩
def zfz:C:=
  (sr [
tq 9 (.bin .lss (.t 8) (.t 7))] []
(.seq (.cond (.t 9) .skip
 (.exit 0))
(.seq (.block 1 (sr [
mq 10 8,
mq 5 10] [10]
(sr [
mq 11 1,
mq 12 0,
mq 13 5,
tq 14 (.idxAddr 8 (.t 12) (.t 13)),
lq 15 8 14,
tq 16 (.call true true (.t 11) [.t 15])] [11,12,13,14,15]
(.cond (.t 16) (sr [
mq 17 5,
mq 4 17] [5,17]
.ret)
 .skip))))
(rg [
tq 18 (.bin .add (.t 8) (kq 1)),
mq 8 18] [18]))))
def zf9:CF:=⟨[.tmp 4],
  (sr [
tq 4 (.mv (kq 0))] [4]
(.seq (sr [
mq 6 0,
tq 7 (.len .slc (.t 6)),
tq 8 (.mv (kq 0))] [6]
(.block 0 (.loop [0,1,7,8] zfz)))
(sr [
tq 4 (.mv (kq (-1)))] []
.ret)))⟩
def zn6:CF:=⟨[.tmp 3],
  (sr [
tq 2 (.box zae (.t 0)),
tq 3 (.mv (.k (.d (.bool false))))] [0,3]
(sr [
fa 4 0 2,
ld 5 4,
ld 6 1,
tq 7 (.bin .eql (.t 5) (.t 6)),
mq 3 7] [1,2,4,5,6,7]
.ret))⟩
def zqr:C:=
  (.seq (sr [
mq 6 3,
fa 7 1 1,
ld 8 7,
tq 9 (.bin .leq (.t 6) (.t 8))] [6,7,8]
(.cond (.t 9) .skip
 (.exit 0)))
(.seq (.block 1 (.seq (.reg true [
fa 12 2 1,
ld 13 12,
mq 14 3,
tq 15 (cl zns [.t 14]),
tq 16 (cl zox [.t 13,.t 15]),
mq 17 16,
gq 18 17 true (.mv (.t 0)),
gq 19 17 true (.mv (.t 3)),
gq 20 17 true (.call true true (.t 18) [.t 19]),
gq 21 17 true (.un .not (.t 20)),
tq 22 (.pick (.t 17) (.t 21) (.k (.d (.bool false))))] [12,13,14,15,16,17,18,19,20,21])
(.cond (.t 22) .ret
 .skip)))
(rg [
mq 10 3,
tq 11 (.bin .add (.t 10) (kq 1)),
mq 3 11] [10,11])))
def zs7:CF:=⟨[],
  (sr [
fa 4 0 1,
ld 5 4,
mq 3 5] [4,5]
(.block 0 (.loop [0,1,3] zqr)))⟩
def zv7:CF:=⟨[.tmp 4],
  (sr [
tq 4 (.mv (.k (.d (.bool false))))] [4]
(sr [
mq 5 0,
mq 6 1,
tq 7 (.bin .shr (.t 5) (.t 6)),
tq 8 (.bin .and (.t 7) (kq 1)),
tq 9 (.bin .eql (.t 8) (kq 1)),
mq 4 9] [0,1,5,6,7,8,9]
.ret))⟩
def zuk:CF:=⟨[.tmp 2],
  (sr [
tq 2 (.mv (kq 0))] [2]
(sr [
mq 3 0,
tq 4 (.bin .add (.t 3) (kq 5)),
tq 5 (.bin .rem (.t 4) (kq 7)),
mq 2 5] [0,3,4,5]
.ret))⟩
def zcc:C:=
  (sr [
mq 10 0,
mq 11 3,
tq 12 (.call true true (.t 10) [.t 11]),
tq 13 (.un .not (.t 12))] [3,10,11,12]
(.cond (.t 13) .ret
 .skip))
def zg5:CF:=⟨[],
  (.rangeM [ld 4 1] 5 (.t 4) 0 1 8 [0,5] [xq 9 8 0,
mq 3 9] [8,9] zcc)⟩
def zed:C:=
  (sr [
tq 9 (.bin .lss (.t 8) (.t 7))] []
(.seq (.cond (.t 9) .skip
 (.exit 0))
(.seq (.block 1 (sr [
mq 10 8,
mq 5 10] [10]
(sr [
mq 11 1,
mq 12 0,
mq 13 5,
tq 14 (.idxAddr 5 (.t 12) (.t 13)),
lq 15 5 14,
tq 16 (.call true true (.t 11) [.t 15])] [11,12,13,14,15]
(.cond (.t 16) (sr [
mq 17 5,
mq 4 17] [5,17]
.ret)
 .skip))))
(rg [
tq 18 (.bin .add (.t 8) (kq 1)),
mq 8 18] [18]))))
def zem:CF:=⟨[.tmp 4],
  (sr [
tq 4 (.mv (kq 0))] [4]
(.seq (sr [
mq 6 0,
tq 7 (.len .slc (.t 6)),
tq 8 (.mv (kq 0))] [6]
(.block 0 (.loop [0,1,7,8] zed)))
(sr [
tq 4 (.mv (kq (-1)))] []
.ret)))⟩
def zlo:CF:=⟨[.tmp 3],
  (sr [
tq 2 (.box zai (.t 0)),
tq 3 (.mv (.k (.d (.bool false))))] [0,3]
(sr [
fa 4 0 2,
ld 5 4,
ld 6 1,
tq 7 (.bin .eql (.t 5) (.t 6)),
mq 3 7] [1,2,4,5,6,7]
.ret))⟩
def zl9:CF:=⟨[.tmp 4],
  (sr [
tq 4 (.ownNil ⟨true,zab,1,16⟩)] [4]
(.seq (sr [
mq 5 1,
tq 6 (.bin .lss (.t 5) (kq 0))] [5]
(.cond (.t 6) (rg [
tq 7 (.bad),
⟨none,none,.bad⟩] [7])
 .skip))
(.seq (sr [
mq 8 1,
mq 9 0,
tq 10 (.len .cap (.t 9)),
mq 11 0,
tq 12 (.len .slc (.t 11)),
tq 13 (.bin .sub (.t 10) (.t 12)),
tq 14 (.bin .sub (.t 8) (.t 13)),
mq 1 14] [8,9,10,11,12,13,14]
(sr [
mq 15 1,
tq 16 (.bin .gtr (.t 15) (kq 0))] [15]
(.cond (.t 16) (rg [
mq 17 0,
mq 18 0,
tq 19 (.len .cap (.t 18)),
tq 20 (.slice 1 (.t 17) none (some (.t 19)) none),
mq 21 1,
tq 22 (.appendZ ⟨true,zab,1,16⟩ [.str []] (.t 20) (.t 21)),
mq 23 0,
tq 24 (.len .slc (.t 23)),
tq 25 (.slice 1 (.t 22) none (some (.t 24)) none),
mq 0 25] [1,17,18,19,20,21,22,23,24,25])
 .skip)))
(sr [
mq 26 0,
mq 4 26] [0,26]
.ret))))⟩
def zte:CF:=⟨[.tmp 4],
  (sr [
tq 4 (.mv (kq 0))] [4]
(sr [
mq 5 0,
mq 6 1,
tq 7 (cl zi6 [.t 5,.t 6,.k (.d (.bool true))]),
mq 4 7] [0,1,5,6,7]
.ret))⟩
def zgp:C:=
  (.seq (.seq (.reg true [
mq 18 9,
mq 19 1,
tq 20 (.bin .gtr (.t 18) (.t 19)),
mq 21 20,
gq 22 21 true (.mv (.t 3)),
gq 23 21 true (.mv (.t 0)),
gq 24 21 true (.mv (.t 9)),
gq 25 21 true (.idxAddr 4 (.t 23) (.t 24)),
gq 26 21 true (.load (some 4) (.t 25)),
gq 27 21 true (.mv (.t 0)),
gq 28 21 true (.mv (.t 9)),
gq 29 21 true (.bin .sub (.t 28) (kq 1)),
gq 30 21 true (.idxAddr 4 (.t 27) (.t 29)),
gq 31 21 true (.load (some 4) (.t 30)),
gq 32 21 true (.call true true (.t 22) [.t 26,.t 31]),
gq 33 21 true (.bin .lss (.t 32) (kq 0)),
tq 34 (.pick (.t 21) (.t 33) (.k (.d (.bool false))))] [18,19,20,21,22,23,24,25,26,27,28,29,30,31,32,33])
(.cond (.t 34) .skip
 (.exit 2)))
(.seq (.block 3 (.reg true [
mq 37 0,
mq 38 9,
mq 39 0,
mq 40 9,
tq 41 (.bin .sub (.t 40) (kq 1)),
mq 42 0,
mq 43 9,
tq 44 (.bin .sub (.t 43) (kq 1)),
tq 45 (.idxAddr 4 (.t 42) (.t 44)),
lq 46 4 45,
mq 47 0,
mq 48 9,
tq 49 (.idxAddr 4 (.t 47) (.t 48)),
lq 50 4 49,
tq 51 (.idxAddr 4 (.t 37) (.t 38)),
⟨none,none,.store 4 (.t 51) (.t 46)⟩,
tq 52 (.idxAddr 4 (.t 39) (.t 41)),
⟨none,none,.store 4 (.t 52) (.t 50)⟩] [37,38,39,40,41,42,43,44,45,46,47,48,49,50,51,52]))
(rg [
mq 35 9,
tq 36 (.bin .sub (.t 35) (kq 1)),
mq 9 36] [35,36])))
def zgq:C:=
  (.seq (sr [
mq 12 8,
mq 13 2,
tq 14 (.bin .lss (.t 12) (.t 13))] [12,13]
(.cond (.t 14) .skip
 (.exit 0)))
(.seq (.block 1 (sr [
mq 17 8,
mq 9 17] [17]
(.block 2 (.loop [0,1,2,3,8,9] zgp))))
(rg [
mq 15 8,
tq 16 (.bin .add (.t 15) (kq 1)),
mq 8 16] [15,16])))
def zg7:CF:=⟨[],
  (sr [
mq 10 1,
tq 11 (.bin .add (.t 10) (kq 1)),
mq 8 11] [10,11]
(.block 0 (.loop [0,1,2,3,8] zgq)))⟩
def zhu:C:=
  (.seq (sr [
mq 20 11,
tq 21 (.bin .geq (.t 20) (kq 0))] [20]
(.cond (.t 21) .skip
 (.exit 0)))
(.seq (.block 1 (rg [
mq 24 0,
mq 25 11,
mq 26 10,
mq 27 8,
mq 28 3,
tq 29 (.call true true (.k (.fn zc5 [] [])) [.t 24,.t 25,.t 26,.t 27,.t 28])] [24,25,26,27,28,29]))
(rg [
mq 22 11,
tq 23 (.bin .sub (.t 22) (kq 1)),
mq 11 23] [22,23])))
def zhv:C:=
  (.seq (sr [
mq 32 12,
tq 33 (.bin .geq (.t 32) (kq 0))] [32]
(.cond (.t 33) .skip
 (.exit 2)))
(.seq (.block 3 (.seq (.reg true [
mq 36 0,
mq 37 8,
mq 38 0,
mq 39 8,
mq 40 12,
tq 41 (.bin .add (.t 39) (.t 40)),
mq 42 0,
mq 43 8,
mq 44 12,
tq 45 (.bin .add (.t 43) (.t 44)),
tq 46 (.idxAddr 4 (.t 42) (.t 45)),
lq 47 4 46,
mq 48 0,
mq 49 8,
tq 50 (.idxAddr 4 (.t 48) (.t 49)),
lq 51 4 50,
tq 52 (.idxAddr 4 (.t 36) (.t 37)),
⟨none,none,.store 4 (.t 52) (.t 47)⟩,
tq 53 (.idxAddr 4 (.t 38) (.t 41)),
⟨none,none,.store 4 (.t 53) (.t 51)⟩] [36,37,38,39,40,41,42,43,44,45,46,47,48,49,50,51,52,53])
(rg [
mq 54 0,
mq 55 9,
mq 56 12,
mq 57 8,
mq 58 3,
tq 59 (.call true true (.k (.fn zc5 [] [])) [.t 54,.t 55,.t 56,.t 57,.t 58])] [54,55,56,57,58,59])))
(rg [
mq 34 12,
tq 35 (.bin .sub (.t 34) (kq 1)),
mq 12 35] [34,35])))
def zil:CF:=⟨[],
  (sr [
mq 13 1,
mq 8 13] [13]
(sr [
tq 9 (.mv (kq 0))] []
(sr [
mq 14 2,
mq 15 1,
tq 16 (.bin .sub (.t 14) (.t 15)),
mq 10 16] [1,2,14,15,16]
(.seq (sr [
mq 17 10,
tq 18 (.bin .sub (.t 17) (kq 1)),
tq 19 (.bin .quo (.t 18) (kq 2)),
mq 11 19] [17,18,19]
(.block 0 (.loop [0,3,8,9,10,11] zhu)))
(sr [
mq 30 10,
tq 31 (.bin .sub (.t 30) (kq 1)),
mq 12 31] [10,30,31]
(.block 2 (.loop [0,3,8,9,12] zhv)))))))⟩
def zgo:C:=
  (.seq (sr [
mq 28 11,
mq 29 1,
mq 30 8,
tq 31 (.bin .quo (.t 30) (kq 4)),
tq 32 (.bin .mul (.t 31) (kq 2)),
tq 33 (.bin .add (.t 29) (.t 32)),
tq 34 (.bin .add (.t 33) (kq 1)),
tq 35 (.bin .leq (.t 28) (.t 34))] [28,29,30,31,32,33,34]
(.cond (.t 35) .skip
 (.exit 0)))
(.seq (.block 1 (sr [
tq 38 (.call true true (.k (.fn zql [] [])) [.t 9]),
mq 39 10,
tq 40 (.bin .sub (.t 39) (.k (.d (.int .u64 1)))),
tq 41 (.bin .and (.t 38) (.t 40)),
tq 42 (.conv .i64 (.t 41)),
mq 12 42] [38,39,40,41,42]
(.seq (sr [
mq 43 12,
mq 44 8,
tq 45 (.bin .geq (.t 43) (.t 44))] [43,44]
(.cond (.t 45) (rg [
mq 46 12,
mq 47 8,
tq 48 (.bin .sub (.t 46) (.t 47)),
mq 12 48] [46,47,48])
 .skip))
(.reg true [
mq 49 0,
mq 50 11,
mq 51 0,
mq 52 1,
mq 53 12,
tq 54 (.bin .add (.t 52) (.t 53)),
mq 55 0,
mq 56 1,
mq 57 12,
tq 58 (.bin .add (.t 56) (.t 57)),
tq 59 (.idxAddr 4 (.t 55) (.t 58)),
lq 60 4 59,
mq 61 0,
mq 62 11,
tq 63 (.idxAddr 4 (.t 61) (.t 62)),
lq 64 4 63,
tq 65 (.idxAddr 4 (.t 49) (.t 50)),
⟨none,none,.store 4 (.t 65) (.t 60)⟩,
tq 66 (.idxAddr 4 (.t 51) (.t 54)),
⟨none,none,.store 4 (.t 66) (.t 64)⟩] [12,49,50,51,52,53,54,55,56,57,58,59,60,61,62,63,64,65,66]))))
(rg [
mq 36 11,
tq 37 (.bin .add (.t 36) (kq 1)),
mq 11 37] [36,37])))
def zg6:CF:=⟨[],
  (sr [
mq 13 2,
mq 14 1,
tq 15 (.bin .sub (.t 13) (.t 14)),
mq 8 15] [2,13,14,15]
(sr [
mq 16 8,
tq 17 (.bin .geq (.t 16) (kq 8))] [16]
(.cond (.t 17) (sr [
mq 18 8,
tq 19 (.conv .u64 (.t 18)),
tq 9 (.alloc zvo [.z (.int .u64 0)]),
⟨none,none,.store 1 (.t 9) (.t 19)⟩] [18,19]
(sr [
mq 20 8,
tq 21 (cl zpq [.t 20]),
mq 10 21] [20,21]
(sr [
mq 22 1,
mq 23 8,
tq 24 (.bin .quo (.t 23) (kq 4)),
tq 25 (.bin .mul (.t 24) (kq 2)),
tq 26 (.bin .add (.t 22) (.t 25)),
tq 27 (.bin .sub (.t 26) (kq 1)),
mq 11 27] [22,23,24,25,26,27]
(.block 0 (.loop [0,1,8,9,10,11] zgo)))))
 .skip)))⟩
def zhm:CF:=⟨[.tmp 8,.tmp 9],
  (sr [
tq 8 (.mv (kq 0)),
tq 9 (.mv (kq 0))] [8,9]
(sr [
mq 15 2,
mq 16 1,
tq 17 (.bin .sub (.t 15) (.t 16)),
mq 10 17] [2,15,16,17]
(sr [
tq 11 (.alloc zbq [.z (.int .i64 0)])] []
(sr [
mq 18 1,
mq 19 10,
tq 20 (.bin .quo (.t 19) (kq 4)),
tq 21 (.bin .mul (.t 20) (kq 1)),
tq 22 (.bin .add (.t 18) (.t 21)),
mq 12 22] [18,19,20,21,22]
(sr [
mq 23 1,
mq 24 10,
tq 25 (.bin .quo (.t 24) (kq 4)),
tq 26 (.bin .mul (.t 25) (kq 2)),
tq 27 (.bin .add (.t 23) (.t 26)),
mq 13 27] [23,24,25,26,27]
(sr [
mq 28 1,
mq 29 10,
tq 30 (.bin .quo (.t 29) (kq 4)),
tq 31 (.bin .mul (.t 30) (kq 3)),
tq 32 (.bin .add (.t 28) (.t 31)),
mq 14 32] [1,28,29,30,31,32]
(.seq (sr [
mq 33 10,
tq 34 (.bin .geq (.t 33) (kq 8))] [33]
(.cond (.t 34) (.seq (sr [
mq 35 10,
tq 36 (.bin .geq (.t 35) (kq 50))] [10,35]
(.cond (.t 36) (sr [
mq 37 0,
mq 38 12,
mq 39 3,
tq 40 (.call true true (.k (.fn zbh [] [])) [.t 37,.t 38,.t 11,.t 39]),
mq 12 40] [37,38,39,40]
(sr [
mq 41 0,
mq 42 13,
mq 43 3,
tq 44 (.call true true (.k (.fn zbh [] [])) [.t 41,.t 42,.t 11,.t 43]),
mq 13 44] [41,42,43,44]
(rg [
mq 45 0,
mq 46 14,
mq 47 3,
tq 48 (.call true true (.k (.fn zbh [] [])) [.t 45,.t 46,.t 11,.t 47]),
mq 14 48] [45,46,47,48])))
 .skip))
(rg [
mq 49 0,
mq 50 12,
mq 51 13,
mq 52 14,
mq 53 3,
tq 54 (.call true true (.k (.fn zdf [] [])) [.t 49,.t 50,.t 51,.t 52,.t 11,.t 53]),
mq 13 54] [0,3,12,14,49,50,51,52,53,54]))
 .skip))
(sr [
ld 55 11] [11]
(.block 0 (sr [
tq 58 (.bin .eql (.t 55) (kq 0)),
mq 57 58] [58]
(.cond (.t 57) (sr [
mq 59 13,
mq 8 59,
tq 9 (.mv (kq 1))] [13,59]
.ret)
 (sr [
tq 61 (.bin .eql (.t 55) (kq 12)),
mq 60 61] [55,61]
(.cond (.t 60) (sr [
mq 62 13,
mq 8 62,
tq 9 (.mv (kq 2))] [13,62]
.ret)
 (sr [
mq 56 13,
mq 8 56,
tq 9 (.mv (kq 0))] [13,56]
.ret))))))))))))))⟩
def zgv:C:=
  (.seq (sr [
mq 13 8,
mq 14 9,
tq 15 (.bin .lss (.t 13) (.t 14))] [13,14]
(.cond (.t 15) .skip
 (.exit 0)))
(.block 1 (.seq (.reg true [
mq 16 0,
mq 17 8,
mq 18 0,
mq 19 9,
mq 20 0,
mq 21 9,
tq 22 (.idxAddr 4 (.t 20) (.t 21)),
lq 23 4 22,
mq 24 0,
mq 25 8,
tq 26 (.idxAddr 4 (.t 24) (.t 25)),
lq 27 4 26,
tq 28 (.idxAddr 4 (.t 16) (.t 17)),
⟨none,none,.store 4 (.t 28) (.t 23)⟩,
tq 29 (.idxAddr 4 (.t 18) (.t 19)),
⟨none,none,.store 4 (.t 29) (.t 27)⟩] [16,17,18,19,20,21,22,23,24,25,26,27,28,29])
(sr [
mq 30 8,
tq 31 (.bin .add (.t 30) (kq 1)),
mq 8 31] [30,31]
(rg [
mq 32 9,
tq 33 (.bin .sub (.t 32) (kq 1)),
mq 9 33] [32,33])))))
def zhc:CF:=⟨[],
  (sr [
mq 10 1,
mq 8 10] [1,10]
(sr [
mq 11 2,
tq 12 (.bin .sub (.t 11) (kq 1)),
mq 9 12] [2,11,12]
(.block 0 (.loop [0,8,9] zgv))))⟩
def zfg:C:=
  (.seq (.seq (.reg true [
mq 19 9,
mq 20 2,
tq 21 (.bin .lss (.t 19) (.t 20)),
mq 22 21,
gq 23 22 true (.mv (.t 3)),
gq 24 22 true (.mv (.t 0)),
gq 25 22 true (.mv (.t 9)),
gq 26 22 true (.idxAddr 4 (.t 24) (.t 25)),
gq 27 22 true (.load (some 4) (.t 26)),
gq 28 22 true (.mv (.t 0)),
gq 29 22 true (.mv (.t 9)),
gq 30 22 true (.bin .sub (.t 29) (kq 1)),
gq 31 22 true (.idxAddr 4 (.t 28) (.t 30)),
gq 32 22 true (.load (some 4) (.t 31)),
gq 33 22 true (.call true true (.t 23) [.t 27,.t 32]),
gq 34 22 true (.bin .lss (.t 33) (kq 0)),
gq 35 22 true (.un .not (.t 34)),
tq 36 (.pick (.t 22) (.t 35) (.k (.d (.bool false))))] [19,20,21,22,23,24,25,26,27,28,29,30,31,32,33,34,35])
(.cond (.t 36) .skip
 (.exit 2)))
(.block 3 (rg [
mq 37 9,
tq 38 (.bin .add (.t 37) (kq 1)),
mq 9 38] [37,38])))
def zfh:C:=
  (.seq (sr [
mq 68 11,
tq 69 (.bin .geq (.t 68) (kq 1))] [68]
(.cond (.t 69) .skip
 (.exit 4)))
(.seq (.block 5 (.seq (.seq (.reg true [
mq 72 3,
mq 73 0,
mq 74 11,
tq 75 (.idxAddr 4 (.t 73) (.t 74)),
lq 76 4 75,
mq 77 0,
mq 78 11,
tq 79 (.bin .sub (.t 78) (kq 1)),
tq 80 (.idxAddr 4 (.t 77) (.t 79)),
lq 81 4 80,
tq 82 (.call true true (.t 72) [.t 76,.t 81]),
tq 83 (.bin .lss (.t 82) (kq 0)),
tq 84 (.un .not (.t 83))] [72,73,74,75,76,77,78,79,80,81,82,83])
(.cond (.t 84) (.exit 4)
 .skip))
(.reg true [
mq 85 0,
mq 86 11,
mq 87 0,
mq 88 11,
tq 89 (.bin .sub (.t 88) (kq 1)),
mq 90 0,
mq 91 11,
tq 92 (.bin .sub (.t 91) (kq 1)),
tq 93 (.idxAddr 4 (.t 90) (.t 92)),
lq 94 4 93,
mq 95 0,
mq 96 11,
tq 97 (.idxAddr 4 (.t 95) (.t 96)),
lq 98 4 97,
tq 99 (.idxAddr 4 (.t 85) (.t 86)),
⟨none,none,.store 4 (.t 99) (.t 94)⟩,
tq 100 (.idxAddr 4 (.t 87) (.t 89)),
⟨none,none,.store 4 (.t 100) (.t 98)⟩] [85,86,87,88,89,90,91,92,93,94,95,96,97,98,99,100])))
(rg [
mq 70 11,
tq 71 (.bin .sub (.t 70) (kq 1)),
mq 11 71] [70,71])))
def zfi:C:=
  (.seq (sr [
mq 107 12,
mq 108 2,
tq 109 (.bin .lss (.t 107) (.t 108))] [107,108]
(.cond (.t 109) .skip
 (.exit 6)))
(.seq (.block 7 (.seq (.seq (.reg true [
mq 112 3,
mq 113 0,
mq 114 12,
tq 115 (.idxAddr 4 (.t 113) (.t 114)),
lq 116 4 115,
mq 117 0,
mq 118 12,
tq 119 (.bin .sub (.t 118) (kq 1)),
tq 120 (.idxAddr 4 (.t 117) (.t 119)),
lq 121 4 120,
tq 122 (.call true true (.t 112) [.t 116,.t 121]),
tq 123 (.bin .lss (.t 122) (kq 0)),
tq 124 (.un .not (.t 123))] [112,113,114,115,116,117,118,119,120,121,122,123])
(.cond (.t 124) (.exit 6)
 .skip))
(.reg true [
mq 125 0,
mq 126 12,
mq 127 0,
mq 128 12,
tq 129 (.bin .sub (.t 128) (kq 1)),
mq 130 0,
mq 131 12,
tq 132 (.bin .sub (.t 131) (kq 1)),
tq 133 (.idxAddr 4 (.t 130) (.t 132)),
lq 134 4 133,
mq 135 0,
mq 136 12,
tq 137 (.idxAddr 4 (.t 135) (.t 136)),
lq 138 4 137,
tq 139 (.idxAddr 4 (.t 125) (.t 126)),
⟨none,none,.store 4 (.t 139) (.t 134)⟩,
tq 140 (.idxAddr 4 (.t 127) (.t 129)),
⟨none,none,.store 4 (.t 140) (.t 138)⟩] [125,126,127,128,129,130,131,132,133,134,135,136,137,138,139,140])))
(rg [
mq 110 12,
tq 111 (.bin .add (.t 110) (kq 1)),
mq 12 111] [110,111])))
def zfj:C:=
  (.seq (sr [
mq 15 10,
tq 16 (.bin .lss (.t 15) (kq 5))] [15]
(.cond (.t 16) .skip
 (.exit 0)))
(.seq (.block 1 (.seq (.block 2 (.loop [0,1,2,3,9,10] zfg))
(.seq (sr [
mq 39 9,
mq 40 2,
tq 41 (.bin .eql (.t 39) (.t 40))] [39,40]
(.cond (.t 41) (sr [
tq 8 (.mv (.k (.d (.bool true))))] []
.ret)
 .skip))
(.seq (sr [
mq 42 2,
mq 43 1,
tq 44 (.bin .sub (.t 42) (.t 43)),
tq 45 (.bin .lss (.t 44) (kq 50))] [42,43,44]
(.cond (.t 45) (sr [
tq 8 (.mv (.k (.d (.bool false))))] []
.ret)
 .skip))
(.seq (.reg true [
mq 46 0,
mq 47 9,
mq 48 0,
mq 49 9,
tq 50 (.bin .sub (.t 49) (kq 1)),
mq 51 0,
mq 52 9,
tq 53 (.bin .sub (.t 52) (kq 1)),
tq 54 (.idxAddr 4 (.t 51) (.t 53)),
lq 55 4 54,
mq 56 0,
mq 57 9,
tq 58 (.idxAddr 4 (.t 56) (.t 57)),
lq 59 4 58,
tq 60 (.idxAddr 4 (.t 46) (.t 47)),
⟨none,none,.store 4 (.t 60) (.t 55)⟩,
tq 61 (.idxAddr 4 (.t 48) (.t 50)),
⟨none,none,.store 4 (.t 61) (.t 59)⟩] [46,47,48,49,50,51,52,53,54,55,56,57,58,59,60,61])
(.seq (sr [
mq 62 9,
mq 63 1,
tq 64 (.bin .sub (.t 62) (.t 63)),
tq 65 (.bin .geq (.t 64) (kq 2))] [62,63,64]
(.cond (.t 65) (sr [
mq 66 9,
tq 67 (.bin .sub (.t 66) (kq 1)),
mq 11 67] [66,67]
(.block 4 (.loop [0,1,2,3,9,10,11] zfh)))
 .skip))
(sr [
mq 101 2,
mq 102 9,
tq 103 (.bin .sub (.t 101) (.t 102)),
tq 104 (.bin .geq (.t 103) (kq 2))] [101,102,103]
(.cond (.t 104) (sr [
mq 105 9,
tq 106 (.bin .add (.t 105) (kq 1)),
mq 12 106] [105,106]
(.block 6 (.loop [0,1,2,3,9,10,12] zfi)))
 .skip))))))))
(rg [
mq 17 10,
tq 18 (.bin .add (.t 17) (kq 1)),
mq 10 18] [17,18])))
def zfs:CF:=⟨[.tmp 8],
  (sr [
tq 8 (.mv (.k (.d (.bool false))))] [8]
(sr [
mq 13 1,
tq 14 (.bin .add (.t 13) (kq 1)),
mq 9 14] [13,14]
(.seq (sr [
tq 10 (.mv (kq 0))] []
(.block 0 (.loop [0,1,2,3,9,10] zfj)))
(sr [
tq 8 (.mv (.k (.d (.bool false))))] []
.ret))))⟩
def zgj:C:=
  (.seq (.seq (.reg true [
mq 31 11,
mq 32 12,
tq 33 (.bin .leq (.t 31) (.t 32)),
mq 34 33,
gq 35 34 true (.mv (.t 4)),
gq 36 34 true (.mv (.t 0)),
gq 37 34 true (.mv (.t 1)),
gq 38 34 true (.idxAddr 4 (.t 36) (.t 37)),
gq 39 34 true (.load (some 4) (.t 38)),
gq 40 34 true (.mv (.t 0)),
gq 41 34 true (.mv (.t 11)),
gq 42 34 true (.idxAddr 4 (.t 40) (.t 41)),
gq 43 34 true (.load (some 4) (.t 42)),
gq 44 34 true (.call true true (.t 35) [.t 39,.t 43]),
gq 45 34 true (.bin .lss (.t 44) (kq 0)),
gq 46 34 true (.un .not (.t 45)),
tq 47 (.pick (.t 34) (.t 46) (.k (.d (.bool false))))] [31,32,33,34,35,36,37,38,39,40,41,42,43,44,45,46])
(.cond (.t 47) .skip
 (.exit 2)))
(.block 3 (rg [
mq 48 11,
tq 49 (.bin .add (.t 48) (kq 1)),
mq 11 49] [48,49])))
def zgk:C:=
  (.seq (.seq (.reg true [
mq 50 11,
mq 51 12,
tq 52 (.bin .leq (.t 50) (.t 51)),
mq 53 52,
gq 54 53 true (.mv (.t 4)),
gq 55 53 true (.mv (.t 0)),
gq 56 53 true (.mv (.t 1)),
gq 57 53 true (.idxAddr 4 (.t 55) (.t 56)),
gq 58 53 true (.load (some 4) (.t 57)),
gq 59 53 true (.mv (.t 0)),
gq 60 53 true (.mv (.t 12)),
gq 61 53 true (.idxAddr 4 (.t 59) (.t 60)),
gq 62 53 true (.load (some 4) (.t 61)),
gq 63 53 true (.call true true (.t 54) [.t 58,.t 62]),
gq 64 53 true (.bin .lss (.t 63) (kq 0)),
tq 65 (.pick (.t 53) (.t 64) (.k (.d (.bool false))))] [50,51,52,53,54,55,56,57,58,59,60,61,62,63,64])
(.cond (.t 65) .skip
 (.exit 4)))
(.block 5 (rg [
mq 66 12,
tq 67 (.bin .sub (.t 66) (kq 1)),
mq 12 67] [66,67])))
def zgl:C:=
  (.block 1 (.seq (.block 2 (.loop [0,1,4,11,12] zgj))
(.seq (.block 4 (.loop [0,1,4,11,12] zgk))
(.seq (sr [
mq 68 11,
mq 69 12,
tq 70 (.bin .gtr (.t 68) (.t 69))] [68,69]
(.cond (.t 70) (.exit 0)
 .skip))
(.seq (.reg true [
mq 71 0,
mq 72 11,
mq 73 0,
mq 74 12,
mq 75 0,
mq 76 12,
tq 77 (.idxAddr 4 (.t 75) (.t 76)),
lq 78 4 77,
mq 79 0,
mq 80 11,
tq 81 (.idxAddr 4 (.t 79) (.t 80)),
lq 82 4 81,
tq 83 (.idxAddr 4 (.t 71) (.t 72)),
⟨none,none,.store 4 (.t 83) (.t 78)⟩,
tq 84 (.idxAddr 4 (.t 73) (.t 74)),
⟨none,none,.store 4 (.t 84) (.t 82)⟩] [71,72,73,74,75,76,77,78,79,80,81,82,83,84])
(sr [
mq 85 11,
tq 86 (.bin .add (.t 85) (kq 1)),
mq 11 86] [85,86]
(rg [
mq 87 12,
tq 88 (.bin .sub (.t 87) (kq 1)),
mq 12 88] [87,88])))))))
def zgy:CF:=⟨[.tmp 10],
  (sr [
tq 10 (.mv (kq 0))] [10]
(.seq (.reg true [
mq 13 0,
mq 14 1,
mq 15 0,
mq 16 3,
mq 17 0,
mq 18 3,
tq 19 (.idxAddr 4 (.t 17) (.t 18)),
lq 20 4 19,
mq 21 0,
mq 22 1,
tq 23 (.idxAddr 4 (.t 21) (.t 22)),
lq 24 4 23,
tq 25 (.idxAddr 4 (.t 13) (.t 14)),
⟨none,none,.store 4 (.t 25) (.t 20)⟩,
tq 26 (.idxAddr 4 (.t 15) (.t 16)),
⟨none,none,.store 4 (.t 26) (.t 24)⟩] [3,13,14,15,16,17,18,19,20,21,22,23,24,25,26])
(sr [
mq 27 1,
tq 28 (.bin .add (.t 27) (kq 1)),
mq 29 2,
tq 30 (.bin .sub (.t 29) (kq 1)),
mq 11 28,
mq 12 30] [2,27,28,29,30]
(.seq (.block 0 (.loop [0,1,4,11,12] zgl))
(sr [
mq 89 11,
mq 10 89] [11,89]
.ret)))))⟩
def zhe:C:=
  (.seq (.seq (.reg true [
mq 32 12,
mq 33 13,
tq 34 (.bin .leq (.t 32) (.t 33)),
mq 35 34,
gq 36 35 true (.mv (.t 4)),
gq 37 35 true (.mv (.t 0)),
gq 38 35 true (.mv (.t 12)),
gq 39 35 true (.idxAddr 4 (.t 37) (.t 38)),
gq 40 35 true (.load (some 4) (.t 39)),
gq 41 35 true (.mv (.t 0)),
gq 42 35 true (.mv (.t 1)),
gq 43 35 true (.idxAddr 4 (.t 41) (.t 42)),
gq 44 35 true (.load (some 4) (.t 43)),
gq 45 35 true (.call true true (.t 36) [.t 40,.t 44]),
gq 46 35 true (.bin .lss (.t 45) (kq 0)),
tq 47 (.pick (.t 35) (.t 46) (.k (.d (.bool false))))] [32,33,34,35,36,37,38,39,40,41,42,43,44,45,46])
(.cond (.t 47) .skip
 (.exit 0)))
(.block 1 (rg [
mq 48 12,
tq 49 (.bin .add (.t 48) (kq 1)),
mq 12 49] [48,49])))
def zhf:C:=
  (.seq (.seq (.reg true [
mq 50 12,
mq 51 13,
tq 52 (.bin .leq (.t 50) (.t 51)),
mq 53 52,
gq 54 53 true (.mv (.t 4)),
gq 55 53 true (.mv (.t 0)),
gq 56 53 true (.mv (.t 13)),
gq 57 53 true (.idxAddr 4 (.t 55) (.t 56)),
gq 58 53 true (.load (some 4) (.t 57)),
gq 59 53 true (.mv (.t 0)),
gq 60 53 true (.mv (.t 1)),
gq 61 53 true (.idxAddr 4 (.t 59) (.t 60)),
gq 62 53 true (.load (some 4) (.t 61)),
gq 63 53 true (.call true true (.t 54) [.t 58,.t 62]),
gq 64 53 true (.bin .lss (.t 63) (kq 0)),
gq 65 53 true (.un .not (.t 64)),
tq 66 (.pick (.t 53) (.t 65) (.k (.d (.bool false))))] [50,51,52,53,54,55,56,57,58,59,60,61,62,63,64,65])
(.cond (.t 66) .skip
 (.exit 2)))
(.block 3 (rg [
mq 67 13,
tq 68 (.bin .sub (.t 67) (kq 1)),
mq 13 68] [67,68])))
def zhg:C:=
  (.seq (.seq (.reg true [
mq 105 12,
mq 106 13,
tq 107 (.bin .leq (.t 105) (.t 106)),
mq 108 107,
gq 109 108 true (.mv (.t 4)),
gq 110 108 true (.mv (.t 0)),
gq 111 108 true (.mv (.t 12)),
gq 112 108 true (.idxAddr 4 (.t 110) (.t 111)),
gq 113 108 true (.load (some 4) (.t 112)),
gq 114 108 true (.mv (.t 0)),
gq 115 108 true (.mv (.t 1)),
gq 116 108 true (.idxAddr 4 (.t 114) (.t 115)),
gq 117 108 true (.load (some 4) (.t 116)),
gq 118 108 true (.call true true (.t 109) [.t 113,.t 117]),
gq 119 108 true (.bin .lss (.t 118) (kq 0)),
tq 120 (.pick (.t 108) (.t 119) (.k (.d (.bool false))))] [105,106,107,108,109,110,111,112,113,114,115,116,117,118,119])
(.cond (.t 120) .skip
 (.exit 6)))
(.block 7 (rg [
mq 121 12,
tq 122 (.bin .add (.t 121) (kq 1)),
mq 12 122] [121,122])))
def zhh:C:=
  (.seq (.seq (.reg true [
mq 123 12,
mq 124 13,
tq 125 (.bin .leq (.t 123) (.t 124)),
mq 126 125,
gq 127 126 true (.mv (.t 4)),
gq 128 126 true (.mv (.t 0)),
gq 129 126 true (.mv (.t 13)),
gq 130 126 true (.idxAddr 4 (.t 128) (.t 129)),
gq 131 126 true (.load (some 4) (.t 130)),
gq 132 126 true (.mv (.t 0)),
gq 133 126 true (.mv (.t 1)),
gq 134 126 true (.idxAddr 4 (.t 132) (.t 133)),
gq 135 126 true (.load (some 4) (.t 134)),
gq 136 126 true (.call true true (.t 127) [.t 131,.t 135]),
gq 137 126 true (.bin .lss (.t 136) (kq 0)),
gq 138 126 true (.un .not (.t 137)),
tq 139 (.pick (.t 126) (.t 138) (.k (.d (.bool false))))] [123,124,125,126,127,128,129,130,131,132,133,134,135,136,137,138])
(.cond (.t 139) .skip
 (.exit 8)))
(.block 9 (rg [
mq 140 13,
tq 141 (.bin .sub (.t 140) (kq 1)),
mq 13 141] [140,141])))
def zhi:C:=
  (.block 5 (.seq (.block 6 (.loop [0,1,4,12,13] zhg))
(.seq (.block 8 (.loop [0,1,4,12,13] zhh))
(.seq (sr [
mq 142 12,
mq 143 13,
tq 144 (.bin .gtr (.t 142) (.t 143))] [142,143]
(.cond (.t 144) (.exit 4)
 .skip))
(.seq (.reg true [
mq 145 0,
mq 146 12,
mq 147 0,
mq 148 13,
mq 149 0,
mq 150 13,
tq 151 (.idxAddr 4 (.t 149) (.t 150)),
lq 152 4 151,
mq 153 0,
mq 154 12,
tq 155 (.idxAddr 4 (.t 153) (.t 154)),
lq 156 4 155,
tq 157 (.idxAddr 4 (.t 145) (.t 146)),
⟨none,none,.store 4 (.t 157) (.t 152)⟩,
tq 158 (.idxAddr 4 (.t 147) (.t 148)),
⟨none,none,.store 4 (.t 158) (.t 156)⟩] [145,146,147,148,149,150,151,152,153,154,155,156,157,158])
(sr [
mq 159 12,
tq 160 (.bin .add (.t 159) (kq 1)),
mq 12 160] [159,160]
(rg [
mq 161 13,
tq 162 (.bin .sub (.t 161) (kq 1)),
mq 13 162] [161,162])))))))
def zia:CF:=⟨[.tmp 10,.tmp 11],
  (sr [
tq 10 (.mv (kq 0)),
tq 11 (.mv (.k (.d (.bool false))))] [10,11]
(.seq (.reg true [
mq 14 0,
mq 15 1,
mq 16 0,
mq 17 3,
mq 18 0,
mq 19 3,
tq 20 (.idxAddr 4 (.t 18) (.t 19)),
lq 21 4 20,
mq 22 0,
mq 23 1,
tq 24 (.idxAddr 4 (.t 22) (.t 23)),
lq 25 4 24,
tq 26 (.idxAddr 4 (.t 14) (.t 15)),
⟨none,none,.store 4 (.t 26) (.t 21)⟩,
tq 27 (.idxAddr 4 (.t 16) (.t 17)),
⟨none,none,.store 4 (.t 27) (.t 25)⟩] [3,14,15,16,17,18,19,20,21,22,23,24,25,26,27])
(sr [
mq 28 1,
tq 29 (.bin .add (.t 28) (kq 1)),
mq 30 2,
tq 31 (.bin .sub (.t 30) (kq 1)),
mq 12 29,
mq 13 31] [2,28,29,30,31]
(.seq (.block 0 (.loop [0,1,4,12,13] zhe))
(.seq (.block 2 (.loop [0,1,4,12,13] zhf))
(.seq (sr [
mq 69 12,
mq 70 13,
tq 71 (.bin .gtr (.t 69) (.t 70))] [69,70]
(.cond (.t 71) (.seq (.reg true [
mq 72 0,
mq 73 13,
mq 74 0,
mq 75 1,
mq 76 0,
mq 77 1,
tq 78 (.idxAddr 4 (.t 76) (.t 77)),
lq 79 4 78,
mq 80 0,
mq 81 13,
tq 82 (.idxAddr 4 (.t 80) (.t 81)),
lq 83 4 82,
tq 84 (.idxAddr 4 (.t 72) (.t 73)),
⟨none,none,.store 4 (.t 84) (.t 79)⟩,
tq 85 (.idxAddr 4 (.t 74) (.t 75)),
⟨none,none,.store 4 (.t 85) (.t 83)⟩] [0,1,72,73,74,75,76,77,78,79,80,81,82,83,84,85])
(sr [
mq 86 13,
mq 10 86,
tq 11 (.mv (.k (.d (.bool true))))] [13,86]
.ret))
 .skip))
(.seq (.reg true [
mq 87 0,
mq 88 12,
mq 89 0,
mq 90 13,
mq 91 0,
mq 92 13,
tq 93 (.idxAddr 4 (.t 91) (.t 92)),
lq 94 4 93,
mq 95 0,
mq 96 12,
tq 97 (.idxAddr 4 (.t 95) (.t 96)),
lq 98 4 97,
tq 99 (.idxAddr 4 (.t 87) (.t 88)),
⟨none,none,.store 4 (.t 99) (.t 94)⟩,
tq 100 (.idxAddr 4 (.t 89) (.t 90)),
⟨none,none,.store 4 (.t 100) (.t 98)⟩] [87,88,89,90,91,92,93,94,95,96,97,98,99,100])
(sr [
mq 101 12,
tq 102 (.bin .add (.t 101) (kq 1)),
mq 12 102] [101,102]
(sr [
mq 103 13,
tq 104 (.bin .sub (.t 103) (kq 1)),
mq 13 104] [103,104]
(.seq (.block 4 (.loop [0,1,4,12,13] zhi))
(.seq (.reg true [
mq 163 0,
mq 164 13,
mq 165 0,
mq 166 1,
mq 167 0,
mq 168 1,
tq 169 (.idxAddr 4 (.t 167) (.t 168)),
lq 170 4 169,
mq 171 0,
mq 172 13,
tq 173 (.idxAddr 4 (.t 171) (.t 172)),
lq 174 4 173,
tq 175 (.idxAddr 4 (.t 163) (.t 164)),
⟨none,none,.store 4 (.t 175) (.t 170)⟩,
tq 176 (.idxAddr 4 (.t 165) (.t 166)),
⟨none,none,.store 4 (.t 176) (.t 174)⟩] [0,1,163,164,165,166,167,168,169,170,171,172,173,174,175,176])
(sr [
mq 177 13,
mq 10 177,
tq 11 (.mv (.k (.d (.bool false))))] [13,177]
.ret))))))))))))⟩
def zwa:CF:=⟨[.tmp 2],
  (sr [
tq 2 (.mv (kq 0))] []
(.seq (sr [
mq 3 0,
tq 4 (.bin .geq (.t 3) (.k (.d (.int .u32 65536))))] [3]
(.cond (.t 4) (sr [
mq 5 0,
tq 6 (.bin .shr (.t 5) (.k (.d (.int .u64 16)))),
mq 0 6] [5,6]
(rg [
tq 2 (.mv (kq 16))] []))
 .skip))
(.seq (sr [
mq 7 0,
tq 8 (.bin .geq (.t 7) (.k (.d (.int .u32 256))))] [7]
(.cond (.t 8) (sr [
mq 9 0,
tq 10 (.bin .shr (.t 9) (.k (.d (.int .u64 8)))),
mq 0 10] [9,10]
(rg [
mq 11 2,
tq 12 (.bin .add (.t 11) (kq 8)),
mq 2 12] [11,12]))
 .skip))
(sr [
mq 13 2,
mq 14 0,
tq 15 (.conv .u8 (.t 14)),
tq 16 (.idxS (.k (.d (.str [0,1,2,2,3,3,3,3,4,4,4,4,4,4,4,4,5,5,5,5,5,5,5,5,5,5,5,5,5,5,5,5,6,6,6,6,6,6,6,6,6,6,6,6,6,6,6,6,6,6,6,6,6,6,6,6,6,6,6,6,6,6,6,6,7,7,7,7,7,7,7,7,7,7,7,7,7,7,7,7,7,7,7,7,7,7,7,7,7,7,7,7,7,7,7,7,7,7,7,7,7,7,7,7,7,7,7,7,7,7,7,7,7,7,7,7,7,7,7,7,7,7,7,7,7,7,7,7,8,8,8,8,8,8,8,8,8,8,8,8,8,8,8,8,8,8,8,8,8,8,8,8,8,8,8,8,8,8,8,8,8,8,8,8,8,8,8,8,8,8,8,8,8,8,8,8,8,8,8,8,8,8,8,8,8,8,8,8,8,8,8,8,8,8,8,8,8,8,8,8,8,8,8,8,8,8,8,8,8,8,8,8,8,8,8,8,8,8,8,8,8,8,8,8,8,8,8,8,8,8,8,8,8,8,8,8,8,8,8,8,8,8,8,8,8,8,8,8,8,8,8,8,8,8,8,8]))) (.t 15)),
tq 17 (.conv .i64 (.t 16)),
tq 18 (.bin .add (.t 13) (.t 17)),
mq 2 18] [0,13,14,15,16,17,18]
.ret))))⟩
def zwb:CF:=⟨[.tmp 2],
  (sr [
tq 2 (.mv (kq 0))] []
(.seq (sr [
mq 3 0,
tq 4 (.bin .geq (.t 3) (.k (.d (.int .u64 4294967296))))] [3]
(.cond (.t 4) (sr [
mq 5 0,
tq 6 (.bin .shr (.t 5) (.k (.d (.int .u64 32)))),
mq 0 6] [5,6]
(rg [
tq 2 (.mv (kq 32))] []))
 .skip))
(.seq (sr [
mq 7 0,
tq 8 (.bin .geq (.t 7) (.k (.d (.int .u64 65536))))] [7]
(.cond (.t 8) (sr [
mq 9 0,
tq 10 (.bin .shr (.t 9) (.k (.d (.int .u64 16)))),
mq 0 10] [9,10]
(rg [
mq 11 2,
tq 12 (.bin .add (.t 11) (kq 16)),
mq 2 12] [11,12]))
 .skip))
(.seq (sr [
mq 13 0,
tq 14 (.bin .geq (.t 13) (.k (.d (.int .u64 256))))] [13]
(.cond (.t 14) (sr [
mq 15 0,
tq 16 (.bin .shr (.t 15) (.k (.d (.int .u64 8)))),
mq 0 16] [15,16]
(rg [
mq 17 2,
tq 18 (.bin .add (.t 17) (kq 8)),
mq 2 18] [17,18]))
 .skip))
(sr [
mq 19 2,
mq 20 0,
tq 21 (.conv .u8 (.t 20)),
tq 22 (.idxS (.k (.d (.str [0,1,2,2,3,3,3,3,4,4,4,4,4,4,4,4,5,5,5,5,5,5,5,5,5,5,5,5,5,5,5,5,6,6,6,6,6,6,6,6,6,6,6,6,6,6,6,6,6,6,6,6,6,6,6,6,6,6,6,6,6,6,6,6,7,7,7,7,7,7,7,7,7,7,7,7,7,7,7,7,7,7,7,7,7,7,7,7,7,7,7,7,7,7,7,7,7,7,7,7,7,7,7,7,7,7,7,7,7,7,7,7,7,7,7,7,7,7,7,7,7,7,7,7,7,7,7,7,8,8,8,8,8,8,8,8,8,8,8,8,8,8,8,8,8,8,8,8,8,8,8,8,8,8,8,8,8,8,8,8,8,8,8,8,8,8,8,8,8,8,8,8,8,8,8,8,8,8,8,8,8,8,8,8,8,8,8,8,8,8,8,8,8,8,8,8,8,8,8,8,8,8,8,8,8,8,8,8,8,8,8,8,8,8,8,8,8,8,8,8,8,8,8,8,8,8,8,8,8,8,8,8,8,8,8,8,8,8,8,8,8,8,8,8,8,8,8,8,8,8,8,8,8,8,8,8]))) (.t 21)),
tq 23 (.conv .i64 (.t 22)),
tq 24 (.bin .add (.t 19) (.t 23)),
mq 2 24] [0,19,20,21,22,23,24]
.ret)))))⟩
def ze2:C:=
  (sr [
tq 9 (.bin .lss (.t 8) (.t 7))] []
(.seq (.cond (.t 9) .skip
 (.exit 0))
(.seq (.block 1 (sr [
mq 10 8,
mq 5 10] [10]
(sr [
mq 11 1,
mq 12 0,
mq 13 5,
tq 14 (.idxAddr 2 (.t 12) (.t 13)),
lq 15 2 14,
tq 16 (.call true true (.t 11) [.t 15])] [11,12,13,14,15]
(.cond (.t 16) (sr [
mq 17 5,
mq 4 17] [5,17]
.ret)
 .skip))))
(rg [
tq 18 (.bin .add (.t 8) (kq 1)),
mq 8 18] [18]))))
def zfm:CF:=⟨[.tmp 4],
  (sr [
tq 4 (.mv (kq 0))] [4]
(.seq (sr [
mq 6 0,
tq 7 (.len .slc (.t 6)),
tq 8 (.mv (kq 0))] [6]
(.block 0 (.loop [0,1,7,8] ze2)))
(sr [
tq 4 (.mv (kq (-1)))] []
.ret)))⟩
def zqt:C:=
  (sr [
tq 11 (.nextS (.t 10)),
xq 12 11 0] []
(.seq (.cond (.t 12) .skip
 (.exit 0))
(.block 1 (sr [
xq 13 11 1,
xq 14 11 2,
mq 7 13,
mq 8 14] [11,13,14]
(sr [
mq 15 1,
mq 16 8,
tq 17 (.call false true (.t 15) [.t 16]),
mq 18 2,
tq 19 (.eqv none false (.t 17) (.t 18))] [8,15,16,17,18]
(.cond (.t 19) (sr [
mq 20 7,
mq 6 20] [7,20]
.ret)
 .skip))))))
def ztf:CF:=⟨[.tmp 6],
  (sr [
tq 6 (.mv (kq 0))] [6]
(.seq (sr [
mq 9 0,
tq 10 (.rangeS (.t 9))] [0,9]
(.block 0 (.loop [1,2,10] zqt)))
(sr [
tq 6 (.mv (kq (-1)))] []
.ret)))⟩
def zhw:C:=
  (.block 1 (sr [
mq 13 10,
tq 14 (.bin .mul (kq 2) (.t 13)),
tq 15 (.bin .add (.t 14) (kq 1)),
mq 11 15] [13,14,15]
(.seq (sr [
mq 16 11,
mq 17 2,
tq 18 (.bin .geq (.t 16) (.t 17))] [16,17]
(.cond (.t 18) (.exit 0)
 .skip))
(.seq (.seq (.reg true [
mq 19 11,
tq 20 (.bin .add (.t 19) (kq 1)),
mq 21 2,
tq 22 (.bin .lss (.t 20) (.t 21)),
mq 23 22,
gq 24 23 true (.mv (.t 4)),
gq 25 23 true (.mv (.t 0)),
gq 26 23 true (.mv (.t 3)),
gq 27 23 true (.mv (.t 11)),
gq 28 23 true (.bin .add (.t 26) (.t 27)),
gq 29 23 true (.idxAddr 4 (.t 25) (.t 28)),
gq 30 23 true (.load (some 4) (.t 29)),
gq 31 23 true (.mv (.t 0)),
gq 32 23 true (.mv (.t 3)),
gq 33 23 true (.mv (.t 11)),
gq 34 23 true (.bin .add (.t 32) (.t 33)),
gq 35 23 true (.bin .add (.t 34) (kq 1)),
gq 36 23 true (.idxAddr 4 (.t 31) (.t 35)),
gq 37 23 true (.load (some 4) (.t 36)),
gq 38 23 true (.call true true (.t 24) [.t 30,.t 37]),
gq 39 23 true (.bin .lss (.t 38) (kq 0)),
tq 40 (.pick (.t 23) (.t 39) (.k (.d (.bool false))))] [19,20,21,22,23,24,25,26,27,28,29,30,31,32,33,34,35,36,37,38,39])
(.cond (.t 40) (rg [
mq 41 11,
tq 42 (.bin .add (.t 41) (kq 1)),
mq 11 42] [41,42])
 .skip))
(.seq (.seq (.reg true [
mq 43 4,
mq 44 0,
mq 45 3,
mq 46 10,
tq 47 (.bin .add (.t 45) (.t 46)),
tq 48 (.idxAddr 4 (.t 44) (.t 47)),
lq 49 4 48,
mq 50 0,
mq 51 3,
mq 52 11,
tq 53 (.bin .add (.t 51) (.t 52)),
tq 54 (.idxAddr 4 (.t 50) (.t 53)),
lq 55 4 54,
tq 56 (.call true true (.t 43) [.t 49,.t 55]),
tq 57 (.bin .lss (.t 56) (kq 0)),
tq 58 (.un .not (.t 57))] [43,44,45,46,47,48,49,50,51,52,53,54,55,56,57])
(.cond (.t 58) .ret
 .skip))
(.seq (.reg true [
mq 59 0,
mq 60 3,
mq 61 10,
tq 62 (.bin .add (.t 60) (.t 61)),
mq 63 0,
mq 64 3,
mq 65 11,
tq 66 (.bin .add (.t 64) (.t 65)),
mq 67 0,
mq 68 3,
mq 69 11,
tq 70 (.bin .add (.t 68) (.t 69)),
tq 71 (.idxAddr 4 (.t 67) (.t 70)),
lq 72 4 71,
mq 73 0,
mq 74 3,
mq 75 10,
tq 76 (.bin .add (.t 74) (.t 75)),
tq 77 (.idxAddr 4 (.t 73) (.t 76)),
lq 78 4 77,
tq 79 (.idxAddr 4 (.t 59) (.t 62)),
⟨none,none,.store 4 (.t 79) (.t 72)⟩,
tq 80 (.idxAddr 4 (.t 63) (.t 66)),
⟨none,none,.store 4 (.t 80) (.t 78)⟩] [10,59,60,61,62,63,64,65,66,67,68,69,70,71,72,73,74,75,76,77,78,79,80])
(rg [
mq 81 11,
mq 10 81] [11,81])))))))
def zim:CF:=⟨[],
  (sr [
mq 12 1,
mq 10 12] [1,12]
(.block 0 (.loop [0,2,3,4,10] zhw)))⟩
def zgx:CF:=⟨[.tmp 8],
  (sr [
tq 8 (.mv (kq 0))] [8]
(sr [
mq 9 0,
mq 10 1,
tq 11 (.bin .sub (.t 10) (kq 1)),
mq 12 1,
mq 13 1,
tq 14 (.bin .add (.t 13) (kq 1)),
mq 15 2,
mq 16 3,
tq 17 (.call true true (.k (.fn zdf [] [])) [.t 9,.t 11,.t 12,.t 14,.t 15,.t 16]),
mq 8 17] [0,1,2,3,9,10,11,12,13,14,15,16,17]
.ret))⟩
def zje:CF:=⟨[.tmp 12],
  (sr [
tq 12 (.mv (kq 0))] [12]
(sr [
mq 14 0,
mq 15 1,
mq 16 2,
mq 17 4,
mq 18 5,
tq 19 (.call true true (.k (.fn zch [] [])) [.t 14,.t 15,.t 16,.t 17,.t 18]),
mq 13 19,
xq 20 13 0,
xq 21 13 1,
mq 1 20,
mq 2 21] [13,14,15,16,17,18,19,20,21]
(sr [
mq 23 0,
mq 24 2,
mq 25 3,
mq 26 4,
mq 27 5,
tq 28 (.call true true (.k (.fn zch [] [])) [.t 23,.t 24,.t 25,.t 26,.t 27]),
mq 22 28,
xq 29 22 0,
xq 30 22 1,
mq 2 29,
mq 3 30] [3,22,23,24,25,26,27,28,29,30]
(sr [
mq 32 0,
mq 33 1,
mq 34 2,
mq 35 4,
mq 36 5,
tq 37 (.call true true (.k (.fn zch [] [])) [.t 32,.t 33,.t 34,.t 35,.t 36]),
mq 31 37,
xq 38 31 0,
xq 39 31 1,
mq 1 38,
mq 2 39] [0,1,4,5,31,32,33,34,35,36,37,38,39]
(sr [
mq 40 2,
mq 12 40] [2,40]
.ret)))))⟩
def zjf:CF:=⟨[.tmp 10,.tmp 11],
  (sr [
tq 10 (.mv (kq 0)),
tq 11 (.mv (kq 0))] [10,11]
(.seq (.seq (.reg true [
mq 12 4,
mq 13 0,
mq 14 2,
tq 15 (.idxAddr 4 (.t 13) (.t 14)),
lq 16 4 15,
mq 17 0,
mq 18 1,
tq 19 (.idxAddr 4 (.t 17) (.t 18)),
lq 20 4 19,
tq 21 (.call true true (.t 12) [.t 16,.t 20]),
tq 22 (.bin .lss (.t 21) (kq 0))] [0,4,12,13,14,15,16,17,18,19,20,21])
(.cond (.t 22) (sr [
mq 23 3,
tq 24 (.nilCheck (.t 23)),
ld 25 24,
tq 26 (.bin .add (.t 25) (kq 1)),
tq 27 (.nilCheck (.t 23)),
⟨none,none,.store 1 (.t 27) (.t 26)⟩] [3,23,24,25,26,27]
(sr [
mq 28 2,
mq 29 1,
mq 10 28,
mq 11 29] [1,2,28,29]
.ret))
 .skip))
(sr [
mq 30 1,
mq 31 2,
mq 10 30,
mq 11 31] [1,2,30,31]
.ret)))⟩
end Go.Proofs.YtnabmkmhbncidaaGreatDoor.Co
