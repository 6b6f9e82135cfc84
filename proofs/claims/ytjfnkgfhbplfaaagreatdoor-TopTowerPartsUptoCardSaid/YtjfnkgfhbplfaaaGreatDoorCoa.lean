/-
  The functions of the seat in the evaluator's syntax (printed by a program of mine; checked in a text that follows).
-/
import Derived.Test.YtjfnkgfhbplfaaaGreatDoorEvE
namespace Go.Proofs.YtjfnkgfhbplfaaaGreatDoor.Co
open Go.Evl
def zjd:Nat:=3
def zfp:Nat:=4
def zly:Nat:=5
def zik:Nat:=6
def zij:Nat:=7
def ziw:Nat:=8
def zi1:Nat:=9
def zct:Nat:=10
def zck:Nat:=11
def zbs:Nat:=12
def zho:Nat:=13
def zj0:Nat:=14
def zd7:Nat:=15
def zeq:Nat:=16
def zre:Nat:=17
def zjc:Nat:=18
def zjb:Nat:=19
def zg3:Nat:=20
def zrf:Nat:=21
def zgv:Nat:=22
def zer:Nat:=23
def zd3:Nat:=24
def zav:Nat:=25
def zet:Nat:=26
def znd:Nat:=27
def zj7:Nat:=28
def zlr:Nat:=29
def zi3:Nat:=30
def zhv:Nat:=31
def zi0:Nat:=32
def zhq:Nat:=33
def zh5:Nat:=34
def zgr:Nat:=35
def za5:Nat:=36
def zcl:Nat:=37
def zja:Nat:=38
def zdk:Nat:=39
def zii:Nat:=40
def zfj:Nat:=41
def zk1:Nat:=42
def zf8:Nat:=43
def zbp:Nat:=44
def zcs:Nat:=45
def zfl:Nat:=46
def zfk:Nat:=47
def zeo:Nat:=48
def zbb:Nat:=49
def zak:Nat:=50
def zhp:Nat:=51
def zga:Nat:=52
def zhr:Nat:=53
def zpl:Nat:=54
def zg9:Nat:=55
def zpm:Nat:=56
def zk7:Nat:=57
def znh:Nat:=58
def zhs:Nat:=59
def zi2:Nat:=60
def zg8:Nat:=61
def zka:Nat:=62
def zqk:Nat:=63
def zjl:Nat:=64
def zgp:Nat:=65
def zd5:Nat:=66
def zkp:Nat:=67
def zoc:Nat:=68
def zna:Nat:=69
def zio:Nat:=70
def zro:Nat:=71
def zjy:Nat:=72
def ze3:Nat:=73
def znb:Nat:=74
def zlg:Nat:=75
def zei:Nat:=76
def zpj:Nat:=77
def zd6:Nat:=78
def zat:Nat:=79
def zfb:Nat:=80
def zl7:Nat:=81
def za0:Nat:=82
def zds:Nat:=83
def ze4:Nat:=84
def zc0:Nat:=85
def zf9:Nat:=86
def zfm:Nat:=87
def zc6:Nat:=88
def za1:Nat:=89
def za8:Nat:=90
def zh6:Nat:=91
def zd2:Nat:=92
def zj2:Nat:=93
def zd1:Nat:=94
def zh4:Nat:=95
def zdj:Nat:=96
def zvn:Nat:=97
def za6:Nat:=98
def zj6:Nat:=99
def zne:Nat:=100
def zks:Nat:=101
def zte:Nat:=102
def zkb:Nat:=103
def zcp:Nat:=104
def zic:Nat:=105
def zib:Nat:=106
def zhu:Nat:=107
def zid:Nat:=108
def zco:Nat:=109
def zkc:Nat:=110
def zkt:Nat:=111
def zlt:Nat:=112
def zlf:Nat:=113
def zd0:Nat:=114
def zls:Nat:=115
def zb4:Nat:=116
def zl5:Nat:=117
def zfa:Nat:=118
def zf6:Nat:=119
def zbr:Nat:=120
def zhn:Nat:=121
def ztc:Nat:=122
def zcu:Nat:=123
def zbw:Nat:=124
def zqg:Nat:=125
def zod:Nat:=126
def zdh:Nat:=127
def zcn:Nat:=128
def zir:Nat:=129
def zis:Nat:=130
def zin:Nat:=131
def zjz:Nat:=132
def zbg:Nat:=133
def zit:Nat:=134
def zf7:Nat:=135
def zn9:Nat:=136
def zgu:Nat:=137
def zeh:Nat:=140
def zpg:Nat:=141
def zht:Nat:=142
def zaf:Nat:=143
def zfn:Nat:=144
def zbv:Nat:=145
def zcx:Nat:=146
def zpk:Nat:=147
def zng:Nat:=148
def za9:Nat:=149
def zfw:Nat:=150
def zrq:Nat:=151
def zj9:Nat:=152
def zcv:Nat:=153
def zfv:Nat:=154
def zjk:Nat:=155
def zbk:Nat:=156
def zia:Nat:=157
def zlh:Nat:=158
def zqj:Nat:=159
def zl6:Nat:=160
def ztb:Nat:=161
def zci:Nat:=162
def znc:Nat:=163
def ziu:Nat:=164
def zrr:Nat:=165
def zcg:Nat:=166
def zam:Nat:=167
def zc7:Nat:=168
def zjx:Nat:=169
def zdr:Nat:=170
def zb5:Nat:=171
def zob:Nat:=172
def zoa:Nat:=173
def za2:Nat:=174
def zfo:Nat:=175
def zdz:Nat:=176
def zm9:Nat:=177
def zg6:Nat:=178
def zc9:Nat:=179
def ziq:Nat:=180
def zj1:Nat:=188
def zb0:Nat:=189
def zep:Nat:=190
def zph:Nat:=191
def zbh:Nat:=192
def zbl:Nat:=193
def zoe:Nat:=194
def zkr:Nat:=195
def zbx:Nat:=196
def zkq:Nat:=197
def zj3:Nat:=198
def zes:Nat:=199
def zqh:Nat:=207
def zqi:Nat:=208
def zj8:Nat:=209
def zlw:Nat:=210
def zcb:Nat:=211
def zcw:Nat:=212
def zca:Nat:=213
def zch:Nat:=214
def zcf:Nat:=215
def zbm:Nat:=216
def zb7:Nat:=217
def zcq:Nat:=218
def zba:Nat:=219
def zan:Nat:=220
def zpi:Nat:=227
def zha:Nat:=228
def zby:Nat:=229
def zgq:Nat:=230
def zji:Nat:=231
def zli:Nat:=232
def zg7:Nat:=233
def zjj:Nat:=234
def zb1:Nat:=235
def zh9:Nat:=236
def zcm:Nat:=237
def zlu:Nat:=238
def ztd:Nat:=239
def zj4:Nat:=240
def zj5:Nat:=241
def zrp:Nat:=242
def ziv:Nat:=248
def zlv:Nat:=249
def zbj:Nat:=250
def zap:Nat:=251
def zbt:Nat:=252
def zc8:Nat:=253
def zb9:Nat:=260
def zgs:Nat:=261
def zof:Nat:=263
def zog:Nat:=264
def zoh:Nat:=265
def zoi:Nat:=266
def zoj:Nat:=267
def zok:Nat:=268
def zol:Nat:=269
def zom:Nat:=270
def zon:Nat:=271
def znf:Nat:=272
def za3:Nat:=273
def zaw:Nat:=274
def ybv:Nat:=296
def ybw:Nat:=297
def z4t:Nat:=298
def n_strconv_Itoa:Nat:=138
def n_strings_Repeat:Nat:=139
def n_strings_Builder_String:Nat:=187
def zmi:Nat:=200
def zkd:Nat:=201
def zk2:Nat:=202
def zkm:Nat:=203
def zhk:Nat:=204
def zjn:Nat:=205
def zlx:Nat:=206
def n_strings_Builder_copyCheck:Nat:=225
def zrg:Nat:=244
def zr8:Nat:=245
def za4:Nat:=3
def yke:Nat:=4
def ty_uint8:Nat:=5
def zcc:Nat:=9
def zl2:Nat:=23
def zag:Nat:=25
def zaj:Nat:=27
def zot:Nat:=28
def zab:Nat:=36
def zd4:Nat:=37
def zz9:Nat:=38
def zgb:Nat:=41
def zbc:Nat:=46
def zda:Nat:=47
def zge:Nat:=48
def z8j:Nat:=51
def zbf:Nat:=74
def zah:Nat:=77
def zx3:Nat:=78
def zno:Nat:=79
def zaz:Nat:=84
def zk6:Nat:=86
def zb3:Nat:=94
def zi4:Nat:=106
def zaa:Nat:=117
def zjf:Nat:=126
def zc1:Nat:=130
def zgt:Nat:=132
def zfs:Nat:=136
def ztp:Nat:=140
def zh7:Nat:=142
def zdb:Nat:=147
def zai:Nat:=150
def zhc:Nat:=161
def zgd:Nat:=162
def z38:Nat:=169
def zgc:Nat:=172
def zzq:Nat:=192
def zau:Nat:=196
def znp:Nat:=205
def z07:Nat:=216
def yc0:Nat:=224
def ykd:Nat:=240
def zzr:Nat:=249
def ty_strings_Builder:Nat:=258
def zl3:Nat:=287
def zx4:Nat:=313
def zsh:C:=
  (sr [
tq 138 (.bin .lss (.t 137) (.t 136))] []
(.seq (.cond (.t 138) .skip
 (.exit 4))
(.seq (.block 5 (sr [
tq 139 (.idxAddr 3 (.t 135) (.t 137)),
lq 140 3 139,
tq 22 (.alloc zbc [.z (.int .i64 0),.z (.int .i64 0),.z (.int .i64 0)]),
⟨none,none,.store 3 (.t 22) (.t 140)⟩] [139,140]
(rg [
mq 141 16,
lq 142 3 22,
tq 143 (.mkList 3 1 [.t 142]),
tq 144 (.append ⟨false,zda,3,24⟩ (.t 141) (.t 143)),
mq 16 144] [22,141,142,143,144])))
(rg [
tq 145 (.bin .add (.t 137) (kq 1)),
mq 137 145] [145]))))
def zsi:C:=
  (sr [
tq 122 (.bin .lss (.t 121) (kq 2))] []
(.seq (.cond (.t 122) .skip
 (.exit 2))
(.seq (.block 3 (sr [
tq 123 (.idxA 2 3 (some 3) (.t 120) (.t 121)),
tq 18 (.alloc zag [.z (.int .i64 0),.z (.int .i64 0),.z (.int .i64 0)]),
⟨none,none,.store 3 (.t 18) (.t 123)⟩] [123]
(sr [
lq 124 3 18,
fa 125 7 11,
⟨none,none,.store 3 (.t 125) (.t 124)⟩] [18,124,125]
(sr [
lq 127 11 11,
tq 128 (.mkList 11 1 [.t 127]),
mq 129 1,
tq 130 (cl zct [.t 128,.t 129]),
mq 126 130,
xq 131 126 0,
xq 132 126 1,
mq 19 131,
mq 20 132] [126,127,128,129,130,131,132]
(.seq (sr [
mq 133 20,
tq 134 (.bin .neq (.t 133) (kq 0))] [20,133]
(.cond (.t 134) (sr [
tq 6 (.mv (.k (.d (.bool false))))] []
.ret)
 .skip))
(sr [
mq 135 19,
tq 136 (.len .slc (.t 135)),
tq 137 (.mv (kq 0))] [19]
(.block 4 (.loop [0,1,5,7,9,10,11,14,16,91,92,93,120,121,135,136,137] zsh))))))))
(rg [
tq 146 (.bin .add (.t 121) (kq 1)),
mq 121 146] [146]))))
def zsj:C:=
  (sr [
tq 155 (.bin .lss (.t 154) (.t 153))] []
(.seq (.cond (.t 155) .skip
 (.exit 6))
(.seq (.block 7 (sr [
mq 156 154,
mq 23 156] [156]
(.seq (.reg true [
mq 157 14,
mq 158 23,
tq 159 (.idxAddr 3 (.t 157) (.t 158)),
lq 160 3 159,
mq 161 16,
mq 162 23,
tq 163 (.idxAddr 3 (.t 161) (.t 162)),
lq 164 3 163,
tq 165 (.eqv (some [.int,.int,.int]) true (.t 160) (.t 164))] [23,157,158,159,160,161,162,163,164])
(.cond (.t 165) (sr [
tq 6 (.mv (.k (.d (.bool false))))] []
.ret)
 .skip))))
(rg [
tq 166 (.bin .add (.t 154) (kq 1)),
mq 154 166] [166]))))
def zsk:C:=
  (sr [
tq 94 (.bin .lss (.t 93) (.t 92))] []
(.seq (.cond (.t 94) .skip
 (.exit 0))
(.seq (.block 1 (sr [
mq 95 93,
tq 96 (.idxAddr 11 (.t 91) (.t 93)),
lq 97 11 96,
tq 11 (.alloc zab [.z (.str []),.z (.str []),.z (.str []),.z (.int .i64 0),.z (.int .i64 0),.z (.int .i64 0),.z (.int .i64 0),.z (.int .i64 0),.z (.int .i64 0),.z (.int .i64 0),.z (.int .i64 0)]),
mq 10 95,
⟨none,none,.store 11 (.t 11) (.t 97)⟩] [95,96,97]
(sr [
fa 99 7 11,
lq 100 3 99,
mq 101 9,
tq 102 (cl zi1 [.t 100,.t 101]),
mq 98 102,
xq 103 98 0,
xq 104 98 1,
tq 12 (.alloc zd4 [.z (.int .i64 0),.z (.int .i64 0),.z (.int .i64 0),.z (.int .i64 0),.z (.int .i64 0),.z (.int .i64 0)]),
⟨none,none,.store 6 (.t 12) (.t 103)⟩,
mq 13 104] [98,99,100,101,102,103,104]
(sr [
lq 106 11 11,
tq 107 (.mkList 11 1 [.t 106]),
mq 108 1,
tq 109 (cl zct [.t 107,.t 108]),
mq 105 109,
xq 110 105 0,
xq 111 105 1,
mq 14 110,
mq 15 111] [105,106,107,108,109,110,111]
(.seq (sr [
mq 112 13,
tq 113 (.bin .eql (.t 112) (kq 30))] [112]
(.cond (.t 113) (.exit 1)
 .skip))
(.seq (sr [
mq 114 13,
tq 115 (.bin .neq (.t 114) (kq 0)),
mq 116 115,
gq 117 116 false (.mv (.t 15)),
gq 118 116 false (.bin .neq (.t 117) (kq 0)),
tq 119 (.pick (.t 116) (.k (.d (.bool true))) (.t 118))] [13,15,114,115,116,117,118]
(.cond (.t 119) (sr [
tq 6 (.mv (.k (.d (.bool false))))] []
.ret)
 .skip))
(sr [
tq 16 (.ownNil ⟨false,zda,3,24⟩)] []
(.seq (sr [
lq 120 6 12,
tq 121 (.mv (kq 0))] [12]
(.block 2 (.loop [0,1,5,7,9,10,11,14,16,91,92,93,120,121] zsi)))
(.seq (sr [
mq 147 16,
tq 148 (.len .slc (.t 147)),
mq 149 14,
tq 150 (.len .slc (.t 149)),
tq 151 (.bin .neq (.t 148) (.t 150))] [147,148,149,150]
(.cond (.t 151) (sr [
tq 6 (.mv (.k (.d (.bool false))))] []
.ret)
 .skip))
(.seq (sr [
mq 152 16,
tq 153 (.len .slc (.t 152)),
tq 154 (.mv (kq 0))] [152]
(.block 6 (.loop [0,1,5,7,9,10,14,16,91,92,93,153,154] zsj)))
(rg [
mq 167 7,
mq 168 10,
mq 169 0,
mq 170 10,
tq 171 (.idxAddr 11 (.t 169) (.t 170)),
fa 172 7 171,
lq 173 3 172,
tq 174 (.idxAddr 11 (.t 167) (.t 168)),
fa 175 7 174,
⟨none,none,.store 3 (.t 175) (.t 173)⟩] [10,167,168,169,170,171,172,173,174,175])))))))))))
(rg [
tq 176 (.bin .add (.t 93) (kq 1)),
mq 93 176] [176]))))
def zsl:C:=
  (sr [
tq 246 (.bin .lss (.t 245) (.t 244))] []
(.seq (.cond (.t 246) .skip
 (.exit 8))
(.seq (.block 9 (sr [
mq 247 245,
tq 248 (.idxAddr 3 (.t 243) (.t 245)),
lq 249 3 248,
tq 39 (.alloc zag [.z (.int .i64 0),.z (.int .i64 0),.z (.int .i64 0)]),
mq 38 247,
⟨none,none,.store 3 (.t 39) (.t 249)⟩] [247,248,249]
(sr [
lq 250 13 5,
tq 40 (.alloc zaj [.z (.str []),.z (.str []),.z (.str []),.z (.str []),.z (.str []),.z (.str []),.z (.int .i64 0),.z (.int .i64 0),.z (.int .i64 0),.z (.int .i64 0),.z (.int .i64 0),.z (.int .i64 0),.z (.int .i64 0)]),
⟨none,none,.store 13 (.t 40) (.t 250)⟩] [250]
(sr [
lq 251 3 39,
fa 252 6 40,
⟨none,none,.store 3 (.t 252) (.t 251)⟩] [39,251,252]
(sr [
lq 254 13 40,
tq 255 (cl zck [.t 254]),
mq 253 255,
xq 256 253 0,
xq 257 253 1,
mq 41 256,
mq 42 257] [253,254,255,256,257]
(sr [
tq 259 (.sealMv (.t 7)),
mq 260 1,
lq 261 13 40,
tq 262 (cl zj0 [.t 259,.t 260,.t 261]),
mq 258 262,
xq 263 258 0,
xq 264 258 1,
mq 43 263,
mq 44 264] [40,258,259,260,261,262,263,264]
(.seq (sr [
mq 265 42,
tq 266 (.bin .neq (.t 265) (kq 0)),
mq 267 266,
gq 268 267 false (.mv (.t 44)),
gq 269 267 false (.bin .neq (.t 268) (kq 0)),
tq 270 (.pick (.t 267) (.k (.d (.bool true))) (.t 269))] [42,44,265,266,267,268,269]
(.cond (.t 270) (sr [
tq 6 (.mv (.k (.d (.bool false))))] []
.ret)
 .skip))
(.seq (sr [
mq 271 38,
mq 272 28,
tq 273 (.len .slc (.t 272)),
tq 274 (.bin .lss (.t 271) (.t 273))] [38,271,272,273]
(.cond (.t 274) (sr [
mq 275 35,
mq 276 41,
tq 277 (.append ⟨false,zaa,7,80⟩ (.t 275) (.t 276)),
mq 35 277] [41,275,276,277]
(.fz 32 (.exit 9)))
 .skip))
(rg [
mq 278 36,
mq 279 41,
tq 280 (.append ⟨false,zaa,7,80⟩ (.t 278) (.t 279)),
mq 281 37,
mq 282 281,
gq 283 282 true (.mv (.t 43)),
tq 284 (.pick (.t 282) (.t 283) (.k (.d (.bool false)))),
mq 36 280,
mq 37 284] [41,43,278,279,280,281,282,283,284])))))))))
(rg [
tq 285 (.bin .add (.t 245) (kq 1)),
mq 245 285] [285]))))
def zvf:CF:=⟨[.tmp 6],
  (sr [
tq 5 (.box zaj (.t 2)),
tq 6 (.mv (.k (.d (.bool false))))] [2,6]
(sr [
mq 46 0,
tq 47 (.call false false (.k (.fn zfp [] [])) [.t 46]),
mq 45 47,
xq 48 45 0,
xq 49 45 1,
mq 7 48,
mq 8 49] [45,46,47,48,49]
(.seq (sr [
mq 50 8,
tq 51 (.un .not (.t 50)),
mq 52 51,
gq 53 52 false (.mv (.t 1)),
gq 54 52 false (cl zly [.t 53]),
gq 55 52 false (.un .not (.t 54)),
tq 56 (.pick (.t 52) (.k (.d (.bool true))) (.t 55)),
mq 57 56,
gq 58 57 false (.load (some 13) (.t 5)),
gq 59 57 false (cl zik [.t 58]),
gq 60 57 false (.un .not (.t 59)),
tq 61 (.pick (.t 57) (.k (.d (.bool true))) (.t 60)),
mq 62 61,
gq 63 62 false (.load (some 13) (.t 5)),
gq 64 62 false (cl zij [.t 63]),
gq 65 62 false (.bin .neq (.t 64) (kq 0)),
tq 66 (.pick (.t 62) (.k (.d (.bool true))) (.t 65)),
mq 67 66,
gq 68 67 false (.fieldAddr 6 (.t 5)),
gq 69 67 false (.fieldAddr 1 (.t 68)),
gq 70 67 false (.load none (.t 69)),
gq 71 67 false (.fieldAddr 6 (.t 5)),
gq 72 67 false (.fieldAddr 0 (.t 71)),
gq 73 67 false (.load none (.t 72)),
gq 74 67 false (.bin .sub (.t 70) (.t 73)),
gq 75 67 false (.bin .geq (.t 74) (kq 8)),
tq 76 (.pick (.t 67) (.k (.d (.bool true))) (.t 75))] [8,50,51,52,53,54,55,56,57,58,59,60,61,62,63,64,65,66,67,68,69,70,71,72,73,74,75]
(.cond (.t 76) (sr [
tq 77 (cl ziw []),
mq 6 77] [77]
.ret)
 .skip))
(sr [
fa 78 6 5,
fa 79 0 78,
ld 80 79,
tq 81 (.bin .add (.t 80) (kq 1)),
fa 82 6 5,
fa 83 1 82,
ld 84 83,
fa 85 6 5,
fa 86 0 85,
ld 87 86,
tq 88 (.bin .sub (.t 84) (.t 87)),
tq 89 (.bin .quo (.t 88) (kq 2)),
tq 90 (.bin .add (.t 81) (.t 89)),
mq 9 90] [78,79,80,81,82,83,84,85,86,87,88,89,90]
(.seq (sr [
mq 91 7,
tq 92 (.len .slc (.t 91)),
tq 93 (.mv (kq 0))] []
(.block 0 (.loop [0,1,5,7,9,91,92,93] zsk)))
(sr [
lq 178 13 5,
tq 179 (cl zck [.t 178]),
mq 177 179,
xq 180 177 0,
xq 181 177 1,
mq 24 180,
mq 25 181] [177,178,179,180,181]
(sr [
fa 183 6 5,
lq 184 3 183,
tq 185 (cl zbs [.t 184]),
mq 182 185,
xq 186 182 0,
xq 187 182 1,
mq 26 186,
mq 27 187] [182,183,184,185,186,187]
(sr [
mq 189 26,
tq 190 (.call false false (.k (.fn zho [] [])) [.t 189]),
mq 188 190,
xq 191 188 0,
xq 192 188 1,
mq 28 191,
mq 29 192] [188,189,190,191,192]
(sr [
tq 194 (.sealMv (.t 7)),
mq 195 1,
lq 196 13 5,
tq 197 (cl zj0 [.t 194,.t 195,.t 196]),
mq 193 197,
xq 198 193 0,
xq 199 193 1,
mq 30 198,
mq 31 199] [193,194,195,196,197,198,199]
(.seq (sr [
mq 200 25,
tq 201 (.bin .neq (.t 200) (kq 0)),
mq 202 201,
gq 203 202 false (.mv (.t 27)),
gq 204 202 false (.bin .neq (.t 203) (kq 0)),
tq 205 (.pick (.t 202) (.k (.d (.bool true))) (.t 204)),
mq 206 205,
gq 207 206 false (.mv (.t 29)),
gq 208 206 false (.bin .neq (.t 207) (kq 0)),
tq 209 (.pick (.t 206) (.k (.d (.bool true))) (.t 208)),
mq 210 209,
gq 211 210 false (.mv (.t 31)),
gq 212 210 false (.bin .neq (.t 211) (kq 0)),
tq 213 (.pick (.t 210) (.k (.d (.bool true))) (.t 212)),
mq 214 213,
gq 215 214 false (.mv (.t 24)),
gq 216 214 false (.len .slc (.t 215)),
gq 217 214 false (.mv (.t 26)),
gq 218 214 false (.len .slc (.t 217)),
gq 219 214 false (.bin .neq (.t 216) (.t 218)),
tq 220 (.pick (.t 214) (.k (.d (.bool true))) (.t 219)),
mq 221 220,
gq 222 221 false (.mv (.t 24)),
gq 223 221 false (cl zd7 [.t 222]),
gq 224 221 false (.bin .neq (.t 223) (kq 0)),
tq 225 (.pick (.t 221) (.k (.d (.bool true))) (.t 224))] [25,26,27,29,31,200,201,202,203,204,205,206,207,208,209,210,211,212,213,214,215,216,217,218,219,220,221,222,223,224]
(.cond (.t 225) (sr [
tq 6 (.mv (.k (.d (.bool false))))] []
.ret)
 .skip))
(sr [
mq 226 28,
mq 32 226] [226]
(.seq (sr [
fa 228 6 5,
lq 229 3 228,
mq 230 9,
tq 231 (cl zi1 [.t 229,.t 230]),
mq 227 231,
xq 232 227 0,
xq 233 227 1,
tq 33 (.alloc zd4 [.z (.int .i64 0),.z (.int .i64 0),.z (.int .i64 0),.z (.int .i64 0),.z (.int .i64 0),.z (.int .i64 0)]),
⟨none,none,.store 6 (.t 33) (.t 232)⟩,
mq 34 233] [9,227,228,229,230,231,232,233]
(sr [
mq 234 34,
tq 235 (.bin .eql (.t 234) (kq 0))] [34,234]
(.cond (.t 235) (rg [
mq 236 32,
tq 237 (.idxAddrA 2 3 (.t 33) (kq 0)),
lq 238 3 237,
tq 239 (.idxAddrA 2 3 (.t 33) (kq 1)),
lq 240 3 239,
tq 241 (.mkList 3 2 [.t 238,.t 240]),
tq 242 (.append ⟨false,zag,3,24⟩ (.t 236) (.t 241)),
mq 32 242] [33,236,237,238,239,240,241,242])
 .skip)))
(sr [
tq 35 (.ownNil ⟨false,zaa,7,80⟩),
tq 36 (.ownNil ⟨false,zaa,7,80⟩)] []
(.fz 32 (sr [
tq 37 (.mv (.k (.d (.bool true))))] []
(.seq (sr [
mq 243 32,
tq 244 (.len .slc (.t 243)),
tq 245 (.mv (kq 0))] []
(.block 8 (.loop [1,5,7,24,28,30,32,35,36,37,243,244,245] zsl)))
(.seq (sr [
mq 286 35,
tq 287 (cl zre [.t 286,.k (.d (.list 0 []))]),
mq 288 24,
tq 289 (cl zeq [.t 287,.t 288]),
tq 290 (.un .not (.t 289))] [35,286,287,288,289]
(.cond (.t 290) (sr [
tq 6 (.mv (.k (.d (.bool false))))] []
.ret)
 .skip))
(sr [
mq 291 32,
tq 292 (.len .slc (.t 291)),
mq 293 28,
tq 294 (.len .slc (.t 293)),
tq 295 (.bin .eql (.t 292) (.t 294)),
mq 296 295,
gq 297 296 false (.mv (.t 37)),
gq 298 296 false (.mv (.t 30)),
gq 299 296 false (.eqv none false (.t 297) (.t 298)),
gq 300 296 false (.mv (.t 299)),
gq 301 300 true (.mv (.t 36)),
gq 302 300 true (.mv (.t 24)),
gq 303 300 true (cl zeq [.t 301,.t 302]),
gq 304 296 false (.pick (.t 300) (.t 303) (.k (.d (.bool false)))),
tq 305 (.pick (.t 296) (.k (.d (.bool true))) (.t 304)),
mq 306 305,
gq 307 306 true (cl ziw []),
tq 308 (.pick (.t 306) (.t 307) (.k (.d (.bool false)))),
mq 6 308] [24,28,30,32,36,37,291,292,293,294,295,296,297,298,299,300,301,302,303,304,305,306,307,308]
.ret))))))))))))))))))⟩
def zuz:C:=
  (sr [
tq 10 (.bin .lss (.t 9) (.t 8))] []
(.seq (.cond (.t 10) .skip
 (.exit 0))
(.seq (.block 1 (sr [
tq 11 (.idxAddr 11 (.t 7) (.t 9)),
lq 12 11 11,
tq 6 (.alloc zge [.z (.str []),.z (.str []),.z (.str []),.z (.int .i64 0),.z (.int .i64 0),.z (.int .i64 0),.z (.int .i64 0),.z (.int .i64 0),.z (.int .i64 0),.z (.int .i64 0),.z (.int .i64 0)]),
⟨none,none,.store 11 (.t 6) (.t 12)⟩] [11,12]
(rg [
mq 13 4,
lq 14 11 6,
tq 15 (.mkList 11 1 [.t 14]),
tq 16 (.append ⟨true,zab,11,112⟩ (.t 13) (.t 15)),
mq 4 16] [6,13,14,15,16])))
(rg [
tq 17 (.bin .add (.t 9) (kq 1)),
mq 9 17] [17]))))
def zy4:CF:=⟨[.tmp 2,.tmp 3],
  (sr [
tq 2 (.ownNil ⟨true,zab,11,112⟩),
tq 3 (.mv (.k (.d (.bool false))))] [2,3]
(sr [
tq 4 (.ownNil ⟨true,zab,11,112⟩)] []
(.seq (sr [
mq 7 0,
tq 8 (.len .slc (.t 7)),
tq 9 (.mv (kq 0))] []
(.block 0 (.loop [0,4,7,8,9] zuz)))
(sr [
mq 18 4,
mq 19 0,
tq 20 (.len .slc (.t 19)),
tq 21 (.bin .leq (.t 20) (kq 3)),
mq 22 21,
gq 23 22 true (.mv (.t 0)),
gq 24 22 true (cl zjc [.t 23,kq 3]),
tq 25 (.pick (.t 22) (.t 24) (.k (.d (.bool false)))),
mq 26 25,
gq 27 26 true (.mv (.t 0)),
gq 28 26 true (cl zjb [.t 27]),
gq 29 26 true (.bin .eql (.t 28) (kq 0)),
tq 30 (.pick (.t 26) (.t 29) (.k (.d (.bool false)))),
mq 2 18,
mq 3 30] [0,4,18,19,20,21,22,23,24,25,26,27,28,29,30]
.ret))))⟩
def z0y:CF:=⟨[.tmp 2],
  (sr [
tq 2 (.mv (.k (.d (.bool false))))] [2]
(sr [
mq 3 0,
tq 4 (.len .slc (.t 3)),
tq 5 (.bin .leq (.t 4) (kq 10)),
mq 6 5,
gq 7 6 true (.mv (.t 0)),
gq 8 6 true (cl zg3 [.t 7,kq 10]),
tq 9 (.pick (.t 6) (.t 8) (.k (.d (.bool false)))),
mq 10 9,
gq 11 10 true (.mv (.t 0)),
gq 12 10 true (cl zd7 [.t 11]),
gq 13 10 true (.bin .eql (.t 12) (kq 0)),
tq 14 (.pick (.t 10) (.t 13) (.k (.d (.bool false)))),
mq 2 14] [0,3,4,5,6,7,8,9,10,11,12,13,14]
.ret))⟩
def zuk:CF:=⟨[.tmp 2],
  (sr [
tq 1 (.box zaj (.t 0)),
tq 2 (.mv (.k (.d (.bool false))))] [0,2]
(sr [
fa 3 0 1,
ld 4 3,
tq 5 (.len .str (.t 4)),
tq 6 (.bin .leq (.t 5) (kq 40)),
mq 7 6,
gq 8 7 true (.fieldAddr 2 (.t 1)),
gq 9 7 true (.load none (.t 8)),
gq 10 7 true (.len .str (.t 9)),
gq 11 7 true (.bin .leq (.t 10) (kq 40)),
tq 12 (.pick (.t 7) (.t 11) (.k (.d (.bool false)))),
mq 13 12,
gq 14 13 true (.fieldAddr 3 (.t 1)),
gq 15 13 true (.load none (.t 14)),
gq 16 13 true (.len .str (.t 15)),
gq 17 13 true (.bin .leq (.t 16) (kq 40)),
tq 18 (.pick (.t 13) (.t 17) (.k (.d (.bool false)))),
mq 19 18,
gq 20 19 true (.fieldAddr 6 (.t 1)),
gq 21 19 true (.load (some 3) (.t 20)),
gq 22 19 true (cl zrf [.t 21,kq 24]),
tq 23 (.pick (.t 19) (.t 22) (.k (.d (.bool false)))),
mq 2 23] [1,3,4,5,6,7,8,9,10,11,12,13,14,15,16,17,18,19,20,21,22,23]
.ret))⟩
def zuj:CF:=⟨[.tmp 2],
  (sr [
tq 1 (.box zaj (.t 0)),
tq 2 (.mv (kq 0))] [0,2]
(.seq (sr [
fa 4 0 1,
ld 5 4,
tq 6 (cl zgv [.t 5]),
tq 7 (.un .not (.t 6))] [4,5,6]
(.cond (.t 7) (sr [
tq 2 (.mv (kq 8))] []
.ret)
 .skip))
(.seq (sr [
fa 8 2 1,
ld 9 8,
tq 10 (.bin .neq (.t 9) (.k (.d (.str [65])))),
mq 11 10,
gq 12 11 true (.fieldAddr 2 (.t 1)),
gq 13 11 true (.load none (.t 12)),
gq 14 11 true (.bin .neq (.t 13) (.k (.d (.str [68])))),
tq 15 (.pick (.t 11) (.t 14) (.k (.d (.bool false))))] [8,9,10,11,12,13,14]
(.cond (.t 15) (sr [
tq 2 (.mv (kq 13))] []
.ret)
 .skip))
(.seq (sr [
fa 16 3 1,
ld 17 16,
tq 18 (cl zer [.t 17]),
tq 19 (.un .not (.t 18))] [16,17,18]
(.cond (.t 19) (sr [
tq 2 (.mv (kq 8))] []
.ret)
 .skip))
(.seq (sr [
fa 20 6 1,
lq 21 3 20,
tq 22 (cl zd3 [.t 21]),
mq 3 22] [20,21,22]
(sr [
mq 23 3,
tq 24 (.bin .neq (.t 23) (kq 0))] [23]
(.cond (.t 24) (sr [
mq 25 3,
mq 2 25] [3,25]
.ret)
 .skip)))
(.seq (sr [
fa 26 9 1,
ld 27 26,
tq 28 (cl zav [.t 27,kq 0,kq 1439]),
mq 29 28,
gq 30 29 false (.fieldAddr 10 (.t 1)),
gq 31 29 false (.load none (.t 30)),
gq 32 29 false (cl zav [.t 31,kq 0,kq 999]),
tq 33 (.pick (.t 29) (.k (.d (.bool true))) (.t 32)),
mq 34 33,
gq 35 34 false (.fieldAddr 11 (.t 1)),
gq 36 34 false (.load none (.t 35)),
gq 37 34 false (cl zav [.t 36,kq 0,kq 9]),
tq 38 (.pick (.t 34) (.k (.d (.bool true))) (.t 37)),
mq 39 38,
gq 40 39 false (.fieldAddr 12 (.t 1)),
gq 41 39 false (.load none (.t 40)),
gq 42 39 false (cl zav [.t 41,kq 0,kq 99]),
tq 43 (.pick (.t 39) (.k (.d (.bool true))) (.t 42))] [1,26,27,28,29,30,31,32,33,34,35,36,37,38,39,40,41,42]
(.cond (.t 43) (sr [
tq 2 (.mv (kq 3))] []
.ret)
 .skip))
(sr [
tq 2 (.mv (kq 0))] []
.ret)))))))⟩
def z4q:CF:=⟨[.tmp 0],
  (sr [
tq 0 (.mv (.k (.d (.bool false))))] [0]
(sr [
tq 13 (cl zet [.k (.d (.str [97])),kq 100]),
tq 14 (cl zet [.k (.d (.str [98])),kq 180]),
tq 1 (.alloc zaj [.z (.str []),.z (.str []),.z (.str []),.z (.str []),.z (.str []),.z (.str []),.z (.int .i64 0),.z (.int .i64 0),.z (.int .i64 0),.z (.int .i64 0),.z (.int .i64 0),.z (.int .i64 0),.z (.int .i64 0)]),
tq 2 (.alloc zaj [.z (.str []),.z (.str []),.z (.str []),.z (.str []),.z (.str []),.z (.str []),.z (.int .i64 0),.z (.int .i64 0),.z (.int .i64 0),.z (.int .i64 0),.z (.int .i64 0),.z (.int .i64 0),.z (.int .i64 0)]),
⟨none,none,.store 13 (.t 1) (.t 13)⟩,
⟨none,none,.store 13 (.t 2) (.t 14)⟩] [13,14]
(.seq (.reg true [
tq 16 (cl zj7 []),
lq 17 13 1,
tq 18 (.build [.z (.str []),.z (.str []),.z (.str []),.z (.str []),.z (.str []),.z (.str []),.z (.int .i64 0),.z (.int .i64 0),.z (.int .i64 0),.z (.int .i64 0),.z (.int .i64 0),.z (.int .i64 0),.z (.int .i64 0),.z (.bool false),.z (.bool false),.z (.bool false),.z (.bool false),.z (.int .i64 0)] [(0,13,.t 17)]),
lq 19 13 2,
tq 20 (.build [.z (.str []),.z (.str []),.z (.str []),.z (.str []),.z (.str []),.z (.str []),.z (.int .i64 0),.z (.int .i64 0),.z (.int .i64 0),.z (.int .i64 0),.z (.int .i64 0),.z (.int .i64 0),.z (.int .i64 0),.z (.bool false),.z (.bool false),.z (.bool false),.z (.bool false),.z (.int .i64 0)] [(0,13,.t 19)]),
tq 21 (.mkList 18 2 [.t 18,.t 20]),
tq 22 (cl znd [.t 16,kq 1,.t 21]),
mq 15 22,
xq 23 15 0,
xq 24 15 1,
mq 3 23,
mq 4 24] [15,16,17,18,19,20,21,22,23,24])
(.seq (.reg true [
tq 26 (cl zi3 []),
tq 27 (.mkList 11 1 [.t 26]),
lq 28 13 2,
tq 29 (cl zhv [.t 28]),
lq 30 13 1,
tq 31 (cl zhv [.t 30]),
tq 32 (.mkList 18 2 [.t 29,.t 31]),
tq 33 (cl zlr [.t 27,.t 32]),
mq 25 33,
xq 34 25 0,
xq 35 25 1,
mq 5 34,
mq 6 35] [2,25,26,27,28,29,30,31,32,33,34,35])
(sr [
fa 37 6 1,
lq 38 3 37,
tq 39 (cl zi0 [.t 38]),
mq 36 39,
xq 40 36 0,
xq 41 36 1,
mq 7 40,
mq 8 41] [1,36,37,38,39,40,41]
(sr [
tq 43 (cl zhq [kq 610]),
mq 42 43,
xq 44 42 0,
xq 45 42 1,
mq 9 44,
mq 10 45] [42,43,44,45]
(sr [
tq 47 (cl zi3 []),
tq 48 (cl zh5 [.t 47,kq 2]),
mq 46 48,
xq 49 46 0,
xq 50 46 1,
mq 11 49,
mq 12 50] [46,47,48,49,50]
(sr [
mq 51 4,
mq 52 6,
tq 53 (.bin .add (.t 51) (.t 52)),
mq 54 8,
tq 55 (.bin .add (.t 53) (.t 54)),
mq 56 10,
tq 57 (.bin .add (.t 55) (.t 56)),
mq 58 12,
tq 59 (.bin .add (.t 57) (.t 58)),
tq 60 (.bin .eql (.t 59) (kq 0)),
mq 61 60,
gq 62 61 true (.mv (.t 3)),
gq 63 61 true (.mkList 1 2 [kq 1,kq 0]),
gq 64 61 true (cl zgr [.t 62,.t 63]),
tq 65 (.pick (.t 61) (.t 64) (.k (.d (.bool false)))),
mq 66 65,
gq 67 66 true (.mv (.t 5)),
gq 68 66 true (.len .slc (.t 67)),
gq 69 66 true (.bin .eql (.t 68) (kq 2)),
tq 70 (.pick (.t 66) (.t 69) (.k (.d (.bool false)))),
mq 71 70,
gq 72 71 true (.mv (.t 5)),
gq 73 71 true (.idxAddr 3 (.t 72) (kq 0)),
gq 74 71 true (.load (some 3) (.t 73)),
gq 75 71 true (.build [.z (.str []),.z (.int .i64 0),.z (.bool false)] [(0,1,.k (.d (.str [98]))),(1,1,kq 610),(2,1,.k (.d (.bool true)))]),
gq 76 71 true (.eqv (some [.str,.int,.bool]) false (.t 74) (.t 75)),
tq 77 (.pick (.t 71) (.t 76) (.k (.d (.bool false)))),
mq 78 77,
gq 79 78 true (.mv (.t 5)),
gq 80 78 true (.idxAddr 3 (.t 79) (kq 1)),
gq 81 78 true (.load (some 3) (.t 80)),
gq 82 78 true (.build [.z (.str []),.z (.int .i64 0),.z (.bool false)] [(0,1,.k (.d (.str [97]))),(1,1,kq 590),(2,1,.k (.d (.bool true)))]),
gq 83 78 true (.eqv (some [.str,.int,.bool]) false (.t 81) (.t 82)),
tq 84 (.pick (.t 78) (.t 83) (.k (.d (.bool false)))),
mq 85 84,
gq 86 85 true (.mv (.t 7)),
gq 87 85 true (.bin .eql (.t 86) (kq 2)),
tq 88 (.pick (.t 85) (.t 87) (.k (.d (.bool false)))),
mq 89 88,
gq 90 89 true (.mv (.t 9)),
gq 91 89 true (.bin .eql (.t 90) (.k (.d (.str [49,48,49,48])))),
tq 92 (.pick (.t 89) (.t 91) (.k (.d (.bool false)))),
mq 93 92,
gq 94 93 true (.mv (.t 11)),
gq 95 93 true (.mkList 1 1 [kq 3480]),
gq 96 93 true (cl zgr [.t 94,.t 95]),
tq 97 (.pick (.t 93) (.t 96) (.k (.d (.bool false)))),
mq 0 97] [3,4,5,6,7,8,9,10,11,12,51,52,53,54,55,56,57,58,59,60,61,62,63,64,65,66,67,68,69,70,71,72,73,74,75,76,77,78,79,80,81,82,83,84,85,86,87,88,89,90,91,92,93,94,95,96,97]
.ret))))))))⟩
def z0i:CF:=⟨[.cell 4 (some 6),.tmp 5],
  (sr [
tq 2 (.box zag (.t 0)),
tq 4 (.alloc zd4 [.z (.int .i64 0),.z (.int .i64 0),.z (.int .i64 0),.z (.int .i64 0),.z (.int .i64 0),.z (.int .i64 0)]),
tq 5 (.mv (kq 0))] [0,5]
(.seq (sr [
lq 7 3 2,
tq 8 (cl za5 [.t 7]),
mq 6 8] [7,8]
(sr [
mq 9 6,
tq 10 (.bin .neq (.t 9) (kq 0))] [9]
(.cond (.t 10) (sr [
tq 11 (.build [.z (.int .i64 0),.z (.int .i64 0),.z (.int .i64 0),.z (.int .i64 0),.z (.int .i64 0),.z (.int .i64 0)] []),
mq 12 6,
⟨none,none,.store 6 (.t 4) (.t 11)⟩,
mq 5 12] [6,11,12]
.ret)
 .skip)))
(.seq (sr [
mq 13 1,
fa 14 0 2,
ld 15 14,
tq 16 (.bin .leq (.t 13) (.t 15)),
mq 17 16,
gq 18 17 false (.mv (.t 1)),
gq 19 17 false (.fieldAddr 1 (.t 2)),
gq 20 17 false (.load none (.t 19)),
gq 21 17 false (.bin .gtr (.t 18) (.t 20)),
tq 22 (.pick (.t 17) (.k (.d (.bool true))) (.t 21))] [13,14,15,16,17,18,19,20,21]
(.cond (.t 22) (sr [
tq 23 (.build [.z (.int .i64 0),.z (.int .i64 0),.z (.int .i64 0),.z (.int .i64 0),.z (.int .i64 0),.z (.int .i64 0)] []),
⟨none,none,.store 6 (.t 4) (.t 23)⟩,
tq 5 (.mv (kq 30))] [23]
.ret)
 .skip))
(sr [
fa 24 0 2,
ld 25 24,
mq 26 1,
tq 27 (.bin .sub (.t 26) (kq 1)),
fa 28 2 2,
ld 29 28,
tq 30 (.build [.z (.int .i64 0),.z (.int .i64 0),.z (.int .i64 0)] [(0,1,.t 25),(1,1,.t 27),(2,1,.t 29)]),
mq 31 1,
fa 32 1 2,
ld 33 32,
fa 34 2 2,
ld 35 34,
tq 36 (.build [.z (.int .i64 0),.z (.int .i64 0),.z (.int .i64 0)] [(0,1,.t 31),(1,1,.t 33),(2,1,.t 35)]),
tq 37 (.build [.z (.int .i64 0),.z (.int .i64 0),.z (.int .i64 0),.z (.int .i64 0),.z (.int .i64 0),.z (.int .i64 0)] [(0,3,.t 30),(3,3,.t 36)]),
⟨none,none,.store 6 (.t 4) (.t 37)⟩,
tq 5 (.mv (kq 0))] [1,2,24,25,26,27,28,29,30,31,32,33,34,35,36,37]
.ret))))⟩
def zmw:C:=
  (rg [
tq 8 (.alloc zbc [.z (.int .i64 0),.z (.int .i64 0),.z (.int .i64 0)]),
⟨none,none,.store 3 (.t 8) (.t 18)⟩] [18])
def zmx:C:=
  (.block 1 (.seq (sr [
ld 19 7,
tq 20 (.len .slc (.t 19)),
tq 21 (.bin .eql (.t 20) (kq 1000))] [19,20]
(.cond (.t 21) (sr [
⟨none,none,.store 1 (.t 4) (.k (.d (.list 0 [])))⟩,
⟨none,none,.store 1 (.t 5) (kq 5)⟩] []
.ret)
 .skip))
(rg [
ld 22 7,
lq 23 3 8,
tq 24 (.mkList 3 1 [.t 23]),
tq 25 (.append ⟨false,zbc,3,24⟩ (.t 22) (.t 24)),
⟨none,none,.store 1 (.t 7) (.t 25)⟩] [7,8,22,23,24,25])))
def zyv:CF:=⟨[.cell 4 none,.cell 5 none],
  (sr [
tq 4 (.alloc zgb [.own ⟨false,zbc,3,24⟩]),
tq 5 (.alloc zz9 [.z (.int .i64 0)])] []
(.seq (sr [
mq 9 0,
mq 10 1,
tq 11 (cl zcl [.t 9,.t 10]),
mq 6 11] [9,10,11]
(sr [
mq 12 6,
tq 13 (.bin .neq (.t 12) (kq 0))] [12]
(.cond (.t 13) (sr [
mq 14 6,
⟨none,none,.store 1 (.t 4) (.k (.d (.list 0 [])))⟩,
⟨none,none,.store 1 (.t 5) (.t 14)⟩] [6,14]
.ret)
 .skip)))
(sr [
tq 7 (.alloc zgb [.own ⟨false,zbc,3,24⟩])] []
(.seq (sr [
mq 15 0,
mq 16 1,
tq 17 (.call false false (.k (.fn zja [] [])) [.t 15,.t 16])] [0,1,15,16]
(.block 0 (.rangeFn 28 (.t 17) [18] zmw zmx)))
(sr [
ld 26 7,
⟨none,none,.store 1 (.t 4) (.t 26)⟩,
⟨none,none,.store 1 (.t 5) (kq 0)⟩] [7,26]
.ret)))))⟩
def zue:CF:=⟨[.tmp 2,.tmp 3],
  (sr [
tq 1 (.box zaj (.t 0)),
tq 2 (.mv (.k (.d (.list 0 [])))),
tq 3 (.mv (kq 0))] [0,2,3]
(.seq (sr [
lq 5 13 1,
tq 6 (cl zdk [.t 5]),
mq 4 6] [5,6]
(sr [
mq 7 4,
tq 8 (.bin .neq (.t 7) (kq 0))] [7]
(.cond (.t 8) (sr [
mq 9 4,
tq 2 (.mv (.k (.d (.list 0 [])))),
mq 3 9] [4,9]
.ret)
 .skip)))
(sr [
lq 10 13 1,
tq 11 (cl zii [.t 10]),
mq 2 11,
tq 3 (.mv (kq 0))] [1,10,11]
.ret)))⟩
def zyo:CF:=⟨[.tmp 2,.tmp 3],
  (sr [
tq 1 (.box zag (.t 0)),
tq 2 (.mv (.k (.d (.list 0 [])))),
tq 3 (.mv (kq 0))] [0,2,3]
(.seq (sr [
lq 5 3 1,
tq 6 (cl za5 [.t 5]),
mq 4 6] [5,6]
(sr [
mq 7 4,
tq 8 (.bin .neq (.t 7) (kq 0))] [7]
(.cond (.t 8) (sr [
mq 9 4,
tq 2 (.mv (.k (.d (.list 0 [])))),
mq 3 9] [4,9]
.ret)
 .skip)))
(sr [
lq 10 3 1,
tq 11 (.call false false (.k (.fn zk1 [] [])) [.t 10]),
tq 12 (.call true true (.k (.fn zfj [] [])) [.t 11,.k (.fn zf8 [] [])]),
mq 2 12,
tq 3 (.mv (kq 0))] [1,10,11,12]
.ret)))⟩
def zx9:C:=
  (sr [
tq 22 (.bin .lss (.t 21) (.t 20))] []
(.seq (.cond (.t 22) .skip
 (.exit 0))
(.seq (.block 1 (sr [
mq 23 21,
tq 24 (.idxAddr 1 (.t 19) (.t 21)),
ld 25 24,
mq 4 23,
mq 5 25] [23,24,25]
(sr [
mq 26 5,
tq 27 (cl zcs [.t 26]),
mq 28 4,
tq 29 (.bin .gtr (.t 28) (kq 0)),
mq 30 29,
gq 31 30 true (.mv (.t 5)),
gq 32 30 true (.mv (.t 0)),
gq 33 30 true (.mv (.t 4)),
gq 34 30 true (.bin .sub (.t 33) (kq 1)),
gq 35 30 true (.minmax true [kq 0,.t 34]),
gq 36 30 true (.idxAddr 1 (.t 32) (.t 35)),
gq 37 30 true (.load none (.t 36)),
gq 38 30 true (.bin .leq (.t 31) (.t 37)),
tq 39 (.pick (.t 30) (.t 38) (.k (.d (.bool false)))),
tq 40 (cl zfl [.t 39,kq 11]),
tq 41 (.mkList 1 2 [.t 27,.t 40]),
tq 42 (cl zbp [.t 41]),
mq 6 42] [4,5,26,27,28,29,30,31,32,33,34,35,36,37,38,39,40,41,42]
(sr [
mq 43 6,
tq 44 (.bin .neq (.t 43) (kq 0))] [43]
(.cond (.t 44) (sr [
mq 45 6,
tq 2 (.mv (.k (.d (.list 0 [])))),
mq 3 45] [6,45]
.ret)
 .skip)))))
(rg [
tq 46 (.bin .add (.t 21) (kq 1)),
mq 21 46] [46]))))
def zya:C:=
  (sr [
tq 51 (.bin .lss (.t 50) (.t 49))] []
(.seq (.cond (.t 51) .skip
 (.exit 2))
(.seq (.block 3 (sr [
tq 52 (.idxAddr 1 (.t 48) (.t 50)),
ld 53 52,
mq 9 53] [52,53]
(.reg true [
mq 54 7,
mq 55 9,
tq 56 (cl zfk [.t 55]),
tq 57 (.lookup .int (.int .i64 0) false (.t 54) (.t 56)),
mq 58 9,
tq 59 (cl zeo [.t 58]),
tq 60 (.bin .shl (kq 1) (.t 59)),
tq 61 (.bin .or (.t 57) (.t 60)),
⟨none,none,.mapSet .int (.t 54) (.t 56) (.t 61)⟩] [9,54,55,56,57,58,59,60,61])))
(rg [
tq 62 (.bin .add (.t 50) (kq 1)),
mq 50 62] [62]))))
def zyb:C:=
  (.seq (sr [
mq 85 11,
mq 86 0,
tq 87 (.len .slc (.t 86)),
tq 88 (.bin .lss (.t 85) (.t 87))] [85,86,87]
(.cond (.t 88) .skip
 (.exit 6)))
(.seq (.block 7 (.seq (sr [
mq 91 0,
mq 92 11,
tq 93 (.idxAddr 1 (.t 91) (.t 92)),
ld 94 93,
tq 95 (cl zfk [.t 94]),
mq 15 95] [91,92,93,94,95]
(.block 8 (sr [
mq 97 15,
mq 98 14,
tq 99 (.bin .eql (.t 97) (.t 98)),
mq 96 99] [97,98,99]
(.cond (.t 96) .skip
 (sr [
mq 101 15,
mq 102 14,
tq 103 (.bin .add (.t 102) (kq 1)),
tq 104 (.bin .eql (.t 101) (.t 103)),
mq 105 104,
gq 106 105 true (.mv (.t 7)),
gq 107 105 true (.mv (.t 15)),
gq 108 105 true (.lookup .int (.int .i64 0) false (.t 106) (.t 107)),
gq 109 105 true (.fieldAddr 2 (.t 13)),
gq 110 105 true (.load none (.t 109)),
gq 111 105 true (.bin .eql (.t 108) (.t 110)),
tq 112 (.pick (.t 105) (.t 111) (.k (.d (.bool false)))),
mq 113 112,
gq 114 113 true (.mv (.t 15)),
gq 115 113 true (.mv (.t 12)),
gq 116 113 true (.bin .sub (.t 114) (.t 115)),
gq 117 113 true (.bin .lss (.t 116) (kq 57)),
tq 118 (.pick (.t 113) (.t 117) (.k (.d (.bool false)))),
mq 100 118] [14,101,102,103,104,105,106,107,108,109,110,111,112,113,114,115,116,117,118]
(.cond (.t 100) (rg [
mq 119 15,
mq 14 119] [15,119])
 (.exit 6)))))))
(rg [
mq 120 0,
mq 121 11,
tq 122 (.idxAddr 1 (.t 120) (.t 121)),
ld 123 122,
fa 124 1 13,
⟨none,none,.store 1 (.t 124) (.t 123)⟩] [120,121,122,123,124])))
(rg [
mq 89 11,
tq 90 (.bin .add (.t 89) (kq 1)),
mq 11 90] [89,90])))
def zyc:C:=
  (.seq (sr [
mq 63 11,
mq 64 0,
tq 65 (.len .slc (.t 64)),
tq 66 (.bin .lss (.t 63) (.t 65))] [63,64,65]
(.cond (.t 66) .skip
 (.exit 4)))
(.block 5 (.scope (sr [
mq 67 0,
mq 68 11,
tq 69 (.idxAddr 1 (.t 67) (.t 68)),
ld 70 69,
tq 71 (cl zfk [.t 70]),
mq 12 71] [67,68,69,70,71]
(.seq (.reg true [
mq 72 0,
mq 73 11,
tq 74 (.idxAddr 1 (.t 72) (.t 73)),
ld 75 74,
mq 76 0,
mq 77 11,
tq 78 (.idxAddr 1 (.t 76) (.t 77)),
ld 79 78,
mq 80 7,
mq 81 12,
tq 82 (.lookup .int (.int .i64 0) false (.t 80) (.t 81)),
tq 83 (.build [.z (.int .i64 0),.z (.int .i64 0),.z (.int .i64 0)] [(0,1,.t 75),(1,1,.t 79),(2,1,.t 82)]),
tq 13 (.alloc zag [.z (.int .i64 0),.z (.int .i64 0),.z (.int .i64 0)]),
⟨none,none,.store 3 (.t 13) (.t 83)⟩] [72,73,74,75,76,77,78,79,80,81,82,83])
(sr [
mq 84 12,
mq 14 84] [84]
(.seq .label
(.seq (.block 6 (.loop [0,7,10,11,12,13,14] zyb))
(rg [
mq 125 10,
lq 126 3 13,
tq 127 (.mkList 3 1 [.t 126]),
tq 128 (.append ⟨false,zag,3,24⟩ (.t 125) (.t 127)),
mq 10 128] [13,125,126,127,128])))))))))
def z2d:CF:=⟨[.tmp 2,.tmp 3],
  (sr [
tq 2 (.mv (.k (.d (.list 0 [])))),
tq 3 (.mv (kq 0))] [2,3]
(.seq (sr [
mq 16 0,
tq 17 (.len .slc (.t 16)),
tq 18 (.bin .gtr (.t 17) (kq 512))] [16,17]
(.cond (.t 18) (sr [
tq 2 (.mv (.k (.d (.list 0 [])))),
tq 3 (.mv (kq 5))] []
.ret)
 .skip))
(.seq (sr [
mq 19 0,
tq 20 (.len .slc (.t 19)),
tq 21 (.mv (kq 0))] []
(.block 0 (.loop [0,19,20,21] zx9)))
(sr [
tq 47 (.mkMap),
mq 7 47] [47]
(.seq (sr [
mq 48 0,
tq 49 (.len .slc (.t 48)),
tq 50 (.mv (kq 0))] []
(.block 2 (.loop [0,7,48,49,50] zya)))
(sr [
tq 10 (.ownNil ⟨false,zag,3,24⟩)] []
(.seq (sr [
tq 11 (.mv (kq 0))] []
(.block 4 (.loop [0,7,10,11] zyc)))
(sr [
mq 129 10,
tq 130 (.call false false (.k (.fn zbb [] [])) [.t 129]),
mq 2 130,
tq 3 (.mv (kq 0))] [10,129,130]
.ret))))))))⟩
def z2f:CF:=⟨[.tmp 6,.tmp 7],
  (sr [
tq 5 (.box zaj (.t 2)),
tq 6 (.mv (.k (.d (.bool false)))),
tq 7 (.mv (kq 0))] [2,6,7]
(.seq (.seq (.reg true [
mq 10 0,
mq 11 1,
tq 12 (cl zcl [.t 10,.t 11]),
lq 13 13 5,
tq 14 (cl zdk [.t 13]),
tq 15 (.mkList 1 2 [.t 12,.t 14]),
tq 16 (cl zak [.t 15]),
mq 8 16] [10,11,12,13,14,15,16])
(sr [
mq 17 8,
tq 18 (.bin .neq (.t 17) (kq 0))] [17]
(.cond (.t 18) (sr [
mq 19 8,
tq 6 (.mv (.k (.d (.bool false)))),
mq 7 19] [8,19]
.ret)
 .skip)))
(sr [
mq 20 0,
mq 21 1,
lq 22 13 5,
tq 23 (.call false false (.k (.fn zhp [] [])) [.t 20,.t 21,.t 22]),
mq 9 23] [0,1,20,21,22,23]
(sr [
mq 24 9,
fa 25 9 5,
ld 26 25,
tq 27 (.call true true (.k (.fn zga [] [])) [.t 24,.t 26]),
mq 6 27,
tq 7 (.mv (kq 0))] [5,9,24,25,26,27]
.ret))))⟩
def zpy:C:=
  (.seq (sr [
mq 8 3,
mq 9 0,
tq 10 (.len .slc (.t 9)),
tq 11 (.bin .lss (.t 8) (.t 10))] [8,9,10]
(.cond (.t 11) .skip
 (.exit 0)))
(.seq (.block 1 (.seq (sr [
mq 14 0,
mq 15 3,
tq 16 (.idxAddr 7 (.t 14) (.t 15)),
lq 17 7 16,
tq 18 (cl zhr [.t 17]),
mq 4 18] [14,15,16,17,18]
(sr [
mq 19 4,
tq 20 (.bin .neq (.t 19) (kq 0))] [19]
(.cond (.t 20) (sr [
mq 21 4,
mq 2 21] [4,21]
.ret)
 .skip)))
(.seq (.reg true [
mq 22 3,
tq 23 (.bin .gtr (.t 22) (kq 0)),
mq 24 23,
gq 25 24 true (.mv (.t 0)),
gq 26 24 true (.mv (.t 3)),
gq 27 24 true (.idxAddr 7 (.t 25) (.t 26)),
gq 28 24 true (.fieldAddr 0 (.t 27)),
gq 29 24 true (.load none (.t 28)),
gq 30 24 true (.mv (.t 0)),
gq 31 24 true (.mv (.t 3)),
gq 32 24 true (.bin .sub (.t 31) (kq 1)),
gq 33 24 true (.idxAddr 7 (.t 30) (.t 32)),
gq 34 24 true (.fieldAddr 0 (.t 33)),
gq 35 24 true (.load none (.t 34)),
gq 36 24 true (.bin .lss (.t 29) (.t 35)),
tq 37 (.pick (.t 24) (.t 36) (.k (.d (.bool false))))] [22,23,24,25,26,27,28,29,30,31,32,33,34,35,36])
(.cond (.t 37) (sr [
tq 2 (.mv (kq 11))] []
.ret)
 .skip))))
(rg [
mq 12 3,
tq 13 (.bin .add (.t 12) (kq 1)),
mq 3 13] [12,13])))
def zr5:CF:=⟨[.tmp 2],
  (sr [
tq 2 (.mv (kq 0))] [2]
(.seq (sr [
mq 5 0,
tq 6 (.len .slc (.t 5)),
tq 7 (.bin .gtr (.t 6) (kq 30000))] [5,6]
(.cond (.t 7) (sr [
tq 2 (.mv (kq 5))] []
.ret)
 .skip))
(.seq (sr [
tq 3 (.mv (kq 0))] []
(.block 0 (.loop [0,3] zpy)))
(sr [
tq 2 (.mv (kq 0))] []
.ret))))⟩
def zqt:C:=
  (.seq (sr [
mq 11 5,
mq 12 0,
tq 13 (.len .slc (.t 12)),
tq 14 (.bin .lss (.t 11) (.t 13))] [11,12,13]
(.cond (.t 14) .skip
 (.exit 0)))
(.seq (.block 1 (.seq (.reg true [
mq 17 0,
mq 18 5,
tq 19 (.idxAddr 7 (.t 17) (.t 18)),
lq 20 7 19,
mq 21 1,
mq 22 5,
tq 23 (.idxAddr 7 (.t 21) (.t 22)),
lq 24 7 23,
tq 25 (.eqv (some [.int,.str,.str,.int,.int,.int,.str]) true (.t 20) (.t 24))] [17,18,19,20,21,22,23,24])
(.cond (.t 25) (sr [
tq 4 (.mv (.k (.d (.bool false))))] []
.ret)
 .skip)))
(rg [
mq 15 5,
tq 16 (.bin .add (.t 15) (kq 1)),
mq 5 16] [15,16])))
def zsu:CF:=⟨[.tmp 4],
  (sr [
tq 4 (.mv (.k (.d (.bool false))))] [4]
(.seq (sr [
mq 6 0,
tq 7 (.len .slc (.t 6)),
mq 8 1,
tq 9 (.len .slc (.t 8)),
tq 10 (.bin .neq (.t 7) (.t 9))] [6,7,8,9]
(.cond (.t 10) (sr [
tq 4 (.mv (.k (.d (.bool false))))] []
.ret)
 .skip))
(.seq (sr [
tq 5 (.mv (kq 0))] []
(.block 0 (.loop [0,1,5] zqt)))
(sr [
tq 4 (.mv (.k (.d (.bool true))))] []
.ret))))⟩
def z13:C:=
  (.seq (.seq (.reg true [
mq 22 8,
tq 23 (.bin .gtr (.t 22) (kq 0)),
mq 24 23,
gq 25 24 true (.mv (.t 5)),
gq 26 24 true (.mv (.t 7)),
gq 27 24 true (.idxAddr 7 (.t 25) (.t 26)),
gq 28 24 true (.load (some 7) (.t 27)),
gq 29 24 true (.mv (.t 6)),
gq 30 24 true (.mv (.t 8)),
gq 31 24 true (.bin .sub (.t 30) (kq 1)),
gq 32 24 true (.idxAddr 7 (.t 29) (.t 31)),
gq 33 24 true (.load (some 7) (.t 32)),
gq 34 24 true (cl zpl [.t 28,.t 33]),
tq 35 (.pick (.t 24) (.t 34) (.k (.d (.bool false))))] [22,23,24,25,26,27,28,29,30,31,32,33,34])
(.cond (.t 35) .skip
 (.exit 2)))
(.block 3 (rg [
mq 36 8,
tq 37 (.bin .sub (.t 36) (kq 1)),
mq 8 37] [36,37])))
def z14:C:=
  (.seq (sr [
mq 14 7,
mq 15 5,
tq 16 (.len .slc (.t 15)),
tq 17 (.bin .lss (.t 14) (.t 16))] [14,15,16]
(.cond (.t 17) .skip
 (.exit 0)))
(.seq (.block 1 (sr [
mq 20 6,
tq 21 (.len .slc (.t 20)),
mq 8 21] [20,21]
(.seq (.block 2 (.loop [5,6,7,8] z13))
(.regC [
tq 38 (.mkRow ⟨false,zaa,7,80⟩ 0 []),
mq 39 6,
mq 40 8,
tq 41 (.slice 7 (.t 39) none (some (.t 40)) none),
tq 42 (.append ⟨false,zaa,7,80⟩ (.t 38) (.t 41)),
mq 43 5,
mq 44 7,
tq 45 (.idxAddr 7 (.t 43) (.t 44)),
lq 46 7 45,
tq 47 (.mkListD 7 1 [.t 46]),
tq 48 (.append ⟨false,zaa,7,80⟩ (.t 42) (.t 47)),
mq 49 6,
mq 50 8,
tq 51 (.slice 7 (.t 49) (some (.t 50)) none none),
tq 52 (.append ⟨false,zaa,7,80⟩ (.t 48) (.t 51)),
mq 6 52] [8,38,39,40,41,42,43,44,45,46,47,48,49,50,51,52] [(43,42),(45,42),(49,42),(49,48)]))))
(rg [
mq 18 7,
tq 19 (.bin .add (.t 18) (kq 1)),
mq 7 19] [18,19])))
def z6w:CF:=⟨[.tmp 4],
  (sr [
tq 4 (.ownNil ⟨false,zaa,7,80⟩)] [4]
(sr [
tq 9 (.mkRow ⟨false,zaa,7,80⟩ 0 []),
mq 10 0,
tq 11 (.append ⟨false,zaa,7,80⟩ (.t 9) (.t 10)),
mq 12 1,
tq 13 (.append ⟨false,zaa,7,80⟩ (.t 11) (.t 12)),
mq 5 13] [0,1,9,10,11,12,13]
(sr [
tq 6 (.ownNil ⟨false,zaa,7,80⟩)] []
(.seq (sr [
tq 7 (.mv (kq 0))] []
(.block 0 (.loop [5,6,7] z14)))
(sr [
mq 53 6,
mq 4 53] [6,53]
.ret)))))⟩
def zsg:C:=
  (.seq (sr [
mq 21 6,
mq 22 0,
tq 23 (.len .slc (.t 22)),
tq 24 (.bin .lss (.t 21) (.t 23))] [21,22,23]
(.cond (.t 24) .skip
 (.exit 0)))
(.seq (.block 1 (.seq (sr [
mq 27 0,
mq 28 6,
tq 29 (.idxAddr 11 (.t 27) (.t 28)),
fa 30 0 29,
ld 31 30,
tq 32 (.len .str (.t 31)),
tq 33 (.bin .gtr (.t 32) (kq 40)),
mq 34 33,
gq 35 34 false (.mv (.t 0)),
gq 36 34 false (.mv (.t 6)),
gq 37 34 false (.idxAddr 11 (.t 35) (.t 36)),
gq 38 34 false (.fieldAddr 1 (.t 37)),
gq 39 34 false (.load none (.t 38)),
gq 40 34 false (.len .str (.t 39)),
gq 41 34 false (.bin .gtr (.t 40) (kq 40)),
tq 42 (.pick (.t 34) (.k (.d (.bool true))) (.t 41)),
mq 43 42,
gq 44 43 false (.mv (.t 0)),
gq 45 43 false (.mv (.t 6)),
gq 46 43 false (.idxAddr 11 (.t 44) (.t 45)),
gq 47 43 false (.fieldAddr 2 (.t 46)),
gq 48 43 false (.load none (.t 47)),
gq 49 43 false (.len .str (.t 48)),
gq 50 43 false (.bin .gtr (.t 49) (kq 40)),
tq 51 (.pick (.t 43) (.k (.d (.bool true))) (.t 50)),
mq 52 51,
gq 53 52 false (.mv (.t 0)),
gq 54 52 false (.mv (.t 6)),
gq 55 52 false (.idxAddr 11 (.t 53) (.t 54)),
gq 56 52 false (.fieldAddr 7 (.t 55)),
gq 57 52 false (.load (some 3) (.t 56)),
gq 58 52 false (cl zrf [.t 57,kq 24]),
gq 59 52 false (.un .not (.t 58)),
tq 60 (.pick (.t 52) (.k (.d (.bool true))) (.t 59))] [27,28,29,30,31,32,33,34,35,36,37,38,39,40,41,42,43,44,45,46,47,48,49,50,51,52,53,54,55,56,57,58,59]
(.cond (.t 60) (sr [
tq 4 (.mv (.k (.d (.bool false))))] []
.ret)
 .skip))
(sr [
mq 61 0,
mq 62 6,
tq 63 (.idxAddr 11 (.t 61) (.t 62)),
lq 64 11 63,
tq 65 (cl zg9 [.t 64]),
tq 66 (.bin .eql (.t 65) (kq 0))] [61,62,63,64,65]
(.cond (.t 66) (.reg true [
mq 67 5,
mq 68 0,
mq 69 6,
tq 70 (.idxAddr 11 (.t 68) (.t 69)),
lq 71 11 70,
tq 72 (cl zpm [.t 71]),
mq 73 0,
mq 74 6,
tq 75 (.idxAddr 11 (.t 73) (.t 74)),
fa 76 7 75,
lq 77 3 76,
tq 78 (cl zk7 [.t 77]),
tq 79 (.len .slc (.t 78)),
tq 80 (.bin .mul (.t 72) (.t 79)),
tq 81 (.bin .add (.t 67) (.t 80)),
mq 5 81] [67,68,69,70,71,72,73,74,75,76,77,78,79,80,81])
 .skip))))
(rg [
mq 25 6,
tq 26 (.bin .add (.t 25) (kq 1)),
mq 6 26] [25,26])))
def zve:CF:=⟨[.tmp 4],
  (sr [
tq 4 (.mv (.k (.d (.bool false))))] [4]
(.seq (sr [
mq 7 0,
tq 8 (.len .slc (.t 7)),
mq 9 1,
tq 10 (.bin .gtr (.t 8) (.t 9)),
mq 11 10,
gq 12 11 true (.mv (.t 0)),
gq 13 11 true (.len .slc (.t 12)),
gq 14 11 true (.bin .leq (.t 13) (kq 32)),
tq 15 (.pick (.t 11) (.t 14) (.k (.d (.bool false)))),
mq 16 15,
gq 17 16 false (.mv (.t 0)),
gq 18 16 false (.len .slc (.t 17)),
gq 19 16 false (.bin .gtr (.t 18) (kq 34)),
tq 20 (.pick (.t 16) (.k (.d (.bool true))) (.t 19))] [1,7,8,9,10,11,12,13,14,15,16,17,18,19]
(.cond (.t 20) (sr [
tq 4 (.mv (.k (.d (.bool false))))] []
.ret)
 .skip))
(sr [
tq 5 (.mv (kq 0))] []
(.seq (sr [
tq 6 (.mv (kq 0))] []
(.block 0 (.loop [0,5,6] zsg)))
(sr [
mq 82 5,
tq 83 (.bin .leq (.t 82) (kq 400)),
mq 4 83] [5,82,83]
.ret)))))⟩
def zsf:C:=
  (.seq (sr [
mq 8 3,
mq 9 0,
tq 10 (.len .slc (.t 9)),
tq 11 (.bin .lss (.t 8) (.t 10))] [8,9,10]
(.cond (.t 11) .skip
 (.exit 0)))
(.seq (.block 1 (.seq (sr [
mq 14 0,
mq 15 3,
tq 16 (.idxAddr 11 (.t 14) (.t 15)),
lq 17 11 16,
tq 18 (cl zg9 [.t 17]),
mq 4 18] [14,15,16,17,18]
(sr [
mq 19 4,
tq 20 (.bin .neq (.t 19) (kq 0))] [19]
(.cond (.t 20) (sr [
mq 21 4,
mq 2 21] [4,21]
.ret)
 .skip)))
(.seq (.reg true [
mq 22 0,
mq 23 3,
tq 24 (.slice 11 (.t 22) none (some (.t 23)) none),
mq 25 0,
mq 26 3,
tq 27 (.idxAddr 11 (.t 25) (.t 26)),
fa 28 0 27,
ld 29 28,
tq 30 (cl znh [.t 24,.t 29]),
tq 31 (.bin .geq (.t 30) (kq 0))] [22,23,24,25,26,27,28,29,30])
(.cond (.t 31) (sr [
tq 2 (.mv (kq 9))] []
.ret)
 .skip))))
(rg [
mq 12 3,
tq 13 (.bin .add (.t 12) (kq 1)),
mq 3 13] [12,13])))
def zvd:CF:=⟨[.tmp 2],
  (sr [
tq 2 (.mv (kq 0))] [2]
(.seq (sr [
mq 5 0,
tq 6 (.len .slc (.t 5)),
tq 7 (.bin .gtr (.t 6) (kq 32))] [5,6]
(.cond (.t 7) (sr [
tq 2 (.mv (kq 5))] []
.ret)
 .skip))
(.seq (sr [
tq 3 (.mv (kq 0))] []
(.block 0 (.loop [0,3] zsf)))
(sr [
tq 2 (.mv (kq 0))] []
.ret))))⟩
def zpz:C:=
  (.seq (sr [
mq 20 5,
mq 21 0,
tq 22 (.len .slc (.t 21)),
tq 23 (.bin .lss (.t 20) (.t 22))] [20,21,22]
(.cond (.t 23) .skip
 (.exit 0)))
(.seq (.block 1 (sr [
mq 26 0,
mq 27 5,
tq 28 (.idxAddr 7 (.t 26) (.t 27)),
lq 29 7 28,
tq 30 (cl zhs [.t 29]),
tq 31 (.un .not (.t 30))] [26,27,28,29,30]
(.cond (.t 31) (sr [
tq 4 (.mv (.k (.d (.bool false))))] []
.ret)
 .skip)))
(rg [
mq 24 5,
tq 25 (.bin .add (.t 24) (kq 1)),
mq 5 25] [24,25])))
def zr6:CF:=⟨[.tmp 4],
  (sr [
tq 4 (.mv (.k (.d (.bool false))))] [4]
(.seq (sr [
mq 6 0,
tq 7 (.len .slc (.t 6)),
mq 8 1,
tq 9 (.bin .gtr (.t 7) (.t 8)),
mq 10 9,
gq 11 10 true (.mv (.t 0)),
gq 12 10 true (.len .slc (.t 11)),
gq 13 10 true (.bin .leq (.t 12) (kq 30000)),
tq 14 (.pick (.t 10) (.t 13) (.k (.d (.bool false)))),
mq 15 14,
gq 16 15 false (.mv (.t 0)),
gq 17 15 false (.len .slc (.t 16)),
gq 18 15 false (.bin .gtr (.t 17) (kq 30002)),
tq 19 (.pick (.t 15) (.k (.d (.bool true))) (.t 18))] [1,6,7,8,9,10,11,12,13,14,15,16,17,18]
(.cond (.t 19) (sr [
tq 4 (.mv (.k (.d (.bool false))))] []
.ret)
 .skip))
(.seq (sr [
tq 5 (.mv (kq 0))] []
(.block 0 (.loop [0,5] zpz)))
(sr [
tq 4 (.mv (.k (.d (.bool true))))] []
.ret))))⟩
def ya7:CF:=⟨[.tmp 4],
  (sr [
tq 2 (.box zag (.t 0)),
tq 4 (.mv (.k (.d (.bool false))))] [0,4]
(sr [
lq 5 3 2,
tq 6 (cl zd3 [.t 5]),
tq 7 (.bin .neq (.t 6) (kq 0)),
mq 8 7,
gq 9 8 false (.fieldAddr 1 (.t 2)),
gq 10 8 false (.load none (.t 9)),
gq 11 8 false (.fieldAddr 0 (.t 2)),
gq 12 8 false (.load none (.t 11)),
gq 13 8 false (.bin .sub (.t 10) (.t 12)),
gq 14 8 false (.mv (.t 1)),
gq 15 8 false (.bin .lss (.t 13) (.t 14)),
tq 16 (.pick (.t 8) (.k (.d (.bool true))) (.t 15)),
mq 4 16] [1,2,5,6,7,8,9,10,11,12,13,14,15,16]
.ret))⟩
def z0c:C:=
  (.seq (sr [
mq 14 3,
mq 15 0,
tq 16 (.len .str (.t 15)),
tq 17 (.bin .lss (.t 14) (.t 16))] [14,15,16]
(.cond (.t 17) .skip
 (.exit 0)))
(.seq (.block 1 (sr [
mq 20 0,
mq 21 3,
tq 22 (.idxS (.t 20) (.t 21)),
mq 4 22] [20,21,22]
(sr [
mq 23 4,
tq 24 (.bin .geq (.t 23) (.k (.d (.int .u8 97)))),
mq 25 24,
gq 26 25 true (.mv (.t 4)),
gq 27 25 true (.bin .leq (.t 26) (.k (.d (.int .u8 122)))),
tq 28 (.pick (.t 25) (.t 27) (.k (.d (.bool false)))),
mq 29 28,
gq 30 29 false (.mv (.t 4)),
gq 31 29 false (.bin .geq (.t 30) (.k (.d (.int .u8 65)))),
gq 32 29 false (.mv (.t 31)),
gq 33 32 true (.mv (.t 4)),
gq 34 32 true (.bin .leq (.t 33) (.k (.d (.int .u8 90)))),
gq 35 29 false (.pick (.t 32) (.t 34) (.k (.d (.bool false)))),
tq 36 (.pick (.t 29) (.k (.d (.bool true))) (.t 35)),
mq 5 36] [23,24,25,26,27,28,29,30,31,32,33,34,35,36]
(sr [
mq 37 5,
tq 38 (.un .not (.t 37)),
mq 39 38,
gq 40 39 true (.mv (.t 3)),
gq 41 39 true (.bin .eql (.t 40) (kq 0)),
gq 42 39 true (.mv (.t 41)),
gq 43 42 false (.mv (.t 4)),
gq 44 42 false (.bin .neq (.t 43) (.k (.d (.int .u8 95)))),
gq 45 42 false (.mv (.t 44)),
gq 46 45 true (.mv (.t 4)),
gq 47 45 true (.bin .lss (.t 46) (.k (.d (.int .u8 48)))),
gq 48 45 true (.mv (.t 47)),
gq 49 48 false (.mv (.t 4)),
gq 50 48 false (.bin .gtr (.t 49) (.k (.d (.int .u8 57)))),
gq 51 45 true (.pick (.t 48) (.k (.d (.bool true))) (.t 50)),
gq 52 42 false (.pick (.t 45) (.t 51) (.k (.d (.bool false)))),
gq 53 39 true (.pick (.t 42) (.k (.d (.bool true))) (.t 52)),
tq 54 (.pick (.t 39) (.t 53) (.k (.d (.bool false))))] [4,5,37,38,39,40,41,42,43,44,45,46,47,48,49,50,51,52,53]
(.cond (.t 54) (sr [
tq 2 (.mv (.k (.d (.bool false))))] []
.ret)
 .skip)))))
(rg [
mq 18 3,
tq 19 (.bin .add (.t 18) (kq 1)),
mq 3 19] [18,19])))
def z4n:CF:=⟨[.tmp 2],
  (sr [
tq 2 (.mv (.k (.d (.bool false))))] [2]
(.seq (sr [
mq 6 0,
tq 7 (.len .str (.t 6)),
tq 8 (.bin .eql (.t 7) (kq 0)),
mq 9 8,
gq 10 9 false (.mv (.t 0)),
gq 11 9 false (.len .str (.t 10)),
gq 12 9 false (.bin .gtr (.t 11) (kq 24)),
tq 13 (.pick (.t 9) (.k (.d (.bool true))) (.t 12))] [6,7,8,9,10,11,12]
(.cond (.t 13) (sr [
tq 2 (.mv (.k (.d (.bool false))))] []
.ret)
 .skip))
(.seq (sr [
tq 3 (.mv (kq 0))] []
(.block 0 (.loop [0,3] z0c)))
(sr [
tq 2 (.mv (.k (.d (.bool true))))] []
.ret))))⟩
def zw2:CF:=⟨[.tmp 2],
  (sr [
tq 2 (.mv (.k (.d (.bool false))))] [2]
(sr [
mq 3 0,
tq 4 (.bin .eql (.t 3) (.k (.d (.str [])))),
mq 5 4,
gq 6 5 false (.mv (.t 0)),
gq 7 5 false (cl zgv [.t 6]),
tq 8 (.pick (.t 5) (.k (.d (.bool true))) (.t 7)),
mq 2 8] [0,3,4,5,6,7,8]
.ret))⟩
def zvc:CF:=⟨[.tmp 2],
  (sr [
tq 1 (.box zag (.t 0)),
tq 2 (.mv (kq 0))] [0,2]
(.seq (sr [
fa 3 0 1,
ld 4 3,
tq 5 (cl zi2 [.t 4]),
tq 6 (.bin .neq (.t 5) (kq 0)),
mq 7 6,
gq 8 7 false (.fieldAddr 1 (.t 1)),
gq 9 7 false (.load none (.t 8)),
gq 10 7 false (cl zi2 [.t 9]),
gq 11 7 false (.bin .neq (.t 10) (kq 0)),
tq 12 (.pick (.t 7) (.k (.d (.bool true))) (.t 11))] [3,4,5,6,7,8,9,10,11]
(.cond (.t 12) (sr [
tq 2 (.mv (kq 3))] []
.ret)
 .skip))
(.seq (sr [
fa 13 1 1,
ld 14 13,
fa 15 0 1,
ld 16 15,
tq 17 (.bin .lss (.t 14) (.t 16))] [13,14,15,16]
(.cond (.t 17) (sr [
tq 2 (.mv (kq 11))] []
.ret)
 .skip))
(.seq (sr [
fa 18 1 1,
ld 19 18,
fa 20 0 1,
ld 21 20,
tq 22 (.bin .sub (.t 19) (.t 21)),
tq 23 (.bin .gtr (.t 22) (kq 400))] [18,19,20,21,22]
(.cond (.t 23) (sr [
tq 2 (.mv (kq 4))] []
.ret)
 .skip))
(sr [
fa 24 2 1,
ld 25 24,
tq 26 (cl zg8 [.t 25,kq 1,kq 127]),
mq 2 26] [1,24,25,26]
.ret)))))⟩
def z2s:CF:=⟨[.tmp 6],
  (sr [
tq 6 (.mv (.k (.d (.bool false))))] [6]
(sr [
mq 7 0,
mq 8 1,
tq 9 (.bin .lss (.t 7) (.t 8)),
mq 10 9,
gq 11 10 false (.mv (.t 0)),
gq 12 10 false (.mv (.t 2)),
gq 13 10 false (.bin .gtr (.t 11) (.t 12)),
tq 14 (.pick (.t 10) (.k (.d (.bool true))) (.t 13)),
mq 6 14] [0,1,2,7,8,9,10,11,12,13,14]
.ret))⟩
def zw4:CF:=⟨[.cell 4 (some 13)],
  (sr [
tq 4 (.alloc zaj [.z (.str []),.z (.str []),.z (.str []),.z (.str []),.z (.str []),.z (.str []),.z (.int .i64 0),.z (.int .i64 0),.z (.int .i64 0),.z (.int .i64 0),.z (.int .i64 0),.z (.int .i64 0),.z (.int .i64 0)])] []
(sr [
mq 5 0,
tq 6 (.build [.z (.int .i64 0),.z (.int .i64 0),.z (.int .i64 0)] [(0,1,kq 2),(1,1,kq 3),(2,1,kq 127)]),
mq 7 1,
tq 8 (.build [.z (.str []),.z (.str []),.z (.str []),.z (.str []),.z (.str []),.z (.str []),.z (.int .i64 0),.z (.int .i64 0),.z (.int .i64 0),.z (.int .i64 0),.z (.int .i64 0),.z (.int .i64 0),.z (.int .i64 0)] [(0,1,.t 5),(1,1,.k (.d (.str [99]))),(2,1,.k (.d (.str [65]))),(4,1,.k (.d (.str [102,97,114]))),(6,3,.t 6),(9,1,kq 610),(10,1,.t 7),(11,1,kq 3)]),
⟨none,none,.store 13 (.t 4) (.t 8)⟩] [0,1,5,6,7,8]
.ret))⟩
def z2n:CF:=⟨[.tmp 6,.tmp 7],
  (sr [
tq 3 (.box zbf (.t 0)),
tq 6 (.mv (.k (.d (.list 0 [])))),
tq 7 (.mv (kq 0))] [0,6,7]
(.seq (sr [
lq 9 4 3,
mq 10 1,
mq 11 2,
tq 12 (cl zka [.t 9,.t 10,.t 11]),
mq 8 12] [9,10,11,12]
(sr [
mq 13 8,
tq 14 (.bin .neq (.t 13) (kq 0))] [13]
(.cond (.t 14) (sr [
mq 15 8,
tq 6 (.mv (.k (.d (.list 0 [])))),
mq 7 15] [8,15]
.ret)
 .skip)))
(sr [
lq 16 4 3,
mq 17 1,
mq 18 2,
tq 19 (cl zqk [.t 16,.t 17,.t 18]),
tq 20 (cl zjl [.t 19]),
mq 6 20,
tq 7 (.mv (kq 0))] [1,2,3,16,17,18,19,20]
.ret)))⟩
def zwo:CF:=⟨[.cell 0 (some 4)],
  (sr [
tq 0 (.alloc zbf [.z (.list 0 []),.z (.int .i64 0),.z (.int .i64 0),.z (.int .i64 0)])] []
(sr [
tq 4 (.build [.z (.str []),.z (.bool false)] [(0,1,.k (.d (.str [100,97,121,115]))),(1,1,.k (.d (.bool true)))]),
tq 5 (.build [.z (.str []),.z (.bool false)] [(0,1,.k (.d (.str [115,101,97,116,115]))),(1,1,.k (.d (.bool true)))]),
tq 6 (.build [.z (.str []),.z (.bool false)] [(0,1,.k (.d (.str [100,105,115,116,97,110,99,101]))),(1,1,.k (.d (.bool true)))]),
tq 1 (.alloc zc1 [.z (.str []),.z (.bool false)]),
tq 2 (.alloc zc1 [.z (.str []),.z (.bool false)]),
tq 3 (.alloc zc1 [.z (.str []),.z (.bool false)]),
⟨none,none,.store 2 (.t 1) (.t 4)⟩,
⟨none,none,.store 2 (.t 2) (.t 5)⟩,
⟨none,none,.store 2 (.t 3) (.t 6)⟩] [4,5,6]
(sr [
tq 7 (.build [.z (.str []),.z (.str []),.z (.int .i64 0)] [(0,1,.k (.d (.str [104,105,115,116,111,114,105,99]))),(1,1,.k (.d (.str [61]))),(2,1,kq 1)]),
tq 8 (.build [.z (.str []),.z (.str []),.z (.int .i64 0)] [(0,1,.k (.d (.str [114,101,116,105,109,101,100]))),(1,1,.k (.d (.str [61]))),(2,1,kq 0)]),
tq 9 (.mkList 3 2 [.t 7,.t 8]),
lq 10 2 1,
lq 11 2 2,
tq 12 (.mkList 2 2 [.t 10,.t 11]),
tq 13 (.build [.z (.str []),.z (.list 0 []),.z (.list 0 [])] [(0,1,.k (.d (.str [104,105,115,116,111,114,105,99]))),(1,1,.t 9),(2,1,.t 12)]),
tq 14 (.build [.z (.str []),.z (.str []),.z (.int .i64 0)] [(0,1,.k (.d (.str [104,105,115,116,111,114,105,99]))),(1,1,.k (.d (.str [61]))),(2,1,kq 1)]),
tq 15 (.mkList 3 1 [.t 14]),
lq 16 2 1,
lq 17 2 2,
tq 18 (.mkList 2 2 [.t 16,.t 17]),
tq 19 (.build [.z (.str []),.z (.list 0 []),.z (.list 0 [])] [(0,1,.k (.d (.str [114,101,116,105,109,101,100]))),(1,1,.t 15),(2,1,.t 18)]),
tq 20 (.build [.z (.str []),.z (.str []),.z (.int .i64 0)] [(0,1,.k (.d (.str [121,101,97,114,114,111,117,110,100]))),(1,1,.k (.d (.str [61]))),(2,1,kq 1)]),
tq 21 (.mkList 3 1 [.t 20]),
lq 22 2 1,
lq 23 2 2,
lq 24 2 3,
tq 25 (.mkList 2 3 [.t 22,.t 23,.t 24]),
tq 26 (.build [.z (.str []),.z (.list 0 []),.z (.list 0 [])] [(0,1,.k (.d (.str [121,101,97,114,114,111,117,110,100]))),(1,1,.t 21),(2,1,.t 25)]),
lq 27 2 1,
lq 28 2 2,
lq 29 2 3,
tq 30 (.mkList 2 3 [.t 27,.t 28,.t 29]),
tq 31 (.build [.z (.str []),.z (.list 0 []),.z (.list 0 [])] [(0,1,.k (.d (.str [111,116,104,101,114,115]))),(1,1,.k (.d (.list 0 []))),(2,1,.t 30)]),
tq 32 (.mkList 3 4 [.t 13,.t 19,.t 26,.t 31]),
tq 33 (.build [.z (.list 0 []),.z (.int .i64 0),.z (.int .i64 0),.z (.int .i64 0)] [(0,1,.t 32),(1,1,kq 2),(2,1,kq 2),(3,1,kq 1)]),
⟨none,none,.store 4 (.t 0) (.t 33)⟩] [1,2,3,7,8,9,10,11,12,13,14,15,16,17,18,19,20,21,22,23,24,25,26,27,28,29,30,31,32,33]
.ret)))⟩
def zv0:C:=
  (rg [
tq 10 (.alloc zdb [.z (.int .i64 0),.z (.int .i64 0)]),
⟨none,none,.store 2 (.t 10) (.t 30)⟩] [30])
def zv1:C:=
  (sr [
tq 36 (.bin .lss (.t 35) (.t 34))] []
(.seq (.cond (.t 36) .skip
 (.exit 2))
(.seq (.block 3 (sr [
tq 37 (.idxAddr 2 (.t 33) (.t 35)),
lq 38 2 37,
tq 12 (.alloc zai [.z (.int .i64 0),.z (.int .i64 0)]),
⟨none,none,.store 2 (.t 12) (.t 38)⟩] [37,38]
(.seq (.reg true [
ld 39 9,
lq 40 2 10,
ld 41 3,
lq 42 2 12,
tq 43 (cl ze3 [.t 40,.t 41,.t 42]),
tq 44 (.call true true (.t 39) [.t 43]),
tq 45 (.len .slc (.t 44)),
tq 46 (.bin .eql (.t 45) (kq 0))] [39,40,41,42,43,44,45])
(.cond (.t 46) (sr [
lq 47 2 10,
ld 48 7,
lq 49 2 12,
tq 50 (.call true true (.k (.fn znb [] [])) [.t 47,.t 48,.t 49])] [7,47,48,49,50]
(sr [
ld 51 8,
ld 52 3,
lq 53 2 10,
lq 54 2 12,
tq 55 (.call true true (.k (.fn zlg [] [])) [.t 51,.t 52,.t 53,.t 54,kq 1])] [3,8,10,12,51,52,53,54,55]
(.exit 2)))
 .skip))))
(rg [
tq 56 (.bin .add (.t 35) (kq 1)),
mq 35 56] [56]))))
def zv2:C:=
  (.block 1 (.scope (.seq .label
(sr [
lq 31 2 10,
ld 32 3,
tq 33 (cl zjy [.t 31,.t 32]),
tq 34 (.len .slc (.t 33)),
tq 35 (.mv (kq 0))] [31,32]
(.block 2 (.loop [3,7,8,9,10,33,34,35] zv1))))))
def z0d:CF:=⟨[.tmp 4,.tmp 5],
  (sr [
tq 3 (.box zk6 (.t 1)),
tq 4 (.ownNil ⟨true,zb3,3,32⟩),
tq 5 (.mv (kq 0))] [1]
(.seq (.seq (.reg true [
mq 13 0,
tq 14 (cl zd5 [.t 13]),
ld 15 3,
tq 16 (cl zkp [.t 15]),
tq 17 (.mkList 1 2 [.t 14,.t 16]),
tq 18 (cl zgp [.t 17]),
mq 6 18] [13,14,15,16,17,18])
(sr [
mq 19 6,
tq 20 (.bin .neq (.t 19) (kq 0))] [19]
(.cond (.t 20) (sr [
mq 21 6,
tq 4 (.ownNil ⟨true,zb3,3,32⟩),
mq 5 21] [6,21]
.ret)
 .skip)))
(sr [
ld 22 3,
tq 23 (.call false false (.k (.fn zoc [] [])) [.t 22]),
tq 7 (.alloc zno [.own ⟨true,zb3,3,32⟩]),
⟨none,none,.store 1 (.t 7) (.t 23)⟩] [22,23]
(sr [
mq 24 0,
tq 25 (.call false false (.k (.fn zna [] [])) [.t 24]),
tq 8 (.alloc ztp [.z (.nilp)]),
⟨none,none,.store 1 (.t 8) (.t 25)⟩] [0,24,25]
(sr [
ld 26 8,
tq 27 (.mkFunc zio [.t 26] []),
tq 9 (.alloc zh7 [.z (.nilf)]),
⟨none,none,.store 1 (.t 9) (.t 27)⟩] [26,27]
(.seq (sr [
ld 28 3,
tq 29 (.call false false (.k (.fn zro [] [])) [.t 28])] [28]
(.block 0 (.rangeFn 59 (.t 29) [30] zv0 zv2)))
(sr [
ld 57 7,
mq 4 57,
tq 5 (.mv (kq 0))] [7,57]
.ret)))))))⟩
def z0x:CF:=⟨[.cell 0 (some 11)],
  (sr [
tq 0 (.alloc zab [.z (.str []),.z (.str []),.z (.str []),.z (.int .i64 0),.z (.int .i64 0),.z (.int .i64 0),.z (.int .i64 0),.z (.int .i64 0),.z (.int .i64 0),.z (.int .i64 0),.z (.int .i64 0)])] []
(sr [
tq 1 (.build [.z (.int .i64 0),.z (.int .i64 0),.z (.int .i64 0)] [(0,1,kq 2),(1,1,kq 3),(2,1,kq 127)]),
tq 2 (.build [.z (.str []),.z (.str []),.z (.str []),.z (.int .i64 0),.z (.int .i64 0),.z (.int .i64 0),.z (.int .i64 0),.z (.int .i64 0),.z (.int .i64 0),.z (.int .i64 0),.z (.int .i64 0)] [(0,1,.k (.d (.str [115,105,120]))),(1,1,.k (.d (.str [84]))),(3,1,kq 60),(4,1,kq 60),(5,1,kq 600),(6,1,kq 600),(7,3,.t 1),(10,1,kq 1)]),
⟨none,none,.store 11 (.t 0) (.t 2)⟩] [1,2]
.ret))⟩
def z2t:CF:=⟨[.cell 2 (some 18)],
  (sr [
tq 1 (.box zaj (.t 0)),
tq 2 (.alloc zaz [.z (.str []),.z (.str []),.z (.str []),.z (.str []),.z (.str []),.z (.str []),.z (.int .i64 0),.z (.int .i64 0),.z (.int .i64 0),.z (.int .i64 0),.z (.int .i64 0),.z (.int .i64 0),.z (.int .i64 0),.z (.int .i64 0),.z (.int .i64 0),.z (.int .i64 0),.z (.int .i64 0),.z (.int .i64 0)])] [0]
(sr [
lq 3 13 1,
fa 4 9 1,
ld 5 4,
tq 6 (.bin .sub (.t 5) (kq 20)),
tq 7 (.minmax true [kq 0,.t 6]),
fa 8 9 1,
ld 9 8,
tq 10 (.bin .add (.t 9) (kq 20)),
tq 11 (.minmax false [kq 1439,.t 10]),
tq 12 (.build [.z (.str []),.z (.str []),.z (.str []),.z (.str []),.z (.str []),.z (.str []),.z (.int .i64 0),.z (.int .i64 0),.z (.int .i64 0),.z (.int .i64 0),.z (.int .i64 0),.z (.int .i64 0),.z (.int .i64 0),.z (.int .i64 0),.z (.int .i64 0),.z (.int .i64 0),.z (.int .i64 0),.z (.int .i64 0)] [(0,13,.t 3),(13,1,.t 7),(14,1,.t 11),(15,1,kq 20)]),
⟨none,none,.store 18 (.t 2) (.t 12)⟩] [1,3,4,5,6,7,8,9,10,11,12]
.ret))⟩
def z0h:CF:=⟨[.tmp 2,.tmp 3],
  (sr [
tq 1 (.box zag (.t 0)),
tq 2 (.mv (kq 0)),
tq 3 (.mv (kq 0))] [0,2,3]
(sr [
lq 7 3 1,
tq 8 (cl zbs [.t 7]),
mq 6 8,
xq 9 6 0,
xq 10 6 1,
mq 4 9,
mq 5 10] [1,6,7,8,9,10]
(sr [
mq 11 4,
tq 12 (.len .slc (.t 11)),
mq 13 5,
mq 2 12,
mq 3 13] [4,5,11,12,13]
.ret)))⟩
def zsq:CF:=⟨[.tmp 2,.tmp 3],
  (sr [
tq 2 (.mv (.k (.d (.str [])))),
tq 3 (.mv (kq 0))] [2,3]
(.seq (sr [
mq 5 0,
tq 6 (cl zei [.t 5,kq 0,kq 1439]),
mq 4 6] [5,6]
(sr [
mq 7 4,
tq 8 (.bin .neq (.t 7) (kq 0))] [7]
(.cond (.t 8) (sr [
mq 9 4,
tq 2 (.mv (.k (.d (.str [])))),
mq 3 9] [4,9]
.ret)
 .skip)))
(sr [
mq 10 0,
tq 11 (.bin .quo (.t 10) (kq 60)),
tq 12 (cl zpj [.t 11,kq 2]),
mq 13 0,
tq 14 (.bin .rem (.t 13) (kq 60)),
tq 15 (cl zpj [.t 14,kq 2]),
tq 16 (.bin .add (.t 12) (.t 15)),
mq 2 16,
tq 3 (.mv (kq 0))] [0,10,11,12,13,14,15,16]
.ret)))⟩
def zyu:CF:=⟨[.tmp 4,.tmp 5],
  (sr [
tq 2 (.box zab (.t 0)),
tq 4 (.mv (.k (.d (.list 0 [])))),
tq 5 (.mv (kq 0))] [0,4,5]
(.seq (sr [
lq 7 11 2,
tq 8 (cl zd6 [.t 7]),
mq 9 1,
tq 10 (cl zat [.t 9,kq 0,kq 99999]),
tq 11 (.mkList 1 2 [.t 8,.t 10]),
tq 12 (cl zak [.t 11]),
mq 6 12] [7,8,9,10,11,12]
(sr [
mq 13 6,
tq 14 (.bin .neq (.t 13) (kq 0))] [13]
(.cond (.t 14) (sr [
mq 15 6,
tq 4 (.mv (.k (.d (.list 0 [])))),
mq 5 15] [6,15]
.ret)
 .skip)))
(.seq (sr [
lq 16 11 2,
mq 17 1,
tq 18 (cl zfb [.t 16,.t 17]),
tq 19 (.un .not (.t 18))] [16,17,18]
(.cond (.t 19) (sr [
tq 4 (.mv (.k (.d (.list 0 [])))),
tq 5 (.mv (kq 30))] []
.ret)
 .skip))
(sr [
lq 20 11 2,
mq 21 1,
tq 22 (.call false false (.k (.fn za0 [] [])) [.t 20,.t 21]),
tq 23 (.call true true (.k (.fn zl7 [] [])) [.t 22]),
mq 4 23,
tq 5 (.mv (kq 0))] [1,2,20,21,22,23]
.ret))))⟩
def zv9:C:=
  (.seq (sr [
mq 11 5,
mq 12 0,
tq 13 (.len .slc (.t 12)),
tq 14 (.bin .lss (.t 11) (.t 13))] [11,12,13]
(.cond (.t 14) .skip
 (.exit 0)))
(.seq (.block 1 (.seq (.reg true [
mq 17 0,
mq 18 5,
tq 19 (.idxAddr 1 (.t 17) (.t 18)),
ld 20 19,
mq 21 1,
mq 22 5,
tq 23 (.idxAddr 1 (.t 21) (.t 22)),
ld 24 23,
tq 25 (.bin .neq (.t 20) (.t 24))] [17,18,19,20,21,22,23,24])
(.cond (.t 25) (sr [
tq 4 (.mv (.k (.d (.bool false))))] []
.ret)
 .skip)))
(rg [
mq 15 5,
tq 16 (.bin .add (.t 15) (kq 1)),
mq 5 16] [15,16])))
def z0w:CF:=⟨[.tmp 4],
  (sr [
tq 4 (.mv (.k (.d (.bool false))))] [4]
(.seq (sr [
mq 6 0,
tq 7 (.len .slc (.t 6)),
mq 8 1,
tq 9 (.len .slc (.t 8)),
tq 10 (.bin .neq (.t 7) (.t 9))] [6,7,8,9]
(.cond (.t 10) (sr [
tq 4 (.mv (.k (.d (.bool false))))] []
.ret)
 .skip))
(.seq (sr [
tq 5 (.mv (kq 0))] []
(.block 0 (.loop [0,1,5] zv9)))
(sr [
tq 4 (.mv (.k (.d (.bool true))))] []
.ret))))⟩
def zry:CF:=⟨[.tmp 2],
  (sr [
tq 1 (.box zag (.t 0)),
tq 2 (.mv (kq 0))] [0,2]
(.seq (.seq (.reg true [
fa 4 0 1,
ld 5 4,
tq 6 (cl zcs [.t 5]),
fa 7 1 1,
ld 8 7,
tq 9 (cl zcs [.t 8]),
tq 10 (.mkList 1 2 [.t 6,.t 9]),
tq 11 (cl zbp [.t 10]),
mq 3 11] [4,5,6,7,8,9,10,11])
(sr [
mq 12 3,
tq 13 (.bin .neq (.t 12) (kq 0))] [12]
(.cond (.t 13) (sr [
mq 14 3,
mq 2 14] [3,14]
.ret)
 .skip)))
(.seq (.reg true [
fa 15 1 1,
ld 16 15,
fa 17 0 1,
ld 18 17,
tq 19 (.bin .lss (.t 16) (.t 18)),
tq 20 (cl zfl [.t 19,kq 11]),
fa 21 1 1,
ld 22 21,
fa 23 0 1,
ld 24 23,
tq 25 (.bin .sub (.t 22) (.t 24)),
tq 26 (.bin .gtr (.t 25) (kq 400)),
tq 27 (cl zfl [.t 26,kq 4]),
fa 28 2 1,
ld 29 28,
tq 30 (cl zds [.t 29,kq 1,kq 127]),
tq 31 (.mkList 1 3 [.t 20,.t 27,.t 30]),
tq 32 (cl zbp [.t 31]),
mq 2 32] [1,15,16,17,18,19,20,21,22,23,24,25,26,27,28,29,30,31,32])
.ret)))⟩
def zuf:CF:=⟨[.tmp 4],
  (sr [
tq 4 (.mv (kq 0))] [4]
(sr [
mq 5 0,
tq 6 (cl zd5 [.t 5]),
mq 7 1,
tq 8 (cl ze4 [.t 7]),
tq 9 (.mkList 1 2 [.t 6,.t 8]),
tq 10 (cl zak [.t 9]),
mq 4 10] [0,1,5,6,7,8,9,10]
.ret))⟩
def zu8:CF:=⟨[.tmp 4],
  (sr [
tq 2 (.box zot (.t 0)),
tq 3 (.box zl2 (.t 1)),
tq 4 (.mv (.k (.d (.nilf))))] [0,1,4]
(sr [
tq 5 (.mkFunc zc0 [] [.t 2,.t 3]),
mq 4 5] [2,3,5]
.ret))⟩
def zq1:CF:=⟨[.tmp 2],
  (sr [
tq 1 (.box zaj (.t 0)),
tq 2 (.mv (kq 0))] [0,2]
(.seq (.reg true [
fa 3 0 1,
ld 4 3,
tq 5 (cl za8 [.t 4]),
tq 6 (.un .not (.t 5)),
tq 7 (cl za1 [.t 6,kq 8]),
fa 8 2 1,
ld 9 8,
tq 10 (cl zh6 [.t 9]),
fa 11 3 1,
ld 12 11,
tq 13 (cl zd2 [.t 12]),
fa 14 6 1,
lq 15 3 14,
tq 16 (cl za5 [.t 15]),
fa 17 9 1,
ld 18 17,
tq 19 (cl zat [.t 18,kq 0,kq 1439]),
fa 20 10 1,
ld 21 20,
fa 22 11 1,
ld 23 22,
fa 24 12 1,
ld 25 24,
tq 26 (cl zj2 [.t 21,.t 23,.t 25]),
tq 27 (.mkList 1 6 [.t 7,.t 10,.t 13,.t 16,.t 19,.t 26]),
tq 28 (cl zak [.t 27]),
mq 2 28] [1,3,4,5,6,7,8,9,10,11,12,13,14,15,16,17,18,19,20,21,22,23,24,25,26,27,28])
.ret))⟩
def zrv:C:=
  (sr [
tq 17 (.bin .lss (.t 16) (.t 15))] []
(.seq (.cond (.t 17) .skip
 (.exit 0))
(.seq (.block 1 (sr [
tq 18 (.idxAddr 1 (.t 14) (.t 16)),
ld 19 18,
mq 7 19] [18,19]
(rg [
mq 20 5,
mq 21 7,
tq 22 (.bin .mul (kq 1440) (.t 21)),
fa 23 9 1,
ld 24 23,
tq 25 (.bin .add (.t 22) (.t 24)),
fa 26 2 1,
ld 27 26,
fa 28 3 1,
ld 29 28,
fa 30 10 1,
ld 31 30,
fa 32 11 1,
ld 33 32,
fa 34 12 1,
ld 35 34,
fa 36 0 1,
ld 37 36,
tq 38 (.build [.z (.int .i64 0),.z (.str []),.z (.str []),.z (.int .i64 0),.z (.int .i64 0),.z (.int .i64 0),.z (.str [])] [(0,1,.t 25),(1,1,.t 27),(2,1,.t 29),(3,1,.t 31),(4,1,.t 33),(5,1,.t 35),(6,1,.t 37)]),
tq 39 (.mkList 7 1 [.t 38]),
tq 40 (.append ⟨false,zaa,7,80⟩ (.t 20) (.t 39)),
mq 5 40] [7,20,21,22,23,24,25,26,27,28,29,30,31,32,33,34,35,36,37,38,39,40])))
(rg [
tq 41 (.bin .add (.t 16) (kq 1)),
mq 16 41] [41]))))
def zuh:CF:=⟨[.tmp 2],
  (sr [
tq 1 (.box zaj (.t 0)),
tq 2 (.ownNil ⟨false,zaa,7,80⟩)] [0,2]
(sr [
fa 9 6 1,
lq 10 3 9,
tq 11 (cl zbs [.t 10]),
mq 8 11,
xq 12 8 0,
xq 13 8 1,
mq 3 12,
mq 4 13] [4,8,9,10,11,12,13]
(sr [
tq 5 (.ownNil ⟨false,zaa,7,80⟩)] []
(.seq (sr [
mq 14 3,
tq 15 (.len .slc (.t 14)),
tq 16 (.mv (kq 0))] [3]
(.block 0 (.loop [1,5,14,15,16] zrv)))
(sr [
mq 42 5,
mq 2 42] [5,42]
.ret)))))⟩
def znr:C:=
  (rg [
mq 6 8] [8])
def zns:C:=
  (.block 1 (sr [
ld 9 3,
mq 10 6,
tq 11 (.call true true (.t 9) [.t 10])] [3,9,10]
(.cond (.t 11) (rg [
ld 12 5,
mq 13 6,
tq 14 (.mkList 1 1 [.t 13]),
tq 15 (.append ⟨false,za4,1,8⟩ (.t 12) (.t 14)),
⟨none,none,.store 1 (.t 5) (.t 15)⟩] [5,6,12,13,14,15])
 .skip)))
def zp0:CF:=⟨[.tmp 4],
  (sr [
tq 3 (.box zi4 (.t 1)),
tq 4 (.ownNil ⟨false,za4,1,8⟩)] [1]
(sr [
tq 5 (.alloc z8j [.own ⟨false,za4,1,8⟩])] []
(.seq (sr [
mq 7 0] [0]
(.block 0 (.rangeFn 18 (.t 7) [8] znr zns)))
(sr [
ld 16 5,
mq 4 16] [5,16]
.ret))))⟩
def zyq:CF:=⟨[.tmp 2],
  (sr [
tq 1 (.box zag (.t 0)),
tq 2 (.mv (.k (.d (.nilf))))] [0,2]
(sr [
tq 3 (.mkFunc zd1 [] [.t 1]),
mq 2 3] [1,3]
.ret))⟩
def zu4:CF:=⟨[.tmp 2],
  (sr [
tq 2 (.mv (.k (.d (.bool false))))] [2]
(sr [
tq 2 (.mv (.k (.d (.bool true))))] []
.ret))⟩
def zv4:C:=
  (sr [
tq 8 (.bin .lss (.t 7) (.t 6))] []
(.seq (.cond (.t 8) .skip
 (.exit 0))
(.seq (.block 1 (sr [
tq 9 (.idxAddr 1 (.t 5) (.t 7)),
ld 10 9,
mq 4 10] [9,10]
(sr [
mq 11 4,
tq 12 (.bin .neq (.t 11) (kq 0))] [11]
(.cond (.t 12) (sr [
mq 13 4,
mq 2 13] [4,13]
.ret)
 .skip))))
(rg [
tq 14 (.bin .add (.t 7) (kq 1)),
mq 7 14] [14]))))
def z0j:CF:=⟨[.tmp 2],
  (sr [
tq 2 (.mv (kq 0))] [2]
(.seq (sr [
mq 5 0,
tq 6 (.len .slc (.t 5)),
tq 7 (.mv (kq 0))] [0]
(.block 0 (.loop [5,6,7] zv4)))
(sr [
tq 2 (.mv (kq 0))] []
.ret)))⟩
def zu5:CF:=⟨[.tmp 2],
  (sr [
tq 2 (.mv (kq 0))] [2]
(sr [
mq 3 0,
tq 4 (cl zds [.t 3,kq 0,kq 99999]),
mq 2 4] [0,3,4]
.ret))⟩
def z2e:CF:=⟨[.tmp 4],
  (sr [
tq 4 (.mv (kq 0))] [4]
(.seq (sr [
mq 5 0] [0]
(.cond (.t 5) (sr [
mq 6 1,
mq 4 6] [1,6]
.ret)
 .skip))
(sr [
tq 4 (.mv (kq 0))] []
.ret)))⟩
def zys:CF:=⟨[.tmp 2],
  (sr [
tq 2 (.mv (kq 0))] [2]
(sr [
mq 3 0,
tq 4 (.bin .add (.t 3) (kq 5)),
tq 5 (.bin .quo (.t 4) (kq 7)),
mq 2 5] [0,3,4,5]
.ret))⟩
def zwi:CF:=⟨[.tmp 2],
  (sr [
tq 2 (.mv (kq 0))] [2]
(sr [
mq 3 0,
tq 4 (.bin .add (.t 3) (kq 5)),
tq 5 (.bin .rem (.t 4) (kq 7)),
mq 2 5] [0,3,4,5]
.ret))⟩
def zil:CF:=⟨[.tmp 2],
  (sr [
tq 2 (.mv (.k (.d (.list 0 []))))] [2]
(sr [
mq 3 0,
mq 4 0,
tq 5 (.len .slc (.t 4)),
mq 6 0,
tq 7 (.len .slc (.t 6)),
tq 8 (.sliceC 3 (.t 3) (.t 5) (.t 7)),
mq 2 8] [0,3,4,5,6,7,8]
.ret))⟩
def zv5:C:=
  (sr [
tq 8 (.bin .lss (.t 7) (.t 6))] []
(.seq (.cond (.t 8) .skip
 (.exit 0))
(.seq (.block 1 (sr [
tq 9 (.idxAddr 1 (.t 5) (.t 7)),
ld 10 9,
mq 4 10] [9,10]
(sr [
mq 11 4,
tq 12 (.bin .neq (.t 11) (kq 0))] [11]
(.cond (.t 12) (sr [
mq 13 4,
mq 2 13] [4,13]
.ret)
 .skip))))
(rg [
tq 14 (.bin .add (.t 7) (kq 1)),
mq 7 14] [14]))))
def z0k:CF:=⟨[.tmp 2],
  (sr [
tq 2 (.mv (kq 0))] [2]
(.seq (sr [
mq 5 0,
tq 6 (.len .slc (.t 5)),
tq 7 (.mv (kq 0))] [0]
(.block 0 (.loop [5,6,7] zv5)))
(sr [
tq 2 (.mv (kq 0))] []
.ret)))⟩
def zpu:C:=
  (rg [
mq 18 64] [64])
def zpv:C:=
  (.block 7 (sr [
mq 65 18,
fa 66 2 13,
ld 67 66,
tq 68 (.build [.z (.int .i64 0),.z (.int .i64 0),.z (.int .i64 0)] [(1,1,.t 65),(2,1,.t 67)]),
tq 19 (.alloc zbc [.z (.int .i64 0),.z (.int .i64 0),.z (.int .i64 0)]),
⟨none,none,.store 3 (.t 19) (.t 68)⟩] [65,66,67,68]
(.seq (sr [
lq 69 3 13,
lq 70 3 19,
tq 71 (.eqv (some [.int,.int,.int]) true (.t 69) (.t 70))] [69,70]
(.cond (.t 71) (sr [
ld 72 12,
mq 73 18,
fa 74 3 11,
ld 75 74,
tq 76 (cl zc6 [.t 72,.t 73,.t 75]),
fa 77 2 19,
⟨none,none,.store 1 (.t 77) (.t 76)⟩] [12,72,73,74,75,76,77]
(rg [
lq 78 3 19,
⟨none,none,.store 3 (.t 13) (.t 78)⟩] [13,78]))
 .skip))
(.seq (sr [
fa 79 2 19,
ld 80 79,
fa 81 10 11,
ld 82 81,
tq 83 (.bin .lss (.t 80) (.t 82))] [19,79,80,81,82]
(.cond (.t 83) (.exit 7)
 .skip))
(.seq (.reg true [
mq 84 18,
ld 85 15,
tq 86 (.bin .mul (kq 1440) (.t 85)),
tq 87 (.bin .sub (.t 84) (.t 86)),
tq 88 (.minmax true [kq 0,.t 87]),
mq 89 18,
fa 90 3 11,
ld 91 90,
tq 92 (.bin .add (.t 89) (.t 91)),
ld 93 15,
tq 94 (.bin .mul (kq 1440) (.t 93)),
tq 95 (.bin .sub (.t 92) (.t 94)),
tq 96 (.minmax false [kq 1440,.t 95]),
mq 20 88,
mq 21 96] [11,15,18,84,85,86,87,88,89,90,91,92,93,94,95,96])
(sr [
mq 97 20,
mq 98 21,
tq 99 (.bin .lss (.t 97) (.t 98))] [97,98]
(.cond (.t 99) (sr [
mq 100 20,
tq 101 (.idxAddrA 1441 1 (.t 7) (.t 100)),
ld 102 101,
tq 103 (.bin .add (.t 102) (kq 1)),
tq 104 (.idxAddrA 1441 1 (.t 7) (.t 100)),
⟨none,none,.store 1 (.t 104) (.t 103)⟩] [20,100,101,102,103,104]
(rg [
mq 105 21,
tq 106 (.idxAddrA 1441 1 (.t 7) (.t 105)),
ld 107 106,
tq 108 (.bin .sub (.t 107) (kq 1)),
tq 109 (.idxAddrA 1441 1 (.t 7) (.t 105)),
⟨none,none,.store 1 (.t 109) (.t 108)⟩] [7,21,105,106,107,108,109]))
 .skip)))))))
def zyd:C:=
  (sr [
tq 59 (.bin .lss (.t 58) (kq 2))] []
(.seq (.cond (.t 59) .skip
 (.exit 4))
(.seq (.block 5 (sr [
tq 60 (.idxA 2 1 none (.t 57) (.t 58)),
mq 17 60] [60]
(sr [
lq 61 11 11,
mq 62 17,
tq 63 (.call false false (.k (.fn za0 [] [])) [.t 61,.t 62])] [17,61,62]
(.block 6 (.rangeFn 131 (.t 63) [64] zpu zpv)))))
(rg [
tq 110 (.bin .add (.t 58) (kq 1)),
mq 58 110] [110]))))
def zye:C:=
  (sr [
tq 51 (.bin .lss (.t 50) (.t 49))] []
(.seq (.cond (.t 51) .skip
 (.exit 2))
(.seq (.block 3 (sr [
tq 52 (.idxAddr 1 (.t 48) (.t 50)),
ld 53 52,
tq 15 (.alloc za4 [.z (.int .i64 0)]),
⟨none,none,.store 1 (.t 15) (.t 53)⟩] [52,53]
(sr [
ld 54 15,
tq 55 (.bin .sub (.t 54) (kq 1)),
ld 56 15,
tq 57 (.build [.z (.int .i64 0),.z (.int .i64 0)] [(0,1,.t 55),(1,1,.t 56)]),
tq 58 (.mv (kq 0))] [54,55,56]
(.block 4 (.loop [1,5,6,7,8,11,12,13,15,18,31,32,33,48,49,50,57,58] zyd)))))
(rg [
tq 111 (.bin .add (.t 50) (kq 1)),
mq 50 111] [111]))))
def zyf:C:=
  (sr [
tq 34 (.bin .lss (.t 33) (.t 32))] []
(.seq (.cond (.t 34) .skip
 (.exit 0))
(.seq (.block 1 (sr [
tq 35 (.idxAddr 11 (.t 31) (.t 33)),
lq 36 11 35,
tq 11 (.alloc zab [.z (.str []),.z (.str []),.z (.str []),.z (.int .i64 0),.z (.int .i64 0),.z (.int .i64 0),.z (.int .i64 0),.z (.int .i64 0),.z (.int .i64 0),.z (.int .i64 0),.z (.int .i64 0)]),
⟨none,none,.store 11 (.t 11) (.t 36)⟩] [35,36]
(.seq (sr [
lq 37 11 11,
fa 38 2 5,
ld 39 38,
fa 40 3 5,
ld 41 40,
tq 42 (cl zdj [.t 37,.t 39,.t 41]),
tq 43 (.un .not (.t 42))] [37,38,39,40,41,42]
(.cond (.t 43) (.exit 1)
 .skip))
(sr [
lq 44 11 11,
mq 45 1,
tq 46 (cl zf9 [.t 44,.t 45]),
tq 12 (.alloc zgd [.z (.list 0 [])]),
⟨none,none,.store 1 (.t 12) (.t 46)⟩] [44,45,46]
(sr [
tq 47 (.build [.z (.int .i64 0),.z (.int .i64 0),.z (.int .i64 0)] [(1,1,kq (-1))]),
tq 13 (.alloc zbc [.z (.int .i64 0),.z (.int .i64 0),.z (.int .i64 0)]),
⟨none,none,.store 3 (.t 13) (.t 47)⟩] [47]
(sr [
mq 48 8,
tq 49 (.len .slc (.t 48)),
tq 50 (.mv (kq 0))] []
(.block 2 (.loop [1,5,6,7,8,11,12,13,18,31,32,33,48,49,50] zye))))))))
(rg [
tq 112 (.bin .add (.t 33) (kq 1)),
mq 33 112] [112]))))
def zyg:C:=
  (sr [
tq 115 (.bin .lss (.t 114) (kq 1440))] []
(.seq (.cond (.t 115) .skip
 (.exit 8))
(.seq (.block 9 (sr [
mq 116 114,
mq 24 116] [116]
(sr [
mq 117 23,
mq 118 24,
tq 119 (.idxAddrA 1441 1 (.t 7) (.t 118)),
ld 120 119,
tq 121 (.bin .add (.t 117) (.t 120)),
mq 23 121] [117,118,119,120,121]
(rg [
mq 122 22,
mq 123 24,
mq 124 23,
tq 125 (.bin .gtr (.t 124) (kq 0)),
tq 126 (.nilCheck (.t 122)),
tq 127 (.idxAddrA 1440 1 (.t 126) (.t 123)),
⟨none,none,.store 1 (.t 127) (.t 125)⟩] [24,122,123,124,125,126,127]))))
(rg [
tq 128 (.bin .add (.t 114) (kq 1)),
mq 114 128] [128]))))
def z2g:CF:=⟨[.tmp 6],
  (sr [
tq 5 (.box zaj (.t 2)),
tq 6 (.mv (.k (.d (.nilp))))] [2]
(sr [
tq 7 (.alloc z38 (yp3 1441 (.int .i64 0)))] []
(sr [
fa 26 6 5,
lq 27 3 26,
tq 28 (cl zbs [.t 27]),
mq 25 28,
xq 29 25 0,
xq 30 25 1,
mq 8 29,
mq 9 30] [9,25,26,27,28,29,30]
(.seq (sr [
mq 31 0,
tq 32 (.len .slc (.t 31)),
tq 33 (.mv (kq 0))] [0]
(.block 0 (.loop [1,5,6,7,8,18,31,32,33] zyf)))
(sr [
tq 113 (.alloc zgc (yp3 1440 (.bool false))),
mq 22 113,
tq 23 (.mv (kq 0))] [113]
(.seq (sr [
tq 114 (.mv (kq 0))] []
(.block 8 (.loop [7,22,23,114] zyg)))
(sr [
mq 129 22,
mq 6 129] [22,129]
.ret)))))))⟩
def zq2:CF:=⟨[.tmp 4],
  (sr [
tq 4 (.mv (.k (.d (.bool false))))] [4]
(sr [
mq 5 0,
mq 6 1,
tq 7 (.nilCheck (.t 5)),
tq 8 (.idxAddrA 1440 1 (.t 7) (.t 6)),
ld 9 8,
tq 10 (.un .not (.t 9)),
mq 4 10] [0,1,5,6,7,8,9,10]
.ret))⟩
def zst:CF:=⟨[.tmp 2],
  (sr [
tq 1 (.box zaa (.t 0)),
tq 2 (.mv (kq 0))] [0,2]
(.seq (sr [
fa 3 0 1,
ld 4 3,
tq 5 (cl zav [.t 4,kq 0,kq 143999999])] [3,4]
(.cond (.t 5) (sr [
tq 2 (.mv (kq 3))] []
.ret)
 .skip))
(.seq (sr [
fa 6 1 1,
ld 7 6,
tq 8 (.bin .neq (.t 7) (.k (.d (.str [65])))),
mq 9 8,
gq 10 9 true (.fieldAddr 1 (.t 1)),
gq 11 9 true (.load none (.t 10)),
gq 12 9 true (.bin .neq (.t 11) (.k (.d (.str [68])))),
tq 13 (.pick (.t 9) (.t 12) (.k (.d (.bool false))))] [6,7,8,9,10,11,12]
(.cond (.t 13) (sr [
tq 2 (.mv (kq 13))] []
.ret)
 .skip))
(.seq (sr [
fa 14 2 1,
ld 15 14,
tq 16 (cl zer [.t 15]),
tq 17 (.un .not (.t 16))] [14,15,16]
(.cond (.t 17) (sr [
tq 2 (.mv (kq 8))] []
.ret)
 .skip))
(.seq (sr [
fa 18 3 1,
ld 19 18,
tq 20 (cl zav [.t 19,kq 0,kq 999]),
mq 21 20,
gq 22 21 false (.fieldAddr 4 (.t 1)),
gq 23 21 false (.load none (.t 22)),
gq 24 21 false (cl zav [.t 23,kq 0,kq 9]),
tq 25 (.pick (.t 21) (.k (.d (.bool true))) (.t 24)),
mq 26 25,
gq 27 26 false (.fieldAddr 5 (.t 1)),
gq 28 26 false (.load none (.t 27)),
gq 29 26 false (cl zav [.t 28,kq 0,kq 99]),
tq 30 (.pick (.t 26) (.k (.d (.bool true))) (.t 29))] [18,19,20,21,22,23,24,25,26,27,28,29]
(.cond (.t 30) (sr [
tq 2 (.mv (kq 3))] []
.ret)
 .skip))
(.seq (sr [
fa 31 6 1,
ld 32 31,
tq 33 (cl zgv [.t 32]),
tq 34 (.un .not (.t 33))] [1,31,32,33]
(.cond (.t 34) (sr [
tq 2 (.mv (kq 8))] []
.ret)
 .skip))
(sr [
tq 2 (.mv (kq 0))] []
.ret)))))))⟩
def z4o:CF:=⟨[.tmp 4],
  (sr [
tq 2 (.box zaa (.t 0)),
tq 3 (.box zaa (.t 1)),
tq 4 (.mv (.k (.d (.bool false))))] [0,1,4]
(.seq (sr [
fa 5 0 2,
ld 6 5,
fa 7 0 3,
ld 8 7,
tq 9 (.bin .neq (.t 6) (.t 8))] [5,6,7,8]
(.cond (.t 9) (sr [
fa 10 0 2,
ld 11 10,
fa 12 0 3,
ld 13 12,
tq 14 (.bin .lss (.t 11) (.t 13)),
mq 4 14] [2,3,10,11,12,13,14]
.ret)
 .skip))
(.seq (sr [
fa 15 1 2,
ld 16 15,
fa 17 1 3,
ld 18 17,
tq 19 (.bin .neq (.t 16) (.t 18))] [15,16,17,18]
(.cond (.t 19) (sr [
fa 20 1 2,
ld 21 20,
fa 22 1 3,
ld 23 22,
tq 24 (.bin .lss (.t 21) (.t 23)),
mq 4 24] [2,3,20,21,22,23,24]
.ret)
 .skip))
(sr [
fa 25 6 2,
ld 26 25,
fa 27 6 3,
ld 28 27,
tq 29 (.bin .lss (.t 26) (.t 28)),
mq 4 29] [2,3,25,26,27,28,29]
.ret))))⟩
def zw1:CF:=⟨[.tmp 2],
  (sr [
tq 1 (.box zge (.t 0)),
tq 2 (.mv (kq 0))] [0,2]
(.seq (sr [
fa 4 0 1,
ld 5 4,
tq 6 (cl zgv [.t 5]),
tq 7 (.un .not (.t 6))] [4,5,6]
(.cond (.t 7) (sr [
tq 2 (.mv (kq 8))] []
.ret)
 .skip))
(.seq (sr [
fa 8 1 1,
ld 9 8,
tq 10 (.bin .neq (.t 9) (.k (.d (.str [65])))),
mq 11 10,
gq 12 11 true (.fieldAddr 1 (.t 1)),
gq 13 11 true (.load none (.t 12)),
gq 14 11 true (.bin .neq (.t 13) (.k (.d (.str [68])))),
tq 15 (.pick (.t 11) (.t 14) (.k (.d (.bool false)))),
mq 16 15,
gq 17 16 true (.fieldAddr 1 (.t 1)),
gq 18 16 true (.load none (.t 17)),
gq 19 16 true (.bin .neq (.t 18) (.k (.d (.str [84])))),
tq 20 (.pick (.t 16) (.t 19) (.k (.d (.bool false))))] [8,9,10,11,12,13,14,15,16,17,18,19]
(.cond (.t 20) (sr [
tq 2 (.mv (kq 13))] []
.ret)
 .skip))
(.seq (sr [
fa 21 2 1,
ld 22 21,
tq 23 (cl zer [.t 22]),
tq 24 (.un .not (.t 23))] [21,22,23]
(.cond (.t 24) (sr [
tq 2 (.mv (kq 8))] []
.ret)
 .skip))
(.seq (sr [
fa 25 3 1,
ld 26 25,
tq 27 (cl zav [.t 26,kq 1,kq 1440]),
mq 28 27,
gq 29 28 false (.fieldAddr 4 (.t 1)),
gq 30 28 false (.load none (.t 29)),
gq 31 28 false (cl zav [.t 30,kq 1,kq 1440]),
tq 32 (.pick (.t 28) (.k (.d (.bool true))) (.t 31)),
mq 33 32,
gq 34 33 false (.fieldAddr 5 (.t 1)),
gq 35 33 false (.load none (.t 34)),
gq 36 33 false (cl zav [.t 35,kq 0,kq 1439]),
tq 37 (.pick (.t 33) (.k (.d (.bool true))) (.t 36)),
mq 38 37,
gq 39 38 false (.fieldAddr 6 (.t 1)),
gq 40 38 false (.load none (.t 39)),
gq 41 38 false (cl zav [.t 40,kq 0,kq 1439]),
tq 42 (.pick (.t 38) (.k (.d (.bool true))) (.t 41))] [25,26,27,28,29,30,31,32,33,34,35,36,37,38,39,40,41]
(.cond (.t 42) (sr [
tq 2 (.mv (kq 3))] []
.ret)
 .skip))
(.seq (sr [
fa 43 5 1,
ld 44 43,
fa 45 6 1,
ld 46 45,
tq 47 (.bin .gtr (.t 44) (.t 46))] [43,44,45,46]
(.cond (.t 47) (sr [
tq 2 (.mv (kq 11))] []
.ret)
 .skip))
(.seq (sr [
fa 48 7 1,
lq 49 3 48,
tq 50 (cl zd3 [.t 49]),
mq 3 50] [48,49,50]
(sr [
mq 51 3,
tq 52 (.bin .neq (.t 51) (kq 0))] [51]
(.cond (.t 52) (sr [
mq 53 3,
mq 2 53] [3,53]
.ret)
 .skip)))
(.seq (sr [
fa 54 10 1,
ld 55 54,
tq 56 (cl zav [.t 55,kq 0,kq 999999999])] [1,54,55]
(.cond (.t 56) (sr [
tq 2 (.mv (kq 3))] []
.ret)
 .skip))
(sr [
tq 2 (.mv (kq 0))] []
.ret)))))))))⟩
def z4p:CF:=⟨[.tmp 2],
  (sr [
tq 1 (.box zge (.t 0)),
tq 2 (.mv (kq 0))] [0,2]
(.seq (.reg true [
fa 3 6 1,
ld 4 3,
fa 5 4 1,
ld 6 5,
tq 7 (.bin .quo (.t 4) (.t 6)),
fa 8 5 1,
ld 9 8,
fa 10 4 1,
ld 11 10,
tq 12 (.bin .add (.t 9) (.t 11)),
tq 13 (.bin .sub (.t 12) (kq 1)),
fa 14 4 1,
ld 15 14,
tq 16 (.bin .quo (.t 13) (.t 15)),
tq 17 (.bin .sub (.t 7) (.t 16)),
tq 18 (.bin .add (.t 17) (kq 1)),
mq 2 18] [1,3,4,5,6,7,8,9,10,11,12,13,14,15,16,17,18])
.ret))⟩
def z0a:C:=
  (.seq (sr [
mq 7 4,
fa 8 1 1,
ld 9 8,
tq 10 (.bin .leq (.t 7) (.t 9))] [7,8,9]
(.cond (.t 10) .skip
 (.exit 0)))
(.seq (.block 1 (sr [
lq 13 3 1,
mq 14 4,
tq 15 (cl zvn [.t 13,.t 14])] [13,14]
(.cond (.t 15) (rg [
mq 16 3,
mq 17 4,
tq 18 (.mkList 1 1 [.t 17]),
tq 19 (.append ⟨false,za4,1,8⟩ (.t 16) (.t 18)),
mq 3 19] [16,17,18,19])
 .skip)))
(rg [
mq 11 4,
tq 12 (.bin .add (.t 11) (kq 1)),
mq 4 12] [11,12])))
def z4l:CF:=⟨[.tmp 2],
  (sr [
tq 1 (.box zag (.t 0)),
tq 2 (.ownNil ⟨false,za4,1,8⟩)] [0,2]
(sr [
tq 3 (.ownNil ⟨false,za4,1,8⟩)] []
(.seq (sr [
fa 5 0 1,
ld 6 5,
mq 4 6] [5,6]
(.block 0 (.loop [1,3,4] z0a)))
(sr [
mq 20 3,
mq 2 20] [3,20]
.ret))))⟩
def zyj:C:=
  (.seq (sr [
mq 6 5,
mq 7 0,
tq 8 (.len .slc (.t 7)),
tq 9 (.bin .lss (.t 6) (.t 8))] [6,7,8]
(.cond (.t 9) .skip
 (.exit 0)))
(.seq (.block 1 (sr [
mq 12 0,
mq 13 5,
tq 14 (.idxAddr 11 (.t 12) (.t 13)),
fa 15 0 14,
ld 16 15,
mq 17 1,
tq 18 (.bin .eql (.t 16) (.t 17))] [12,13,14,15,16,17]
(.cond (.t 18) (sr [
mq 19 5,
mq 4 19] [5,19]
.ret)
 .skip)))
(rg [
mq 10 5,
tq 11 (.bin .add (.t 10) (kq 1)),
mq 5 11] [10,11])))
def z2r:CF:=⟨[.tmp 4],
  (sr [
tq 4 (.mv (kq 0))] [4]
(.seq (sr [
tq 5 (.mv (kq 0))] []
(.block 0 (.loop [0,1,5] zyj)))
(sr [
tq 4 (.mv (kq (-1)))] []
.ret)))⟩
def zsv:CF:=⟨[.tmp 2],
  (sr [
tq 1 (.box zaa (.t 0)),
tq 2 (.mv (.k (.d (.bool false))))] [0,2]
(sr [
fa 3 1 1,
ld 4 3,
tq 5 (.len .str (.t 4)),
tq 6 (.bin .leq (.t 5) (kq 40)),
mq 7 6,
gq 8 7 true (.fieldAddr 2 (.t 1)),
gq 9 7 true (.load none (.t 8)),
gq 10 7 true (.len .str (.t 9)),
gq 11 7 true (.bin .leq (.t 10) (kq 40)),
tq 12 (.pick (.t 7) (.t 11) (.k (.d (.bool false)))),
mq 13 12,
gq 14 13 true (.fieldAddr 6 (.t 1)),
gq 15 13 true (.load none (.t 14)),
gq 16 13 true (.len .str (.t 15)),
gq 17 13 true (.bin .leq (.t 16) (kq 40)),
tq 18 (.pick (.t 13) (.t 17) (.k (.d (.bool false)))),
mq 2 18] [1,3,4,5,6,7,8,9,10,11,12,13,14,15,16,17,18]
.ret))⟩
def z0v:CF:=⟨[.tmp 2],
  (sr [
tq 2 (.mv (kq 0))] [2]
(sr [
mq 3 0,
tq 4 (cl zg8 [.t 3,kq 0,kq 99999]),
mq 2 4] [0,3,4]
.ret))⟩
def zw0:CF:=⟨[.tmp 6],
  (sr [
tq 6 (.mv (kq 0))] [6]
(.seq (sr [
mq 7 0,
mq 8 1,
tq 9 (.bin .lss (.t 7) (.t 8)),
mq 10 9,
gq 11 10 false (.mv (.t 0)),
gq 12 10 false (.mv (.t 2)),
gq 13 10 false (.bin .gtr (.t 11) (.t 12)),
tq 14 (.pick (.t 10) (.k (.d (.bool true))) (.t 13))] [0,1,2,7,8,9,10,11,12,13]
(.cond (.t 14) (sr [
tq 6 (.mv (kq 3))] []
.ret)
 .skip))
(sr [
tq 6 (.mv (kq 0))] []
.ret)))⟩
def zq6:CF:=⟨[.tmp 6],
  (sr [
tq 3 (.box zbf (.t 0)),
tq 6 (.mv (kq 0))] [0,6]
(sr [
lq 7 4 3,
tq 8 (cl zj6 [.t 7]),
mq 9 1,
tq 10 (cl zne [.t 9]),
mq 11 2,
tq 12 (cl zks [.t 11]),
tq 13 (.mkList 1 3 [.t 8,.t 10,.t 12]),
tq 14 (cl za6 [.t 13]),
mq 6 14] [1,2,3,7,8,9,10,11,12,13,14]
.ret))⟩
def zy2:CF:=⟨[.cell 6 (some 6)],
  (sr [
tq 3 (.box zbf (.t 0)),
tq 6 (.alloc zjf [.z (.list 0 []),.z (.int .i64 0),.z (.int .i64 0),.z (.int .i64 0),.z (.list 0 []),.z (.list 0 [])])] [0]
(.seq (.reg true [
lq 7 4 3,
mq 8 2,
mq 9 1,
mq 10 2,
tq 11 (cl zte [.t 9,.t 10]),
tq 12 (.build [.z (.list 0 []),.z (.int .i64 0),.z (.int .i64 0),.z (.int .i64 0),.z (.list 0 []),.z (.list 0 [])] [(0,4,.t 7),(4,1,.t 8),(5,1,.t 11)]),
⟨none,none,.store 6 (.t 6) (.t 12)⟩] [1,2,3,7,8,9,10,11,12])
.ret))⟩
def znt:C:=
  (sr [
tq 37 (.bin .lss (.t 36) (.t 35))] []
(.seq (.cond (.t 37) .skip
 (.exit 0))
(.seq (.block 1 (sr [
tq 38 (.idxAddr 1 (.t 34) (.t 36)),
ld 39 38,
mq 8 39] [38,39]
(rg [
mq 40 6,
fa 41 4 1,
ld 42 41,
mq 43 8,
tq 44 (.idxAddr 18 (.t 42) (.t 43)),
fa 45 15 44,
ld 46 45,
tq 47 (.mkList 1 1 [.t 46]),
tq 48 (.append ⟨false,yke,1,1⟩ (.t 40) (.t 47)),
mq 6 48] [8,40,41,42,43,44,45,46,47,48])))
(rg [
tq 49 (.bin .add (.t 36) (kq 1)),
mq 36 49] [49]))))
def znu:C:=
  (sr [
tq 60 (.bin .lss (.t 59) (.t 58))] []
(.seq (.cond (.t 60) .skip
 (.exit 2))
(.seq (.block 3 (sr [
mq 61 59,
tq 62 (.idxAddr 1 (.t 57) (.t 59)),
ld 63 62,
mq 9 61,
mq 10 63] [61,62,63]
(rg [
mq 64 3,
mq 65 4,
mq 66 9,
tq 67 (.bin .add (.t 65) (.t 66)),
mq 68 5,
mq 69 10,
tq 70 (.idxAddr 1 (.t 68) (.t 69)),
ld 71 70,
tq 72 (.idxAddr 1 (.t 64) (.t 67)),
⟨none,none,.store 1 (.t 72) (.t 71)⟩] [9,10,64,65,66,67,68,69,70,71,72])))
(rg [
tq 73 (.bin .add (.t 59) (kq 1)),
mq 59 73] [73]))))
def zp7:CF:=⟨[.tmp 2],
  (sr [
tq 1 (.box zjf (.t 0)),
tq 2 (.ownNil ⟨true,za4,1,8⟩)] [0,2]
(sr [
fa 11 4 1,
ld 12 11,
tq 13 (.len .slc (.t 12)),
tq 14 (.makeRow ⟨true,za4,1,8⟩ [.int .i64 0] (.t 13)),
mq 3 14] [11,12,13,14]
(sr [
mq 15 3,
fa 16 4 1,
ld 17 16,
tq 18 (.len .slc (.t 17)),
tq 19 (cl zkb [.t 18]),
tq 20 (.copy 1 (.t 15) (.t 19))] [15,16,17,18,19,20]
(sr [
mq 21 3,
tq 22 (.mkFunc zic [] [.t 1]),
tq 23 (.call true true (.k (.fn zcp [] [])) [.t 21,.t 22])] [21,22,23]
(sr [
mq 24 3,
tq 25 (.mkFunc zid [] [.t 1]),
tq 26 (.call true true (.k (.fn zhu [] [])) [.t 24,.t 25]),
mq 4 26] [24,25,26]
(.seq (sr [
mq 27 4,
tq 28 (.bin .lss (.t 27) (kq 0))] [27]
(.cond (.t 28) (sr [
mq 29 3,
mq 2 29] [3,29]
.ret)
 .skip))
(sr [
mq 30 3,
mq 31 4,
tq 32 (.slice 1 (.t 30) (some (.t 31)) none none),
tq 33 (.call true true (.k (.fn zkc [] [])) [.t 32]),
mq 5 33] [30,31,32,33]
(sr [
tq 6 (.ownNil ⟨false,yke,1,1⟩)] []
(.seq (sr [
mq 34 5,
tq 35 (.len .slc (.t 34)),
tq 36 (.mv (kq 0))] []
(.block 0 (.loop [1,3,4,5,6,34,35,36] znt)))
(.seq (sr [
fa 50 0 1,
fa 51 2 50,
ld 52 51,
fa 53 0 1,
fa 54 3 53,
ld 55 54,
mq 56 6,
tq 57 (cl zkt [.t 52,.t 55,.t 56]),
tq 58 (.len .slc (.t 57)),
tq 59 (.mv (kq 0))] [1,6,50,51,52,53,54,55,56]
(.block 2 (.loop [3,4,5,57,58,59] znu)))
(sr [
mq 74 3,
mq 2 74] [3,74]
.ret)))))))))))⟩
def zv3:C:=
  (sr [
tq 8 (.bin .lss (.t 7) (.t 6))] []
(.seq (.cond (.t 8) .skip
 (.exit 0))
(.seq (.block 1 (sr [
tq 9 (.idxAddr 1 (.t 5) (.t 7)),
ld 10 9,
mq 4 10] [9,10]
(sr [
mq 11 4,
tq 12 (.bin .neq (.t 11) (kq 0))] [11]
(.cond (.t 12) (sr [
mq 13 4,
mq 2 13] [4,13]
.ret)
 .skip))))
(rg [
tq 14 (.bin .add (.t 7) (kq 1)),
mq 7 14] [14]))))
def z0e:CF:=⟨[.tmp 2],
  (sr [
tq 2 (.mv (kq 0))] [2]
(.seq (sr [
mq 5 0,
tq 6 (.len .slc (.t 5)),
tq 7 (.mv (kq 0))] [0]
(.block 0 (.loop [5,6,7] zv3)))
(sr [
tq 2 (.mv (kq 0))] []
.ret)))⟩
def zpt:C:=
  (sr [
tq 12 (.bin .lss (.t 11) (.t 10))] []
(.seq (.cond (.t 12) .skip
 (.exit 0))
(.seq (.block 1 (sr [
mq 13 11,
tq 14 (.idxAddr 11 (.t 9) (.t 11)),
lq 15 11 14,
tq 4 (.alloc zab [.z (.str []),.z (.str []),.z (.str []),.z (.int .i64 0),.z (.int .i64 0),.z (.int .i64 0),.z (.int .i64 0),.z (.int .i64 0),.z (.int .i64 0),.z (.int .i64 0),.z (.int .i64 0)]),
mq 3 13,
⟨none,none,.store 11 (.t 4) (.t 15)⟩] [13,14,15]
(.seq (.reg true [
lq 16 11 4,
tq 17 (cl zd6 [.t 16]),
mq 18 0,
mq 19 3,
tq 20 (.slice 11 (.t 18) none (some (.t 19)) none),
fa 21 0 4,
ld 22 21,
tq 23 (cl zlt [.t 20,.t 22]),
tq 24 (.bin .geq (.t 23) (kq 0)),
tq 25 (cl za1 [.t 24,kq 9]),
tq 26 (.mkList 1 2 [.t 17,.t 25]),
tq 27 (cl zak [.t 26]),
mq 5 27] [3,4,16,17,18,19,20,21,22,23,24,25,26,27])
(sr [
mq 28 5,
tq 29 (.bin .neq (.t 28) (kq 0))] [28]
(.cond (.t 29) (sr [
mq 30 5,
mq 2 30] [5,30]
.ret)
 .skip)))))
(rg [
tq 31 (.bin .add (.t 11) (kq 1)),
mq 11 31] [31]))))
def zrz:CF:=⟨[.tmp 2],
  (sr [
tq 2 (.mv (kq 0))] [2]
(.seq (sr [
mq 6 0,
tq 7 (.len .slc (.t 6)),
tq 8 (.bin .gtr (.t 7) (kq 32))] [6,7]
(.cond (.t 8) (sr [
tq 2 (.mv (kq 5))] []
.ret)
 .skip))
(.seq (sr [
mq 9 0,
tq 10 (.len .slc (.t 9)),
tq 11 (.mv (kq 0))] []
(.block 0 (.loop [0,9,10,11] zpt)))
(sr [
tq 2 (.mv (kq 0))] []
.ret))))⟩
def zpr:C:=
  (sr [
tq 16 (.bin .lss (.t 15) (.t 14))] []
(.seq (.cond (.t 16) .skip
 (.exit 0))
(.seq (.block 1 (sr [
mq 17 15,
tq 18 (.idxAddr 18 (.t 13) (.t 15)),
lq 19 18 18,
tq 4 (.alloc zaz [.z (.str []),.z (.str []),.z (.str []),.z (.str []),.z (.str []),.z (.str []),.z (.int .i64 0),.z (.int .i64 0),.z (.int .i64 0),.z (.int .i64 0),.z (.int .i64 0),.z (.int .i64 0),.z (.int .i64 0),.z (.int .i64 0),.z (.int .i64 0),.z (.int .i64 0),.z (.int .i64 0),.z (.int .i64 0)]),
mq 3 17,
⟨none,none,.store 18 (.t 4) (.t 19)⟩] [17,18,19]
(.seq (.reg true [
lq 20 18 4,
tq 21 (cl zlf [.t 20]),
mq 22 0,
mq 23 3,
tq 24 (.slice 18 (.t 22) none (some (.t 23)) none),
fa 25 0 4,
fa 26 0 25,
ld 27 26,
tq 28 (cl zls [.t 24,.t 27]),
tq 29 (.bin .geq (.t 28) (kq 0)),
tq 30 (cl zd0 [.t 29,kq 9]),
tq 31 (.mkList 1 2 [.t 21,.t 30]),
tq 32 (cl zgp [.t 31]),
mq 5 32] [3,4,20,21,22,23,24,25,26,27,28,29,30,31,32])
(sr [
mq 33 5,
tq 34 (.bin .neq (.t 33) (kq 0))] [33]
(.cond (.t 34) (sr [
mq 35 5,
mq 2 35] [5,35]
.ret)
 .skip)))))
(rg [
tq 36 (.bin .add (.t 15) (kq 1)),
mq 15 36] [36]))))
def zps:C:=
  (sr [
tq 40 (.bin .lss (.t 39) (.t 38))] []
(.seq (.cond (.t 40) .skip
 (.exit 2))
(.seq (.block 3 (sr [
mq 41 39,
tq 42 (.idxAddr 18 (.t 37) (.t 39)),
lq 43 18 42,
tq 7 (.alloc zaz [.z (.str []),.z (.str []),.z (.str []),.z (.str []),.z (.str []),.z (.str []),.z (.int .i64 0),.z (.int .i64 0),.z (.int .i64 0),.z (.int .i64 0),.z (.int .i64 0),.z (.int .i64 0),.z (.int .i64 0),.z (.int .i64 0),.z (.int .i64 0),.z (.int .i64 0),.z (.int .i64 0),.z (.int .i64 0)]),
mq 6 41,
⟨none,none,.store 18 (.t 7) (.t 43)⟩] [41,42,43]
(.seq (sr [
fa 44 0 7,
fa 45 5 44,
ld 46 45,
tq 47 (.bin .eql (.t 46) (.k (.d (.str []))))] [44,45,46]
(.cond (.t 47) (.exit 3)
 .skip))
(sr [
mq 48 0,
fa 49 0 7,
fa 50 5 49,
ld 51 50,
tq 52 (cl zls [.t 48,.t 51]),
mq 8 52] [48,49,50,51,52]
(.seq (sr [
mq 53 8,
tq 54 (.bin .lss (.t 53) (kq 0))] [53]
(.cond (.t 54) (sr [
tq 2 (.mv (kq 10))] []
.ret)
 .skip))
(sr [
mq 55 0,
mq 56 8,
tq 57 (.idxAddr 18 (.t 55) (.t 56)),
fa 58 0 57,
lq 59 13 58,
tq 9 (.alloc zaj [.z (.str []),.z (.str []),.z (.str []),.z (.str []),.z (.str []),.z (.str []),.z (.int .i64 0),.z (.int .i64 0),.z (.int .i64 0),.z (.int .i64 0),.z (.int .i64 0),.z (.int .i64 0),.z (.int .i64 0)]),
⟨none,none,.store 13 (.t 9) (.t 59)⟩] [55,56,57,58,59]
(sr [
mq 60 8,
mq 61 6,
tq 62 (.bin .eql (.t 60) (.t 61)),
mq 63 62,
gq 64 63 false (.fieldAddr 5 (.t 9)),
gq 65 63 false (.load none (.t 64)),
gq 66 63 false (.fieldAddr 0 (.t 7)),
gq 67 63 false (.fieldAddr 0 (.t 66)),
gq 68 63 false (.load none (.t 67)),
gq 69 63 false (.bin .neq (.t 65) (.t 68)),
tq 70 (.pick (.t 63) (.k (.d (.bool true))) (.t 69)),
mq 71 70,
gq 72 71 false (.fieldAddr 2 (.t 9)),
gq 73 71 false (.load none (.t 72)),
gq 74 71 false (.fieldAddr 0 (.t 7)),
gq 75 71 false (.fieldAddr 2 (.t 74)),
gq 76 71 false (.load none (.t 75)),
gq 77 71 false (.bin .eql (.t 73) (.t 76)),
tq 78 (.pick (.t 71) (.k (.d (.bool true))) (.t 77)),
mq 79 78,
gq 80 79 false (.fieldAddr 6 (.t 9)),
gq 81 79 false (.load (some 3) (.t 80)),
gq 82 79 false (.fieldAddr 0 (.t 7)),
gq 83 79 false (.fieldAddr 6 (.t 82)),
gq 84 79 false (.load (some 3) (.t 83)),
gq 85 79 false (.eqv (some [.int,.int,.int]) true (.t 81) (.t 84)),
tq 86 (.pick (.t 79) (.k (.d (.bool true))) (.t 85))] [6,7,8,9,60,61,62,63,64,65,66,67,68,69,70,71,72,73,74,75,76,77,78,79,80,81,82,83,84,85]
(.cond (.t 86) (sr [
tq 2 (.mv (kq 32))] []
.ret)
 .skip))))))))
(rg [
tq 87 (.bin .add (.t 39) (kq 1)),
mq 39 87] [87]))))
def zrx:CF:=⟨[.tmp 2],
  (sr [
tq 2 (.mv (kq 0))] [2]
(.seq (sr [
mq 10 0,
tq 11 (.len .slc (.t 10)),
tq 12 (.bin .gtr (.t 11) (kq 64))] [10,11]
(.cond (.t 12) (sr [
tq 2 (.mv (kq 5))] []
.ret)
 .skip))
(.seq (sr [
mq 13 0,
tq 14 (.len .slc (.t 13)),
tq 15 (.mv (kq 0))] []
(.block 0 (.loop [0,13,14,15] zpr)))
(.seq (sr [
mq 37 0,
tq 38 (.len .slc (.t 37)),
tq 39 (.mv (kq 0))] []
(.block 2 (.loop [0,37,38,39] zps)))
(sr [
tq 2 (.mv (kq 0))] []
.ret)))))⟩
def zwg:CF:=⟨[.tmp 2],
  (sr [
tq 2 (.ownNil ⟨true,zb3,3,32⟩)] [2]
(sr [
mq 3 0,
tq 4 (.call true false (.k (.fn zb4 [] [])) [.t 3,.k (.fn zl5 [] [])]),
mq 2 4] [0,3,4]
.ret))⟩
def zu2:CF:=⟨[.tmp 2],
  (sr [
tq 2 (.mv (.k (.d (.nilp))))] [2]
(sr [
mq 3 0,
tq 4 (.mkMap),
tq 5 (.mkMap),
tq 6 (.build [.z (.list 0 []),.z (.nilm),.z (.nilm)] [(0,1,.t 3),(1,1,.t 4),(2,1,.t 5)]),
tq 7 (.box zzq (.t 6)),
mq 2 7] [0,3,4,5,6,7]
.ret))⟩
def zmo:C:=
  (sr [
tq 17 (.bin .lss (.t 16) (.t 15))] []
(.seq (.cond (.t 17) .skip
 (.exit 0))
(.seq (.block 1 (sr [
tq 18 (.idxAddr 7 (.t 14) (.t 16)),
lq 19 7 18,
tq 6 (.alloc zaa [.z (.int .i64 0),.z (.str []),.z (.str []),.z (.int .i64 0),.z (.int .i64 0),.z (.int .i64 0),.z (.str [])]),
⟨none,none,.store 7 (.t 6) (.t 19)⟩] [18,19]
(rg [
mq 20 0,
lq 21 7 6,
tq 22 (.call true true (.k (.fn zfa [] [])) [.t 20,.t 21,kq 1])] [6,20,21,22])))
(rg [
tq 23 (.bin .add (.t 16) (kq 1)),
mq 16 23] [23]))))
def zmp:C:=
  (sr [
tq 35 (.bin .lss (.t 34) (.t 33))] []
(.seq (.cond (.t 35) .skip
 (.exit 4))
(.seq (.block 5 (sr [
tq 36 (.idxAddr 2 (.t 32) (.t 34)),
lq 37 2 36,
tq 11 (.alloc zau [.z (.int .i64 0),.z (.int .i64 0)]),
⟨none,none,.store 2 (.t 11) (.t 37)⟩] [36,37]
(.seq (.reg true [
mq 38 0,
tq 39 (.nilCheck (.t 38)),
fa 40 1 39,
ld 41 40,
lq 42 2 11,
tq 43 (.lookup (.rc [false,false]) (.int .i64 0) false (.t 41) (.t 42)),
mq 44 0,
tq 45 (.nilCheck (.t 44)),
fa 46 0 45,
ld 47 46,
fa 48 0 11,
ld 49 48,
tq 50 (.idxAddr 11 (.t 47) (.t 49)),
fa 51 10 50,
ld 52 51,
tq 53 (.bin .gtr (.t 43) (.t 52))] [38,39,40,41,42,43,44,45,46,47,48,49,50,51,52])
(.cond (.t 53) (rg [
mq 54 7,
lq 55 2 11,
tq 56 (.mkList 2 1 [.t 55]),
tq 57 (.append ⟨true,zau,2,16⟩ (.t 54) (.t 56)),
mq 7 57] [11,54,55,56,57])
 .skip))))
(rg [
tq 58 (.bin .add (.t 34) (kq 1)),
mq 34 58] [58]))))
def zmq:C:=
  (sr [
tq 27 (.bin .lss (.t 26) (.t 25))] []
(.seq (.cond (.t 27) .skip
 (.exit 2))
(.seq (.block 3 (sr [
tq 28 (.idxAddr 7 (.t 24) (.t 26)),
lq 29 7 28,
tq 9 (.alloc zaa [.z (.int .i64 0),.z (.str []),.z (.str []),.z (.int .i64 0),.z (.int .i64 0),.z (.int .i64 0),.z (.str [])]),
⟨none,none,.store 7 (.t 9) (.t 29)⟩] [28,29]
(sr [
mq 30 0,
lq 31 7 9,
tq 32 (.call true true (.k (.fn zf6 [] [])) [.t 30,.t 31]),
tq 33 (.len .slc (.t 32)),
tq 34 (.mv (kq 0))] [9,30,31]
(.block 4 (.loop [0,1,7,24,25,26,32,33,34] zmp)))))
(rg [
tq 59 (.bin .add (.t 26) (kq 1)),
mq 26 59] [59]))))
def zmr:C:=
  (sr [
tq 63 (.bin .lss (.t 62) (.t 61))] []
(.seq (.cond (.t 63) .skip
 (.exit 6))
(.seq (.block 7 (sr [
tq 64 (.idxAddr 7 (.t 60) (.t 62)),
lq 65 7 64,
tq 13 (.alloc zaa [.z (.int .i64 0),.z (.str []),.z (.str []),.z (.int .i64 0),.z (.int .i64 0),.z (.int .i64 0),.z (.str [])]),
⟨none,none,.store 7 (.t 13) (.t 65)⟩] [64,65]
(rg [
mq 66 0,
lq 67 7 13,
tq 68 (.call true true (.k (.fn zfa [] [])) [.t 66,.t 67,kq (-1)])] [13,66,67,68])))
(rg [
tq 69 (.bin .add (.t 62) (kq 1)),
mq 62 69] [69]))))
def zo1:CF:=⟨[.tmp 4],
  (sr [
tq 4 (.ownNil ⟨true,zau,2,16⟩)] [4]
(.seq (sr [
mq 14 1,
tq 15 (.len .slc (.t 14)),
tq 16 (.mv (kq 0))] []
(.block 0 (.loop [0,1,14,15,16] zmo)))
(sr [
tq 7 (.ownNil ⟨true,zau,2,16⟩)] []
(.seq (sr [
mq 24 1,
tq 25 (.len .slc (.t 24)),
tq 26 (.mv (kq 0))] []
(.block 2 (.loop [0,1,7,24,25,26] zmq)))
(.seq (sr [
mq 60 1,
tq 61 (.len .slc (.t 60)),
tq 62 (.mv (kq 0))] [1]
(.block 6 (.loop [0,7,60,61,62] zmr)))
(sr [
mq 70 7,
tq 71 (.call true true (.k (.fn zbr [] [])) [.t 70,.k (.fn zhn [] [])])] [70,71]
(sr [
mq 72 7,
tq 73 (.call true false (.k (.fn zbw [] [])) [.t 72]),
mq 4 73] [7,72,73]
.ret)))))))⟩
def z0g:CF:=⟨[.tmp 2],
  (sr [
tq 2 (.mv (.k (.d (.nilf))))] [2]
(sr [
mq 4 0,
tq 5 (cl zqg [.t 4]),
tq 3 (.alloc z8j [.z (.list 0 [])]),
⟨none,none,.store 1 (.t 3) (.t 5)⟩] [0,4,5]
(sr [
tq 6 (.mkFunc zod [] [.t 3]),
mq 2 6] [3,6]
.ret)))⟩
def zoz:C:=
  (sr [
tq 42 (.bin .lss (.t 41) (.t 40))] []
(.seq (.cond (.t 42) .skip
 (.exit 2))
(.seq (.block 3 (sr [
tq 43 (.idxAddr 1 (.t 39) (.t 41)),
ld 44 43,
mq 10 44] [43,44]
(sr [
mq 45 8,
mq 46 10,
tq 47 (.build [.z (.int .i64 0),.z (.int .i64 0)] [(0,1,.t 45),(1,1,.t 46)]),
tq 11 (.alloc zai [.z (.int .i64 0),.z (.int .i64 0)]),
⟨none,none,.store 2 (.t 11) (.t 47)⟩] [10,45,46,47]
(sr [
lq 48 2 2,
ld 49 3,
lq 50 2 11,
tq 51 (cl zjz [.t 48,.t 49,.t 50])] [48,49,50]
(.cond (.t 51) (rg [
mq 52 6,
lq 53 2 11,
tq 54 (.mkList 2 1 [.t 53]),
tq 55 (.append ⟨true,zai,2,16⟩ (.t 52) (.t 54)),
mq 6 55] [11,52,53,54,55])
 .skip)))))
(rg [
tq 56 (.bin .add (.t 41) (kq 1)),
mq 41 56] [56]))))
def zo0:C:=
  (sr [
tq 31 (.bin .lss (.t 30) (.t 29))] []
(.seq (.cond (.t 31) .skip
 (.exit 0))
(.seq (.block 1 (sr [
tq 32 (.idxAddr 1 (.t 28) (.t 30)),
ld 33 32,
mq 8 33] [32,33]
(sr [
ld 34 3,
tq 35 (.idxAddrA 2 1 (.t 2) (kq 1)),
ld 36 35,
tq 37 (.idxAddr 18 (.t 34) (.t 36)),
lq 38 18 37,
tq 39 (cl zcn [.t 38]),
tq 40 (.len .slc (.t 39)),
tq 41 (.mv (kq 0))] [34,35,36,37,38]
(.block 2 (.loop [2,3,5,6,8,28,29,30,39,40,41] zoz)))))
(rg [
tq 57 (.bin .add (.t 30) (kq 1)),
mq 30 57] [57]))))
def zqx:CF:=⟨[.tmp 4],
  (sr [
tq 2 (.box zdb (.t 0)),
tq 3 (.box zk6 (.t 1)),
tq 4 (.ownNil ⟨true,zai,2,16⟩)] [0,1,4]
(.seq (sr [
tq 12 (.idxAddrA 2 1 (.t 2) (kq 1)),
ld 13 12,
tq 14 (.bin .lss (.t 13) (kq 0))] [12,13]
(.cond (.t 14) (sr [
ld 15 3,
tq 16 (.idxAddrA 2 1 (.t 2) (kq 0)),
ld 17 16,
tq 18 (.idxAddr 18 (.t 15) (.t 17)),
lq 19 18 18,
tq 20 (cl zcn [.t 19]),
tq 21 (.call true false (.k (.fn zdh [] [])) [.t 20,.k (.fn zir [] [])]),
mq 4 21] [2,3,15,16,17,18,19,20,21]
.ret)
 .skip))
(sr [
tq 22 (.mkFunc zis [] [.t 3,.t 2]),
tq 5 (.alloc znp [.z (.nilf)]),
⟨none,none,.store 1 (.t 5) (.t 22)⟩] [22]
(sr [
tq 6 (.ownNil ⟨true,zai,2,16⟩)] []
(.seq (sr [
ld 23 3,
tq 24 (.idxAddrA 2 1 (.t 2) (kq 0)),
ld 25 24,
tq 26 (.idxAddr 18 (.t 23) (.t 25)),
lq 27 18 26,
tq 28 (cl zcn [.t 27]),
tq 29 (.len .slc (.t 28)),
tq 30 (.mv (kq 0))] [23,24,25,26,27]
(.block 0 (.loop [2,3,5,6,28,29,30] zo0)))
(sr [
mq 58 6,
tq 59 (.mkFunc zit [] [.t 5]),
tq 60 (.call true true (.k (.fn zbg [] [])) [.t 58,.t 59])] [5,58,59,60]
(sr [
mq 61 6,
mq 4 61] [6,61]
.ret)))))))⟩
def zmt:C:=
  (sr [
mq 8 12] [12]
(rg [
mq 9 13] [13]))
def zmu:C:=
  (.block 1 (.reg true [
ld 14 7,
ld 15 4,
mq 16 9,
tq 17 (.idxAddr 18 (.t 15) (.t 16)),
lq 18 18 17,
mq 19 8,
tq 20 (.idxAddrA 2 1 (.t 5) (.t 19)),
ld 21 20,
tq 22 (cl zn9 [.t 18,.t 21]),
tq 23 (.append ⟨false,zaa,7,80⟩ (.t 14) (.t 22)),
⟨none,none,.store 1 (.t 7) (.t 23)⟩] [4,5,7,8,9,14,15,16,17,18,19,20,21,22,23]))
def zo3:CF:=⟨[.tmp 6],
  (sr [
tq 3 (.box zdb (.t 0)),
tq 4 (.box zk6 (.t 1)),
tq 5 (.box zai (.t 2)),
tq 6 (.ownNil ⟨false,zaa,7,80⟩)] [0,1,2]
(sr [
tq 7 (.alloc zl2 [.own ⟨false,zaa,7,80⟩])] []
(.seq (sr [
lq 10 2 3,
tq 11 (.call false false (.k (.fn zf7 [] [])) [.t 10])] [3,10]
(.block 0 (.rangeFn 26 (.t 11) [12,13] zmt zmu)))
(sr [
ld 24 7,
mq 6 24] [7,24]
.ret))))⟩
def zsb:C:=
  (sr [
mq 6 10] [10]
(rg [
mq 7 11] [11]))
def zsc:C:=
  (.block 1 (.reg true [
ld 12 4,
mq 13 7,
ld 14 4,
mq 15 7,
mq 16 6,
tq 17 (.idxAddrA 2 1 (.t 5) (.t 16)),
ld 18 17,
tq 19 (.idxAddr 3 (.t 12) (.t 13)),
fa 20 1 19,
⟨none,none,.storeR 1 (.t 20) (.t 18) [4]⟩,
tq 21 (.idxAddr 3 (.t 14) (.t 15)),
fa 22 2 21,
⟨none,none,.store 1 (.t 22) (.k (.d (.bool true)))⟩] [4,5,6,7,12,13,14,15,16,17,18,19,20,21,22]))
def zu3:CF:=⟨[],
  (sr [
tq 3 (.box zdb (.t 0)),
tq 4 (.box zno (.t 1)),
tq 5 (.box zai (.t 2))] [0,1,2]
(sr [
lq 8 2 3,
tq 9 (.call false false (.k (.fn zf7 [] [])) [.t 8])] [3,8]
(.block 0 (.rangeFn 24 (.t 9) [10,11] zsb zsc))))⟩
def zqr:C:=
  (sr [
tq 18 (.bin .lss (.t 17) (.t 16))] []
(.seq (.cond (.t 18) .skip
 (.exit 0))
(.seq (.block 1 (sr [
tq 19 (.idxAddr 7 (.t 15) (.t 17)),
lq 20 7 19,
tq 11 (.alloc zaa [.z (.int .i64 0),.z (.str []),.z (.str []),.z (.int .i64 0),.z (.int .i64 0),.z (.int .i64 0),.z (.str [])]),
⟨none,none,.store 7 (.t 11) (.t 20)⟩] [19,20]
(rg [
mq 21 0,
lq 22 7 11,
mq 23 4,
tq 24 (.call true true (.k (.fn zfa [] [])) [.t 21,.t 22,.t 23])] [11,21,22,23,24])))
(rg [
tq 25 (.bin .add (.t 17) (kq 1)),
mq 17 25] [25]))))
def zso:CF:=⟨[],
  (sr [
tq 7 (.box zdb (.t 2)),
tq 8 (.box zai (.t 3))] [2,3]
(sr [
lq 12 2 7,
mq 13 1,
lq 14 2 8,
tq 15 (cl ze3 [.t 12,.t 13,.t 14]),
tq 16 (.len .slc (.t 15)),
tq 17 (.mv (kq 0))] [1,7,8,12,13,14]
(.block 0 (.loop [0,4,15,16,17] zqr))))⟩
def z0o:CF:=⟨[.tmp 6],
  (sr [
tq 6 (.mv (kq 0))] [6]
(sr [
mq 7 0,
mq 8 1,
tq 9 (.bin .lss (.t 7) (.t 8)),
mq 10 9,
gq 11 10 false (.mv (.t 0)),
gq 12 10 false (.mv (.t 2)),
gq 13 10 false (.bin .gtr (.t 11) (.t 12)),
tq 14 (.pick (.t 10) (.k (.d (.bool true))) (.t 13)),
tq 15 (cl zgu [.t 14,kq 3]),
mq 6 15] [0,1,2,7,8,9,10,11,12,13,14,15]
.ret))⟩
def z4j:CF:=⟨[.tmp 4],
  (sr [
tq 4 (.mv (.k (.d (.str []))))] [4]
(sr [
mq 6 0,
tq 7 (cl n_strconv_Itoa [.t 6]),
mq 5 7] [0,6,7]
(sr [
mq 8 1,
mq 9 5,
tq 10 (.len .str (.t 9)),
tq 11 (.bin .sub (.t 8) (.t 10)),
tq 12 (.minmax true [kq 0,.t 11]),
tq 13 (cl n_strings_Repeat [.k (.d (.str [48])),.t 12]),
mq 14 5,
tq 15 (.bin .add (.t 13) (.t 14)),
mq 4 15] [1,5,8,9,10,11,12,13,14,15]
.ret)))⟩
def zr0:CF:=⟨[.tmp 2],
  (sr [
tq 1 (.box zab (.t 0)),
tq 2 (.mv (kq 0))] [0,2]
(.seq (.reg true [
tq 6 (.callN (.k (.fn zeh [] [])) []),
fa 7 1 1,
ld 8 7,
tq 9 (.lookup .str (.agg [.nilf]) true (.t 6) (.t 8)),
mq 5 9,
xq 10 5 0,
xq 11 5 1,
tq 3 (.alloc z07 [.z (.nilf)]),
⟨none,none,.store 1 (.t 3) (.t 10)⟩,
mq 4 11] [3,5,6,7,8,9,10,11])
(.seq (.reg true [
fa 12 0 1,
ld 13 12,
tq 14 (cl za8 [.t 13]),
tq 15 (.un .not (.t 14)),
tq 16 (cl za1 [.t 15,kq 8]),
mq 17 4,
tq 18 (.un .not (.t 17)),
tq 19 (cl za1 [.t 18,kq 13]),
fa 20 2 1,
ld 21 20,
tq 22 (cl zd2 [.t 21]),
fa 23 3 1,
ld 24 23,
tq 25 (cl zat [.t 24,kq 1,kq 1440]),
fa 26 4 1,
ld 27 26,
tq 28 (cl zat [.t 27,kq 1,kq 1440]),
fa 29 5 1,
ld 30 29,
tq 31 (cl zat [.t 30,kq 0,kq 1439]),
fa 32 6 1,
ld 33 32,
tq 34 (cl zat [.t 33,kq 0,kq 1439]),
fa 35 5 1,
ld 36 35,
fa 37 6 1,
ld 38 37,
tq 39 (.bin .gtr (.t 36) (.t 38)),
tq 40 (cl za1 [.t 39,kq 11]),
fa 41 7 1,
lq 42 3 41,
tq 43 (cl za5 [.t 42]),
fa 44 10 1,
ld 45 44,
tq 46 (cl zat [.t 45,kq 0,kq 999999999]),
tq 47 (.mkList 1 10 [.t 16,.t 19,.t 22,.t 25,.t 28,.t 31,.t 34,.t 40,.t 43,.t 46]),
tq 48 (cl zak [.t 47]),
mq 2 48] [1,4,12,13,14,15,16,17,18,19,20,21,22,23,24,25,26,27,28,29,30,31,32,33,34,35,36,37,38,39,40,41,42,43,44,45,46,47,48])
.ret)))⟩
def zyx:CF:=⟨[.tmp 6],
  (sr [
tq 6 (.mv (kq 0))] [6]
(sr [
mq 7 0,
mq 8 1,
tq 9 (.bin .lss (.t 7) (.t 8)),
mq 10 9,
gq 11 10 false (.mv (.t 0)),
gq 12 10 false (.mv (.t 2)),
gq 13 10 false (.bin .gtr (.t 11) (.t 12)),
tq 14 (.pick (.t 10) (.k (.d (.bool true))) (.t 13)),
tq 15 (cl za1 [.t 14,kq 3]),
mq 6 15] [0,1,2,7,8,9,10,11,12,13,14,15]
.ret))⟩
def zud:CF:=⟨[.tmp 4],
  (sr [
tq 2 (.box zab (.t 0)),
tq 4 (.mv (.k (.d (.bool false))))] [0,4]
(sr [
fa 8 7 2,
lq 9 3 8,
mq 10 1,
tq 11 (cl zpg [.t 9,.t 10]),
mq 7 11,
xq 12 7 0,
xq 13 7 1,
mq 5 12,
mq 6 13] [1,2,7,8,9,10,11,12,13]
(sr [
mq 14 6,
tq 15 (.bin .eql (.t 14) (kq 0)),
mq 16 15,
gq 17 16 true (.mv (.t 5)),
tq 18 (.pick (.t 16) (.t 17) (.k (.d (.bool false)))),
mq 4 18] [5,6,14,15,16,17,18]
.ret)))⟩
def zul:CF:=⟨[.tmp 2],
  (sr [
tq 2 (.mv (.k (.d (.list 0 []))))] [2]
(sr [
mq 3 0,
tq 4 (.call true true (.k (.fn zht [] [])) [.k (.d .nil),.t 3]),
mq 2 4] [0,3,4]
.ret))⟩
def zqz:CF:=⟨[.tmp 4],
  (sr [
tq 2 (.box zab (.t 0)),
tq 3 (.box za4 (.t 1)),
tq 4 (.mv (.k (.d (.nilf))))] [0,1,4]
(sr [
tq 5 (.mkFunc zaf [] [.t 3,.t 2]),
mq 4 5] [2,3,5]
.ret))⟩
def zyt:CF:=⟨[.tmp 6],
  (sr [
tq 6 (.mv (kq 0))] [6]
(sr [
mq 7 0,
mq 8 1,
tq 9 (.bin .lss (.t 7) (.t 8)),
mq 10 9,
gq 11 10 false (.mv (.t 0)),
gq 12 10 false (.mv (.t 2)),
gq 13 10 false (.bin .gtr (.t 11) (.t 12)),
tq 14 (.pick (.t 10) (.k (.d (.bool true))) (.t 13)),
tq 15 (cl zfl [.t 14,kq 3]),
mq 6 15] [0,1,2,7,8,9,10,11,12,13,14,15]
.ret))⟩
def zmv:C:=
  (sr [
tq 12 (.bin .lss (.t 11) (.t 10))] []
(.seq (.cond (.t 12) .skip
 (.exit 0))
(.seq (.block 1 (sr [
mq 13 11,
tq 14 (.idxAddr 7 (.t 9) (.t 11)),
lq 15 7 14,
tq 4 (.alloc zaa [.z (.int .i64 0),.z (.str []),.z (.str []),.z (.int .i64 0),.z (.int .i64 0),.z (.int .i64 0),.z (.str [])]),
mq 3 13,
⟨none,none,.store 7 (.t 4) (.t 15)⟩] [13,14,15]
(.seq (.reg true [
lq 16 7 4,
tq 17 (cl zfn [.t 16]),
mq 18 3,
tq 19 (.bin .gtr (.t 18) (kq 0)),
mq 20 19,
gq 21 20 true (.fieldAddr 0 (.t 4)),
gq 22 20 true (.load none (.t 21)),
gq 23 20 true (.mv (.t 0)),
gq 24 20 true (.mv (.t 3)),
gq 25 20 true (.bin .sub (.t 24) (kq 1)),
gq 26 20 true (.minmax true [kq 0,.t 25]),
gq 27 20 true (.idxAddr 7 (.t 23) (.t 26)),
gq 28 20 true (.fieldAddr 0 (.t 27)),
gq 29 20 true (.load none (.t 28)),
gq 30 20 true (.bin .lss (.t 22) (.t 29)),
tq 31 (.pick (.t 20) (.t 30) (.k (.d (.bool false)))),
tq 32 (cl za1 [.t 31,kq 11]),
tq 33 (.mkList 1 2 [.t 17,.t 32]),
tq 34 (cl zak [.t 33]),
mq 5 34] [3,4,16,17,18,19,20,21,22,23,24,25,26,27,28,29,30,31,32,33,34])
(sr [
mq 35 5,
tq 36 (.bin .neq (.t 35) (kq 0))] [35]
(.cond (.t 36) (sr [
mq 37 5,
mq 2 37] [5,37]
.ret)
 .skip)))))
(rg [
tq 38 (.bin .add (.t 11) (kq 1)),
mq 11 38] [38]))))
def zo7:CF:=⟨[.tmp 2],
  (sr [
tq 2 (.mv (kq 0))] [2]
(.seq (sr [
mq 6 0,
tq 7 (.len .slc (.t 6)),
tq 8 (.bin .gtr (.t 7) (kq 30000))] [6,7]
(.cond (.t 8) (sr [
tq 2 (.mv (kq 5))] []
.ret)
 .skip))
(.seq (sr [
mq 9 0,
tq 10 (.len .slc (.t 9)),
tq 11 (.mv (kq 0))] []
(.block 0 (.loop [0,9,10,11] zmv)))
(sr [
tq 2 (.mv (kq 0))] []
.ret))))⟩
def zjq:C:=
  (rg [
mq 7 21] [21])
def zjr:C:=
  (.block 3 (sr [
ld 22 6,
mq 23 7,
fa 24 3 5,
ld 25 24,
tq 26 (cl zc6 [.t 22,.t 23,.t 25]),
mq 8 26] [6,22,23,24,25,26]
(sr [
mq 27 8,
fa 28 10 5,
ld 29 28,
tq 30 (.bin .gtr (.t 27) (.t 29)),
mq 31 30,
gq 32 31 true (.load none (.t 3)),
gq 33 31 true (.load none (.t 4)),
gq 34 31 true (.mv (.t 7)),
gq 35 31 true (.mv (.t 8)),
gq 36 31 true (.build [.z (.int .i64 0),.z (.int .i64 0),.z (.int .i64 0)] [(0,1,.t 33),(1,1,.t 34),(2,1,.t 35)]),
gq 37 31 true (.call true true (.t 32) [.t 36]),
gq 38 31 true (.un .not (.t 37)),
tq 39 (.pick (.t 31) (.t 38) (.k (.d (.bool false))))] [3,4,5,7,8,27,28,29,30,31,32,33,34,35,36,37,38]
(.cond (.t 39) .ret
 .skip))))
def zqs:C:=
  (sr [
tq 12 (.bin .lss (.t 11) (.t 10))] []
(.seq (.cond (.t 12) .skip
 (.exit 0))
(.seq (.block 1 (sr [
mq 13 11,
tq 14 (.idxAddr 11 (.t 9) (.t 11)),
lq 15 11 14,
tq 4 (.alloc za4 [.z (.int .i64 0)]),
tq 5 (.alloc zab [.z (.str []),.z (.str []),.z (.str []),.z (.int .i64 0),.z (.int .i64 0),.z (.int .i64 0),.z (.int .i64 0),.z (.int .i64 0),.z (.int .i64 0),.z (.int .i64 0),.z (.int .i64 0)]),
⟨none,none,.store 1 (.t 4) (.t 13)⟩,
⟨none,none,.store 11 (.t 5) (.t 15)⟩] [13,14,15]
(sr [
lq 16 11 5,
ld 17 2,
tq 18 (cl zf9 [.t 16,.t 17]),
tq 6 (.alloc zgd [.z (.list 0 [])]),
⟨none,none,.store 1 (.t 6) (.t 18)⟩] [16,17,18]
(sr [
lq 19 11 5,
tq 20 (.call false false (.k (.fn zfm [] [])) [.t 19])] [19]
(.block 2 (.rangeFn 42 (.t 20) [21] zjq zjr))))))
(rg [
tq 40 (.bin .add (.t 11) (kq 1)),
mq 11 40] [40]))))
def zsp:CF:=⟨[],
  (sr [
tq 3 (.box zhc (.t 0))] [0]
(sr [
ld 9 1,
tq 10 (.len .slc (.t 9)),
tq 11 (.mv (kq 0))] [1]
(.block 0 (.loop [2,3,7,9,10,11] zqs))))⟩
def zse:C:=
  (sr [
tq 16 (.bin .lss (.t 15) (.t 14))] []
(.seq (.cond (.t 16) .skip
 (.exit 0))
(.seq (.block 1 (sr [
tq 17 (.idxAddr 7 (.t 13) (.t 15)),
lq 18 7 17,
tq 8 (.alloc zaa [.z (.int .i64 0),.z (.str []),.z (.str []),.z (.int .i64 0),.z (.int .i64 0),.z (.int .i64 0),.z (.str [])]),
⟨none,none,.store 7 (.t 8) (.t 18)⟩] [17,18]
(sr [
fa 19 1 8,
ld 20 19,
fa 21 2 8,
ld 22 21,
tq 23 (.build [.z (.str []),.z (.str [])] [(0,1,.t 20),(1,1,.t 22)]),
tq 9 (.alloc yc0 [.z (.str []),.z (.str [])]),
⟨none,none,.store 2 (.t 9) (.t 23)⟩] [19,20,21,22,23]
(sr [
mq 25 6,
lq 26 2 9,
tq 27 (.lookup (.rc [true,true]) (.bool false) true (.t 25) (.t 26)),
mq 24 27,
xq 28 24 0,
xq 29 24 1,
mq 10 28,
mq 11 29] [24,25,26,27,28,29]
(.seq (sr [
mq 30 11,
tq 31 (.un .not (.t 30))] [11,30]
(.cond (.t 31) (sr [
lq 32 11 2,
fa 33 1 8,
ld 34 33,
fa 35 2 8,
ld 36 35,
tq 37 (cl zdj [.t 32,.t 34,.t 36]),
mq 10 37] [32,33,34,35,36,37]
(rg [
mq 38 6,
lq 39 2 9,
mq 40 10,
⟨none,none,.mapSet (.rc [true,true]) (.t 38) (.t 39) (.t 40)⟩] [9,38,39,40]))
 .skip))
(sr [
mq 41 10] [10]
(.cond (.t 41) (rg [
mq 42 5,
fa 43 0 8,
ld 44 43,
tq 45 (.mkList 1 1 [.t 44]),
tq 46 (.append ⟨false,za4,1,8⟩ (.t 42) (.t 45)),
mq 5 46] [8,42,43,44,45,46])
 .skip)))))))
(rg [
tq 47 (.bin .add (.t 15) (kq 1)),
mq 15 47] [47]))))
def zu7:CF:=⟨[.tmp 4],
  (sr [
tq 2 (.box zab (.t 0)),
tq 4 (.ownNil ⟨false,za4,1,8⟩)] [0,4]
(sr [
tq 5 (.ownNil ⟨false,za4,1,8⟩)] []
(sr [
tq 12 (.mkMap),
mq 6 12] [12]
(.seq (sr [
mq 13 1,
tq 14 (.len .slc (.t 13)),
tq 15 (.mv (kq 0))] [1]
(.block 0 (.loop [2,5,6,13,14,15] zse)))
(sr [
mq 48 5,
mq 4 48] [5,48]
.ret)))))⟩
def zp1:CF:=⟨[.tmp 2],
  (sr [
tq 1 (.box zab (.t 0)),
tq 2 (.mv (.k (.d (.nilf))))] [0,2]
(sr [
tq 3 (.mkFunc zbv [] [.t 1]),
mq 2 3] [1,3]
.ret))⟩
def zp3:CF:=⟨[.tmp 6],
  (sr [
tq 6 (.mv (kq 0))] [6]
(sr [
mq 7 0,
mq 8 1,
mq 9 2,
tq 10 (.bin .add (.t 8) (.t 9)),
tq 11 (cl zcx [.t 7,.t 10]),
mq 12 0,
mq 13 1,
tq 14 (cl zcx [.t 12,.t 13]),
tq 15 (.bin .sub (.t 11) (.t 14)),
mq 6 15] [0,1,2,7,8,9,10,11,12,13,14,15]
.ret))⟩
def z2i:CF:=⟨[.tmp 4],
  (sr [
tq 4 (.mv (kq 0))] [4]
(.seq (sr [
mq 5 0] [0]
(.cond (.t 5) (sr [
mq 6 1,
mq 4 6] [1,6]
.ret)
 .skip))
(sr [
tq 4 (.mv (kq 0))] []
.ret)))⟩
def zuy:C:=
  (sr [
tq 16 (.nextS (.t 15)),
xq 17 16 0] []
(.seq (.cond (.t 17) .skip
 (.exit 0))
(.block 1 (sr [
xq 18 16 1,
xq 19 16 2,
mq 3 18,
mq 4 19] [16,18,19]
(sr [
mq 20 4,
tq 21 (.bin .geq (.t 20) (.k (.d (.int .i32 65)))),
mq 22 21,
gq 23 22 true (.mv (.t 4)),
gq 24 22 true (.bin .leq (.t 23) (.k (.d (.int .i32 90)))),
tq 25 (.pick (.t 22) (.t 24) (.k (.d (.bool false)))),
mq 26 25,
gq 27 26 false (.mv (.t 4)),
gq 28 26 false (.bin .geq (.t 27) (.k (.d (.int .i32 97)))),
gq 29 26 false (.mv (.t 28)),
gq 30 29 true (.mv (.t 4)),
gq 31 29 true (.bin .leq (.t 30) (.k (.d (.int .i32 122)))),
gq 32 26 false (.pick (.t 29) (.t 31) (.k (.d (.bool false)))),
tq 33 (.pick (.t 26) (.k (.d (.bool true))) (.t 32)),
mq 5 33] [20,21,22,23,24,25,26,27,28,29,30,31,32,33]
(sr [
mq 34 5,
tq 35 (.un .not (.t 34)),
mq 36 35,
gq 37 36 true (.mv (.t 3)),
gq 38 36 true (.bin .eql (.t 37) (kq 0)),
gq 39 36 true (.mv (.t 38)),
gq 40 39 false (.mv (.t 4)),
gq 41 39 false (.bin .neq (.t 40) (.k (.d (.int .i32 95)))),
gq 42 39 false (.mv (.t 41)),
gq 43 42 true (.mv (.t 4)),
gq 44 42 true (.bin .lss (.t 43) (.k (.d (.int .i32 48)))),
gq 45 42 true (.mv (.t 44)),
gq 46 45 false (.mv (.t 4)),
gq 47 45 false (.bin .gtr (.t 46) (.k (.d (.int .i32 57)))),
gq 48 42 true (.pick (.t 45) (.k (.d (.bool true))) (.t 47)),
gq 49 39 false (.pick (.t 42) (.t 48) (.k (.d (.bool false)))),
gq 50 36 true (.pick (.t 39) (.k (.d (.bool true))) (.t 49)),
tq 51 (.pick (.t 36) (.t 50) (.k (.d (.bool false))))] [3,4,5,34,35,36,37,38,39,40,41,42,43,44,45,46,47,48,49,50]
(.cond (.t 51) (sr [
tq 2 (.mv (.k (.d (.bool false))))] []
.ret)
 .skip)))))))
def zyp:CF:=⟨[.tmp 2],
  (sr [
tq 2 (.mv (.k (.d (.bool false))))] [2]
(.seq (sr [
mq 6 0,
tq 7 (.len .str (.t 6)),
tq 8 (.bin .eql (.t 7) (kq 0)),
mq 9 8,
gq 10 9 false (.mv (.t 0)),
gq 11 9 false (.len .str (.t 10)),
gq 12 9 false (.bin .gtr (.t 11) (kq 24)),
tq 13 (.pick (.t 9) (.k (.d (.bool true))) (.t 12))] [6,7,8,9,10,11,12]
(.cond (.t 13) (sr [
tq 2 (.mv (.k (.d (.bool false))))] []
.ret)
 .skip))
(.seq (sr [
mq 14 0,
tq 15 (.rangeS (.t 14))] [0,14]
(.block 0 (.loop [15] zuy)))
(sr [
tq 2 (.mv (.k (.d (.bool true))))] []
.ret))))⟩
def zyw:CF:=⟨[.tmp 2],
  (sr [
tq 2 (.mv (kq 0))] [2]
(sr [
mq 3 0,
tq 4 (.bin .neq (.t 3) (.k (.d (.str [65])))),
mq 5 4,
gq 6 5 true (.mv (.t 0)),
gq 7 5 true (.bin .neq (.t 6) (.k (.d (.str [68])))),
tq 8 (.pick (.t 5) (.t 7) (.k (.d (.bool false)))),
tq 9 (cl za1 [.t 8,kq 13]),
mq 2 9] [0,3,4,5,6,7,8,9]
.ret))⟩
def zu9:CF:=⟨[.tmp 2],
  (sr [
tq 2 (.mv (kq 0))] [2]
(sr [
mq 3 0,
tq 4 (.bin .neq (.t 3) (.k (.d (.str [])))),
mq 5 4,
gq 6 5 true (.mv (.t 0)),
gq 7 5 true (cl za8 [.t 6]),
gq 8 5 true (.un .not (.t 7)),
tq 9 (.pick (.t 5) (.t 8) (.k (.d (.bool false)))),
tq 10 (cl za1 [.t 9,kq 8]),
mq 2 10] [0,3,4,5,6,7,8,9,10]
.ret))⟩
def z2h:CF:=⟨[.tmp 6],
  (sr [
tq 6 (.mv (kq 0))] [6]
(sr [
mq 7 0,
tq 8 (cl zat [.t 7,kq 0,kq 999]),
mq 9 1,
tq 10 (cl zat [.t 9,kq 0,kq 9]),
mq 11 2,
tq 12 (cl zat [.t 11,kq 0,kq 99]),
tq 13 (.mkList 1 3 [.t 8,.t 10,.t 12]),
tq 14 (cl zak [.t 13]),
mq 6 14] [0,1,2,7,8,9,10,11,12,13,14]
.ret))⟩
def zsd:C:=
  (.seq (sr [
mq 6 3,
fa 7 1 1,
ld 8 7,
tq 9 (.bin .leq (.t 6) (.t 8))] [6,7,8]
(.cond (.t 9) .skip
 (.exit 0)))
(.seq (.block 1 (.seq (.reg true [
fa 12 2 1,
ld 13 12,
mq 14 3,
tq 15 (cl zeo [.t 14]),
tq 16 (cl zh4 [.t 13,.t 15]),
mq 17 16,
gq 18 17 true (.mv (.t 0)),
gq 19 17 true (.mv (.t 3)),
gq 20 17 true (.call true true (.t 18) [.t 19]),
gq 21 17 true (.un .not (.t 20)),
tq 22 (.pick (.t 17) (.t 21) (.k (.d (.bool false))))] [12,13,14,15,16,17,18,19,20,21])
(.cond (.t 22) .ret
 .skip)))
(rg [
mq 10 3,
tq 11 (.bin .add (.t 10) (kq 1)),
mq 3 11] [10,11])))
def zu6:CF:=⟨[],
  (sr [
fa 4 0 1,
ld 5 4,
mq 3 5] [4,5]
(.block 0 (.loop [0,1,3] zsd)))⟩
def zyr:CF:=⟨[.tmp 4],
  (sr [
tq 4 (.mv (.k (.d (.bool false))))] [4]
(sr [
mq 5 0,
mq 6 1,
tq 7 (.bin .shr (.t 5) (.t 6)),
tq 8 (.bin .and (.t 7) (kq 1)),
tq 9 (.bin .eql (.t 8) (kq 1)),
mq 4 9] [0,1,5,6,7,8,9]
.ret))⟩
def zq0:CF:=⟨[.tmp 6],
  (sr [
tq 3 (.box zab (.t 0)),
tq 6 (.mv (.k (.d (.bool false))))] [0,6]
(.seq (.reg true [
tq 7 (.call false false (.k (.fn zeh [] [])) []),
fa 8 1 3,
ld 9 8,
tq 10 (.lookup .str (.agg [.nilf]) false (.t 7) (.t 9)),
tq 11 (.field 0 none (.t 10)),
mq 12 1,
tq 13 (.call true true (.t 11) [.t 12]),
mq 14 13,
gq 15 14 true (.fieldAddr 2 (.t 3)),
gq 16 14 true (.load none (.t 15)),
gq 17 14 true (.bin .eql (.t 16) (.k (.d (.str [])))),
gq 18 14 true (.mv (.t 17)),
gq 19 18 false (.fieldAddr 2 (.t 3)),
gq 20 18 false (.load none (.t 19)),
gq 21 18 false (.mv (.t 2)),
gq 22 18 false (.bin .eql (.t 20) (.t 21)),
gq 23 14 true (.pick (.t 18) (.k (.d (.bool true))) (.t 22)),
tq 24 (.pick (.t 14) (.t 23) (.k (.d (.bool false)))),
mq 6 24] [1,2,3,7,8,9,10,11,12,13,14,15,16,17,18,19,20,21,22,23,24])
.ret))⟩
def ya6:CF:=⟨[.tmp 4],
  (sr [
tq 2 (.box zag (.t 0)),
tq 4 (.mv (.k (.d (.bool false))))] [0,4]
(.seq (.reg true [
mq 5 1,
fa 6 0 2,
ld 7 6,
tq 8 (.bin .geq (.t 5) (.t 7)),
mq 9 8,
gq 10 9 true (.mv (.t 1)),
gq 11 9 true (.fieldAddr 1 (.t 2)),
gq 12 9 true (.load none (.t 11)),
gq 13 9 true (.bin .leq (.t 10) (.t 12)),
tq 14 (.pick (.t 9) (.t 13) (.k (.d (.bool false)))),
mq 15 14,
gq 16 15 true (.fieldAddr 2 (.t 2)),
gq 17 15 true (.load none (.t 16)),
gq 18 15 true (.mv (.t 1)),
gq 19 15 true (cl zng [.t 18]),
gq 20 15 true (cl zpk [.t 17,.t 19]),
tq 21 (.pick (.t 15) (.t 20) (.k (.d (.bool false)))),
mq 4 21] [1,2,5,6,7,8,9,10,11,12,13,14,15,16,17,18,19,20,21])
.ret))⟩
def zv7:C:=
  (sr [
tq 8 (.bin .lss (.t 7) (.t 6))] []
(.seq (.cond (.t 8) .skip
 (.exit 0))
(.seq (.block 1 (sr [
tq 9 (.idxAddr 1 (.t 5) (.t 7)),
ld 10 9,
mq 4 10] [9,10]
(sr [
mq 11 4,
tq 12 (.bin .neq (.t 11) (kq 0))] [11]
(.cond (.t 12) (sr [
mq 13 4,
mq 2 13] [4,13]
.ret)
 .skip))))
(rg [
tq 14 (.bin .add (.t 7) (kq 1)),
mq 7 14] [14]))))
def z0s:CF:=⟨[.tmp 2],
  (sr [
tq 2 (.mv (kq 0))] [2]
(.seq (sr [
mq 5 0,
tq 6 (.len .slc (.t 5)),
tq 7 (.mv (kq 0))] [0]
(.block 0 (.loop [5,6,7] zv7)))
(sr [
tq 2 (.mv (kq 0))] []
.ret)))⟩
def zq3:CF:=⟨[.tmp 2],
  (sr [
tq 1 (.box zbf (.t 0)),
tq 2 (.mv (kq 0))] [0,2]
(.seq (.seq (.reg true [
fa 4 0 1,
ld 5 4,
tq 6 (.len .slc (.t 5)),
tq 7 (.bin .eql (.t 6) (kq 0)),
tq 8 (cl za9 [.t 7,kq 12]),
fa 9 0 1,
ld 10 9,
tq 11 (.len .slc (.t 10)),
tq 12 (.bin .gtr (.t 11) (kq 16)),
tq 13 (cl za9 [.t 12,kq 5]),
tq 14 (.mkList 1 2 [.t 8,.t 13]),
tq 15 (cl za6 [.t 14]),
mq 3 15] [4,5,6,7,8,9,10,11,12,13,14,15])
(sr [
mq 16 3,
tq 17 (.bin .neq (.t 16) (kq 0))] [16]
(.cond (.t 17) (sr [
mq 18 3,
mq 2 18] [3,18]
.ret)
 .skip)))
(.seq (.reg true [
fa 19 0 1,
ld 20 19,
tq 21 (cl zfw [.t 20,.k (.fn zrq [] [])]),
lq 22 4 1,
tq 23 (cl zj9 [.t 22]),
tq 24 (.mkList 1 2 [.t 21,.t 23]),
tq 25 (cl za6 [.t 24]),
mq 2 25] [1,19,20,21,22,23,24,25])
.ret)))⟩
def zva:CF:=⟨[.tmp 2],
  (sr [
tq 2 (.mv (kq 0))] [2]
(sr [
mq 3 0,
tq 4 (cl zcv [.t 3,kq 1,kq 2147483646]),
mq 2 4] [0,3,4]
.ret))⟩
def zr3:CF:=⟨[.tmp 2],
  (sr [
tq 2 (.mv (kq 0))] [2]
(.seq (sr [
mq 3 0,
tq 4 (.len .slc (.t 3)),
tq 5 (.bin .gtr (.t 4) (kq 64))] [3,4]
(.cond (.t 5) (sr [
tq 2 (.mv (kq 5))] []
.ret)
 .skip))
(sr [
mq 6 0,
tq 7 (cl zfv [.t 6,.k (.fn zjk [] [])]),
mq 2 7] [0,6,7]
.ret)))⟩
def zyi:C:=
  (sr [
tq 30 (.bin .lss (.t 29) (.t 28))] []
(.seq (.cond (.t 30) .skip
 (.exit 0))
(.seq (.block 1 (sr [
mq 31 29,
tq 32 (.idxAddr 1 (.t 27) (.t 29)),
ld 33 32,
mq 9 31,
mq 10 33] [31,32,33]
(rg [
mq 34 8,
mq 35 10,
mq 36 6,
mq 37 9,
tq 38 (.idxAddr 1 (.t 36) (.t 37)),
ld 39 38,
tq 40 (.idxAddr 1 (.t 34) (.t 35)),
⟨none,none,.store 1 (.t 40) (.t 39)⟩] [9,10,34,35,36,37,38,39,40])))
(rg [
tq 41 (.bin .add (.t 29) (kq 1)),
mq 29 41] [41]))))
def z2o:CF:=⟨[.tmp 4],
  (sr [
tq 3 (.box zx3 (.t 1)),
tq 4 (.ownNil ⟨true,za4,1,8⟩)] [1,4]
(sr [
ld 11 3,
tq 12 (.len .slc (.t 11)),
tq 13 (.call false false (.k (.fn zkb [] [])) [.t 12]),
mq 5 13] [11,12,13]
(sr [
mq 14 5,
tq 15 (.mkFunc zqj [] [.t 3]),
tq 16 (.call true true (.k (.fn zcp [] [])) [.t 14,.t 15])] [14,15,16]
(sr [
mq 18 0,
ld 19 3,
tq 20 (.len .slc (.t 19)),
tq 21 (cl ztb [.t 18,.t 20]),
mq 17 21,
xq 22 17 0,
xq 23 17 1,
mq 6 22,
mq 7 23] [0,7,17,18,19,20,21,22,23]
(sr [
ld 24 3,
tq 25 (.len .slc (.t 24)),
tq 26 (.makeRow ⟨true,za4,1,8⟩ [.int .i64 0] (.t 25)),
mq 8 26] [3,24,25,26]
(.seq (sr [
mq 27 5,
tq 28 (.len .slc (.t 27)),
tq 29 (.mv (kq 0))] [5]
(.block 0 (.loop [6,8,27,28,29] zyi)))
(sr [
mq 42 8,
mq 4 42] [8,42]
.ret)))))))⟩
def zua:C:=
  (sr [
tq 7 (.bin .lss (.t 6) (.t 5))] []
(.seq (.cond (.t 7) .skip
 (.exit 0))
(.seq (.block 1 (sr [
mq 8 6,
mq 4 8] [8]
(rg [
mq 9 3,
mq 10 4,
tq 11 (.mkList 1 1 [.t 10]),
tq 12 (.append ⟨true,za4,1,8⟩ (.t 9) (.t 11)),
mq 3 12] [4,9,10,11,12])))
(rg [
tq 13 (.bin .add (.t 6) (kq 1)),
mq 6 13] [13]))))
def zwz:CF:=⟨[.tmp 2],
  (sr [
tq 2 (.ownNil ⟨true,za4,1,8⟩)] [2]
(sr [
tq 3 (.ownNil ⟨true,za4,1,8⟩)] []
(.seq (sr [
mq 5 0,
tq 6 (.mv (kq 0))] [0]
(.block 0 (.loop [3,5,6] zua)))
(sr [
mq 14 3,
mq 2 14] [3,14]
.ret))))⟩
def zn3:CF:=⟨[],
  (sr [
mq 5 0,
tq 6 (.len .slc (.t 5)),
mq 4 6] [5,6]
(rg [
mq 7 0,
mq 8 4,
mq 9 4,
tq 10 (.conv .u64 (.t 9)),
tq 11 (cl znc [.t 10]),
mq 12 1,
tq 13 (.call true true (.k (.fn zci [] [])) [.t 7,kq 0,.t 8,.t 11,.t 12])] [0,1,4,7,8,9,10,11,12,13]))⟩
def zn1:CF:=⟨[.tmp 5],
  (sr [
tq 5 (.mv (kq 0))] [5]
(sr [
lq 9 6 2,
mq 10 0,
mq 11 1,
tq 12 (cl zib [.t 9,.t 10,.t 11]),
mq 8 12,
xq 13 8 0,
xq 14 8 1,
mq 6 13,
mq 7 14] [0,1,2,7,8,9,10,11,12,13,14]
(sr [
mq 15 6,
mq 5 15] [6,15]
.ret)))⟩
def zn0:CF:=⟨[.tmp 6,.tmp 7],
  (sr [
tq 3 (.box zjf (.t 0)),
tq 6 (.mv (kq 0)),
tq 7 (.mv (.k (.d (.str []))))] [0,6,7]
(.seq (.reg true [
fa 11 0 3,
lq 12 4 11,
fa 13 4 3,
ld 14 13,
mq 15 1,
tq 16 (.idxAddr 18 (.t 14) (.t 15)),
lq 17 18 16,
fa 18 4 3,
ld 19 18,
mq 20 2,
tq 21 (.idxAddr 18 (.t 19) (.t 20)),
lq 22 18 21,
tq 23 (cl ziu [.t 12,.t 17,.t 22]),
mq 10 23,
xq 24 10 0,
xq 25 10 1,
mq 8 24,
mq 9 25] [10,11,12,13,14,15,16,17,18,19,20,21,22,23,24,25])
(.seq (sr [
mq 26 8,
tq 27 (.bin .eql (.t 26) (kq 0))] [26]
(.cond (.t 27) (.seq (.reg true [
fa 28 5 3,
ld 29 28,
mq 30 1,
tq 31 (.idxAddr 1 (.t 29) (.t 30)),
ld 32 31,
fa 33 5 3,
ld 34 33,
mq 35 2,
tq 36 (.idxAddr 1 (.t 34) (.t 35)),
ld 37 36,
tq 38 (cl zcu [.t 32,.t 37]),
mq 6 38,
tq 7 (.mv (.k (.d (.str [108,111,116]))))] [1,2,3,28,29,30,31,32,33,34,35,36,37,38])
.ret)
 .skip))
(sr [
mq 39 8,
mq 40 9,
mq 6 39,
mq 7 40] [8,9,39,40]
.ret))))⟩
def zln:C:=
  (sr [
tq 9 (.bin .lss (.t 8) (.t 7))] []
(.seq (.cond (.t 9) .skip
 (.exit 0))
(.seq (.block 1 (sr [
mq 10 8,
mq 5 10] [10]
(sr [
mq 11 1,
mq 12 0,
mq 13 5,
tq 14 (.idxAddr 1 (.t 12) (.t 13)),
ld 15 14,
tq 16 (.call true true (.t 11) [.t 15])] [11,12,13,14,15]
(.cond (.t 16) (sr [
mq 17 5,
mq 4 17] [5,17]
.ret)
 .skip))))
(rg [
tq 18 (.bin .add (.t 8) (kq 1)),
mq 8 18] [18]))))
def zm4:CF:=⟨[.tmp 4],
  (sr [
tq 4 (.mv (kq 0))] [4]
(.seq (sr [
mq 6 0,
tq 7 (.len .slc (.t 6)),
tq 8 (.mv (kq 0))] [6]
(.block 0 (.loop [0,1,7,8] zln)))
(sr [
tq 4 (.mv (kq (-1)))] []
.ret)))⟩
def zn2:CF:=⟨[.tmp 3],
  (sr [
tq 3 (.mv (.k (.d (.bool false))))] [3]
(.seq (.reg true [
fa 4 0 1,
lq 5 4 4,
fa 6 4 1,
ld 7 6,
mq 8 0,
tq 9 (.idxAddr 18 (.t 7) (.t 8)),
lq 10 18 9,
tq 11 (cl zco [.t 5,.t 10]),
fa 12 0 1,
fa 13 1 12,
ld 14 13,
tq 15 (.bin .geq (.t 11) (.t 14)),
mq 3 15] [0,1,4,5,6,7,8,9,10,11,12,13,14,15])
.ret))⟩
def zma:C:=
  (sr [
tq 21 (.bin .lss (.t 20) (.t 19))] []
(.seq (.cond (.t 21) .skip
 (.exit 2))
(.seq (.block 3 (sr [
tq 22 (.idxAddr 3 (.t 18) (.t 20)),
lq 23 3 22,
tq 8 (.alloc zgt [.z (.str []),.z (.str []),.z (.int .i64 0)]),
⟨none,none,.store 3 (.t 8) (.t 23)⟩] [22,23]
(sr [
lq 24 18 3,
lq 25 3 8,
tq 26 (cl zrr [.t 24,.t 25]),
tq 27 (.un .not (.t 26))] [8,24,25,26]
(.cond (.t 27) (.exit 1)
 .skip))))
(rg [
tq 28 (.bin .add (.t 20) (kq 1)),
mq 20 28] [28]))))
def zmb:C:=
  (sr [
tq 13 (.bin .lss (.t 12) (.t 11))] []
(.seq (.cond (.t 13) .skip
 (.exit 0))
(.seq (.block 1 (sr [
mq 14 12,
tq 15 (.idxAddr 3 (.t 10) (.t 12)),
lq 16 3 15,
tq 6 (.alloc zfs [.z (.str []),.z (.list 0 []),.z (.list 0 [])]),
mq 5 14,
⟨none,none,.store 3 (.t 6) (.t 16)⟩] [14,15,16]
(.seq (sr [
fa 17 1 6,
ld 18 17,
tq 19 (.len .slc (.t 18)),
tq 20 (.mv (kq 0))] [6,17]
(.block 2 (.loop [2,3,5,10,11,12,18,19,20] zma)))
(sr [
mq 29 5,
mq 4 29] [5,29]
.ret))))
(rg [
tq 30 (.bin .add (.t 12) (kq 1)),
mq 12 30] [30]))))
def zny:CF:=⟨[.tmp 4],
  (sr [
tq 2 (.box zbf (.t 0)),
tq 3 (.box zah (.t 1)),
tq 4 (.mv (kq 0))] [0,1,4]
(.scope (.seq .label
(.seq (sr [
fa 9 0 2,
ld 10 9,
tq 11 (.len .slc (.t 10)),
tq 12 (.mv (kq 0))] [9]
(.block 0 (.loop [2,3,10,11,12] zmb)))
(sr [
fa 31 0 2,
ld 32 31,
tq 33 (.len .slc (.t 32)),
mq 4 33] [2,31,32,33]
.ret)))))⟩
def zq7:CF:=⟨[.tmp 2],
  (sr [
tq 2 (.ownNil ⟨false,za4,1,8⟩)] [2]
(.seq (sr [
mq 3 0,
tq 4 (.nilEq 2 false (.t 3))] [3]
(.cond (.t 4) (sr [
tq 2 (.ownNil ⟨false,za4,1,8⟩)] []
.ret)
 .skip))
(sr [
tq 5 (.mkRow ⟨false,za4,1,8⟩ 0 []),
mq 6 0,
tq 7 (.append ⟨false,za4,1,8⟩ (.t 5) (.t 6)),
mq 2 7] [0,5,6,7]
.ret)))⟩
def zpw:C:=
  (sr [
tq 16 (.bin .lss (.t 15) (.t 14))] []
(.seq (.cond (.t 16) .skip
 (.exit 0))
(.seq (.block 1 (sr [
mq 17 15,
tq 18 (.idxAddr 1 (.t 13) (.t 15)),
ld 19 18,
mq 8 17,
mq 9 19] [17,18,19]
(rg [
mq 20 9,
tq 21 (.un .not (.t 20)),
tq 22 (cl zcg [.t 21]),
mq 23 9,
tq 24 (.un .not (.t 23)),
tq 25 (cl zcg [.t 24]),
tq 26 (.idxAddrA 2 1 (.t 7) (.t 25)),
ld 27 26,
mq 28 8,
tq 29 (.mkList 1 1 [.t 28]),
tq 30 (.append ⟨false,za4,1,8⟩ (.t 27) (.t 29)),
tq 31 (.idxAddrA 2 1 (.t 7) (.t 22)),
⟨none,none,.store 1 (.t 31) (.t 30)⟩] [8,9,20,21,22,23,24,25,26,27,28,29,30,31])))
(rg [
tq 32 (.bin .add (.t 15) (kq 1)),
mq 15 32] [32]))))
def zpx:C:=
  (sr [
tq 36 (.bin .lss (.t 35) (.t 34))] []
(.seq (.cond (.t 36) .skip
 (.exit 2))
(.seq (.block 3 (sr [
mq 37 35,
mq 11 37] [37]
(sr [
mq 38 11,
mq 39 0,
tq 40 (.bin .rem (.t 38) (.t 39)),
mq 41 1,
tq 42 (.bin .geq (.t 40) (.t 41)),
tq 43 (cl zcg [.t 42]),
mq 12 43] [11,38,39,40,41,42,43]
(.seq (sr [
mq 44 12,
tq 45 (.idxAddrA 2 1 (.t 7) (.t 44)),
ld 46 45,
tq 47 (.len .slc (.t 46)),
tq 48 (.bin .eql (.t 47) (kq 0))] [44,45,46,47]
(.cond (.t 48) (rg [
mq 49 12,
tq 50 (.bin .sub (kq 1) (.t 49)),
mq 12 50] [49,50])
 .skip))
(.regC [
mq 51 12,
mq 52 10,
mq 53 12,
tq 54 (.idxAddrA 2 1 (.t 7) (.t 53)),
ld 55 54,
tq 56 (.idxAddr 1 (.t 55) (kq 0)),
ld 57 56,
tq 58 (.mkList 1 1 [.t 57]),
tq 59 (.append ⟨false,za4,1,8⟩ (.t 52) (.t 58)),
mq 60 12,
tq 61 (.idxAddrA 2 1 (.t 7) (.t 60)),
ld 62 61,
tq 63 (.slice 1 (.t 62) (some (kq 1)) none none),
mq 10 59,
tq 64 (.idxAddrA 2 1 (.t 7) (.t 51)),
⟨none,none,.store 1 (.t 64) (.t 63)⟩] [12,51,52,53,54,55,56,57,58,59,60,61,62,63,64] [(7,59),(61,59),(62,59)])))))
(rg [
tq 65 (.bin .add (.t 35) (kq 1)),
mq 35 65] [65]))))
def zr4:CF:=⟨[.tmp 6],
  (sr [
tq 6 (.ownNil ⟨false,za4,1,8⟩)] [6]
(sr [
tq 7 (.alloc ykd [.own ⟨false,za4,1,8⟩,.own ⟨false,za4,1,8⟩])] []
(.seq (sr [
mq 13 2,
tq 14 (.len .slc (.t 13)),
tq 15 (.mv (kq 0))] []
(.block 0 (.loop [0,1,2,7,13,14,15] zpw)))
(sr [
tq 10 (.ownNil ⟨false,za4,1,8⟩)] []
(.seq (sr [
mq 33 2,
tq 34 (.len .slc (.t 33)),
tq 35 (.mv (kq 0))] [2,33]
(.block 2 (.loop [0,1,7,10,34,35] zpx)))
(sr [
mq 66 10,
mq 6 66] [10,66]
.ret))))))⟩
def z0m:CF:=⟨[.tmp 4],
  (sr [
tq 3 (.box zcc (.t 1)),
tq 4 (.mv (kq 0))] [1,4]
(sr [
mq 5 0,
tq 6 (.mkFunc zc7 [] [.t 3]),
tq 7 (.call true true (.k (.fn zam [] [])) [.t 5,.t 6]),
mq 4 7] [0,3,5,6,7]
.ret))⟩
def zsn:CF:=⟨[.tmp 2],
  (sr [
tq 1 (.box zaz (.t 0)),
tq 2 (.mv (kq 0))] [0,2]
(sr [
fa 7 0 1,
lq 8 13 7,
tq 3 (.alloc zaj [.z (.str []),.z (.str []),.z (.str []),.z (.str []),.z (.str []),.z (.str []),.z (.int .i64 0),.z (.int .i64 0),.z (.int .i64 0),.z (.int .i64 0),.z (.int .i64 0),.z (.int .i64 0),.z (.int .i64 0)]),
⟨none,none,.store 13 (.t 3) (.t 8)⟩] [7,8]
(sr [
lq 10 13 3,
tq 11 (cl zck [.t 10]),
mq 9 11,
xq 12 9 0,
xq 13 9 1,
mq 4 12,
mq 5 13] [4,9,10,11,12,13]
(sr [
tq 6 (.mv (.k (.fn zjx [] [])))] []
(.seq (.reg true [
mq 14 5,
fa 15 1 3,
ld 16 15,
tq 17 (cl za8 [.t 16]),
tq 18 (.un .not (.t 17)),
mq 19 18,
gq 20 19 false (.mv (.t 6)),
gq 21 19 false (.fieldAddr 4 (.t 3)),
gq 22 19 false (.load none (.t 21)),
gq 23 19 false (.callR true (.t 20) [.t 22] [1,3]),
tq 24 (.pick (.t 19) (.k (.d (.bool true))) (.t 23)),
mq 25 24,
gq 26 25 false (.mv (.t 6)),
gq 27 25 false (.fieldAddr 5 (.t 3)),
gq 28 25 false (.load none (.t 27)),
gq 29 25 false (.callR true (.t 26) [.t 28] [1,3]),
tq 30 (.pick (.t 25) (.k (.d (.bool true))) (.t 29)),
tq 31 (cl zd0 [.t 30,kq 8]),
fa 32 13 1,
ld 33 32,
tq 34 (cl zdr [.t 33,kq 0,kq 1439]),
fa 35 14 1,
ld 36 35,
tq 37 (cl zdr [.t 36,kq 0,kq 1439]),
fa 38 13 1,
ld 39 38,
fa 40 9 3,
ld 41 40,
tq 42 (.bin .gtr (.t 39) (.t 41)),
mq 43 42,
gq 44 43 false (.fieldAddr 14 (.t 1)),
gq 45 43 false (.load none (.t 44)),
gq 46 43 false (.fieldAddr 9 (.t 3)),
gq 47 43 false (.load none (.t 46)),
gq 48 43 false (.bin .lss (.t 45) (.t 47)),
tq 49 (.pick (.t 43) (.k (.d (.bool true))) (.t 48)),
tq 50 (cl zd0 [.t 49,kq 11]),
fa 51 15 1,
ld 52 51,
tq 53 (cl zdr [.t 52,kq 1,kq 120]),
tq 54 (.mkList 1 6 [.t 14,.t 31,.t 34,.t 37,.t 50,.t 53]),
tq 55 (cl zgp [.t 54]),
mq 5 55] [6,14,15,16,17,18,19,20,21,22,23,24,25,26,27,28,29,30,31,32,33,34,35,36,37,38,39,40,41,42,43,44,45,46,47,48,49,50,51,52,53,54,55])
(.seq (sr [
mq 56 5,
tq 57 (.bin .neq (.t 56) (kq 0))] [56]
(.cond (.t 57) (sr [
mq 58 5,
mq 2 58] [5,58]
.ret)
 .skip))
(.seq (.reg true [
fa 59 9 3,
ld 60 59,
fa 61 13 1,
ld 62 61,
tq 63 (.bin .sub (.t 60) (.t 62)),
fa 64 15 1,
ld 65 64,
tq 66 (.bin .quo (.t 63) (.t 65)),
fa 67 14 1,
ld 68 67,
fa 69 9 3,
ld 70 69,
tq 71 (.bin .sub (.t 68) (.t 70)),
fa 72 15 1,
ld 73 72,
tq 74 (.bin .quo (.t 71) (.t 73)),
tq 75 (.bin .add (.t 66) (.t 74)),
tq 76 (.bin .add (.t 75) (kq 1)),
tq 77 (.bin .gtr (.t 76) (kq 96)),
tq 78 (cl zd0 [.t 77,kq 22]),
fa 79 16 1,
ld 80 79,
tq 81 (cl zdr [.t 80,kq 0,kq 1440]),
fa 82 17 1,
ld 83 82,
tq 84 (cl zdr [.t 83,kq 0,kq 1440]),
fa 85 16 1,
ld 86 85,
fa 87 17 1,
ld 88 87,
tq 89 (.bin .gtr (.t 86) (.t 88)),
tq 90 (cl zd0 [.t 89,kq 11]),
tq 91 (.mkList 1 4 [.t 78,.t 81,.t 84,.t 90]),
tq 92 (cl zgp [.t 91]),
mq 2 92] [1,3,59,60,61,62,63,64,65,66,67,68,69,70,71,72,73,74,75,76,77,78,79,80,81,82,83,84,85,86,87,88,89,90,91,92])
.ret)))))))⟩
def z2b:CF:=⟨[.tmp 4],
  (sr [
tq 4 (.mv (kq 0))] [4]
(.seq (sr [
mq 5 0] [0]
(.cond (.t 5) (sr [
mq 6 1,
mq 4 6] [1,6]
.ret)
 .skip))
(sr [
tq 4 (.mv (kq 0))] []
.ret)))⟩
def z0f:CF:=⟨[.tmp 4],
  (sr [
tq 3 (.box zcc (.t 1)),
tq 4 (.mv (kq 0))] [1,4]
(sr [
mq 5 0,
tq 6 (.mkFunc zob [] [.t 3]),
tq 7 (.call true true (.k (.fn zb5 [] [])) [.t 5,.t 6]),
mq 4 7] [0,3,5,6,7]
.ret))⟩
def zd9:C:=
  (sr [
tq 11 (.bin .lss (.t 10) (.t 9))] []
(.seq (.cond (.t 11) .skip
 (.exit 0))
(.seq (.block 1 (sr [
tq 12 (.idxAddr 18 (.t 8) (.t 10)),
lq 13 18 12,
tq 7 (.alloc zaz [.z (.str []),.z (.str []),.z (.str []),.z (.str []),.z (.str []),.z (.str []),.z (.int .i64 0),.z (.int .i64 0),.z (.int .i64 0),.z (.int .i64 0),.z (.int .i64 0),.z (.int .i64 0),.z (.int .i64 0),.z (.int .i64 0),.z (.int .i64 0),.z (.int .i64 0),.z (.int .i64 0),.z (.int .i64 0)]),
⟨none,none,.store 18 (.t 7) (.t 13)⟩] [12,13]
(rg [
mq 14 5,
mq 15 1,
lq 16 18 7,
tq 17 (.call true true (.t 15) [.t 16]),
tq 18 (.mkList 3 1 [.t 17]),
tq 19 (.append ⟨true,zb3,3,32⟩ (.t 14) (.t 18)),
mq 5 19] [7,14,15,16,17,18,19])))
(rg [
tq 20 (.bin .add (.t 10) (kq 1)),
mq 10 20] [20]))))
def ze1:CF:=⟨[.tmp 4],
  (sr [
tq 4 (.ownNil ⟨true,zb3,3,32⟩)] [4]
(sr [
tq 5 (.ownNil ⟨true,zb3,3,32⟩)] []
(.seq (sr [
mq 8 0,
tq 9 (.len .slc (.t 8)),
tq 10 (.mv (kq 0))] [0]
(.block 0 (.loop [1,5,8,9,10] zd9)))
(sr [
mq 21 5,
mq 4 21] [5,21]
.ret))))⟩
def zuc:CF:=⟨[.cell 2 (some 3)],
  (sr [
tq 1 (.box zaz (.t 0)),
tq 2 (.alloc zb3 [.z (.str []),.z (.int .i64 0),.z (.bool false)])] [0]
(sr [
fa 3 0 1,
fa 4 0 3,
ld 5 4,
tq 6 (.build [.z (.str []),.z (.int .i64 0),.z (.bool false)] [(0,1,.t 5)]),
⟨none,none,.store 3 (.t 2) (.t 6)⟩] [1,3,4,5,6]
.ret))⟩
def zru:C:=
  (sr [
tq 13 (.bin .lss (.t 12) (.t 11))] []
(.seq (.cond (.t 13) .skip
 (.exit 0))
(.seq (.block 1 (sr [
tq 14 (.idxAddr 2 (.t 10) (.t 12)),
lq 15 2 14,
tq 7 (.alloc zau [.z (.int .i64 0),.z (.int .i64 0)]),
⟨none,none,.store 2 (.t 7) (.t 15)⟩] [14,15]
(rg [
mq 16 0,
tq 17 (.nilCheck (.t 16)),
fa 18 1 17,
ld 19 18,
lq 20 2 7,
tq 21 (.lookup (.rc [false,false]) (.int .i64 0) false (.t 19) (.t 20)),
mq 22 2,
tq 23 (.bin .add (.t 21) (.t 22)),
⟨none,none,.mapSet (.rc [false,false]) (.t 19) (.t 20) (.t 23)⟩] [7,16,17,18,19,20,21,22,23,24,25])))
(rg [
tq 26 (.bin .add (.t 12) (kq 1)),
mq 12 26] [26]))))
def zub:CF:=⟨[],
  (sr [
tq 4 (.box zaa (.t 1))] [1]
(sr [
mq 8 0,
lq 9 7 4,
tq 10 (.call true true (.k (.fn zf6 [] [])) [.t 8,.t 9]),
tq 11 (.len .slc (.t 10)),
tq 12 (.mv (kq 0))] [4,8,9]
(.block 0 (.loop [0,2,10,11,12] zru))))⟩
def zow:C:=
  (sr [
tq 69 (.bin .lss (.t 68) (.t 67))] []
(.seq (.cond (.t 69) .skip
 (.exit 4))
(.seq (.block 5 (sr [
tq 70 (.idxAddr 1 (.t 66) (.t 68)),
ld 71 70,
mq 14 71] [70,71]
(sr [
mq 72 14,
fa 73 0 3,
ld 74 73,
tq 75 (.bin .leq (.t 72) (.t 74)),
mq 76 75,
gq 77 76 true (.fieldAddr 0 (.t 3)),
gq 78 76 true (.load none (.t 77)),
gq 79 76 true (.mv (.t 14)),
gq 80 76 true (.fieldAddr 3 (.t 7)),
gq 81 76 true (.load none (.t 80)),
gq 82 76 true (.bin .add (.t 79) (.t 81)),
gq 83 76 true (.bin .lss (.t 78) (.t 82)),
tq 84 (.pick (.t 76) (.t 83) (.k (.d (.bool false))))] [72,73,74,75,76,77,78,79,80,81,82,83]
(.cond (.t 84) (rg [
mq 85 5,
mq 86 6,
mq 87 14,
tq 88 (.build [.z (.int .i64 0),.z (.int .i64 0)] [(0,1,.t 86),(1,1,.t 87)]),
tq 89 (.mkList 2 1 [.t 88]),
tq 90 (.append ⟨false,zau,2,16⟩ (.t 85) (.t 89)),
mq 5 90] [14,85,86,87,88,89,90])
 .skip))))
(rg [
tq 91 (.bin .add (.t 68) (kq 1)),
mq 68 91] [91]))))
def zox:C:=
  (sr [
tq 38 (.bin .lss (.t 37) (kq 2))] []
(.seq (.cond (.t 38) .skip
 (.exit 2))
(.seq (.block 3 (sr [
tq 39 (.idxA 2 1 none (.t 36) (.t 37)),
mq 9 39] [39]
(sr [
mq 40 6,
mq 41 9,
tq 42 (.build [.z (.int .i64 0),.z (.int .i64 0)] [(0,1,.t 40),(1,1,.t 41)]),
tq 10 (.alloc zau [.z (.int .i64 0),.z (.int .i64 0)]),
⟨none,none,.store 2 (.t 10) (.t 42)⟩] [40,41,42]
(.seq (.reg true [
mq 44 0,
tq 45 (.nilCheck (.t 44)),
fa 46 2 45,
ld 47 46,
lq 48 2 10,
tq 49 (.lookup (.rc [false,false]) (.list 0 []) true (.t 47) (.t 48)),
mq 43 49,
xq 50 43 0,
xq 51 43 1,
mq 11 50,
mq 12 51] [43,44,45,46,47,48,49,50,51])
(.seq (sr [
mq 52 12,
tq 53 (.un .not (.t 52))] [12,52]
(.cond (.t 53) (sr [
lq 55 11 7,
mq 56 9,
tq 57 (cl zh5 [.t 55,.t 56]),
mq 54 57,
xq 58 54 0,
xq 59 54 1,
mq 11 58] [9,54,55,56,57,58,59]
(.reg true [
mq 60 0,
tq 61 (.nilCheck (.t 60)),
fa 62 2 61,
ld 63 62,
lq 64 2 10,
mq 65 11,
⟨none,none,.mapSet (.rc [false,false]) (.t 63) (.t 64) (.t 65)⟩] [10,60,61,62,63,64,65]))
 .skip))
(sr [
mq 66 11,
tq 67 (.len .slc (.t 66)),
tq 68 (.mv (kq 0))] [11]
(.block 4 (.loop [0,3,5,6,7,18,19,20,36,37,66,67,68] zow))))))))
(rg [
tq 92 (.bin .add (.t 37) (kq 1)),
mq 37 92] [92]))))
def zoy:C:=
  (sr [
tq 21 (.bin .lss (.t 20) (.t 19))] []
(.seq (.cond (.t 21) .skip
 (.exit 0))
(.seq (.block 1 (sr [
mq 22 20,
tq 23 (.idxAddr 11 (.t 18) (.t 20)),
lq 24 11 23,
tq 7 (.alloc zab [.z (.str []),.z (.str []),.z (.str []),.z (.int .i64 0),.z (.int .i64 0),.z (.int .i64 0),.z (.int .i64 0),.z (.int .i64 0),.z (.int .i64 0),.z (.int .i64 0),.z (.int .i64 0)]),
mq 6 22,
⟨none,none,.store 11 (.t 7) (.t 24)⟩] [22,23,24]
(.seq (sr [
lq 25 11 7,
lq 26 7 3,
tq 27 (cl zoa [.t 25,.t 26]),
tq 28 (.un .not (.t 27))] [25,26,27]
(.cond (.t 28) (.exit 1)
 .skip))
(sr [
fa 29 0 3,
ld 30 29,
tq 31 (.bin .quo (.t 30) (kq 1440)),
tq 32 (.bin .sub (.t 31) (kq 1)),
fa 33 0 3,
ld 34 33,
tq 35 (.bin .quo (.t 34) (kq 1440)),
tq 36 (.build [.z (.int .i64 0),.z (.int .i64 0)] [(0,1,.t 32),(1,1,.t 35)]),
tq 37 (.mv (kq 0))] [29,30,31,32,33,34,35]
(.block 2 (.loop [0,3,5,6,7,18,19,20,36,37] zox))))))
(rg [
tq 93 (.bin .add (.t 20) (kq 1)),
mq 20 93] [93]))))
def zqv:CF:=⟨[.tmp 4],
  (sr [
tq 3 (.box zaa (.t 1)),
tq 4 (.ownNil ⟨false,zau,2,16⟩)] [1,4]
(sr [
tq 5 (.ownNil ⟨false,zau,2,16⟩)] []
(.seq (sr [
mq 15 0,
tq 16 (.nilCheck (.t 15)),
fa 17 0 16,
ld 18 17,
tq 19 (.len .slc (.t 18)),
tq 20 (.mv (kq 0))] [15,16,17]
(.block 0 (.loop [0,3,5,18,19,20] zoy)))
(sr [
mq 94 5,
mq 4 94] [5,94]
.ret))))⟩
def zd8:CF:=⟨[],
  (sr [
mq 5 0,
tq 6 (.len .slc (.t 5)),
mq 4 6] [5,6]
(rg [
mq 7 0,
mq 8 4,
mq 9 4,
tq 10 (.conv .u64 (.t 9)),
tq 11 (cl znc [.t 10]),
mq 12 1,
tq 13 (.call true true (.k (.fn za2 [] [])) [.t 7,kq 0,.t 8,.t 11,.t 12])] [0,1,4,7,8,9,10,11,12,13]))⟩
def zm2:CF:=⟨[.tmp 4],
  (sr [
tq 2 (.box zau (.t 0)),
tq 3 (.box zau (.t 1)),
tq 4 (.mv (kq 0))] [0,1,4]
(.seq (.reg true [
fa 5 0 2,
ld 6 5,
fa 7 0 3,
ld 8 7,
tq 9 (cl zcu [.t 6,.t 8]),
fa 10 1 2,
ld 11 10,
fa 12 1 3,
ld 13 12,
tq 14 (cl zcu [.t 11,.t 13]),
tq 15 (.mkList 1 2 [.t 9,.t 14]),
tq 16 (cl ztc [.t 15]),
mq 4 16] [2,3,5,6,7,8,9,10,11,12,13,14,15,16])
.ret))⟩
def z4d:C:=
  (sr [
tq 9 (.bin .lss (.t 8) (.t 7))] []
(.seq (.cond (.t 9) .skip
 (.exit 0))
(.seq (.block 1 (sr [
tq 10 (.idxAddr 1 (.t 6) (.t 8)),
ld 11 10,
mq 5 11] [10,11]
(sr [
mq 12 5,
mq 13 3,
tq 14 (.bin .neq (.t 12) (.t 13))] [12,13]
(.cond (.t 14) (sr [
mq 15 5,
mq 2 15] [5,15]
.ret)
 .skip))))
(rg [
tq 16 (.bin .add (.t 8) (kq 1)),
mq 8 16] [16]))))
def z8t:CF:=⟨[.tmp 2],
  (sr [
tq 2 (.mv (kq 0))] [2]
(sr [
tq 3 (.mv (kq 0))] []
(.seq (sr [
mq 6 0,
tq 7 (.len .slc (.t 6)),
tq 8 (.mv (kq 0))] [0]
(.block 0 (.loop [3,6,7,8] z4d)))
(sr [
mq 17 3,
mq 2 17] [3,17]
.ret))))⟩
def zyy:CF:=⟨[.tmp 4],
  (sr [
tq 4 (.mv (kq 0))] [4]
(sr [
mq 7 0,
tq 8 (cl zfo [.t 7]),
mq 5 8] [7,8]
(sr [
mq 9 1,
tq 10 (cl zfo [.t 9]),
mq 6 10] [9,10]
(.seq (sr [
mq 11 5] [5]
(.cond (.t 11) (.seq (sr [
mq 12 6] [6]
(.cond (.t 12) (sr [
tq 4 (.mv (kq 0))] []
.ret)
 .skip))
(sr [
tq 4 (.mv (kq (-1)))] []
.ret))
 .skip))
(.seq (sr [
mq 13 6] [6]
(.cond (.t 13) (sr [
tq 4 (.mv (kq 1))] []
.ret)
 .skip))
(.seq (sr [
mq 14 0,
mq 15 1,
tq 16 (.bin .lss (.t 14) (.t 15))] [14,15]
(.cond (.t 16) (sr [
tq 4 (.mv (kq (-1)))] []
.ret)
 .skip))
(.seq (sr [
mq 17 0,
mq 18 1,
tq 19 (.bin .gtr (.t 17) (.t 18))] [0,1,17,18]
(.cond (.t 19) (sr [
tq 4 (.mv (kq 1))] []
.ret)
 .skip))
(sr [
tq 4 (.mv (kq 0))] []
.ret))))))))⟩
def zdt:C:=
  (.seq (sr [
mq 29 5,
mq 30 4,
tq 31 (.len .slc (.t 30)),
tq 32 (.bin .lss (.t 29) (.t 31))] [29,30,31]
(.cond (.t 32) .skip
 (.exit 2)))
(.seq (.block 3 (.seq (.reg true [
mq 35 4,
mq 36 5,
tq 37 (.idxAddr 2 (.t 35) (.t 36)),
lq 38 2 37,
mq 39 4,
mq 40 5,
tq 41 (.bin .sub (.t 40) (kq 1)),
tq 42 (.idxAddr 2 (.t 39) (.t 41)),
lq 43 2 42,
tq 44 (.eqv (some [.int,.int]) true (.t 38) (.t 43))] [35,36,37,38,39,40,41,42,43])
(.cond (.t 44) (sr [
mq 45 0,
mq 46 3,
mq 47 4,
mq 48 5,
tq 49 (.idxAddr 2 (.t 47) (.t 48)),
lq 50 2 49,
tq 51 (.idxAddr 2 (.t 45) (.t 46)),
⟨none,none,.store 2 (.t 51) (.t 50)⟩] [45,46,47,48,49,50,51]
(rg [
mq 52 3,
tq 53 (.bin .add (.t 52) (kq 1)),
mq 3 53] [52,53]))
 .skip)))
(rg [
mq 33 5,
tq 34 (.bin .add (.t 33) (kq 1)),
mq 5 34] [33,34])))
def zdu:C:=
  (.seq (sr [
mq 10 3,
mq 11 0,
tq 12 (.len .slc (.t 11)),
tq 13 (.bin .lss (.t 10) (.t 12))] [10,11,12]
(.cond (.t 13) .skip
 (.exit 0)))
(.seq (.block 1 (.seq (.reg true [
mq 16 0,
mq 17 3,
tq 18 (.idxAddr 2 (.t 16) (.t 17)),
lq 19 2 18,
mq 20 0,
mq 21 3,
tq 22 (.bin .sub (.t 21) (kq 1)),
tq 23 (.idxAddr 2 (.t 20) (.t 22)),
lq 24 2 23,
tq 25 (.eqv (some [.int,.int]) false (.t 19) (.t 24))] [16,17,18,19,20,21,22,23,24])
(.cond (.t 25) (sr [
mq 26 0,
mq 27 3,
tq 28 (.slice 2 (.t 26) (some (.t 27)) none none),
mq 4 28] [26,27,28]
(.seq (sr [
tq 5 (.mv (kq 1))] []
(.block 2 (.loop [0,3,4,5] zdt)))
(sr [
mq 54 0,
mq 55 3,
tq 56 (.slice 2 (.t 54) (some (.t 55)) none none),
⟨none,none,.clear [.int .i64 0,.int .i64 0] (.t 56)⟩] [54,55,56]
(sr [
mq 57 0,
mq 58 3,
tq 59 (.slice 2 (.t 57) none (some (.t 58)) none),
mq 2 59] [0,3,57,58,59]
.ret))))
 .skip)))
(rg [
mq 14 3,
tq 15 (.bin .add (.t 14) (kq 1)),
mq 3 15] [14,15])))
def zec:CF:=⟨[.tmp 2],
  (sr [
tq 2 (.ownNil ⟨true,zau,2,16⟩)] [2]
(.seq (sr [
mq 6 0,
tq 7 (.len .slc (.t 6)),
tq 8 (.bin .lss (.t 7) (kq 2))] [6,7]
(.cond (.t 8) (sr [
mq 9 0,
mq 2 9] [0,9]
.ret)
 .skip))
(.seq (sr [
tq 3 (.mv (kq 1))] []
(.block 0 (.loop [0,3] zdu)))
(sr [
mq 60 0,
mq 2 60] [0,60]
.ret))))⟩
def zux:C:=
  (sr [
tq 10 (.bin .lss (.t 9) (.t 8))] []
(.seq (.cond (.t 10) .skip
 (.exit 0))
(.seq (.block 1 (sr [
mq 11 9,
tq 12 (.idxAddr 18 (.t 7) (.t 9)),
lq 13 18 12,
tq 5 (.alloc zaz [.z (.str []),.z (.str []),.z (.str []),.z (.str []),.z (.str []),.z (.str []),.z (.int .i64 0),.z (.int .i64 0),.z (.int .i64 0),.z (.int .i64 0),.z (.int .i64 0),.z (.int .i64 0),.z (.int .i64 0),.z (.int .i64 0),.z (.int .i64 0),.z (.int .i64 0),.z (.int .i64 0),.z (.int .i64 0)]),
mq 4 11,
⟨none,none,.store 18 (.t 5) (.t 13)⟩] [11,12,13]
(rg [
ld 14 3,
fa 15 0 5,
fa 16 0 15,
ld 17 16,
mq 18 4,
⟨none,none,.mapSet .str (.t 14) (.t 17) (.t 18)⟩] [4,5,14,15,16,17,18])))
(rg [
tq 19 (.bin .add (.t 9) (kq 1)),
mq 9 19] [19]))))
def zym:CF:=⟨[.tmp 2],
  (sr [
tq 2 (.mv (.k (.d (.list 0 []))))] [2]
(sr [
tq 6 (.mkMap),
tq 3 (.alloc zzr [.z (.nilm)]),
⟨none,none,.store 1 (.t 3) (.t 6)⟩] [6]
(.seq (sr [
mq 7 0,
tq 8 (.len .slc (.t 7)),
tq 9 (.mv (kq 0))] []
(.block 0 (.loop [0,3,7,8,9] zux)))
(sr [
mq 20 0,
tq 21 (.mkFunc zm9 [] [.t 3]),
tq 22 (.call true true (.k (.fn zdz [] [])) [.t 20,.t 21]),
mq 2 22] [0,3,20,21,22]
.ret))))⟩
def zt9:C:=
  (sr [
tq 8 (.bin .lss (.t 7) (.t 6))] []
(.seq (.cond (.t 8) .skip
 (.exit 0))
(.seq (.block 1 (sr [
mq 9 7,
tq 10 (.idxAddr 1 (.t 5) (.t 7)),
ld 11 10,
mq 3 9,
mq 4 11] [9,10,11]
(sr [
mq 12 4,
tq 13 (.bin .lss (.t 12) (kq 0)),
mq 14 13,
gq 15 14 false (.mv (.t 3)),
gq 16 14 false (.mv (.t 4)),
gq 17 14 false (.bin .lss (.t 15) (.t 16)),
tq 18 (.pick (.t 14) (.k (.d (.bool true))) (.t 17)),
mq 19 18,
gq 20 19 true (.mv (.t 0)),
gq 21 19 true (.mv (.t 3)),
gq 22 19 true (.mv (.t 4)),
gq 23 19 true (.build [.z (.int .i64 0),.z (.int .i64 0)] [(0,1,.t 21),(1,1,.t 22)]),
gq 24 19 true (.call true true (.t 20) [.t 23]),
gq 25 19 true (.un .not (.t 24)),
tq 26 (.pick (.t 19) (.t 25) (.k (.d (.bool false))))] [3,4,12,13,14,15,16,17,18,19,20,21,22,23,24,25]
(.cond (.t 26) .ret
 .skip))))
(rg [
tq 27 (.bin .add (.t 7) (kq 1)),
mq 7 27] [27]))))
def zwh:CF:=⟨[],
  (sr [
ld 5 1,
tq 6 (.len .slc (.t 5)),
tq 7 (.mv (kq 0))] [1]
(.block 0 (.loop [0,5,6,7] zt9)))⟩
def zhl:C:=
  (sr [
tq 11 (.bin .lss (.t 10) (.t 9))] []
(.seq (.cond (.t 11) .skip
 (.exit 0))
(.seq (.block 1 (sr [
tq 12 (.idxAddr 1 (.t 8) (.t 10)),
ld 13 12,
mq 7 13] [12,13]
(rg [
mq 14 5,
mq 15 1,
mq 16 7,
tq 17 (.call true true (.t 15) [.t 16]),
tq 18 (.mkList 2 1 [.t 17]),
tq 19 (.append ⟨true,zai,2,16⟩ (.t 14) (.t 18)),
mq 5 19] [7,14,15,16,17,18,19])))
(rg [
tq 20 (.bin .add (.t 10) (kq 1)),
mq 10 20] [20]))))
def zif:CF:=⟨[.tmp 4],
  (sr [
tq 4 (.ownNil ⟨true,zai,2,16⟩)] [4]
(sr [
tq 5 (.ownNil ⟨true,zai,2,16⟩)] []
(.seq (sr [
mq 8 0,
tq 9 (.len .slc (.t 8)),
tq 10 (.mv (kq 0))] [0]
(.block 0 (.loop [1,5,8,9,10] zhl)))
(sr [
mq 21 5,
mq 4 21] [5,21]
.ret))))⟩
def zl8:C:=
  (sr [
tq 26 (.bin .lss (.t 25) (.t 24))] []
(.seq (.cond (.t 26) .skip
 (.exit 0))
(.seq (.block 1 (sr [
mq 27 25,
mq 5 27] [27]
(.reg true [
mq 28 4,
ld 29 3,
ld 30 3,
fa 31 13 1,
ld 32 31,
tq 33 (.bin .sub (.t 30) (.t 32)),
fa 34 15 1,
ld 35 34,
tq 36 (.bin .quo (.t 33) (.t 35)),
fa 37 15 1,
ld 38 37,
tq 39 (.bin .mul (.t 36) (.t 38)),
tq 40 (.bin .sub (.t 29) (.t 39)),
mq 41 5,
fa 42 15 1,
ld 43 42,
tq 44 (.bin .mul (.t 41) (.t 43)),
tq 45 (.bin .add (.t 40) (.t 44)),
tq 46 (.mkList 1 1 [.t 45]),
tq 47 (.append ⟨true,za4,1,8⟩ (.t 28) (.t 46)),
mq 4 47] [5,28,29,30,31,32,33,34,35,36,37,38,39,40,41,42,43,44,45,46,47])))
(rg [
tq 48 (.bin .add (.t 25) (kq 1)),
mq 25 48] [48]))))
def znv:CF:=⟨[.tmp 2],
  (sr [
tq 1 (.box zaz (.t 0)),
tq 2 (.ownNil ⟨true,za4,1,8⟩)] [0,2]
(sr [
fa 6 0 1,
fa 7 9 6,
ld 8 7,
tq 3 (.alloc za4 [.z (.int .i64 0)]),
⟨none,none,.store 1 (.t 3) (.t 8)⟩] [6,7,8]
(sr [
tq 4 (.ownNil ⟨true,za4,1,8⟩)] []
(.seq (.seq (.reg true [
ld 9 3,
fa 10 13 1,
ld 11 10,
tq 12 (.bin .sub (.t 9) (.t 11)),
fa 13 15 1,
ld 14 13,
tq 15 (.bin .quo (.t 12) (.t 14)),
fa 16 14 1,
ld 17 16,
ld 18 3,
tq 19 (.bin .sub (.t 17) (.t 18)),
fa 20 15 1,
ld 21 20,
tq 22 (.bin .quo (.t 19) (.t 21)),
tq 23 (.bin .add (.t 15) (.t 22)),
tq 24 (.bin .add (.t 23) (kq 1)),
tq 25 (.mv (kq 0))] [9,10,11,12,13,14,15,16,17,18,19,20,21,22,23])
(.block 0 (.loop [1,3,4,24,25] zl8)))
(sr [
mq 49 4,
tq 50 (.mkFunc zg6 [] [.t 3]),
tq 51 (.call true true (.k (.fn zcp [] [])) [.t 49,.t 50])] [3,49,50,51]
(sr [
mq 52 4,
mq 2 52] [4,52]
.ret))))))⟩
def zo4:CF:=⟨[.cell 2 (some 2)],
  (sr [
tq 2 (.alloc zai [.z (.int .i64 0),.z (.int .i64 0)])] []
(sr [
mq 3 0,
tq 4 (.build [.z (.int .i64 0),.z (.int .i64 0)] [(0,1,.t 3),(1,1,kq (-1))]),
⟨none,none,.store 2 (.t 2) (.t 4)⟩] [0,3,4]
.ret))⟩
def zo5:CF:=⟨[.tmp 4],
  (sr [
tq 3 (.box zai (.t 0)),
tq 4 (.mv (kq 0))] [0,4]
(.seq (.reg true [
tq 5 (.idxAddrA 2 1 (.t 3) (kq 0)),
ld 6 5,
ld 7 1,
tq 8 (.idxAddrA 2 1 (.t 2) (kq 0)),
ld 9 8,
tq 10 (.idxAddr 18 (.t 7) (.t 9)),
fa 11 0 10,
fa 12 9 11,
ld 13 12,
tq 14 (.bin .sub (.t 6) (.t 13)),
tq 15 (cl zin [.t 14]),
tq 16 (.idxAddrA 2 1 (.t 3) (kq 1)),
ld 17 16,
ld 18 1,
tq 19 (.idxAddrA 2 1 (.t 2) (kq 1)),
ld 20 19,
tq 21 (.idxAddr 18 (.t 18) (.t 20)),
fa 22 0 21,
fa 23 9 22,
ld 24 23,
tq 25 (.bin .sub (.t 17) (.t 24)),
tq 26 (cl zin [.t 25]),
tq 27 (.bin .add (.t 15) (.t 26)),
mq 4 27] [1,2,3,5,6,7,8,9,10,11,12,13,14,15,16,17,18,19,20,21,22,23,24,25,26,27])
.ret))⟩
def z4e:CF:=⟨[.tmp 2],
  (sr [
tq 2 (.mv (kq 0))] [2]
(sr [
mq 3 0,
mq 4 0,
tq 5 (.un .neg (.t 4)),
tq 6 (.minmax true [.t 3,.t 5]),
mq 2 6] [0,3,4,5,6]
.ret))⟩
def zqy:CF:=⟨[.tmp 6],
  (sr [
tq 3 (.box zdb (.t 0)),
tq 5 (.box zai (.t 2)),
tq 6 (.mv (.k (.d (.bool false))))] [0,2,6]
(.seq (sr [
tq 10 (.idxAddrA 2 1 (.t 3) (kq 1)),
ld 11 10,
tq 12 (.bin .lss (.t 11) (kq 0))] [10,11]
(.cond (.t 12) (sr [
tq 6 (.mv (.k (.d (.bool true))))] []
.ret)
 .skip))
(sr [
tq 7 (.mv (kq 0))] []
(.seq (sr [
mq 13 1,
tq 14 (.idxAddrA 2 1 (.t 3) (kq 0)),
ld 15 14,
tq 16 (.idxAddr 18 (.t 13) (.t 15)),
fa 17 0 16,
fa 18 2 17,
ld 19 18,
tq 20 (.bin .eql (.t 19) (.k (.d (.str [68]))))] [13,14,15,16,17,18,19]
(.cond (.t 20) (rg [
tq 7 (.mv (kq 1))] [])
 .skip))
(.seq (.reg true [
mq 21 7,
tq 22 (.bin .sub (kq 1) (.t 21)),
tq 23 (.idxAddrA 2 1 (.t 5) (.t 22)),
ld 24 23,
mq 25 7,
tq 26 (.idxAddrA 2 1 (.t 5) (.t 25)),
ld 27 26,
tq 28 (.bin .sub (.t 24) (.t 27)),
mq 8 28] [5,21,22,23,24,25,26,27,28])
(sr [
mq 29 1,
mq 30 7,
tq 31 (.idxAddrA 2 1 (.t 3) (.t 30)),
ld 32 31,
tq 33 (.idxAddr 18 (.t 29) (.t 32)),
lq 34 18 33,
tq 9 (.alloc zaz [.z (.str []),.z (.str []),.z (.str []),.z (.str []),.z (.str []),.z (.str []),.z (.int .i64 0),.z (.int .i64 0),.z (.int .i64 0),.z (.int .i64 0),.z (.int .i64 0),.z (.int .i64 0),.z (.int .i64 0),.z (.int .i64 0),.z (.int .i64 0),.z (.int .i64 0),.z (.int .i64 0),.z (.int .i64 0)]),
⟨none,none,.store 18 (.t 9) (.t 34)⟩] [1,3,7,29,30,31,32,33,34]
(sr [
mq 35 8,
fa 36 16 9,
ld 37 36,
tq 38 (.bin .geq (.t 35) (.t 37)),
mq 39 38,
gq 40 39 true (.mv (.t 8)),
gq 41 39 true (.fieldAddr 17 (.t 9)),
gq 42 39 true (.load none (.t 41)),
gq 43 39 true (.bin .leq (.t 40) (.t 42)),
tq 44 (.pick (.t 39) (.t 43) (.k (.d (.bool false)))),
mq 6 44] [8,9,35,36,37,38,39,40,41,42,43,44]
.ret)))))))⟩
def zc5:CF:=⟨[],
  (rg [
mq 4 0,
mq 5 0,
tq 6 (.len .slc (.t 5)),
mq 7 1,
tq 8 (.call true true (.k (.fn zc9 [] [])) [.t 4,.t 6,.t 7])] [0,1,4,5,6,7,8])⟩
def zo6:CF:=⟨[.tmp 5],
  (sr [
tq 3 (.box zai (.t 0)),
tq 4 (.box zai (.t 1)),
tq 5 (.mv (kq 0))] [0,1,5]
(.seq (.reg true [
ld 6 2,
lq 7 2 3,
tq 8 (.callR true (.t 6) [.t 7] [2,4]),
ld 9 2,
lq 10 2 4,
tq 11 (.call true true (.t 9) [.t 10]),
tq 12 (cl zcu [.t 8,.t 11]),
mq 5 12] [2,3,4,6,7,8,9,10,11,12])
.ret))⟩
def zqw:CF:=⟨[.tmp 2],
  (sr [
tq 1 (.box zdb (.t 0)),
tq 2 (.mv (.k (.d (.nilf))))] [0,2]
(sr [
tq 3 (.mkFunc ziq [] [.t 1]),
mq 2 3] [1,3]
.ret))⟩
def zwd:CF:=⟨[.tmp 4],
  (sr [
tq 2 (.box zaz (.t 0)),
tq 4 (.mv (.k (.d (.list 0 []))))] [0,4]
(sr [
fa 8 0 2,
lq 9 13 8,
tq 5 (.alloc zaj [.z (.str []),.z (.str []),.z (.str []),.z (.str []),.z (.str []),.z (.str []),.z (.int .i64 0),.z (.int .i64 0),.z (.int .i64 0),.z (.int .i64 0),.z (.int .i64 0),.z (.int .i64 0),.z (.int .i64 0)]),
⟨none,none,.store 13 (.t 5) (.t 9)⟩] [2,8,9]
(sr [
mq 10 1,
fa 11 9 5,
⟨none,none,.store 1 (.t 11) (.t 10)⟩] [1,10,11]
(sr [
lq 13 13 5,
tq 14 (cl zck [.t 13]),
mq 12 14,
xq 15 12 0,
xq 16 12 1,
mq 6 15,
mq 7 16] [5,7,12,13,14,15,16]
(sr [
mq 17 6,
mq 4 17] [6,17]
.ret)))))⟩
def z4i:CF:=⟨[.tmp 4],
  (sr [
tq 4 (.mv (kq 0))] [4]
(.seq (sr [
mq 5 0] [0]
(.cond (.t 5) (sr [
mq 6 1,
mq 4 6] [1,6]
.ret)
 .skip))
(sr [
tq 4 (.mv (kq 0))] []
.ret)))⟩
def z0l:CF:=⟨[.tmp 0],
  (sr [
tq 0 (.mv (.k (.d (.nilm))))] [0]
(sr [
tq 1 (.mv (.k (.fn zj1 [] [])))] []
(sr [
tq 2 (.mkMap),
mq 3 1,
tq 4 (.call true false (.t 3) [.k (.d (.str [65]))]),
tq 5 (.build [.z (.nilf)] [(0,1,.t 4)]),
⟨none,none,.mapSet .str (.t 2) (.k (.d (.str [65]))) (.t 5)⟩,
mq 6 1,
tq 7 (.call true false (.t 6) [.k (.d (.str [68]))]),
tq 8 (.build [.z (.nilf)] [(0,1,.t 7)]),
⟨none,none,.mapSet .str (.t 2) (.k (.d (.str [68]))) (.t 8)⟩,
tq 9 (.build [.z (.nilf)] [(0,1,.k (.fn zep [] []))]),
⟨none,none,.mapSet .str (.t 2) (.k (.d (.str [84]))) (.t 9)⟩,
mq 10 2,
mq 0 10] [1,2,3,4,5,6,7,8,9,10]
.ret)))⟩
def z4f:CF:=⟨[.tmp 4,.tmp 5],
  (sr [
tq 2 (.box zag (.t 0)),
tq 4 (.mv (.k (.d (.bool false)))),
tq 5 (.mv (kq 0))] [0,4,5]
(.seq (sr [
lq 7 3 2,
tq 8 (cl za5 [.t 7]),
mq 9 1,
tq 10 (cl zcs [.t 9]),
tq 11 (.mkList 1 2 [.t 8,.t 10]),
tq 12 (cl zbp [.t 11]),
mq 6 12] [7,8,9,10,11,12]
(sr [
mq 13 6,
tq 14 (.bin .neq (.t 13) (kq 0))] [13]
(.cond (.t 14) (sr [
mq 15 6,
tq 4 (.mv (.k (.d (.bool false)))),
mq 5 15] [6,15]
.ret)
 .skip)))
(sr [
lq 16 3 2,
mq 17 1,
tq 18 (cl zph [.t 16,.t 17]),
mq 4 18,
tq 5 (.mv (kq 0))] [1,2,16,17,18]
.ret)))⟩
def zll:C:=
  (rg [
mq 5 7] [7])
def zlm:C:=
  (.block 1 (rg [
ld 8 2,
mq 9 5,
tq 10 (.mkList 1 1 [.t 9]),
tq 11 (.append ⟨false,za4,1,8⟩ (.t 8) (.t 10)),
⟨none,none,.store 1 (.t 2) (.t 11)⟩] [2,5,8,9,10,11]))
def zm3:CF:=⟨[.tmp 4],
  (sr [
tq 2 (.box z8j (.t 0)),
tq 4 (.ownNil ⟨false,za4,1,8⟩)] [0]
(.seq (sr [
mq 6 1] [1]
(.block 0 (.rangeFn 14 (.t 6) [7] zll zlm)))
(sr [
ld 12 2,
mq 4 12] [2,12]
.ret)))⟩
def zmy:C:=
  (sr [
tq 43 (.bin .lss (.t 42) (.t 41))] []
(.seq (.cond (.t 43) .skip
 (.exit 0))
(.seq (.block 1 (sr [
mq 44 42,
mq 5 44] [44]
(sr [
mq 45 0,
ld 46 1,
tq 47 (.bin .mul (kq 1440) (.t 46)),
fa 48 4 2,
ld 49 48,
mq 50 4,
mq 51 5,
tq 52 (.bin .add (.t 50) (.t 51)),
tq 53 (.bin .mul (.t 49) (.t 52)),
tq 54 (.bin .add (.t 47) (.t 53)),
tq 55 (.call true true (.t 45) [.t 54]),
tq 56 (.un .not (.t 55))] [5,45,46,47,48,49,50,51,52,53,54,55]
(.cond (.t 56) .ret
 .skip))))
(rg [
tq 57 (.bin .add (.t 42) (kq 1)),
mq 42 57] [57]))))
def zo8:CF:=⟨[],
  (.seq (sr [
ld 6 1,
fa 7 7 2,
fa 8 0 7,
ld 9 8,
tq 10 (.bin .lss (.t 6) (.t 9)),
mq 11 10,
gq 12 11 false (.load none (.t 1)),
gq 13 11 false (.fieldAddr 7 (.t 2)),
gq 14 11 false (.fieldAddr 1 (.t 13)),
gq 15 11 false (.load none (.t 14)),
gq 16 11 false (.bin .gtr (.t 12) (.t 15)),
tq 17 (.pick (.t 11) (.k (.d (.bool true))) (.t 16)),
mq 18 17,
gq 19 18 false (.load (some 11) (.t 2)),
gq 20 18 false (.load none (.t 1)),
gq 21 18 false (cl zfb [.t 19,.t 20]),
gq 22 18 false (.un .not (.t 21)),
tq 23 (.pick (.t 18) (.k (.d (.bool true))) (.t 22))] [6,7,8,9,10,11,12,13,14,15,16,17,18,19,20,21,22]
(.cond (.t 23) .ret
 .skip))
(sr [
fa 24 5 2,
ld 25 24,
fa 26 4 2,
ld 27 26,
tq 28 (.bin .add (.t 25) (.t 27)),
tq 29 (.bin .sub (.t 28) (kq 1)),
fa 30 4 2,
ld 31 30,
tq 32 (.bin .quo (.t 29) (.t 31)),
mq 4 32] [24,25,26,27,28,29,30,31,32]
(sr [
fa 33 6 2,
ld 34 33,
fa 35 4 2,
ld 36 35,
tq 37 (.bin .quo (.t 34) (.t 36)),
mq 38 4,
tq 39 (.bin .sub (.t 37) (.t 38)),
tq 40 (.bin .add (.t 39) (kq 1)),
tq 41 (.minmax true [kq 0,.t 40]),
tq 42 (.mv (kq 0))] [33,34,35,36,37,38,39,40]
(.block 0 (.loop [0,1,2,4,41,42] zmy)))))⟩
def zp2:CF:=⟨[.tmp 2],
  (sr [
tq 1 (.box zaa (.t 0)),
tq 2 (.mv (kq 0))] [0,2]
(.seq (.reg true [
fa 3 0 1,
ld 4 3,
tq 5 (cl zat [.t 4,kq 0,kq 143999999]),
fa 6 1 1,
ld 7 6,
tq 8 (cl zh6 [.t 7]),
fa 9 2 1,
ld 10 9,
tq 11 (cl zd2 [.t 10]),
fa 12 3 1,
ld 13 12,
fa 14 4 1,
ld 15 14,
fa 16 5 1,
ld 17 16,
tq 18 (cl zj2 [.t 13,.t 15,.t 17]),
fa 19 6 1,
ld 20 19,
tq 21 (cl za8 [.t 20]),
tq 22 (.un .not (.t 21)),
tq 23 (cl za1 [.t 22,kq 8]),
tq 24 (.mkList 1 5 [.t 5,.t 8,.t 11,.t 18,.t 23]),
tq 25 (cl zak [.t 24]),
mq 2 25] [1,3,4,5,6,7,8,9,10,11,12,13,14,15,16,17,18,19,20,21,22,23,24,25])
.ret))⟩
def zg4:C:=
  (rg [
mq 4 18] [18])
def zg5:C:=
  (.block 3 (sr [
ld 19 2,
mq 20 4,
tq 21 (.call true true (.t 19) [.t 20]),
tq 22 (.un .not (.t 21))] [2,4,19,20,21]
(.cond (.t 22) .ret
 .skip)))
def zl9:C:=
  (.seq (sr [
mq 8 3,
fa 9 7 1,
fa 10 1 9,
ld 11 10,
tq 12 (.bin .leq (.t 8) (.t 11))] [8,9,10,11]
(.cond (.t 12) .skip
 (.exit 0)))
(.seq (.block 1 (sr [
lq 15 11 1,
mq 16 3,
tq 17 (.call false false (.k (.fn za0 [] [])) [.t 15,.t 16])] [15,16]
(.block 2 (.rangeFn 24 (.t 17) [18] zg4 zg5))))
(rg [
mq 13 3,
tq 14 (.bin .add (.t 13) (kq 1)),
mq 3 14] [13,14])))
def znw:CF:=⟨[],
  (sr [
tq 2 (.box zi4 (.t 0))] [0]
(sr [
fa 5 7 1,
fa 6 0 5,
ld 7 6,
mq 3 7] [5,6,7]
(.block 0 (.loop [1,2,3,4] zl9))))⟩
def zo9:CF:=⟨[.tmp 4],
  (sr [
tq 4 (.mv (kq 0))] [4]
(sr [
mq 8 0,
mq 9 1,
tq 10 (cl zbh [.t 8,.t 9]),
mq 7 10,
xq 11 7 0,
xq 12 7 1,
mq 5 11,
mq 6 12] [0,1,6,7,8,9,10,11,12]
(sr [
mq 13 5,
mq 4 13] [5,13]
.ret)))⟩
def z0b:C:=
  (.seq (sr [
mq 6 5,
mq 7 1,
tq 8 (.bin .lss (.t 6) (.t 7))] [6,7]
(.cond (.t 8) .skip
 (.exit 0)))
(.seq (.block 1 (rg [
mq 11 0,
tq 12 (.bin .quo (.t 11) (kq 2)),
mq 0 12] [11,12]))
(rg [
mq 9 5,
tq 10 (.bin .add (.t 9) (kq 1)),
mq 5 10] [9,10])))
def z4m:CF:=⟨[.tmp 4],
  (sr [
tq 4 (.mv (.k (.d (.bool false))))] [4]
(.seq (sr [
tq 5 (.mv (kq 0))] []
(.block 0 (.loop [0,1,5] z0b)))
(sr [
mq 13 0,
tq 14 (.bin .rem (.t 13) (kq 2)),
tq 15 (.bin .eql (.t 14) (kq 1)),
mq 4 15] [0,13,14,15]
.ret)))⟩
def z2q:CF:=⟨[.tmp 2],
  (sr [
tq 2 (.mv (kq 0))] [2]
(sr [
mq 3 0,
tq 4 (.bin .add (.t 3) (kq 5)),
tq 5 (.bin .rem (.t 4) (kq 7)),
mq 2 5] [0,3,4,5]
.ret))⟩
def z2p:CF:=⟨[.tmp 4],
  (sr [
tq 4 (.mv (kq 0))] [4]
(.seq (sr [
mq 5 0] [0]
(.cond (.t 5) (sr [
mq 6 1,
mq 4 6] [1,6]
.ret)
 .skip))
(sr [
tq 4 (.mv (kq 0))] []
.ret)))⟩
def zkk:C:=
  (sr [
tq 11 (.bin .lss (.t 10) (.t 9))] []
(.seq (.cond (.t 11) .skip
 (.exit 0))
(.seq (.block 1 (sr [
mq 12 10,
tq 13 (.idxAddr 3 (.t 8) (.t 10)),
lq 14 3 13,
tq 6 (.alloc zfs [.z (.str []),.z (.list 0 []),.z (.list 0 [])]),
mq 5 12,
⟨none,none,.store 3 (.t 6) (.t 14)⟩] [12,13,14]
(.seq (.reg true [
mq 15 1,
mq 16 0,
mq 17 5,
tq 18 (.slice 3 (.t 16) none (some (.t 17)) none),
lq 19 3 6,
tq 20 (.call false true (.t 15) [.t 18,.t 19]),
mq 7 20] [5,6,15,16,17,18,19,20])
(sr [
mq 21 7,
tq 22 (.bin .neq (.t 21) (kq 0))] [21]
(.cond (.t 22) (sr [
mq 23 7,
mq 4 23] [7,23]
.ret)
 .skip)))))
(rg [
tq 24 (.bin .add (.t 10) (kq 1)),
mq 10 24] [24]))))
def zla:CF:=⟨[.tmp 4],
  (sr [
tq 4 (.mv (kq 0))] [4]
(.seq (sr [
mq 8 0,
tq 9 (.len .slc (.t 8)),
tq 10 (.mv (kq 0))] []
(.block 0 (.loop [0,1,8,9,10] zkk)))
(sr [
tq 4 (.mv (kq 0))] []
.ret)))⟩
def z0q:CF:=⟨[.tmp 4],
  (sr [
tq 3 (.box zfs (.t 1)),
tq 4 (.mv (kq 0))] [1,4]
(sr [
mq 6 0,
tq 7 (.mkFunc zoe [] [.t 3]),
tq 8 (.call true true (.k (.fn zbl [] [])) [.t 6,.t 7]),
mq 5 8] [0,6,7,8]
(sr [
lq 9 3 3,
tq 10 (cl zkr [.t 9]),
mq 11 5,
tq 12 (cl za9 [.t 11,kq 9]),
tq 13 (.mkList 1 2 [.t 10,.t 12]),
tq 14 (cl za6 [.t 13]),
mq 4 14] [3,5,9,10,11,12,13,14]
.ret)))⟩
def zq5:CF:=⟨[.tmp 2],
  (sr [
tq 1 (.box zbf (.t 0)),
tq 2 (.mv (kq 0))] [0,2]
(.seq (.reg true [
fa 3 1 1,
ld 4 3,
fa 5 0 1,
ld 6 5,
tq 7 (.len .slc (.t 6)),
tq 8 (cl zcv [.t 4,kq 0,.t 7]),
fa 9 2 1,
ld 10 9,
tq 11 (cl zcv [.t 10,kq 1,kq 100]),
fa 12 3 1,
ld 13 12,
fa 14 2 1,
ld 15 14,
tq 16 (cl zcv [.t 13,kq 0,.t 15]),
tq 17 (.mkList 1 3 [.t 8,.t 11,.t 16]),
tq 18 (cl za6 [.t 17]),
mq 2 18] [1,3,4,5,6,7,8,9,10,11,12,13,14,15,16,17,18])
.ret))⟩
def zy3:CF:=⟨[.tmp 6],
  (sr [
tq 6 (.mv (kq 0))] [6]
(sr [
mq 7 0,
mq 8 1,
tq 9 (.bin .lss (.t 7) (.t 8)),
mq 10 9,
gq 11 10 false (.mv (.t 0)),
gq 12 10 false (.mv (.t 2)),
gq 13 10 false (.bin .gtr (.t 11) (.t 12)),
tq 14 (.pick (.t 10) (.k (.d (.bool true))) (.t 13)),
tq 15 (cl za9 [.t 14,kq 3]),
mq 6 15] [0,1,2,7,8,9,10,11,12,13,14,15]
.ret))⟩
def zkj:C:=
  (sr [
tq 11 (.bin .lss (.t 10) (.t 9))] []
(.seq (.cond (.t 11) .skip
 (.exit 0))
(.seq (.block 1 (sr [
mq 12 10,
tq 13 (.idxAddr 18 (.t 8) (.t 10)),
lq 14 18 13,
tq 6 (.alloc zah [.z (.str []),.z (.str []),.z (.str []),.z (.str []),.z (.str []),.z (.str []),.z (.int .i64 0),.z (.int .i64 0),.z (.int .i64 0),.z (.int .i64 0),.z (.int .i64 0),.z (.int .i64 0),.z (.int .i64 0),.z (.bool false),.z (.bool false),.z (.bool false),.z (.bool false),.z (.int .i64 0)]),
mq 5 12,
⟨none,none,.store 18 (.t 6) (.t 14)⟩] [12,13,14]
(.seq (.reg true [
mq 15 1,
mq 16 0,
mq 17 5,
tq 18 (.slice 18 (.t 16) none (some (.t 17)) none),
lq 19 18 6,
tq 20 (.call false true (.t 15) [.t 18,.t 19]),
mq 7 20] [5,6,15,16,17,18,19,20])
(sr [
mq 21 7,
tq 22 (.bin .neq (.t 21) (kq 0))] [21]
(.cond (.t 22) (sr [
mq 23 7,
mq 4 23] [7,23]
.ret)
 .skip)))))
(rg [
tq 24 (.bin .add (.t 10) (kq 1)),
mq 10 24] [24]))))
def zk9:CF:=⟨[.tmp 4],
  (sr [
tq 4 (.mv (kq 0))] [4]
(.seq (sr [
mq 8 0,
tq 9 (.len .slc (.t 8)),
tq 10 (.mv (kq 0))] []
(.block 0 (.loop [0,1,8,9,10] zkj)))
(sr [
tq 4 (.mv (kq 0))] []
.ret)))⟩
def zp6:CF:=⟨[.tmp 4],
  (sr [
tq 3 (.box zah (.t 1)),
tq 4 (.mv (kq 0))] [1,4]
(sr [
mq 6 0,
tq 7 (.mkFunc zia [] [.t 3]),
tq 8 (.call true true (.k (.fn zbk [] [])) [.t 6,.t 7]),
mq 5 8] [0,6,7,8]
(sr [
lq 9 18 3,
tq 10 (cl zlh [.t 9]),
mq 11 5,
tq 12 (cl za9 [.t 11,kq 9]),
tq 13 (.mkList 1 2 [.t 10,.t 12]),
tq 14 (cl za6 [.t 13]),
mq 4 14] [3,5,9,10,11,12,13,14]
.ret)))⟩
def zdn:CF:=⟨[.tmp 4],
  (sr [
tq 4 (.mv (.k (.d (.bool false))))] [4]
(sr [
mq 5 0,
mq 6 1,
tq 7 (.call true true (.k (.fn zbx [] [])) [.t 5,.t 6]),
tq 8 (.bin .geq (.t 7) (kq 0)),
mq 4 8] [0,1,5,6,7,8]
.ret))⟩
def znz:CF:=⟨[.tmp 3],
  (sr [
tq 2 (.box zah (.t 0)),
tq 3 (.mv (.k (.d (.bool false))))] [0,3]
(sr [
fa 4 0 2,
fa 5 0 4,
ld 6 5,
fa 7 0 1,
fa 8 0 7,
ld 9 8,
tq 10 (.bin .eql (.t 6) (.t 9)),
mq 3 10] [1,2,4,5,6,7,8,9,10]
.ret))⟩
def zsr:CF:=⟨[.tmp 2],
  (sr [
tq 1 (.box zah (.t 0)),
tq 2 (.mv (kq 0))] [0,2]
(.seq (.reg true [
fa 3 0 1,
lq 4 13 3,
tq 5 (cl zkq [.t 4]),
fa 6 17 1,
ld 7 6,
tq 8 (cl zcv [.t 7,kq 0,kq 20000]),
tq 9 (.mkList 1 2 [.t 5,.t 8]),
tq 10 (cl za6 [.t 9]),
mq 2 10] [1,3,4,5,6,7,8,9,10])
.ret))⟩
def zy1:CF:=⟨[.tmp 5],
  (sr [
tq 5 (.mv (kq 0))] [5]
(.seq (.reg true [
ld 6 2,
mq 7 0,
tq 8 (.idxAddr 18 (.t 6) (.t 7)),
fa 9 0 8,
fa 10 0 9,
ld 11 10,
ld 12 2,
mq 13 1,
tq 14 (.idxAddr 18 (.t 12) (.t 13)),
fa 15 0 14,
fa 16 0 15,
ld 17 16,
tq 18 (cl zl6 [.t 11,.t 17]),
mq 5 18] [0,1,2,6,7,8,9,10,11,12,13,14,15,16,17,18])
.ret))⟩
def zui:CF:=⟨[.tmp 4],
  (sr [
tq 4 (.mv (kq 0))] [4]
(sr [
mq 7 0,
tq 8 (cl zj3 [.t 7]),
mq 5 8] [7,8]
(sr [
mq 9 1,
tq 10 (cl zj3 [.t 9]),
mq 6 10] [9,10]
(.seq (sr [
mq 11 5] [5]
(.cond (.t 11) (.seq (sr [
mq 12 6] [6]
(.cond (.t 12) (sr [
tq 4 (.mv (kq 0))] []
.ret)
 .skip))
(sr [
tq 4 (.mv (kq (-1)))] []
.ret))
 .skip))
(.seq (sr [
mq 13 6] [6]
(.cond (.t 13) (sr [
tq 4 (.mv (kq 1))] []
.ret)
 .skip))
(.seq (sr [
mq 14 0,
mq 15 1,
tq 16 (.bin .lss (.t 14) (.t 15))] [14,15]
(.cond (.t 16) (sr [
tq 4 (.mv (kq (-1)))] []
.ret)
 .skip))
(.seq (sr [
mq 17 0,
mq 18 1,
tq 19 (.bin .gtr (.t 17) (.t 18))] [0,1,17,18]
(.cond (.t 19) (sr [
tq 4 (.mv (kq 1))] []
.ret)
 .skip))
(sr [
tq 4 (.mv (kq 0))] []
.ret))))))))⟩
def zx7:C:=
  (sr [
tq 24 (.bin .lss (.t 23) (.t 22))] []
(.seq (.cond (.t 24) .skip
 (.exit 0))
(.seq (.block 1 (sr [
mq 25 23,
mq 8 25] [25]
(rg [
mq 26 7,
mq 27 8,
tq 28 (.mkList 1 1 [.t 27]),
tq 29 (.append ⟨false,za4,1,8⟩ (.t 26) (.t 28)),
mq 7 29] [8,26,27,28,29])))
(rg [
tq 30 (.bin .add (.t 23) (kq 1)),
mq 23 30] [30]))))
def zx8:C:=
  (.seq (sr [
mq 39 11,
tq 40 (.bin .gtr (.t 39) (kq 0))] [39]
(.cond (.t 40) .skip
 (.exit 2)))
(.seq (.block 3 (sr [
mq 43 10,
tq 44 (.bin .mul (kq 48271) (.t 43)),
tq 45 (.bin .rem (.t 44) (kq 2147483647)),
mq 10 45] [43,44,45]
(sr [
mq 46 10,
mq 47 11,
tq 48 (.bin .add (.t 47) (kq 1)),
tq 49 (.bin .rem (.t 46) (.t 48)),
mq 12 49] [46,47,48,49]
(.reg true [
mq 50 9,
mq 51 11,
mq 52 9,
mq 53 12,
mq 54 9,
mq 55 12,
tq 56 (.idxAddr 1 (.t 54) (.t 55)),
ld 57 56,
mq 58 9,
mq 59 11,
tq 60 (.idxAddr 1 (.t 58) (.t 59)),
ld 61 60,
tq 62 (.idxAddr 1 (.t 50) (.t 51)),
⟨none,none,.store 1 (.t 62) (.t 57)⟩,
tq 63 (.idxAddr 1 (.t 52) (.t 53)),
⟨none,none,.store 1 (.t 63) (.t 61)⟩] [12,50,51,52,53,54,55,56,57,58,59,60,61,62,63]))))
(rg [
mq 41 11,
tq 42 (.bin .sub (.t 41) (kq 1)),
mq 11 42] [41,42])))
def z2c:CF:=⟨[.tmp 4,.tmp 5],
  (sr [
tq 4 (.ownNil ⟨true,za4,1,8⟩),
tq 5 (.mv (kq 0))] [4,5]
(.seq (sr [
mq 13 0,
tq 14 (cl zds [.t 13,kq 1,kq 2147483646]),
mq 15 1,
tq 16 (cl zds [.t 15,kq 0,kq 256]),
tq 17 (.mkList 1 2 [.t 14,.t 16]),
tq 18 (cl zbp [.t 17]),
mq 6 18] [13,14,15,16,17,18]
(sr [
mq 19 6,
tq 20 (.bin .neq (.t 19) (kq 0))] [19]
(.cond (.t 20) (sr [
mq 21 6,
tq 4 (.ownNil ⟨true,za4,1,8⟩),
mq 5 21] [6,21]
.ret)
 .skip)))
(sr [
tq 7 (.ownNil ⟨false,za4,1,8⟩)] []
(.seq (sr [
mq 22 1,
tq 23 (.mv (kq 0))] []
(.block 0 (.loop [0,1,7,22,23] zx7)))
(sr [
mq 31 1,
tq 32 (.makeRow ⟨true,za4,1,8⟩ [.int .i64 0] (.t 31)),
mq 9 32] [31,32]
(sr [
mq 33 9,
mq 34 7,
tq 35 (.copy 1 (.t 33) (.t 34))] [7,33,34,35]
(sr [
mq 36 0,
mq 10 36] [0,36]
(.seq (sr [
mq 37 1,
tq 38 (.bin .sub (.t 37) (kq 1)),
mq 11 38] [1,37,38]
(.block 2 (.loop [9,10,11] zx8)))
(sr [
mq 64 9,
mq 4 64,
tq 5 (.mv (kq 0))] [9,64]
.ret)))))))))⟩
def zlo:C:=
  (.block 1 (sr [
mq 21 2,
mq 22 1,
tq 23 (.bin .sub (.t 21) (.t 22)),
mq 12 23] [21,22,23]
(.seq (sr [
mq 24 12,
tq 25 (.bin .leq (.t 24) (kq 12))] [24]
(.cond (.t 25) (sr [
mq 26 0,
mq 27 1,
mq 28 2,
mq 29 4,
tq 30 (.call true true (.k (.fn zes [] [])) [.t 26,.t 27,.t 28,.t 29])] [0,1,2,4,26,27,28,29,30]
.ret)
 .skip))
(.seq (sr [
mq 31 3,
tq 32 (.bin .eql (.t 31) (kq 0))] [31]
(.cond (.t 32) (sr [
mq 33 0,
mq 34 1,
mq 35 2,
mq 36 4,
tq 37 (.call true true (.k (.fn zmi [] [])) [.t 33,.t 34,.t 35,.t 36])] [0,1,2,4,33,34,35,36,37]
.ret)
 .skip))
(.seq (sr [
mq 38 10,
tq 39 (.un .not (.t 38))] [38]
(.cond (.t 39) (sr [
mq 40 0,
mq 41 1,
mq 42 2,
mq 43 4,
tq 44 (.call true true (.k (.fn zkd [] [])) [.t 40,.t 41,.t 42,.t 43])] [40,41,42,43,44]
(rg [
mq 45 3,
tq 46 (.bin .sub (.t 45) (kq 1)),
mq 3 46] [45,46]))
 .skip))
(sr [
mq 48 0,
mq 49 1,
mq 50 2,
mq 51 4,
tq 52 (.call true true (.k (.fn zk2 [] [])) [.t 48,.t 49,.t 50,.t 51]),
mq 47 52,
xq 53 47 0,
xq 54 47 1,
mq 13 53,
mq 14 54] [47,48,49,50,51,52,53,54]
(.seq (sr [
mq 55 14,
tq 56 (.bin .eql (.t 55) (kq 2))] [55]
(.cond (.t 56) (sr [
mq 57 0,
mq 58 1,
mq 59 2,
mq 60 4,
tq 61 (.call true true (.k (.fn zkm [] [])) [.t 57,.t 58,.t 59,.t 60])] [57,58,59,60,61]
(sr [
mq 62 2,
tq 63 (.bin .sub (.t 62) (kq 1)),
mq 64 13,
mq 65 1,
tq 66 (.bin .sub (.t 64) (.t 65)),
tq 67 (.bin .sub (.t 63) (.t 66)),
mq 13 67] [62,63,64,65,66,67]
(rg [
tq 14 (.mv (kq 1))] [])))
 .skip))
(.seq (sr [
mq 68 10,
mq 69 68,
gq 70 69 true (.mv (.t 11)),
tq 71 (.pick (.t 69) (.t 70) (.k (.d (.bool false)))),
mq 72 71,
gq 73 72 true (.mv (.t 14)),
gq 74 72 true (.bin .eql (.t 73) (kq 1)),
tq 75 (.pick (.t 72) (.t 74) (.k (.d (.bool false))))] [14,68,69,70,71,72,73,74]
(.cond (.t 75) (sr [
mq 76 0,
mq 77 1,
mq 78 2,
mq 79 4,
tq 80 (.call true true (.k (.fn zhk [] [])) [.t 76,.t 77,.t 78,.t 79])] [76,77,78,79]
(.cond (.t 80) .ret
 .skip))
 .skip))
(.seq (.seq (.reg true [
mq 81 1,
tq 82 (.bin .gtr (.t 81) (kq 0)),
mq 83 82,
gq 84 83 true (.mv (.t 4)),
gq 85 83 true (.mv (.t 0)),
gq 86 83 true (.mv (.t 1)),
gq 87 83 true (.bin .sub (.t 86) (kq 1)),
gq 88 83 true (.idxAddr 1 (.t 85) (.t 87)),
gq 89 83 true (.load none (.t 88)),
gq 90 83 true (.mv (.t 0)),
gq 91 83 true (.mv (.t 13)),
gq 92 83 true (.idxAddr 1 (.t 90) (.t 91)),
gq 93 83 true (.load none (.t 92)),
gq 94 83 true (.call true true (.t 84) [.t 89,.t 93]),
gq 95 83 true (.bin .lss (.t 94) (kq 0)),
gq 96 83 true (.un .not (.t 95)),
tq 97 (.pick (.t 83) (.t 96) (.k (.d (.bool false))))] [81,82,83,84,85,86,87,88,89,90,91,92,93,94,95,96])
(.cond (.t 97) (sr [
mq 98 0,
mq 99 1,
mq 100 2,
mq 101 13,
mq 102 4,
tq 103 (.call true true (.k (.fn zjn [] [])) [.t 98,.t 99,.t 100,.t 101,.t 102]),
mq 15 103] [1,13,98,99,100,101,102,103]
(sr [
mq 104 15,
mq 1 104] [15,104]
(.exit 1)))
 .skip))
(sr [
mq 106 0,
mq 107 1,
mq 108 2,
mq 109 13,
mq 110 4,
tq 111 (.call true true (.k (.fn zlx [] [])) [.t 106,.t 107,.t 108,.t 109,.t 110]),
mq 105 111,
xq 112 105 0,
xq 113 105 1,
mq 16 112,
mq 17 113] [13,105,106,107,108,109,110,111,112,113]
(sr [
mq 114 17,
mq 11 114] [17,114]
(sr [
mq 115 16,
mq 116 1,
tq 117 (.bin .sub (.t 115) (.t 116)),
mq 118 2,
mq 119 16,
tq 120 (.bin .sub (.t 118) (.t 119)),
mq 18 117,
mq 19 120] [115,116,117,118,119,120]
(sr [
mq 121 12,
tq 122 (.bin .quo (.t 121) (kq 8)),
mq 20 122] [12,121,122]
(sr [
mq 123 18,
mq 124 19,
tq 125 (.bin .lss (.t 123) (.t 124))] [123,124]
(.cond (.t 125) (sr [
mq 126 18,
mq 127 20,
tq 128 (.bin .geq (.t 126) (.t 127)),
mq 10 128] [18,20,126,127,128]
(sr [
mq 129 0,
mq 130 1,
mq 131 16,
mq 132 3,
mq 133 4,
tq 134 (.call true true (.k (.fn zci [] [])) [.t 129,.t 130,.t 131,.t 132,.t 133])] [1,129,130,131,132,133,134]
(rg [
mq 135 16,
tq 136 (.bin .add (.t 135) (kq 1)),
mq 1 136] [16,135,136])))
 (sr [
mq 137 19,
mq 138 20,
tq 139 (.bin .geq (.t 137) (.t 138)),
mq 10 139] [19,20,137,138,139]
(sr [
mq 140 0,
mq 141 16,
tq 142 (.bin .add (.t 141) (kq 1)),
mq 143 2,
mq 144 3,
mq 145 4,
tq 146 (.call true true (.k (.fn zci [] [])) [.t 140,.t 142,.t 143,.t 144,.t 145])] [2,140,141,142,143,144,145,146]
(rg [
mq 147 16,
mq 2 147] [16,147]))))))))))))))))))
def zm5:CF:=⟨[],
  (sr [
tq 10 (.mv (.k (.d (.bool true))))] []
(sr [
tq 11 (.mv (.k (.d (.bool true))))] []
(.block 0 (.loop [0,1,2,3,4,10,11] zlo))))⟩
def z2k:CF:=⟨[.tmp 2],
  (sr [
tq 2 (.mv (kq 0))] [2]
(.seq (.cond (.k (.d (.bool false))) (sr [
mq 3 0,
tq 4 (.conv .u32 (.t 3)),
tq 5 (cl zqh [.t 4]),
mq 2 5] [0,3,4,5]
.ret)
 .skip)
(sr [
mq 6 0,
tq 7 (cl zqi [.t 6]),
mq 2 7] [0,6,7]
.ret)))⟩
def zmz:C:=
  (sr [
tq 10 (.alloc zc1 [.z (.str []),.z (.bool false)]),
⟨none,none,.store 2 (.t 10) (.t 42)⟩] [42]
(rg [
tq 11 (.alloc zl3 [.z (.str []),.z (.nilf)]),
⟨none,none,.store 2 (.t 11) (.t 43)⟩] [43]))
def zm0:C:=
  (.block 1 (.seq (.reg true [
fa 44 1 11,
ld 45 44,
lq 46 18 4,
tq 47 (.call false true (.t 45) [.t 46]),
fa 48 1 11,
ld 49 48,
lq 50 18 5,
tq 51 (.call false true (.t 49) [.t 50]),
mq 12 47,
mq 13 51] [4,5,11,44,45,46,47,48,49,50,51])
(sr [
mq 52 12,
mq 53 13,
tq 54 (.bin .neq (.t 52) (.t 53))] [52,53]
(.cond (.t 54) (.seq (.reg true [
mq 55 12,
mq 56 13,
tq 57 (.bin .gtr (.t 55) (.t 56)),
fa 58 1 10,
ld 59 58,
tq 60 (.eqv none true (.t 57) (.t 59)),
tq 61 (cl zcg [.t 60]),
tq 62 (.bin .mul (kq 2) (.t 61)),
tq 63 (.bin .sub (.t 62) (kq 1)),
fa 64 0 10,
ld 65 64,
⟨none,none,.storeR 1 (.t 6) (.t 63) [10]⟩,
⟨none,none,.store 1 (.t 7) (.t 65)⟩] [10,12,13,55,56,57,58,59,60,61,62,63,64,65])
.ret)
 .skip))))
def zpa:CF:=⟨[.cell 6 none,.cell 7 none],
  (sr [
tq 3 (.box zbf (.t 0)),
tq 4 (.box zah (.t 1)),
tq 5 (.box zah (.t 2)),
tq 6 (.alloc za4 [.z (.int .i64 0)]),
tq 7 (.alloc zcc [.z (.str [])])] [0,1,2]
(.seq (.reg true [
lq 14 4 3,
lq 15 18 4,
tq 16 (cl zco [.t 14,.t 15]),
lq 17 4 3,
lq 18 18 5,
tq 19 (cl zco [.t 17,.t 18]),
mq 8 16,
mq 9 19] [14,15,16,17,18,19])
(.seq (sr [
mq 20 8,
mq 21 9,
tq 22 (.bin .neq (.t 20) (.t 21))] [20,21]
(.cond (.t 22) (sr [
mq 23 8,
mq 24 9,
tq 25 (.bin .gtr (.t 23) (.t 24)),
tq 26 (cl zcg [.t 25]),
tq 27 (.bin .mul (kq 2) (.t 26)),
tq 28 (.bin .sub (.t 27) (kq 1)),
⟨none,none,.store 1 (.t 6) (.t 28)⟩,
⟨none,none,.store 1 (.t 7) (.k (.d (.str [99,108,97,115,115])))⟩] [8,9,23,24,25,26,27,28]
.ret)
 .skip))
(.seq (sr [
fa 29 0 4,
lq 30 13 29,
fa 31 0 5,
lq 32 13 31,
tq 33 (.eqv (some [.str,.str,.str,.str,.str,.str,.int,.int,.int,.int,.int,.int,.int]) false (.t 30) (.t 32)),
mq 34 33,
gq 35 34 true (.load (some 18) (.t 4)),
gq 36 34 true (.load (some 18) (.t 5)),
gq 37 34 true (.eqv (some [.str,.str,.str,.str,.str,.str,.int,.int,.int,.int,.int,.int,.int,.bool,.bool,.bool,.bool,.int]) false (.t 35) (.t 36)),
tq 38 (.pick (.t 34) (.t 37) (.k (.d (.bool false))))] [29,30,31,32,33,34,35,36,37]
(.cond (.t 38) (sr [
⟨none,none,.store 1 (.t 6) (kq 0)⟩,
⟨none,none,.store 1 (.t 7) (.k (.d (.str [])))⟩] []
.ret)
 .skip))
(.seq (sr [
lq 39 4 3,
mq 40 8,
tq 41 (.call false false (.k (.fn zj8 [] [])) [.t 39,.t 40])] [3,8,39,40]
(.block 0 (.rangeFn 67 (.t 41) [42,43] zmz zm0)))
(sr [
⟨none,none,.store 1 (.t 6) (kq 0)⟩,
⟨none,none,.store 1 (.t 7) (.k (.d (.str [])))⟩] []
.ret))))))⟩
def z0t:CF:=⟨[.tmp 4],
  (sr [
tq 2 (.box zah (.t 0)),
tq 3 (.box zgt (.t 1)),
tq 4 (.mv (.k (.d (.bool false))))] [0,1,4]
(.seq (.reg true [
tq 6 (.call false false (.k (.fn zlw [] [])) []),
fa 7 0 3,
ld 8 7,
tq 9 (.lookup .str (.agg [.str [],.nilf]) false (.t 6) (.t 8)),
tq 10 (.field 1 none (.t 9)),
lq 11 18 2,
tq 12 (.call false true (.t 10) [.t 11]),
mq 5 12] [2,6,7,8,9,10,11,12])
(sr [
mq 13 5,
fa 14 2 3,
ld 15 14,
tq 16 (.bin .eql (.t 13) (.t 15)),
mq 17 16,
gq 18 17 true (.fieldAddr 1 (.t 3)),
gq 19 17 true (.load none (.t 18)),
gq 20 17 true (.bin .eql (.t 19) (.k (.d (.str [61])))),
tq 21 (.pick (.t 17) (.t 20) (.k (.d (.bool false)))),
mq 22 21,
gq 23 22 false (.mv (.t 5)),
gq 24 22 false (.fieldAddr 2 (.t 3)),
gq 25 22 false (.load none (.t 24)),
gq 26 22 false (.bin .lss (.t 23) (.t 25)),
gq 27 22 false (.mv (.t 26)),
gq 28 27 true (.fieldAddr 1 (.t 3)),
gq 29 27 true (.load none (.t 28)),
gq 30 27 true (.bin .eql (.t 29) (.k (.d (.str [60])))),
gq 31 22 false (.pick (.t 27) (.t 30) (.k (.d (.bool false)))),
tq 32 (.pick (.t 22) (.k (.d (.bool true))) (.t 31)),
mq 33 32,
gq 34 33 false (.mv (.t 5)),
gq 35 33 false (.fieldAddr 2 (.t 3)),
gq 36 33 false (.load none (.t 35)),
gq 37 33 false (.bin .gtr (.t 34) (.t 36)),
gq 38 33 false (.mv (.t 37)),
gq 39 38 true (.fieldAddr 1 (.t 3)),
gq 40 38 true (.load none (.t 39)),
gq 41 38 true (.bin .eql (.t 40) (.k (.d (.str [62])))),
gq 42 33 false (.pick (.t 38) (.t 41) (.k (.d (.bool false)))),
tq 43 (.pick (.t 33) (.k (.d (.bool true))) (.t 42)),
mq 4 43] [3,5,13,14,15,16,17,18,19,20,21,22,23,24,25,26,27,28,29,30,31,32,33,34,35,36,37,38,39,40,41,42,43]
.ret)))⟩
def z4k:CF:=⟨[.tmp 2],
  (sr [
tq 2 (.mv (kq 0))] [2]
(.seq (sr [
mq 3 0] [0]
(.cond (.t 3) (sr [
tq 2 (.mv (kq 1))] []
.ret)
 .skip))
(sr [
tq 2 (.mv (kq 0))] []
.ret)))⟩
def zdv:C:=
  (sr [
tq 9 (.bin .lss (.t 8) (.t 7))] []
(.seq (.cond (.t 9) .skip
 (.exit 0))
(.seq (.block 1 (sr [
mq 10 8,
mq 5 10] [10]
(sr [
mq 11 1,
mq 12 0,
mq 13 5,
tq 14 (.idxAddr 11 (.t 12) (.t 13)),
lq 15 11 14,
tq 16 (.call true true (.t 11) [.t 15])] [11,12,13,14,15]
(.cond (.t 16) (sr [
mq 17 5,
mq 4 17] [5,17]
.ret)
 .skip))))
(rg [
tq 18 (.bin .add (.t 8) (kq 1)),
mq 8 18] [18]))))
def zed:CF:=⟨[.tmp 4],
  (sr [
tq 4 (.mv (kq 0))] [4]
(.seq (sr [
mq 6 0,
tq 7 (.len .slc (.t 6)),
tq 8 (.mv (kq 0))] [6]
(.block 0 (.loop [0,1,7,8] zdv)))
(sr [
tq 4 (.mv (kq (-1)))] []
.ret)))⟩
def zwl:CF:=⟨[.tmp 3],
  (sr [
tq 2 (.box zab (.t 0)),
tq 3 (.mv (.k (.d (.bool false))))] [0,3]
(sr [
fa 4 0 2,
ld 5 4,
ld 6 1,
tq 7 (.bin .eql (.t 5) (.t 6)),
mq 3 7] [1,2,4,5,6,7]
.ret))⟩
def zqu:CF:=⟨[.tmp 2],
  (sr [
tq 2 (.mv (.k (.d (.bool false))))] [2]
(sr [
mq 3 0,
tq 4 (.bin .neq (.t 3) (.k (.d (.str [])))),
mq 5 4,
gq 6 5 true (.mv (.t 0)),
gq 7 5 true (cl za8 [.t 6]),
gq 8 5 true (.un .not (.t 7)),
tq 9 (.pick (.t 5) (.t 8) (.k (.d (.bool false)))),
mq 2 9] [0,3,4,5,6,7,8,9]
.ret))⟩
def zyn:CF:=⟨[.tmp 6],
  (sr [
tq 6 (.mv (kq 0))] [6]
(sr [
mq 7 0,
mq 8 1,
tq 9 (.bin .lss (.t 7) (.t 8)),
mq 10 9,
gq 11 10 false (.mv (.t 0)),
gq 12 10 false (.mv (.t 2)),
gq 13 10 false (.bin .gtr (.t 11) (.t 12)),
tq 14 (.pick (.t 10) (.k (.d (.bool true))) (.t 13)),
tq 15 (cl zd0 [.t 14,kq 3]),
mq 6 15] [0,1,2,7,8,9,10,11,12,13,14,15]
.ret))⟩
def zea:C:=
  (sr [
tq 9 (.bin .lss (.t 8) (.t 7))] []
(.seq (.cond (.t 9) .skip
 (.exit 0))
(.seq (.block 1 (sr [
mq 10 8,
mq 5 10] [10]
(sr [
mq 11 1,
mq 12 0,
mq 13 5,
tq 14 (.idxAddr 18 (.t 12) (.t 13)),
lq 15 18 14,
tq 16 (.call true true (.t 11) [.t 15])] [11,12,13,14,15]
(.cond (.t 16) (sr [
mq 17 5,
mq 4 17] [5,17]
.ret)
 .skip))))
(rg [
tq 18 (.bin .add (.t 8) (kq 1)),
mq 8 18] [18]))))
def ze2:CF:=⟨[.tmp 4],
  (sr [
tq 4 (.mv (kq 0))] [4]
(.seq (sr [
mq 6 0,
tq 7 (.len .slc (.t 6)),
tq 8 (.mv (kq 0))] [6]
(.block 0 (.loop [0,1,7,8] zea)))
(sr [
tq 4 (.mv (kq (-1)))] []
.ret)))⟩
def zwf:CF:=⟨[.tmp 3],
  (sr [
tq 2 (.box zaz (.t 0)),
tq 3 (.mv (.k (.d (.bool false))))] [0,3]
(sr [
fa 4 0 2,
fa 5 0 4,
ld 6 5,
ld 7 1,
tq 8 (.bin .eql (.t 6) (.t 7)),
mq 3 8] [1,2,4,5,6,7,8]
.ret))⟩
def zwe:CF:=⟨[.tmp 4],
  (sr [
tq 2 (.box zab (.t 0)),
tq 3 (.box zaa (.t 1)),
tq 4 (.mv (.k (.d (.bool false))))] [0,1,4]
(sr [
fa 5 1 2,
ld 6 5,
tq 7 (.bin .eql (.t 6) (.k (.d (.str [84])))),
mq 8 7,
gq 9 8 false (.fieldAddr 1 (.t 2)),
gq 10 8 false (.load none (.t 9)),
gq 11 8 false (.fieldAddr 1 (.t 3)),
gq 12 8 false (.load none (.t 11)),
gq 13 8 false (.bin .eql (.t 10) (.t 12)),
tq 14 (.pick (.t 8) (.k (.d (.bool true))) (.t 13)),
mq 15 14,
gq 16 15 true (.fieldAddr 2 (.t 2)),
gq 17 15 true (.load none (.t 16)),
gq 18 15 true (.bin .eql (.t 17) (.k (.d (.str [])))),
gq 19 15 true (.mv (.t 18)),
gq 20 19 false (.fieldAddr 2 (.t 2)),
gq 21 19 false (.load none (.t 20)),
gq 22 19 false (.fieldAddr 2 (.t 3)),
gq 23 19 false (.load none (.t 22)),
gq 24 19 false (.bin .eql (.t 21) (.t 23)),
gq 25 15 true (.pick (.t 19) (.k (.d (.bool true))) (.t 24)),
tq 26 (.pick (.t 15) (.t 25) (.k (.d (.bool false)))),
mq 4 26] [2,3,5,6,7,8,9,10,11,12,13,14,15,16,17,18,19,20,21,22,23,24,25,26]
.ret))⟩
def zgy:C:=
  (.block 1 (sr [
mq 21 2,
mq 22 1,
tq 23 (.bin .sub (.t 21) (.t 22)),
mq 12 23] [21,22,23]
(.seq (sr [
mq 24 12,
tq 25 (.bin .leq (.t 24) (kq 12))] [24]
(.cond (.t 25) (sr [
mq 26 0,
mq 27 1,
mq 28 2,
mq 29 4,
tq 30 (.call true true (.k (.fn zcb [] [])) [.t 26,.t 27,.t 28,.t 29])] [0,1,2,4,26,27,28,29,30]
.ret)
 .skip))
(.seq (sr [
mq 31 3,
tq 32 (.bin .eql (.t 31) (kq 0))] [31]
(.cond (.t 32) (sr [
mq 33 0,
mq 34 1,
mq 35 2,
mq 36 4,
tq 37 (.call true true (.k (.fn zcw [] [])) [.t 33,.t 34,.t 35,.t 36])] [0,1,2,4,33,34,35,36,37]
.ret)
 .skip))
(.seq (sr [
mq 38 10,
tq 39 (.un .not (.t 38))] [38]
(.cond (.t 39) (sr [
mq 40 0,
mq 41 1,
mq 42 2,
mq 43 4,
tq 44 (.call true true (.k (.fn zca [] [])) [.t 40,.t 41,.t 42,.t 43])] [40,41,42,43,44]
(rg [
mq 45 3,
tq 46 (.bin .sub (.t 45) (kq 1)),
mq 3 46] [45,46]))
 .skip))
(sr [
mq 48 0,
mq 49 1,
mq 50 2,
mq 51 4,
tq 52 (.call true true (.k (.fn zch [] [])) [.t 48,.t 49,.t 50,.t 51]),
mq 47 52,
xq 53 47 0,
xq 54 47 1,
mq 13 53,
mq 14 54] [47,48,49,50,51,52,53,54]
(.seq (sr [
mq 55 14,
tq 56 (.bin .eql (.t 55) (kq 2))] [55]
(.cond (.t 56) (sr [
mq 57 0,
mq 58 1,
mq 59 2,
mq 60 4,
tq 61 (.call true true (.k (.fn zcf [] [])) [.t 57,.t 58,.t 59,.t 60])] [57,58,59,60,61]
(sr [
mq 62 2,
tq 63 (.bin .sub (.t 62) (kq 1)),
mq 64 13,
mq 65 1,
tq 66 (.bin .sub (.t 64) (.t 65)),
tq 67 (.bin .sub (.t 63) (.t 66)),
mq 13 67] [62,63,64,65,66,67]
(rg [
tq 14 (.mv (kq 1))] [])))
 .skip))
(.seq (sr [
mq 68 10,
mq 69 68,
gq 70 69 true (.mv (.t 11)),
tq 71 (.pick (.t 69) (.t 70) (.k (.d (.bool false)))),
mq 72 71,
gq 73 72 true (.mv (.t 14)),
gq 74 72 true (.bin .eql (.t 73) (kq 1)),
tq 75 (.pick (.t 72) (.t 74) (.k (.d (.bool false))))] [14,68,69,70,71,72,73,74]
(.cond (.t 75) (sr [
mq 76 0,
mq 77 1,
mq 78 2,
mq 79 4,
tq 80 (.call true true (.k (.fn zbm [] [])) [.t 76,.t 77,.t 78,.t 79])] [76,77,78,79]
(.cond (.t 80) .ret
 .skip))
 .skip))
(.seq (.seq (.reg true [
mq 81 1,
tq 82 (.bin .gtr (.t 81) (kq 0)),
mq 83 82,
gq 84 83 true (.mv (.t 4)),
gq 85 83 true (.mv (.t 0)),
gq 86 83 true (.mv (.t 1)),
gq 87 83 true (.bin .sub (.t 86) (kq 1)),
gq 88 83 true (.idxAddr 2 (.t 85) (.t 87)),
gq 89 83 true (.load (some 2) (.t 88)),
gq 90 83 true (.mv (.t 0)),
gq 91 83 true (.mv (.t 13)),
gq 92 83 true (.idxAddr 2 (.t 90) (.t 91)),
gq 93 83 true (.load (some 2) (.t 92)),
gq 94 83 true (.call true true (.t 84) [.t 89,.t 93]),
gq 95 83 true (.bin .lss (.t 94) (kq 0)),
gq 96 83 true (.un .not (.t 95)),
tq 97 (.pick (.t 83) (.t 96) (.k (.d (.bool false))))] [81,82,83,84,85,86,87,88,89,90,91,92,93,94,95,96])
(.cond (.t 97) (sr [
mq 98 0,
mq 99 1,
mq 100 2,
mq 101 13,
mq 102 4,
tq 103 (.call true true (.k (.fn zb7 [] [])) [.t 98,.t 99,.t 100,.t 101,.t 102]),
mq 15 103] [1,13,98,99,100,101,102,103]
(sr [
mq 104 15,
mq 1 104] [15,104]
(.exit 1)))
 .skip))
(sr [
mq 106 0,
mq 107 1,
mq 108 2,
mq 109 13,
mq 110 4,
tq 111 (.call true true (.k (.fn zcq [] [])) [.t 106,.t 107,.t 108,.t 109,.t 110]),
mq 105 111,
xq 112 105 0,
xq 113 105 1,
mq 16 112,
mq 17 113] [13,105,106,107,108,109,110,111,112,113]
(sr [
mq 114 17,
mq 11 114] [17,114]
(sr [
mq 115 16,
mq 116 1,
tq 117 (.bin .sub (.t 115) (.t 116)),
mq 118 2,
mq 119 16,
tq 120 (.bin .sub (.t 118) (.t 119)),
mq 18 117,
mq 19 120] [115,116,117,118,119,120]
(sr [
mq 121 12,
tq 122 (.bin .quo (.t 121) (kq 8)),
mq 20 122] [12,121,122]
(sr [
mq 123 18,
mq 124 19,
tq 125 (.bin .lss (.t 123) (.t 124))] [123,124]
(.cond (.t 125) (sr [
mq 126 18,
mq 127 20,
tq 128 (.bin .geq (.t 126) (.t 127)),
mq 10 128] [18,20,126,127,128]
(sr [
mq 129 0,
mq 130 1,
mq 131 16,
mq 132 3,
mq 133 4,
tq 134 (.call true true (.k (.fn za2 [] [])) [.t 129,.t 130,.t 131,.t 132,.t 133])] [1,129,130,131,132,133,134]
(rg [
mq 135 16,
tq 136 (.bin .add (.t 135) (kq 1)),
mq 1 136] [16,135,136])))
 (sr [
mq 137 19,
mq 138 20,
tq 139 (.bin .geq (.t 137) (.t 138)),
mq 10 139] [19,20,137,138,139]
(sr [
mq 140 0,
mq 141 16,
tq 142 (.bin .add (.t 141) (kq 1)),
mq 143 2,
mq 144 3,
mq 145 4,
tq 146 (.call true true (.k (.fn za2 [] [])) [.t 140,.t 142,.t 143,.t 144,.t 145])] [2,140,141,142,143,144,145,146]
(rg [
mq 147 16,
mq 2 147] [16,147]))))))))))))))))))
def zhm:CF:=⟨[],
  (sr [
tq 10 (.mv (.k (.d (.bool true))))] []
(sr [
tq 11 (.mv (.k (.d (.bool true))))] []
(.block 0 (.loop [0,1,2,3,4,10,11] zgy))))⟩
def z2j:CF:=⟨[.tmp 2],
  (sr [
tq 2 (.mv (.k (.d (.bool false))))] [2]
(sr [
mq 3 0,
mq 4 0,
tq 5 (.bin .neq (.t 3) (.t 4)),
mq 2 5] [0,3,4,5]
.ret))⟩
def zie:C:=
  (sr [
tq 11 (.bin .lss (.t 10) (.t 9))] []
(.seq (.cond (.t 11) .skip
 (.exit 0))
(.seq (.block 1 (sr [
tq 12 (.idxAddr 18 (.t 8) (.t 10)),
lq 13 18 12,
tq 7 (.alloc zaz [.z (.str []),.z (.str []),.z (.str []),.z (.str []),.z (.str []),.z (.str []),.z (.int .i64 0),.z (.int .i64 0),.z (.int .i64 0),.z (.int .i64 0),.z (.int .i64 0),.z (.int .i64 0),.z (.int .i64 0),.z (.int .i64 0),.z (.int .i64 0),.z (.int .i64 0),.z (.int .i64 0),.z (.int .i64 0)]),
⟨none,none,.store 18 (.t 7) (.t 13)⟩] [12,13]
(rg [
mq 14 5,
mq 15 1,
lq 16 18 7,
tq 17 (.call true true (.t 15) [.t 16]),
tq 18 (.mkList 1 1 [.t 17]),
tq 19 (.append ⟨false,za4,1,8⟩ (.t 14) (.t 18)),
mq 5 19] [7,14,15,16,17,18,19])))
(rg [
tq 20 (.bin .add (.t 10) (kq 1)),
mq 10 20] [20]))))
def zi7:CF:=⟨[.tmp 4],
  (sr [
tq 4 (.ownNil ⟨false,za4,1,8⟩)] [4]
(sr [
tq 5 (.ownNil ⟨false,za4,1,8⟩)] []
(.seq (sr [
mq 8 0,
tq 9 (.len .slc (.t 8)),
tq 10 (.mv (kq 0))] [0]
(.block 0 (.loop [1,5,8,9,10] zie)))
(sr [
mq 21 5,
mq 4 21] [5,21]
.ret))))⟩
def zu1:CF:=⟨[.tmp 3],
  (sr [
tq 2 (.box zaz (.t 0)),
tq 3 (.mv (kq 0))] [0,3]
(.seq (sr [
fa 4 0 2,
fa 5 5 4,
ld 6 5,
tq 7 (.bin .eql (.t 6) (.k (.d (.str []))))] [4,5,6]
(.cond (.t 7) (sr [
tq 3 (.mv (kq (-1)))] []
.ret)
 .skip))
(sr [
ld 8 1,
fa 9 0 2,
fa 10 5 9,
ld 11 10,
tq 12 (.lookup .str (.int .i64 0) false (.t 8) (.t 11)),
mq 3 12] [1,2,8,9,10,11,12]
.ret)))⟩
def zmc:CF:=⟨[.tmp 5],
  (sr [
tq 5 (.mv (kq 0))] [5]
(.seq (.reg true [
mq 6 0,
ld 7 2,
tq 8 (.bin .sub (.t 6) (.t 7)),
tq 9 (cl zin [.t 8]),
mq 10 1,
ld 11 2,
tq 12 (.bin .sub (.t 10) (.t 11)),
tq 13 (cl zin [.t 12]),
tq 14 (cl zcu [.t 9,.t 13]),
mq 15 0,
mq 16 1,
tq 17 (cl zcu [.t 15,.t 16]),
tq 18 (.mkList 1 2 [.t 14,.t 17]),
tq 19 (cl ztc [.t 18]),
mq 5 19] [0,1,2,6,7,8,9,10,11,12,13,14,15,16,17,18,19])
.ret))⟩
def zhe:C:=
  (.seq (sr [
mq 11 8,
mq 12 1,
tq 13 (.bin .leq (.t 11) (.t 12))] [11,12]
(.cond (.t 13) .skip
 (.exit 0)))
(.block 1 (sr [
mq 14 0,
mq 15 7,
mq 16 8,
mq 17 2,
tq 18 (.call true true (.k (.fn zba [] [])) [.t 14,.t 15,.t 16,.t 17])] [7,14,15,16,17,18]
(sr [
mq 19 8,
mq 7 19] [19]
(rg [
mq 20 8,
mq 21 6,
tq 22 (.bin .add (.t 20) (.t 21)),
mq 8 22] [20,21,22])))))
def zhf:C:=
  (.seq (sr [
mq 33 8,
mq 34 1,
tq 35 (.bin .leq (.t 33) (.t 34))] [33,34]
(.cond (.t 35) .skip
 (.exit 4)))
(.block 5 (sr [
mq 36 0,
mq 37 7,
mq 38 7,
mq 39 6,
tq 40 (.bin .add (.t 38) (.t 39)),
mq 41 8,
mq 42 2,
tq 43 (.call true true (.k (.fn zan [] [])) [.t 36,.t 37,.t 40,.t 41,.t 42])] [7,36,37,38,39,40,41,42,43]
(sr [
mq 44 8,
mq 7 44] [44]
(rg [
mq 45 8,
mq 46 6,
tq 47 (.bin .mul (kq 2) (.t 46)),
tq 48 (.bin .add (.t 45) (.t 47)),
mq 8 48] [45,46,47,48])))))
def zhg:C:=
  (.seq (sr [
mq 28 6,
mq 29 1,
tq 30 (.bin .lss (.t 28) (.t 29))] [28,29]
(.cond (.t 30) .skip
 (.exit 2)))
(.block 3 (sr [
mq 31 6,
tq 32 (.bin .mul (kq 2) (.t 31)),
tq 7 (.mv (kq 0)),
mq 8 32] [31,32]
(.seq (.block 4 (.loop [0,1,2,6,7,8] zhf))
(.seq (sr [
mq 49 7,
mq 50 6,
tq 51 (.bin .add (.t 49) (.t 50)),
mq 9 51] [49,50,51]
(sr [
mq 52 9,
mq 53 1,
tq 54 (.bin .lss (.t 52) (.t 53))] [52,53]
(.cond (.t 54) (rg [
mq 55 0,
mq 56 7,
mq 57 9,
mq 58 1,
mq 59 2,
tq 60 (.call true true (.k (.fn zan [] [])) [.t 55,.t 56,.t 57,.t 58,.t 59])] [7,9,55,56,57,58,59,60])
 .skip)))
(rg [
mq 61 6,
tq 62 (.bin .mul (.t 61) (kq 2)),
mq 6 62] [61,62]))))))
def zh0:CF:=⟨[],
  (sr [
tq 6 (.mv (kq 20))] []
(sr [
mq 10 6,
tq 7 (.mv (kq 0)),
mq 8 10] [10]
(.seq (.block 0 (.loop [0,1,2,6,7,8] zhe))
(sr [
mq 23 0,
mq 24 7,
mq 25 1,
mq 26 2,
tq 27 (.call true true (.k (.fn zba [] [])) [.t 23,.t 24,.t 25,.t 26])] [7,23,24,25,26,27]
(.block 2 (.loop [0,1,2,6] zhg))))))⟩
def zms:C:=
  (sr [
tq 7 (.bin .lss (.t 6) (kq 2))] []
(.seq (.cond (.t 7) .skip
 (.exit 0))
(.seq (.block 1 (sr [
mq 8 6,
tq 9 (.idxA 2 1 none (.t 5) (.t 6)),
mq 3 8,
mq 4 9] [8,9]
(sr [
mq 10 4,
tq 11 (.bin .geq (.t 10) (kq 0)),
mq 12 11,
gq 13 12 true (.mv (.t 0)),
gq 14 12 true (.mv (.t 3)),
gq 15 12 true (.mv (.t 4)),
gq 16 12 true (.call true true (.t 13) [.t 14,.t 15]),
gq 17 12 true (.un .not (.t 16)),
tq 18 (.pick (.t 12) (.t 17) (.k (.d (.bool false))))] [3,4,10,11,12,13,14,15,16,17]
(.cond (.t 18) .ret
 .skip))))
(rg [
tq 19 (.bin .add (.t 6) (kq 1)),
mq 6 19] [19]))))
def zo2:CF:=⟨[],
  (sr [
lq 5 2 1,
tq 6 (.mv (kq 0))] [1]
(.block 0 (.loop [0,5,6] zms)))⟩
def zwj:CF:=⟨[.tmp 2],
  (sr [
tq 1 (.box zcc (.t 0)),
tq 2 (.mv (.k (.d (.nilf))))] [0,2]
(sr [
tq 3 (.mkFunc zb0 [] [.t 1]),
mq 2 3] [1,3]
.ret))⟩
def zug:CF:=⟨[.tmp 3],
  (sr [
tq 3 (.mv (.k (.d (.bool false))))] [3]
(sr [
mq 4 0,
ld 5 1,
tq 6 (.bin .eql (.t 4) (.t 5)),
mq 3 6] [0,1,4,5,6]
.ret))⟩
def zwk:CF:=⟨[.tmp 2],
  (sr [
tq 2 (.mv (.k (.d (.bool false))))] [2]
(sr [
tq 2 (.mv (.k (.d (.bool true))))] []
.ret))⟩
def z4g:CF:=⟨[.tmp 4],
  (sr [
tq 2 (.box zag (.t 0)),
tq 4 (.mv (.k (.d (.bool false))))] [0,4]
(.seq (.reg true [
mq 5 1,
fa 6 0 2,
ld 7 6,
tq 8 (.bin .geq (.t 5) (.t 7)),
mq 9 8,
gq 10 9 true (.mv (.t 1)),
gq 11 9 true (.fieldAddr 1 (.t 2)),
gq 12 9 true (.load none (.t 11)),
gq 13 9 true (.bin .leq (.t 10) (.t 12)),
tq 14 (.pick (.t 9) (.t 13) (.k (.d (.bool false)))),
mq 15 14,
gq 16 15 true (.fieldAddr 2 (.t 2)),
gq 17 15 true (.load none (.t 16)),
gq 18 15 true (.mv (.t 1)),
gq 19 15 true (cl zeo [.t 18]),
gq 20 15 true (cl zh4 [.t 17,.t 19]),
tq 21 (.pick (.t 15) (.t 20) (.k (.d (.bool false)))),
mq 4 21] [1,2,5,6,7,8,9,10,11,12,13,14,15,16,17,18,19,20,21])
.ret))⟩
def zft:C:=
  (.seq (sr [
mq 13 7,
mq 14 8,
tq 15 (.bin .lss (.t 13) (.t 14))] [13,14]
(.cond (.t 15) .skip
 (.exit 0)))
(.block 1 (sr [
mq 16 7,
mq 17 8,
tq 18 (.bin .add (.t 16) (.t 17)),
tq 19 (.conv .u64 (.t 18)),
tq 20 (.bin .shr (.t 19) (.k (.d (.int .u64 1)))),
tq 21 (.conv .i64 (.t 20)),
mq 9 21] [16,17,18,19,20,21]
(sr [
mq 22 0,
mq 23 9,
tq 24 (.idxAddr 1 (.t 22) (.t 23)),
ld 25 24,
mq 26 1,
tq 27 (cl zpi [.t 25,.t 26])] [22,23,24,25,26]
(.cond (.t 27) (rg [
mq 28 9,
tq 29 (.bin .add (.t 28) (kq 1)),
mq 7 29] [9,28,29])
 (rg [
mq 30 9,
mq 8 30] [9,30]))))))
def zgn:CF:=⟨[.tmp 4,.tmp 5],
  (sr [
tq 4 (.mv (kq 0)),
tq 5 (.mv (.k (.d (.bool false))))] [4,5]
(sr [
mq 10 0,
tq 11 (.len .slc (.t 10)),
mq 6 11] [10,11]
(sr [
mq 12 6,
tq 7 (.mv (kq 0)),
mq 8 12] [12]
(.seq (.block 0 (.loop [0,1,6,7,8] zft))
(sr [
mq 31 7,
mq 32 7,
mq 33 6,
tq 34 (.bin .lss (.t 32) (.t 33)),
mq 35 34,
gq 36 35 true (.mv (.t 0)),
gq 37 35 true (.mv (.t 7)),
gq 38 35 true (.idxAddr 1 (.t 36) (.t 37)),
gq 39 35 true (.load none (.t 38)),
gq 40 35 true (.mv (.t 1)),
gq 41 35 true (.bin .eql (.t 39) (.t 40)),
gq 42 35 true (.mv (.t 41)),
gq 43 42 false (.mv (.t 0)),
gq 44 42 false (.mv (.t 7)),
gq 45 42 false (.idxAddr 1 (.t 43) (.t 44)),
gq 46 42 false (.load none (.t 45)),
gq 47 42 false (cl zha [.t 46]),
gq 48 42 false (.mv (.t 47)),
gq 49 48 true (.mv (.t 1)),
gq 50 48 true (cl zha [.t 49]),
gq 51 42 false (.pick (.t 48) (.t 50) (.k (.d (.bool false)))),
gq 52 35 true (.pick (.t 42) (.k (.d (.bool true))) (.t 51)),
tq 53 (.pick (.t 35) (.t 52) (.k (.d (.bool false)))),
mq 4 31,
mq 5 53] [0,1,6,7,31,32,33,34,35,36,37,38,39,40,41,42,43,44,45,46,47,48,49,50,51,52,53]
.ret)))))⟩
def zdo:CF:=⟨[.tmp 4],
  (sr [
tq 4 (.mv (.k (.d (.bool false))))] [4]
(sr [
mq 5 0,
mq 6 1,
tq 7 (.call true true (.k (.fn zby [] [])) [.t 5,.t 6]),
tq 8 (.bin .geq (.t 7) (kq 0)),
mq 4 8] [0,1,5,6,7,8]
.ret))⟩
def zwp:CF:=⟨[.tmp 3],
  (sr [
tq 2 (.box zfs (.t 0)),
tq 3 (.mv (.k (.d (.bool false))))] [0,3]
(sr [
fa 4 0 2,
ld 5 4,
fa 6 0 1,
ld 7 6,
tq 8 (.bin .eql (.t 5) (.t 7)),
mq 3 8] [1,2,4,5,6,7,8]
.ret))⟩
def zr2:CF:=⟨[.tmp 2],
  (sr [
tq 1 (.box zfs (.t 0)),
tq 2 (.mv (kq 0))] [0,2]
(.seq (.seq (.reg true [
fa 5 0 1,
ld 6 5,
tq 7 (cl za8 [.t 6]),
tq 8 (.un .not (.t 7)),
tq 9 (cl za9 [.t 8,kq 8]),
fa 10 1 1,
ld 11 10,
tq 12 (.len .slc (.t 11)),
tq 13 (.bin .gtr (.t 12) (kq 8)),
tq 14 (cl za9 [.t 13,kq 5]),
tq 15 (.mkList 1 2 [.t 9,.t 14]),
tq 16 (cl za6 [.t 15]),
mq 3 16] [5,6,7,8,9,10,11,12,13,14,15,16])
(sr [
mq 17 3,
tq 18 (.bin .neq (.t 17) (kq 0))] [17]
(.cond (.t 18) (sr [
mq 19 3,
mq 2 19] [3,19]
.ret)
 .skip)))
(sr [
fa 20 1 1,
ld 21 20,
tq 22 (cl zgq [.t 21,.k (.fn zji [] [])]),
mq 4 22] [20,21,22]
(.seq (.reg true [
mq 23 4,
fa 24 2 1,
ld 25 24,
tq 26 (.len .slc (.t 25)),
tq 27 (.bin .gtr (.t 26) (kq 8)),
tq 28 (cl za9 [.t 27,kq 5]),
fa 29 2 1,
ld 30 29,
tq 31 (cl zg7 [.t 30,.k (.fn zjj [] [])]),
tq 32 (.mkList 1 3 [.t 23,.t 28,.t 31]),
tq 33 (cl za6 [.t 32]),
mq 2 33] [1,4,23,24,25,26,27,28,29,30,31,32,33])
.ret))))⟩
def zdw:C:=
  (sr [
tq 9 (.bin .lss (.t 8) (.t 7))] []
(.seq (.cond (.t 9) .skip
 (.exit 0))
(.seq (.block 1 (sr [
mq 10 8,
mq 5 10] [10]
(sr [
mq 11 1,
mq 12 0,
mq 13 5,
tq 14 (.idxAddr 18 (.t 12) (.t 13)),
lq 15 18 14,
tq 16 (.call true true (.t 11) [.t 15])] [11,12,13,14,15]
(.cond (.t 16) (sr [
mq 17 5,
mq 4 17] [5,17]
.ret)
 .skip))))
(rg [
tq 18 (.bin .add (.t 8) (kq 1)),
mq 8 18] [18]))))
def zee:CF:=⟨[.tmp 4],
  (sr [
tq 4 (.mv (kq 0))] [4]
(.seq (sr [
mq 6 0,
tq 7 (.len .slc (.t 6)),
tq 8 (.mv (kq 0))] [6]
(.block 0 (.loop [0,1,7,8] zdw)))
(sr [
tq 4 (.mv (kq (-1)))] []
.ret)))⟩
def zr1:CF:=⟨[.tmp 2],
  (sr [
tq 1 (.box zaj (.t 0)),
tq 2 (.mv (kq 0))] [0,2]
(.seq (.reg true [
fa 3 0 1,
ld 4 3,
tq 5 (cl zj4 [.t 4]),
fa 6 1 1,
ld 7 6,
tq 8 (cl zj4 [.t 7]),
fa 9 4 1,
ld 10 9,
tq 11 (cl zj4 [.t 10]),
fa 12 3 1,
ld 13 12,
tq 14 (cl zj5 [.t 13]),
fa 15 5 1,
ld 16 15,
tq 17 (cl zj5 [.t 16]),
fa 18 2 1,
ld 19 18,
tq 20 (cl zrp [.t 19]),
tq 21 (.un .not (.t 20)),
tq 22 (cl zgu [.t 21,kq 13]),
fa 23 5 1,
ld 24 23,
fa 25 0 1,
ld 26 25,
tq 27 (.bin .eql (.t 24) (.t 26)),
tq 28 (cl zgu [.t 27,kq 32]),
fa 29 6 1,
lq 30 3 29,
tq 31 (cl za5 [.t 30]),
fa 32 9 1,
ld 33 32,
tq 34 (cl zei [.t 33,kq 0,kq 1439]),
fa 35 10 1,
ld 36 35,
tq 37 (cl zei [.t 36,kq 0,kq 999]),
fa 38 11 1,
ld 39 38,
tq 40 (cl zei [.t 39,kq 1,kq 9]),
fa 41 12 1,
ld 42 41,
tq 43 (cl zei [.t 42,kq 0,kq 99]),
tq 44 (.mkList 1 12 [.t 5,.t 8,.t 11,.t 14,.t 17,.t 22,.t 28,.t 31,.t 34,.t 37,.t 40,.t 43]),
tq 45 (cl ztd [.t 44]),
mq 2 45] [1,3,4,5,6,7,8,9,10,11,12,13,14,15,16,17,18,19,20,21,22,23,24,25,26,27,28,29,30,31,32,33,34,35,36,37,38,39,40,41,42,43,44,45])
.ret))⟩
def zwm:CF:=⟨[.tmp 2],
  (sr [
tq 2 (.mv (.k (.d (.bool false))))] [2]
(sr [
mq 3 0,
mq 4 0,
tq 5 (.bin .neq (.t 3) (.t 4)),
mq 2 5] [0,3,4,5]
.ret))⟩
def zi5:C:=
  (.seq (.seq (.reg true [
mq 18 9,
mq 19 1,
tq 20 (.bin .gtr (.t 18) (.t 19)),
mq 21 20,
gq 22 21 true (.mv (.t 3)),
gq 23 21 true (.mv (.t 0)),
gq 24 21 true (.mv (.t 9)),
gq 25 21 true (.idxAddr 1 (.t 23) (.t 24)),
gq 26 21 true (.load none (.t 25)),
gq 27 21 true (.mv (.t 0)),
gq 28 21 true (.mv (.t 9)),
gq 29 21 true (.bin .sub (.t 28) (kq 1)),
gq 30 21 true (.idxAddr 1 (.t 27) (.t 29)),
gq 31 21 true (.load none (.t 30)),
gq 32 21 true (.call true true (.t 22) [.t 26,.t 31]),
gq 33 21 true (.bin .lss (.t 32) (kq 0)),
tq 34 (.pick (.t 21) (.t 33) (.k (.d (.bool false))))] [18,19,20,21,22,23,24,25,26,27,28,29,30,31,32,33])
(.cond (.t 34) .skip
 (.exit 2)))
(.seq (.block 3 (.reg true [
mq 37 0,
mq 38 9,
mq 39 0,
mq 40 9,
tq 41 (.bin .sub (.t 40) (kq 1)),
mq 42 0,
mq 43 9,
tq 44 (.bin .sub (.t 43) (kq 1)),
tq 45 (.idxAddr 1 (.t 42) (.t 44)),
ld 46 45,
mq 47 0,
mq 48 9,
tq 49 (.idxAddr 1 (.t 47) (.t 48)),
ld 50 49,
tq 51 (.idxAddr 1 (.t 37) (.t 38)),
⟨none,none,.store 1 (.t 51) (.t 46)⟩,
tq 52 (.idxAddr 1 (.t 39) (.t 41)),
⟨none,none,.store 1 (.t 52) (.t 50)⟩] [37,38,39,40,41,42,43,44,45,46,47,48,49,50,51,52]))
(rg [
mq 35 9,
tq 36 (.bin .sub (.t 35) (kq 1)),
mq 9 36] [35,36])))
def zi6:C:=
  (.seq (sr [
mq 12 8,
mq 13 2,
tq 14 (.bin .lss (.t 12) (.t 13))] [12,13]
(.cond (.t 14) .skip
 (.exit 0)))
(.seq (.block 1 (sr [
mq 17 8,
mq 9 17] [17]
(.block 2 (.loop [0,1,2,3,8,9] zi5))))
(rg [
mq 15 8,
tq 16 (.bin .add (.t 15) (kq 1)),
mq 8 16] [15,16])))
def zjs:CF:=⟨[],
  (sr [
mq 10 1,
tq 11 (.bin .add (.t 10) (kq 1)),
mq 8 11] [10,11]
(.block 0 (.loop [0,1,2,3,8] zi6)))⟩
def zyz:CF:=⟨[.tmp 2],
  (sr [
tq 2 (.mv (kq 0))] []
(.seq (sr [
mq 3 0,
tq 4 (.bin .geq (.t 3) (.k (.d (.int .u32 65536))))] [3]
(.cond (.t 4) (sr [
mq 5 0,
tq 6 (.bin .shr (.t 5) (.k (.d (.int .u64 16)))),
mq 0 6] [5,6]
(rg [
tq 2 (.mv (kq 16))] []))
 .skip))
(.seq (sr [
mq 7 0,
tq 8 (.bin .geq (.t 7) (.k (.d (.int .u32 256))))] [7]
(.cond (.t 8) (sr [
mq 9 0,
tq 10 (.bin .shr (.t 9) (.k (.d (.int .u64 8)))),
mq 0 10] [9,10]
(rg [
mq 11 2,
tq 12 (.bin .add (.t 11) (kq 8)),
mq 2 12] [11,12]))
 .skip))
(sr [
mq 13 2,
mq 14 0,
tq 15 (.conv .u8 (.t 14)),
tq 16 (.idxS (.k (.d (.str [0,1,2,2,3,3,3,3,4,4,4,4,4,4,4,4,5,5,5,5,5,5,5,5,5,5,5,5,5,5,5,5,6,6,6,6,6,6,6,6,6,6,6,6,6,6,6,6,6,6,6,6,6,6,6,6,6,6,6,6,6,6,6,6,7,7,7,7,7,7,7,7,7,7,7,7,7,7,7,7,7,7,7,7,7,7,7,7,7,7,7,7,7,7,7,7,7,7,7,7,7,7,7,7,7,7,7,7,7,7,7,7,7,7,7,7,7,7,7,7,7,7,7,7,7,7,7,7,8,8,8,8,8,8,8,8,8,8,8,8,8,8,8,8,8,8,8,8,8,8,8,8,8,8,8,8,8,8,8,8,8,8,8,8,8,8,8,8,8,8,8,8,8,8,8,8,8,8,8,8,8,8,8,8,8,8,8,8,8,8,8,8,8,8,8,8,8,8,8,8,8,8,8,8,8,8,8,8,8,8,8,8,8,8,8,8,8,8,8,8,8,8,8,8,8,8,8,8,8,8,8,8,8,8,8,8,8,8,8,8,8,8,8,8,8,8,8,8,8,8,8,8,8,8,8,8]))) (.t 15)),
tq 17 (.conv .i64 (.t 16)),
tq 18 (.bin .add (.t 13) (.t 17)),
mq 2 18] [0,13,14,15,16,17,18]
.ret))))⟩
def zy0:CF:=⟨[.tmp 2],
  (sr [
tq 2 (.mv (kq 0))] []
(.seq (sr [
mq 3 0,
tq 4 (.bin .geq (.t 3) (.k (.d (.int .u64 4294967296))))] [3]
(.cond (.t 4) (sr [
mq 5 0,
tq 6 (.bin .shr (.t 5) (.k (.d (.int .u64 32)))),
mq 0 6] [5,6]
(rg [
tq 2 (.mv (kq 32))] []))
 .skip))
(.seq (sr [
mq 7 0,
tq 8 (.bin .geq (.t 7) (.k (.d (.int .u64 65536))))] [7]
(.cond (.t 8) (sr [
mq 9 0,
tq 10 (.bin .shr (.t 9) (.k (.d (.int .u64 16)))),
mq 0 10] [9,10]
(rg [
mq 11 2,
tq 12 (.bin .add (.t 11) (kq 16)),
mq 2 12] [11,12]))
 .skip))
(.seq (sr [
mq 13 0,
tq 14 (.bin .geq (.t 13) (.k (.d (.int .u64 256))))] [13]
(.cond (.t 14) (sr [
mq 15 0,
tq 16 (.bin .shr (.t 15) (.k (.d (.int .u64 8)))),
mq 0 16] [15,16]
(rg [
mq 17 2,
tq 18 (.bin .add (.t 17) (kq 8)),
mq 2 18] [17,18]))
 .skip))
(sr [
mq 19 2,
mq 20 0,
tq 21 (.conv .u8 (.t 20)),
tq 22 (.idxS (.k (.d (.str [0,1,2,2,3,3,3,3,4,4,4,4,4,4,4,4,5,5,5,5,5,5,5,5,5,5,5,5,5,5,5,5,6,6,6,6,6,6,6,6,6,6,6,6,6,6,6,6,6,6,6,6,6,6,6,6,6,6,6,6,6,6,6,6,7,7,7,7,7,7,7,7,7,7,7,7,7,7,7,7,7,7,7,7,7,7,7,7,7,7,7,7,7,7,7,7,7,7,7,7,7,7,7,7,7,7,7,7,7,7,7,7,7,7,7,7,7,7,7,7,7,7,7,7,7,7,7,7,8,8,8,8,8,8,8,8,8,8,8,8,8,8,8,8,8,8,8,8,8,8,8,8,8,8,8,8,8,8,8,8,8,8,8,8,8,8,8,8,8,8,8,8,8,8,8,8,8,8,8,8,8,8,8,8,8,8,8,8,8,8,8,8,8,8,8,8,8,8,8,8,8,8,8,8,8,8,8,8,8,8,8,8,8,8,8,8,8,8,8,8,8,8,8,8,8,8,8,8,8,8,8,8,8,8,8,8,8,8,8,8,8,8,8,8,8,8,8,8,8,8,8,8,8,8,8,8]))) (.t 21)),
tq 23 (.conv .i64 (.t 22)),
tq 24 (.bin .add (.t 19) (.t 23)),
mq 2 24] [0,19,20,21,22,23,24]
.ret)))))⟩
def zq4:CF:=⟨[.tmp 4],
  (sr [
tq 2 (.box zbf (.t 0)),
tq 3 (.box za4 (.t 1)),
tq 4 (.mv (.k (.d (.nilf))))] [0,1,4]
(sr [
tq 5 (.mkFunc ziv [] [.t 3,.t 2]),
mq 4 5] [2,3,5]
.ret))⟩
def zv8:C:=
  (sr [
tq 8 (.bin .lss (.t 7) (.t 6))] []
(.seq (.cond (.t 8) .skip
 (.exit 0))
(.seq (.block 1 (sr [
tq 9 (.idxAddr 2 (.t 5) (.t 7)),
lq 10 2 9,
tq 3 (.alloc zl3 [.z (.str []),.z (.nilf)]),
⟨none,none,.store 2 (.t 3) (.t 10)⟩] [9,10]
(rg [
mq 11 1,
fa 12 0 3,
ld 13 12,
lq 14 2 3,
⟨none,none,.mapSet .str (.t 11) (.t 13) (.t 14)⟩] [3,11,12,13,14])))
(rg [
tq 15 (.bin .add (.t 7) (kq 1)),
mq 7 15] [15]))))
def z0u:CF:=⟨[.tmp 0],
  (sr [
tq 0 (.mv (.k (.d (.nilm))))] [0]
(sr [
tq 4 (.mkMap),
mq 1 4] [4]
(.seq (sr [
tq 5 (.call false false (.k (.fn zlv [] [])) []),
tq 6 (.len .slc (.t 5)),
tq 7 (.mv (kq 0))] []
(.block 0 (.loop [1,5,6,7] zv8)))
(sr [
mq 16 1,
mq 0 16] [1,16]
.ret))))⟩
def zez:C:=
  (.seq (.seq (.reg true [
mq 18 9,
mq 19 1,
tq 20 (.bin .gtr (.t 18) (.t 19)),
mq 21 20,
gq 22 21 true (.mv (.t 3)),
gq 23 21 true (.mv (.t 0)),
gq 24 21 true (.mv (.t 9)),
gq 25 21 true (.idxAddr 2 (.t 23) (.t 24)),
gq 26 21 true (.load (some 2) (.t 25)),
gq 27 21 true (.mv (.t 0)),
gq 28 21 true (.mv (.t 9)),
gq 29 21 true (.bin .sub (.t 28) (kq 1)),
gq 30 21 true (.idxAddr 2 (.t 27) (.t 29)),
gq 31 21 true (.load (some 2) (.t 30)),
gq 32 21 true (.call true true (.t 22) [.t 26,.t 31]),
gq 33 21 true (.bin .lss (.t 32) (kq 0)),
tq 34 (.pick (.t 21) (.t 33) (.k (.d (.bool false))))] [18,19,20,21,22,23,24,25,26,27,28,29,30,31,32,33])
(.cond (.t 34) .skip
 (.exit 2)))
(.seq (.block 3 (.reg true [
mq 37 0,
mq 38 9,
mq 39 0,
mq 40 9,
tq 41 (.bin .sub (.t 40) (kq 1)),
mq 42 0,
mq 43 9,
tq 44 (.bin .sub (.t 43) (kq 1)),
tq 45 (.idxAddr 2 (.t 42) (.t 44)),
lq 46 2 45,
mq 47 0,
mq 48 9,
tq 49 (.idxAddr 2 (.t 47) (.t 48)),
lq 50 2 49,
tq 51 (.idxAddr 2 (.t 37) (.t 38)),
⟨none,none,.store 2 (.t 51) (.t 46)⟩,
tq 52 (.idxAddr 2 (.t 39) (.t 41)),
⟨none,none,.store 2 (.t 52) (.t 50)⟩] [37,38,39,40,41,42,43,44,45,46,47,48,49,50,51,52]))
(rg [
mq 35 9,
tq 36 (.bin .sub (.t 35) (kq 1)),
mq 9 36] [35,36])))
def ze0:C:=
  (.seq (sr [
mq 12 8,
mq 13 2,
tq 14 (.bin .lss (.t 12) (.t 13))] [12,13]
(.cond (.t 14) .skip
 (.exit 0)))
(.seq (.block 1 (sr [
mq 17 8,
mq 9 17] [17]
(.block 2 (.loop [0,1,2,3,8,9] zez))))
(rg [
mq 15 8,
tq 16 (.bin .add (.t 15) (kq 1)),
mq 8 16] [15,16])))
def zfh:CF:=⟨[],
  (sr [
mq 10 1,
tq 11 (.bin .add (.t 10) (kq 1)),
mq 8 11] [10,11]
(.block 0 (.loop [0,1,2,3,8] ze0)))⟩
def zgf:C:=
  (.seq (sr [
mq 20 11,
tq 21 (.bin .geq (.t 20) (kq 0))] [20]
(.cond (.t 21) .skip
 (.exit 0)))
(.seq (.block 1 (rg [
mq 24 0,
mq 25 11,
mq 26 10,
mq 27 8,
mq 28 3,
tq 29 (.call true true (.k (.fn zbj [] [])) [.t 24,.t 25,.t 26,.t 27,.t 28])] [24,25,26,27,28,29]))
(rg [
mq 22 11,
tq 23 (.bin .sub (.t 22) (kq 1)),
mq 11 23] [22,23])))
def zgg:C:=
  (.seq (sr [
mq 32 12,
tq 33 (.bin .geq (.t 32) (kq 0))] [32]
(.cond (.t 33) .skip
 (.exit 2)))
(.seq (.block 3 (.seq (.reg true [
mq 36 0,
mq 37 8,
mq 38 0,
mq 39 8,
mq 40 12,
tq 41 (.bin .add (.t 39) (.t 40)),
mq 42 0,
mq 43 8,
mq 44 12,
tq 45 (.bin .add (.t 43) (.t 44)),
tq 46 (.idxAddr 2 (.t 42) (.t 45)),
lq 47 2 46,
mq 48 0,
mq 49 8,
tq 50 (.idxAddr 2 (.t 48) (.t 49)),
lq 51 2 50,
tq 52 (.idxAddr 2 (.t 36) (.t 37)),
⟨none,none,.store 2 (.t 52) (.t 47)⟩,
tq 53 (.idxAddr 2 (.t 38) (.t 41)),
⟨none,none,.store 2 (.t 53) (.t 51)⟩] [36,37,38,39,40,41,42,43,44,45,46,47,48,49,50,51,52,53])
(rg [
mq 54 0,
mq 55 9,
mq 56 12,
mq 57 8,
mq 58 3,
tq 59 (.call true true (.k (.fn zbj [] [])) [.t 54,.t 55,.t 56,.t 57,.t 58])] [54,55,56,57,58,59])))
(rg [
mq 34 12,
tq 35 (.bin .sub (.t 34) (kq 1)),
mq 12 35] [34,35])))
def zhh:CF:=⟨[],
  (sr [
mq 13 1,
mq 8 13] [13]
(sr [
tq 9 (.mv (kq 0))] []
(sr [
mq 14 2,
mq 15 1,
tq 16 (.bin .sub (.t 14) (.t 15)),
mq 10 16] [1,2,14,15,16]
(.seq (sr [
mq 17 10,
tq 18 (.bin .sub (.t 17) (kq 1)),
tq 19 (.bin .quo (.t 18) (kq 2)),
mq 11 19] [17,18,19]
(.block 0 (.loop [0,3,8,9,10,11] zgf)))
(sr [
mq 30 10,
tq 31 (.bin .sub (.t 30) (kq 1)),
mq 12 31] [10,30,31]
(.block 2 (.loop [0,3,8,9,12] zgg)))))))⟩
def zew:C:=
  (.seq (sr [
mq 28 11,
mq 29 1,
mq 30 8,
tq 31 (.bin .quo (.t 30) (kq 4)),
tq 32 (.bin .mul (.t 31) (kq 2)),
tq 33 (.bin .add (.t 29) (.t 32)),
tq 34 (.bin .add (.t 33) (kq 1)),
tq 35 (.bin .leq (.t 28) (.t 34))] [28,29,30,31,32,33,34]
(.cond (.t 35) .skip
 (.exit 0)))
(.seq (.block 1 (sr [
tq 38 (.call true true (.k (.fn zr8 [] [])) [.t 9]),
mq 39 10,
tq 40 (.bin .sub (.t 39) (.k (.d (.int .u64 1)))),
tq 41 (.bin .and (.t 38) (.t 40)),
tq 42 (.conv .i64 (.t 41)),
mq 12 42] [38,39,40,41,42]
(.seq (sr [
mq 43 12,
mq 44 8,
tq 45 (.bin .geq (.t 43) (.t 44))] [43,44]
(.cond (.t 45) (rg [
mq 46 12,
mq 47 8,
tq 48 (.bin .sub (.t 46) (.t 47)),
mq 12 48] [46,47,48])
 .skip))
(.reg true [
mq 49 0,
mq 50 11,
mq 51 0,
mq 52 1,
mq 53 12,
tq 54 (.bin .add (.t 52) (.t 53)),
mq 55 0,
mq 56 1,
mq 57 12,
tq 58 (.bin .add (.t 56) (.t 57)),
tq 59 (.idxAddr 2 (.t 55) (.t 58)),
lq 60 2 59,
mq 61 0,
mq 62 11,
tq 63 (.idxAddr 2 (.t 61) (.t 62)),
lq 64 2 63,
tq 65 (.idxAddr 2 (.t 49) (.t 50)),
⟨none,none,.store 2 (.t 65) (.t 60)⟩,
tq 66 (.idxAddr 2 (.t 51) (.t 54)),
⟨none,none,.store 2 (.t 66) (.t 64)⟩] [12,49,50,51,52,53,54,55,56,57,58,59,60,61,62,63,64,65,66]))))
(rg [
mq 36 11,
tq 37 (.bin .add (.t 36) (kq 1)),
mq 11 37] [36,37])))
def zff:CF:=⟨[],
  (sr [
mq 13 2,
mq 14 1,
tq 15 (.bin .sub (.t 13) (.t 14)),
mq 8 15] [2,13,14,15]
(sr [
mq 16 8,
tq 17 (.bin .geq (.t 16) (kq 8))] [16]
(.cond (.t 17) (sr [
mq 18 8,
tq 19 (.conv .u64 (.t 18)),
tq 9 (.alloc zx4 [.z (.int .u64 0)]),
⟨none,none,.store 1 (.t 9) (.t 19)⟩] [18,19]
(sr [
mq 20 8,
tq 21 (cl zrg [.t 20]),
mq 10 21] [20,21]
(sr [
mq 22 1,
mq 23 8,
tq 24 (.bin .quo (.t 23) (kq 4)),
tq 25 (.bin .mul (.t 24) (kq 2)),
tq 26 (.bin .add (.t 22) (.t 25)),
tq 27 (.bin .sub (.t 26) (kq 1)),
mq 11 27] [22,23,24,25,26,27]
(.block 0 (.loop [0,1,8,9,10,11] zew)))))
 .skip)))⟩
def zf4:CF:=⟨[.tmp 8,.tmp 9],
  (sr [
tq 8 (.mv (kq 0)),
tq 9 (.mv (kq 0))] [8,9]
(sr [
mq 15 2,
mq 16 1,
tq 17 (.bin .sub (.t 15) (.t 16)),
mq 10 17] [2,15,16,17]
(sr [
tq 11 (.alloc za4 [.z (.int .i64 0)])] []
(sr [
mq 18 1,
mq 19 10,
tq 20 (.bin .quo (.t 19) (kq 4)),
tq 21 (.bin .mul (.t 20) (kq 1)),
tq 22 (.bin .add (.t 18) (.t 21)),
mq 12 22] [18,19,20,21,22]
(sr [
mq 23 1,
mq 24 10,
tq 25 (.bin .quo (.t 24) (kq 4)),
tq 26 (.bin .mul (.t 25) (kq 2)),
tq 27 (.bin .add (.t 23) (.t 26)),
mq 13 27] [23,24,25,26,27]
(sr [
mq 28 1,
mq 29 10,
tq 30 (.bin .quo (.t 29) (kq 4)),
tq 31 (.bin .mul (.t 30) (kq 3)),
tq 32 (.bin .add (.t 28) (.t 31)),
mq 14 32] [1,28,29,30,31,32]
(.seq (sr [
mq 33 10,
tq 34 (.bin .geq (.t 33) (kq 8))] [33]
(.cond (.t 34) (.seq (sr [
mq 35 10,
tq 36 (.bin .geq (.t 35) (kq 50))] [10,35]
(.cond (.t 36) (sr [
mq 37 0,
mq 38 12,
mq 39 3,
tq 40 (.call true true (.k (.fn zap [] [])) [.t 37,.t 38,.t 11,.t 39]),
mq 12 40] [37,38,39,40]
(sr [
mq 41 0,
mq 42 13,
mq 43 3,
tq 44 (.call true true (.k (.fn zap [] [])) [.t 41,.t 42,.t 11,.t 43]),
mq 13 44] [41,42,43,44]
(rg [
mq 45 0,
mq 46 14,
mq 47 3,
tq 48 (.call true true (.k (.fn zap [] [])) [.t 45,.t 46,.t 11,.t 47]),
mq 14 48] [45,46,47,48])))
 .skip))
(rg [
mq 49 0,
mq 50 12,
mq 51 13,
mq 52 14,
mq 53 3,
tq 54 (.call true true (.k (.fn zbt [] [])) [.t 49,.t 50,.t 51,.t 52,.t 11,.t 53]),
mq 13 54] [0,3,12,14,49,50,51,52,53,54]))
 .skip))
(sr [
ld 55 11] [11]
(.block 0 (sr [
tq 58 (.bin .eql (.t 55) (kq 0)),
mq 57 58] [58]
(.cond (.t 57) (sr [
mq 59 13,
mq 8 59,
tq 9 (.mv (kq 1))] [13,59]
.ret)
 (sr [
tq 61 (.bin .eql (.t 55) (kq 12)),
mq 60 61] [55,61]
(.cond (.t 60) (sr [
mq 62 13,
mq 8 62,
tq 9 (.mv (kq 2))] [13,62]
.ret)
 (sr [
mq 56 13,
mq 8 56,
tq 9 (.mv (kq 0))] [13,56]
.ret))))))))))))))⟩
def ze6:C:=
  (.seq (sr [
mq 13 8,
mq 14 9,
tq 15 (.bin .lss (.t 13) (.t 14))] [13,14]
(.cond (.t 15) .skip
 (.exit 0)))
(.block 1 (.seq (.reg true [
mq 16 0,
mq 17 8,
mq 18 0,
mq 19 9,
mq 20 0,
mq 21 9,
tq 22 (.idxAddr 2 (.t 20) (.t 21)),
lq 23 2 22,
mq 24 0,
mq 25 8,
tq 26 (.idxAddr 2 (.t 24) (.t 25)),
lq 27 2 26,
tq 28 (.idxAddr 2 (.t 16) (.t 17)),
⟨none,none,.store 2 (.t 28) (.t 23)⟩,
tq 29 (.idxAddr 2 (.t 18) (.t 19)),
⟨none,none,.store 2 (.t 29) (.t 27)⟩] [16,17,18,19,20,21,22,23,24,25,26,27,28,29])
(sr [
mq 30 8,
tq 31 (.bin .add (.t 30) (kq 1)),
mq 8 31] [30,31]
(rg [
mq 32 9,
tq 33 (.bin .sub (.t 32) (kq 1)),
mq 9 33] [32,33])))))
def zfu:CF:=⟨[],
  (sr [
mq 10 1,
mq 8 10] [1,10]
(sr [
mq 11 2,
tq 12 (.bin .sub (.t 11) (kq 1)),
mq 9 12] [2,11,12]
(.block 0 (.loop [0,8,9] ze6))))⟩
def zdc:C:=
  (.seq (.seq (.reg true [
mq 19 9,
mq 20 2,
tq 21 (.bin .lss (.t 19) (.t 20)),
mq 22 21,
gq 23 22 true (.mv (.t 3)),
gq 24 22 true (.mv (.t 0)),
gq 25 22 true (.mv (.t 9)),
gq 26 22 true (.idxAddr 2 (.t 24) (.t 25)),
gq 27 22 true (.load (some 2) (.t 26)),
gq 28 22 true (.mv (.t 0)),
gq 29 22 true (.mv (.t 9)),
gq 30 22 true (.bin .sub (.t 29) (kq 1)),
gq 31 22 true (.idxAddr 2 (.t 28) (.t 30)),
gq 32 22 true (.load (some 2) (.t 31)),
gq 33 22 true (.call true true (.t 23) [.t 27,.t 32]),
gq 34 22 true (.bin .lss (.t 33) (kq 0)),
gq 35 22 true (.un .not (.t 34)),
tq 36 (.pick (.t 22) (.t 35) (.k (.d (.bool false))))] [19,20,21,22,23,24,25,26,27,28,29,30,31,32,33,34,35])
(.cond (.t 36) .skip
 (.exit 2)))
(.block 3 (rg [
mq 37 9,
tq 38 (.bin .add (.t 37) (kq 1)),
mq 9 38] [37,38])))
def zdd:C:=
  (.seq (sr [
mq 68 11,
tq 69 (.bin .geq (.t 68) (kq 1))] [68]
(.cond (.t 69) .skip
 (.exit 4)))
(.seq (.block 5 (.seq (.seq (.reg true [
mq 72 3,
mq 73 0,
mq 74 11,
tq 75 (.idxAddr 2 (.t 73) (.t 74)),
lq 76 2 75,
mq 77 0,
mq 78 11,
tq 79 (.bin .sub (.t 78) (kq 1)),
tq 80 (.idxAddr 2 (.t 77) (.t 79)),
lq 81 2 80,
tq 82 (.call true true (.t 72) [.t 76,.t 81]),
tq 83 (.bin .lss (.t 82) (kq 0)),
tq 84 (.un .not (.t 83))] [72,73,74,75,76,77,78,79,80,81,82,83])
(.cond (.t 84) (.exit 4)
 .skip))
(.reg true [
mq 85 0,
mq 86 11,
mq 87 0,
mq 88 11,
tq 89 (.bin .sub (.t 88) (kq 1)),
mq 90 0,
mq 91 11,
tq 92 (.bin .sub (.t 91) (kq 1)),
tq 93 (.idxAddr 2 (.t 90) (.t 92)),
lq 94 2 93,
mq 95 0,
mq 96 11,
tq 97 (.idxAddr 2 (.t 95) (.t 96)),
lq 98 2 97,
tq 99 (.idxAddr 2 (.t 85) (.t 86)),
⟨none,none,.store 2 (.t 99) (.t 94)⟩,
tq 100 (.idxAddr 2 (.t 87) (.t 89)),
⟨none,none,.store 2 (.t 100) (.t 98)⟩] [85,86,87,88,89,90,91,92,93,94,95,96,97,98,99,100])))
(rg [
mq 70 11,
tq 71 (.bin .sub (.t 70) (kq 1)),
mq 11 71] [70,71])))
def zde:C:=
  (.seq (sr [
mq 107 12,
mq 108 2,
tq 109 (.bin .lss (.t 107) (.t 108))] [107,108]
(.cond (.t 109) .skip
 (.exit 6)))
(.seq (.block 7 (.seq (.seq (.reg true [
mq 112 3,
mq 113 0,
mq 114 12,
tq 115 (.idxAddr 2 (.t 113) (.t 114)),
lq 116 2 115,
mq 117 0,
mq 118 12,
tq 119 (.bin .sub (.t 118) (kq 1)),
tq 120 (.idxAddr 2 (.t 117) (.t 119)),
lq 121 2 120,
tq 122 (.call true true (.t 112) [.t 116,.t 121]),
tq 123 (.bin .lss (.t 122) (kq 0)),
tq 124 (.un .not (.t 123))] [112,113,114,115,116,117,118,119,120,121,122,123])
(.cond (.t 124) (.exit 6)
 .skip))
(.reg true [
mq 125 0,
mq 126 12,
mq 127 0,
mq 128 12,
tq 129 (.bin .sub (.t 128) (kq 1)),
mq 130 0,
mq 131 12,
tq 132 (.bin .sub (.t 131) (kq 1)),
tq 133 (.idxAddr 2 (.t 130) (.t 132)),
lq 134 2 133,
mq 135 0,
mq 136 12,
tq 137 (.idxAddr 2 (.t 135) (.t 136)),
lq 138 2 137,
tq 139 (.idxAddr 2 (.t 125) (.t 126)),
⟨none,none,.store 2 (.t 139) (.t 134)⟩,
tq 140 (.idxAddr 2 (.t 127) (.t 129)),
⟨none,none,.store 2 (.t 140) (.t 138)⟩] [125,126,127,128,129,130,131,132,133,134,135,136,137,138,139,140])))
(rg [
mq 110 12,
tq 111 (.bin .add (.t 110) (kq 1)),
mq 12 111] [110,111])))
def zdf:C:=
  (.seq (sr [
mq 15 10,
tq 16 (.bin .lss (.t 15) (kq 5))] [15]
(.cond (.t 16) .skip
 (.exit 0)))
(.seq (.block 1 (.seq (.block 2 (.loop [0,1,2,3,9,10] zdc))
(.seq (sr [
mq 39 9,
mq 40 2,
tq 41 (.bin .eql (.t 39) (.t 40))] [39,40]
(.cond (.t 41) (sr [
tq 8 (.mv (.k (.d (.bool true))))] []
.ret)
 .skip))
(.seq (sr [
mq 42 2,
mq 43 1,
tq 44 (.bin .sub (.t 42) (.t 43)),
tq 45 (.bin .lss (.t 44) (kq 50))] [42,43,44]
(.cond (.t 45) (sr [
tq 8 (.mv (.k (.d (.bool false))))] []
.ret)
 .skip))
(.seq (.reg true [
mq 46 0,
mq 47 9,
mq 48 0,
mq 49 9,
tq 50 (.bin .sub (.t 49) (kq 1)),
mq 51 0,
mq 52 9,
tq 53 (.bin .sub (.t 52) (kq 1)),
tq 54 (.idxAddr 2 (.t 51) (.t 53)),
lq 55 2 54,
mq 56 0,
mq 57 9,
tq 58 (.idxAddr 2 (.t 56) (.t 57)),
lq 59 2 58,
tq 60 (.idxAddr 2 (.t 46) (.t 47)),
⟨none,none,.store 2 (.t 60) (.t 55)⟩,
tq 61 (.idxAddr 2 (.t 48) (.t 50)),
⟨none,none,.store 2 (.t 61) (.t 59)⟩] [46,47,48,49,50,51,52,53,54,55,56,57,58,59,60,61])
(.seq (sr [
mq 62 9,
mq 63 1,
tq 64 (.bin .sub (.t 62) (.t 63)),
tq 65 (.bin .geq (.t 64) (kq 2))] [62,63,64]
(.cond (.t 65) (sr [
mq 66 9,
tq 67 (.bin .sub (.t 66) (kq 1)),
mq 11 67] [66,67]
(.block 4 (.loop [0,1,2,3,9,10,11] zdd)))
 .skip))
(sr [
mq 101 2,
mq 102 9,
tq 103 (.bin .sub (.t 101) (.t 102)),
tq 104 (.bin .geq (.t 103) (kq 2))] [101,102,103]
(.cond (.t 104) (sr [
mq 105 9,
tq 106 (.bin .add (.t 105) (kq 1)),
mq 12 106] [105,106]
(.block 6 (.loop [0,1,2,3,9,10,12] zde)))
 .skip))))))))
(rg [
mq 17 10,
tq 18 (.bin .add (.t 17) (kq 1)),
mq 10 18] [17,18])))
def zdp:CF:=⟨[.tmp 8],
  (sr [
tq 8 (.mv (.k (.d (.bool false))))] [8]
(sr [
mq 13 1,
tq 14 (.bin .add (.t 13) (kq 1)),
mq 9 14] [13,14]
(.seq (sr [
tq 10 (.mv (kq 0))] []
(.block 0 (.loop [0,1,2,3,9,10] zdf)))
(sr [
tq 8 (.mv (.k (.d (.bool false))))] []
.ret))))⟩
def zek:C:=
  (.seq (.seq (.reg true [
mq 31 11,
mq 32 12,
tq 33 (.bin .leq (.t 31) (.t 32)),
mq 34 33,
gq 35 34 true (.mv (.t 4)),
gq 36 34 true (.mv (.t 0)),
gq 37 34 true (.mv (.t 1)),
gq 38 34 true (.idxAddr 2 (.t 36) (.t 37)),
gq 39 34 true (.load (some 2) (.t 38)),
gq 40 34 true (.mv (.t 0)),
gq 41 34 true (.mv (.t 11)),
gq 42 34 true (.idxAddr 2 (.t 40) (.t 41)),
gq 43 34 true (.load (some 2) (.t 42)),
gq 44 34 true (.call true true (.t 35) [.t 39,.t 43]),
gq 45 34 true (.bin .lss (.t 44) (kq 0)),
gq 46 34 true (.un .not (.t 45)),
tq 47 (.pick (.t 34) (.t 46) (.k (.d (.bool false))))] [31,32,33,34,35,36,37,38,39,40,41,42,43,44,45,46])
(.cond (.t 47) .skip
 (.exit 2)))
(.block 3 (rg [
mq 48 11,
tq 49 (.bin .add (.t 48) (kq 1)),
mq 11 49] [48,49])))
def zel:C:=
  (.seq (.seq (.reg true [
mq 50 11,
mq 51 12,
tq 52 (.bin .leq (.t 50) (.t 51)),
mq 53 52,
gq 54 53 true (.mv (.t 4)),
gq 55 53 true (.mv (.t 0)),
gq 56 53 true (.mv (.t 1)),
gq 57 53 true (.idxAddr 2 (.t 55) (.t 56)),
gq 58 53 true (.load (some 2) (.t 57)),
gq 59 53 true (.mv (.t 0)),
gq 60 53 true (.mv (.t 12)),
gq 61 53 true (.idxAddr 2 (.t 59) (.t 60)),
gq 62 53 true (.load (some 2) (.t 61)),
gq 63 53 true (.call true true (.t 54) [.t 58,.t 62]),
gq 64 53 true (.bin .lss (.t 63) (kq 0)),
tq 65 (.pick (.t 53) (.t 64) (.k (.d (.bool false))))] [50,51,52,53,54,55,56,57,58,59,60,61,62,63,64])
(.cond (.t 65) .skip
 (.exit 4)))
(.block 5 (rg [
mq 66 12,
tq 67 (.bin .sub (.t 66) (kq 1)),
mq 12 67] [66,67])))
def zem:C:=
  (.block 1 (.seq (.block 2 (.loop [0,1,4,11,12] zek))
(.seq (.block 4 (.loop [0,1,4,11,12] zel))
(.seq (sr [
mq 68 11,
mq 69 12,
tq 70 (.bin .gtr (.t 68) (.t 69))] [68,69]
(.cond (.t 70) (.exit 0)
 .skip))
(.seq (.reg true [
mq 71 0,
mq 72 11,
mq 73 0,
mq 74 12,
mq 75 0,
mq 76 12,
tq 77 (.idxAddr 2 (.t 75) (.t 76)),
lq 78 2 77,
mq 79 0,
mq 80 11,
tq 81 (.idxAddr 2 (.t 79) (.t 80)),
lq 82 2 81,
tq 83 (.idxAddr 2 (.t 71) (.t 72)),
⟨none,none,.store 2 (.t 83) (.t 78)⟩,
tq 84 (.idxAddr 2 (.t 73) (.t 74)),
⟨none,none,.store 2 (.t 84) (.t 82)⟩] [71,72,73,74,75,76,77,78,79,80,81,82,83,84])
(sr [
mq 85 11,
tq 86 (.bin .add (.t 85) (kq 1)),
mq 11 86] [85,86]
(rg [
mq 87 12,
tq 88 (.bin .sub (.t 87) (kq 1)),
mq 12 88] [87,88])))))))
def ze8:CF:=⟨[.tmp 10],
  (sr [
tq 10 (.mv (kq 0))] [10]
(.seq (.reg true [
mq 13 0,
mq 14 1,
mq 15 0,
mq 16 3,
mq 17 0,
mq 18 3,
tq 19 (.idxAddr 2 (.t 17) (.t 18)),
lq 20 2 19,
mq 21 0,
mq 22 1,
tq 23 (.idxAddr 2 (.t 21) (.t 22)),
lq 24 2 23,
tq 25 (.idxAddr 2 (.t 13) (.t 14)),
⟨none,none,.store 2 (.t 25) (.t 20)⟩,
tq 26 (.idxAddr 2 (.t 15) (.t 16)),
⟨none,none,.store 2 (.t 26) (.t 24)⟩] [3,13,14,15,16,17,18,19,20,21,22,23,24,25,26])
(sr [
mq 27 1,
tq 28 (.bin .add (.t 27) (kq 1)),
mq 29 2,
tq 30 (.bin .sub (.t 29) (kq 1)),
mq 11 28,
mq 12 30] [2,27,28,29,30]
(.seq (.block 0 (.loop [0,1,4,11,12] zem))
(sr [
mq 89 11,
mq 10 89] [11,89]
.ret)))))⟩
def zfy:C:=
  (.seq (.seq (.reg true [
mq 32 12,
mq 33 13,
tq 34 (.bin .leq (.t 32) (.t 33)),
mq 35 34,
gq 36 35 true (.mv (.t 4)),
gq 37 35 true (.mv (.t 0)),
gq 38 35 true (.mv (.t 12)),
gq 39 35 true (.idxAddr 2 (.t 37) (.t 38)),
gq 40 35 true (.load (some 2) (.t 39)),
gq 41 35 true (.mv (.t 0)),
gq 42 35 true (.mv (.t 1)),
gq 43 35 true (.idxAddr 2 (.t 41) (.t 42)),
gq 44 35 true (.load (some 2) (.t 43)),
gq 45 35 true (.call true true (.t 36) [.t 40,.t 44]),
gq 46 35 true (.bin .lss (.t 45) (kq 0)),
tq 47 (.pick (.t 35) (.t 46) (.k (.d (.bool false))))] [32,33,34,35,36,37,38,39,40,41,42,43,44,45,46])
(.cond (.t 47) .skip
 (.exit 0)))
(.block 1 (rg [
mq 48 12,
tq 49 (.bin .add (.t 48) (kq 1)),
mq 12 49] [48,49])))
def zfz:C:=
  (.seq (.seq (.reg true [
mq 50 12,
mq 51 13,
tq 52 (.bin .leq (.t 50) (.t 51)),
mq 53 52,
gq 54 53 true (.mv (.t 4)),
gq 55 53 true (.mv (.t 0)),
gq 56 53 true (.mv (.t 13)),
gq 57 53 true (.idxAddr 2 (.t 55) (.t 56)),
gq 58 53 true (.load (some 2) (.t 57)),
gq 59 53 true (.mv (.t 0)),
gq 60 53 true (.mv (.t 1)),
gq 61 53 true (.idxAddr 2 (.t 59) (.t 60)),
gq 62 53 true (.load (some 2) (.t 61)),
gq 63 53 true (.call true true (.t 54) [.t 58,.t 62]),
gq 64 53 true (.bin .lss (.t 63) (kq 0)),
gq 65 53 true (.un .not (.t 64)),
tq 66 (.pick (.t 53) (.t 65) (.k (.d (.bool false))))] [50,51,52,53,54,55,56,57,58,59,60,61,62,63,64,65])
(.cond (.t 66) .skip
 (.exit 2)))
(.block 3 (rg [
mq 67 13,
tq 68 (.bin .sub (.t 67) (kq 1)),
mq 13 68] [67,68])))
def zf0:C:=
  (.seq (.seq (.reg true [
mq 105 12,
mq 106 13,
tq 107 (.bin .leq (.t 105) (.t 106)),
mq 108 107,
gq 109 108 true (.mv (.t 4)),
gq 110 108 true (.mv (.t 0)),
gq 111 108 true (.mv (.t 12)),
gq 112 108 true (.idxAddr 2 (.t 110) (.t 111)),
gq 113 108 true (.load (some 2) (.t 112)),
gq 114 108 true (.mv (.t 0)),
gq 115 108 true (.mv (.t 1)),
gq 116 108 true (.idxAddr 2 (.t 114) (.t 115)),
gq 117 108 true (.load (some 2) (.t 116)),
gq 118 108 true (.call true true (.t 109) [.t 113,.t 117]),
gq 119 108 true (.bin .lss (.t 118) (kq 0)),
tq 120 (.pick (.t 108) (.t 119) (.k (.d (.bool false))))] [105,106,107,108,109,110,111,112,113,114,115,116,117,118,119])
(.cond (.t 120) .skip
 (.exit 6)))
(.block 7 (rg [
mq 121 12,
tq 122 (.bin .add (.t 121) (kq 1)),
mq 12 122] [121,122])))
def zf1:C:=
  (.seq (.seq (.reg true [
mq 123 12,
mq 124 13,
tq 125 (.bin .leq (.t 123) (.t 124)),
mq 126 125,
gq 127 126 true (.mv (.t 4)),
gq 128 126 true (.mv (.t 0)),
gq 129 126 true (.mv (.t 13)),
gq 130 126 true (.idxAddr 2 (.t 128) (.t 129)),
gq 131 126 true (.load (some 2) (.t 130)),
gq 132 126 true (.mv (.t 0)),
gq 133 126 true (.mv (.t 1)),
gq 134 126 true (.idxAddr 2 (.t 132) (.t 133)),
gq 135 126 true (.load (some 2) (.t 134)),
gq 136 126 true (.call true true (.t 127) [.t 131,.t 135]),
gq 137 126 true (.bin .lss (.t 136) (kq 0)),
gq 138 126 true (.un .not (.t 137)),
tq 139 (.pick (.t 126) (.t 138) (.k (.d (.bool false))))] [123,124,125,126,127,128,129,130,131,132,133,134,135,136,137,138])
(.cond (.t 139) .skip
 (.exit 8)))
(.block 9 (rg [
mq 140 13,
tq 141 (.bin .sub (.t 140) (kq 1)),
mq 13 141] [140,141])))
def zf2:C:=
  (.block 5 (.seq (.block 6 (.loop [0,1,4,12,13] zf0))
(.seq (.block 8 (.loop [0,1,4,12,13] zf1))
(.seq (sr [
mq 142 12,
mq 143 13,
tq 144 (.bin .gtr (.t 142) (.t 143))] [142,143]
(.cond (.t 144) (.exit 4)
 .skip))
(.seq (.reg true [
mq 145 0,
mq 146 12,
mq 147 0,
mq 148 13,
mq 149 0,
mq 150 13,
tq 151 (.idxAddr 2 (.t 149) (.t 150)),
lq 152 2 151,
mq 153 0,
mq 154 12,
tq 155 (.idxAddr 2 (.t 153) (.t 154)),
lq 156 2 155,
tq 157 (.idxAddr 2 (.t 145) (.t 146)),
⟨none,none,.store 2 (.t 157) (.t 152)⟩,
tq 158 (.idxAddr 2 (.t 147) (.t 148)),
⟨none,none,.store 2 (.t 158) (.t 156)⟩] [145,146,147,148,149,150,151,152,153,154,155,156,157,158])
(sr [
mq 159 12,
tq 160 (.bin .add (.t 159) (kq 1)),
mq 12 160] [159,160]
(rg [
mq 161 13,
tq 162 (.bin .sub (.t 161) (kq 1)),
mq 13 162] [161,162])))))))
def zgz:CF:=⟨[.tmp 10,.tmp 11],
  (sr [
tq 10 (.mv (kq 0)),
tq 11 (.mv (.k (.d (.bool false))))] [10,11]
(.seq (.reg true [
mq 14 0,
mq 15 1,
mq 16 0,
mq 17 3,
mq 18 0,
mq 19 3,
tq 20 (.idxAddr 2 (.t 18) (.t 19)),
lq 21 2 20,
mq 22 0,
mq 23 1,
tq 24 (.idxAddr 2 (.t 22) (.t 23)),
lq 25 2 24,
tq 26 (.idxAddr 2 (.t 14) (.t 15)),
⟨none,none,.store 2 (.t 26) (.t 21)⟩,
tq 27 (.idxAddr 2 (.t 16) (.t 17)),
⟨none,none,.store 2 (.t 27) (.t 25)⟩] [3,14,15,16,17,18,19,20,21,22,23,24,25,26,27])
(sr [
mq 28 1,
tq 29 (.bin .add (.t 28) (kq 1)),
mq 30 2,
tq 31 (.bin .sub (.t 30) (kq 1)),
mq 12 29,
mq 13 31] [2,28,29,30,31]
(.seq (.block 0 (.loop [0,1,4,12,13] zfy))
(.seq (.block 2 (.loop [0,1,4,12,13] zfz))
(.seq (sr [
mq 69 12,
mq 70 13,
tq 71 (.bin .gtr (.t 69) (.t 70))] [69,70]
(.cond (.t 71) (.seq (.reg true [
mq 72 0,
mq 73 13,
mq 74 0,
mq 75 1,
mq 76 0,
mq 77 1,
tq 78 (.idxAddr 2 (.t 76) (.t 77)),
lq 79 2 78,
mq 80 0,
mq 81 13,
tq 82 (.idxAddr 2 (.t 80) (.t 81)),
lq 83 2 82,
tq 84 (.idxAddr 2 (.t 72) (.t 73)),
⟨none,none,.store 2 (.t 84) (.t 79)⟩,
tq 85 (.idxAddr 2 (.t 74) (.t 75)),
⟨none,none,.store 2 (.t 85) (.t 83)⟩] [0,1,72,73,74,75,76,77,78,79,80,81,82,83,84,85])
(sr [
mq 86 13,
mq 10 86,
tq 11 (.mv (.k (.d (.bool true))))] [13,86]
.ret))
 .skip))
(.seq (.reg true [
mq 87 0,
mq 88 12,
mq 89 0,
mq 90 13,
mq 91 0,
mq 92 13,
tq 93 (.idxAddr 2 (.t 91) (.t 92)),
lq 94 2 93,
mq 95 0,
mq 96 12,
tq 97 (.idxAddr 2 (.t 95) (.t 96)),
lq 98 2 97,
tq 99 (.idxAddr 2 (.t 87) (.t 88)),
⟨none,none,.store 2 (.t 99) (.t 94)⟩,
tq 100 (.idxAddr 2 (.t 89) (.t 90)),
⟨none,none,.store 2 (.t 100) (.t 98)⟩] [87,88,89,90,91,92,93,94,95,96,97,98,99,100])
(sr [
mq 101 12,
tq 102 (.bin .add (.t 101) (kq 1)),
mq 12 102] [101,102]
(sr [
mq 103 13,
tq 104 (.bin .sub (.t 103) (kq 1)),
mq 13 104] [103,104]
(.seq (.block 4 (.loop [0,1,4,12,13] zf2))
(.seq (.reg true [
mq 163 0,
mq 164 13,
mq 165 0,
mq 166 1,
mq 167 0,
mq 168 1,
tq 169 (.idxAddr 2 (.t 167) (.t 168)),
lq 170 2 169,
mq 171 0,
mq 172 13,
tq 173 (.idxAddr 2 (.t 171) (.t 172)),
lq 174 2 173,
tq 175 (.idxAddr 2 (.t 163) (.t 164)),
⟨none,none,.store 2 (.t 175) (.t 170)⟩,
tq 176 (.idxAddr 2 (.t 165) (.t 166)),
⟨none,none,.store 2 (.t 176) (.t 174)⟩] [0,1,163,164,165,166,167,168,169,170,171,172,173,174,175,176])
(sr [
mq 177 13,
mq 10 177,
tq 11 (.mv (.k (.d (.bool false))))] [13,177]
.ret))))))))))))⟩
def zex:C:=
  (.seq (.seq (.reg true [
mq 18 9,
mq 19 1,
tq 20 (.bin .gtr (.t 18) (.t 19)),
mq 21 20,
gq 22 21 true (.mv (.t 3)),
gq 23 21 true (.mv (.t 0)),
gq 24 21 true (.mv (.t 9)),
gq 25 21 true (.idxAddr 2 (.t 23) (.t 24)),
gq 26 21 true (.load (some 2) (.t 25)),
gq 27 21 true (.mv (.t 0)),
gq 28 21 true (.mv (.t 9)),
gq 29 21 true (.bin .sub (.t 28) (kq 1)),
gq 30 21 true (.idxAddr 2 (.t 27) (.t 29)),
gq 31 21 true (.load (some 2) (.t 30)),
gq 32 21 true (.call true true (.t 22) [.t 26,.t 31]),
gq 33 21 true (.bin .lss (.t 32) (kq 0)),
tq 34 (.pick (.t 21) (.t 33) (.k (.d (.bool false))))] [18,19,20,21,22,23,24,25,26,27,28,29,30,31,32,33])
(.cond (.t 34) .skip
 (.exit 2)))
(.seq (.block 3 (.reg true [
mq 37 0,
mq 38 9,
mq 39 0,
mq 40 9,
tq 41 (.bin .sub (.t 40) (kq 1)),
mq 42 0,
mq 43 9,
tq 44 (.bin .sub (.t 43) (kq 1)),
tq 45 (.idxAddr 2 (.t 42) (.t 44)),
lq 46 2 45,
mq 47 0,
mq 48 9,
tq 49 (.idxAddr 2 (.t 47) (.t 48)),
lq 50 2 49,
tq 51 (.idxAddr 2 (.t 37) (.t 38)),
⟨none,none,.store 2 (.t 51) (.t 46)⟩,
tq 52 (.idxAddr 2 (.t 39) (.t 41)),
⟨none,none,.store 2 (.t 52) (.t 50)⟩] [37,38,39,40,41,42,43,44,45,46,47,48,49,50,51,52]))
(rg [
mq 35 9,
tq 36 (.bin .sub (.t 35) (kq 1)),
mq 9 36] [35,36])))
def zey:C:=
  (.seq (sr [
mq 12 8,
mq 13 2,
tq 14 (.bin .lss (.t 12) (.t 13))] [12,13]
(.cond (.t 14) .skip
 (.exit 0)))
(.seq (.block 1 (sr [
mq 17 8,
mq 9 17] [17]
(.block 2 (.loop [0,1,2,3,8,9] zex))))
(rg [
mq 15 8,
tq 16 (.bin .add (.t 15) (kq 1)),
mq 8 16] [15,16])))
def zfg:CF:=⟨[],
  (sr [
mq 10 1,
tq 11 (.bin .add (.t 10) (kq 1)),
mq 8 11] [10,11]
(.block 0 (.loop [0,1,2,3,8] zey)))⟩
def zgi:C:=
  (.seq (sr [
mq 31 10,
mq 32 11,
tq 33 (.bin .lss (.t 31) (.t 32))] [31,32]
(.cond (.t 33) .skip
 (.exit 0)))
(.block 1 (sr [
mq 34 10,
mq 35 11,
tq 36 (.bin .add (.t 34) (.t 35)),
tq 37 (.conv .u64 (.t 36)),
tq 38 (.bin .shr (.t 37) (.k (.d (.int .u64 1)))),
tq 39 (.conv .i64 (.t 38)),
mq 12 39] [34,35,36,37,38,39]
(.seq (.reg true [
mq 40 4,
mq 41 0,
mq 42 12,
tq 43 (.idxAddr 2 (.t 41) (.t 42)),
lq 44 2 43,
mq 45 0,
mq 46 1,
tq 47 (.idxAddr 2 (.t 45) (.t 46)),
lq 48 2 47,
tq 49 (.call true true (.t 40) [.t 44,.t 48]),
tq 50 (.bin .lss (.t 49) (kq 0))] [40,41,42,43,44,45,46,47,48,49])
(.cond (.t 50) (rg [
mq 51 12,
tq 52 (.bin .add (.t 51) (kq 1)),
mq 10 52] [12,51,52])
 (rg [
mq 53 12,
mq 11 53] [12,53]))))))
def zgj:C:=
  (.seq (sr [
mq 55 13,
mq 56 10,
tq 57 (.bin .sub (.t 56) (kq 1)),
tq 58 (.bin .lss (.t 55) (.t 57))] [55,56,57]
(.cond (.t 58) .skip
 (.exit 2)))
(.seq (.block 3 (.reg true [
mq 61 0,
mq 62 13,
mq 63 0,
mq 64 13,
tq 65 (.bin .add (.t 64) (kq 1)),
mq 66 0,
mq 67 13,
tq 68 (.bin .add (.t 67) (kq 1)),
tq 69 (.idxAddr 2 (.t 66) (.t 68)),
lq 70 2 69,
mq 71 0,
mq 72 13,
tq 73 (.idxAddr 2 (.t 71) (.t 72)),
lq 74 2 73,
tq 75 (.idxAddr 2 (.t 61) (.t 62)),
⟨none,none,.store 2 (.t 75) (.t 70)⟩,
tq 76 (.idxAddr 2 (.t 63) (.t 65)),
⟨none,none,.store 2 (.t 76) (.t 74)⟩] [61,62,63,64,65,66,67,68,69,70,71,72,73,74,75,76]))
(rg [
mq 59 13,
tq 60 (.bin .add (.t 59) (kq 1)),
mq 13 60] [59,60])))
def zgk:C:=
  (.seq (sr [
mq 83 14,
mq 84 15,
tq 85 (.bin .lss (.t 83) (.t 84))] [83,84]
(.cond (.t 85) .skip
 (.exit 4)))
(.block 5 (sr [
mq 86 14,
mq 87 15,
tq 88 (.bin .add (.t 86) (.t 87)),
tq 89 (.conv .u64 (.t 88)),
tq 90 (.bin .shr (.t 89) (.k (.d (.int .u64 1)))),
tq 91 (.conv .i64 (.t 90)),
mq 16 91] [86,87,88,89,90,91]
(.seq (.reg true [
mq 92 4,
mq 93 0,
mq 94 2,
tq 95 (.idxAddr 2 (.t 93) (.t 94)),
lq 96 2 95,
mq 97 0,
mq 98 16,
tq 99 (.idxAddr 2 (.t 97) (.t 98)),
lq 100 2 99,
tq 101 (.call true true (.t 92) [.t 96,.t 100]),
tq 102 (.bin .lss (.t 101) (kq 0)),
tq 103 (.un .not (.t 102))] [92,93,94,95,96,97,98,99,100,101,102])
(.cond (.t 103) (rg [
mq 104 16,
tq 105 (.bin .add (.t 104) (kq 1)),
mq 14 105] [16,104,105])
 (rg [
mq 106 16,
mq 15 106] [16,106]))))))
def zgl:C:=
  (.seq (sr [
mq 108 17,
mq 109 14,
tq 110 (.bin .gtr (.t 108) (.t 109))] [108,109]
(.cond (.t 110) .skip
 (.exit 6)))
(.seq (.block 7 (.reg true [
mq 113 0,
mq 114 17,
mq 115 0,
mq 116 17,
tq 117 (.bin .sub (.t 116) (kq 1)),
mq 118 0,
mq 119 17,
tq 120 (.bin .sub (.t 119) (kq 1)),
tq 121 (.idxAddr 2 (.t 118) (.t 120)),
lq 122 2 121,
mq 123 0,
mq 124 17,
tq 125 (.idxAddr 2 (.t 123) (.t 124)),
lq 126 2 125,
tq 127 (.idxAddr 2 (.t 113) (.t 114)),
⟨none,none,.store 2 (.t 127) (.t 122)⟩,
tq 128 (.idxAddr 2 (.t 115) (.t 117)),
⟨none,none,.store 2 (.t 128) (.t 126)⟩] [113,114,115,116,117,118,119,120,121,122,123,124,125,126,127,128]))
(rg [
mq 111 17,
tq 112 (.bin .sub (.t 111) (kq 1)),
mq 17 112] [111,112])))
def zgm:C:=
  (.seq (sr [
mq 149 20,
mq 150 21,
tq 151 (.bin .lss (.t 149) (.t 150))] [149,150]
(.cond (.t 151) .skip
 (.exit 8)))
(.block 9 (sr [
mq 152 20,
mq 153 21,
tq 154 (.bin .add (.t 152) (.t 153)),
tq 155 (.conv .u64 (.t 154)),
tq 156 (.bin .shr (.t 155) (.k (.d (.int .u64 1)))),
tq 157 (.conv .i64 (.t 156)),
mq 23 157] [152,153,154,155,156,157]
(.seq (.reg true [
mq 158 4,
mq 159 0,
mq 160 22,
mq 161 23,
tq 162 (.bin .sub (.t 160) (.t 161)),
tq 163 (.idxAddr 2 (.t 159) (.t 162)),
lq 164 2 163,
mq 165 0,
mq 166 23,
tq 167 (.idxAddr 2 (.t 165) (.t 166)),
lq 168 2 167,
tq 169 (.call true true (.t 158) [.t 164,.t 168]),
tq 170 (.bin .lss (.t 169) (kq 0)),
tq 171 (.un .not (.t 170))] [158,159,160,161,162,163,164,165,166,167,168,169,170])
(.cond (.t 171) (rg [
mq 172 23,
tq 173 (.bin .add (.t 172) (kq 1)),
mq 20 173] [23,172,173])
 (rg [
mq 174 23,
mq 21 174] [23,174]))))))
def zhj:CF:=⟨[],
  (.seq (sr [
mq 25 2,
mq 26 1,
tq 27 (.bin .sub (.t 25) (.t 26)),
tq 28 (.bin .eql (.t 27) (kq 1))] [25,26,27]
(.cond (.t 28) (sr [
mq 29 2,
mq 10 29] [2,29]
(sr [
mq 30 3,
mq 11 30] [3,30]
(.seq (.block 0 (.loop [0,1,4,10,11] zgi))
(.seq (sr [
mq 54 1,
mq 13 54] [1,54]
(.block 2 (.loop [0,10,13] zgj)))
.ret))))
 .skip))
(.seq (sr [
mq 77 3,
mq 78 2,
tq 79 (.bin .sub (.t 77) (.t 78)),
tq 80 (.bin .eql (.t 79) (kq 1))] [77,78,79]
(.cond (.t 80) (sr [
mq 81 1,
mq 14 81] [1,81]
(sr [
mq 82 2,
mq 15 82] [82]
(.seq (.block 4 (.loop [0,2,4,14,15] zgk))
(.seq (sr [
mq 107 2,
mq 17 107] [2,107]
(.block 6 (.loop [0,14,17] zgl)))
.ret))))
 .skip))
(sr [
mq 129 1,
mq 130 3,
tq 131 (.bin .add (.t 129) (.t 130)),
tq 132 (.conv .u64 (.t 131)),
tq 133 (.bin .shr (.t 132) (.k (.d (.int .u64 1)))),
tq 134 (.conv .i64 (.t 133)),
mq 18 134] [129,130,131,132,133,134]
(sr [
mq 135 18,
mq 136 2,
tq 137 (.bin .add (.t 135) (.t 136)),
mq 19 137] [135,136,137]
(sr [
tq 20 (.mv (kq 0)),
tq 21 (.mv (kq 0))] [20,21]
(.seq (sr [
mq 138 2,
mq 139 18,
tq 140 (.bin .gtr (.t 138) (.t 139))] [138,139]
(.cond (.t 140) (sr [
mq 141 19,
mq 142 3,
tq 143 (.bin .sub (.t 141) (.t 142)),
mq 20 143] [141,142,143]
(rg [
mq 144 18,
mq 21 144] [144]))
 (sr [
mq 145 1,
mq 20 145] [145]
(rg [
mq 146 2,
mq 21 146] [146]))))
(sr [
mq 147 19,
tq 148 (.bin .sub (.t 147) (kq 1)),
mq 22 148] [147,148]
(.seq (.block 8 (.loop [0,1,2,3,4,18,19,20,21,22] zgm))
(sr [
mq 175 19,
mq 176 20,
tq 177 (.bin .sub (.t 175) (.t 176)),
mq 24 177] [19,175,176,177]
(.seq (sr [
mq 178 20,
mq 179 2,
tq 180 (.bin .lss (.t 178) (.t 179)),
mq 181 180,
gq 182 181 true (.mv (.t 2)),
gq 183 181 true (.mv (.t 24)),
gq 184 181 true (.bin .lss (.t 182) (.t 183)),
tq 185 (.pick (.t 181) (.t 184) (.k (.d (.bool false))))] [178,179,180,181,182,183,184]
(.cond (.t 185) (rg [
mq 186 0,
mq 187 20,
mq 188 2,
mq 189 24,
mq 190 4,
tq 191 (.call true true (.k (.fn zc8 [] [])) [.t 186,.t 187,.t 188,.t 189,.t 190])] [2,186,187,188,189,190,191])
 .skip))
(.seq (sr [
mq 192 1,
mq 193 20,
tq 194 (.bin .lss (.t 192) (.t 193)),
mq 195 194,
gq 196 195 true (.mv (.t 20)),
gq 197 195 true (.mv (.t 18)),
gq 198 195 true (.bin .lss (.t 196) (.t 197)),
tq 199 (.pick (.t 195) (.t 198) (.k (.d (.bool false))))] [192,193,194,195,196,197,198]
(.cond (.t 199) (rg [
mq 200 0,
mq 201 1,
mq 202 20,
mq 203 18,
mq 204 4,
tq 205 (.call true true (.k (.fn zan [] [])) [.t 200,.t 201,.t 202,.t 203,.t 204])] [1,20,200,201,202,203,204,205])
 .skip))
(sr [
mq 206 18,
mq 207 24,
tq 208 (.bin .lss (.t 206) (.t 207)),
mq 209 208,
gq 210 209 true (.mv (.t 24)),
gq 211 209 true (.mv (.t 3)),
gq 212 209 true (.bin .lss (.t 210) (.t 211)),
tq 213 (.pick (.t 209) (.t 212) (.k (.d (.bool false))))] [206,207,208,209,210,211,212]
(.cond (.t 213) (rg [
mq 214 0,
mq 215 18,
mq 216 24,
mq 217 3,
mq 218 4,
tq 219 (.call true true (.k (.fn zan [] [])) [.t 214,.t 215,.t 216,.t 217,.t 218])] [0,3,4,18,24,214,215,216,217,218,219])
 .skip)))))))))))))⟩
def z4h:CF:=⟨[.tmp 4],
  (sr [
tq 4 (.mv (.k (.d (.bool false))))] [4]
(sr [
mq 5 0,
tq 6 (cl zfo [.t 5]),
mq 7 6,
gq 8 7 true (.mv (.t 1)),
gq 9 7 true (cl zfo [.t 8]),
gq 10 7 true (.un .not (.t 9)),
tq 11 (.pick (.t 7) (.t 10) (.k (.d (.bool false)))),
mq 12 11,
gq 13 12 false (.mv (.t 0)),
gq 14 12 false (.mv (.t 1)),
gq 15 12 false (.bin .lss (.t 13) (.t 14)),
tq 16 (.pick (.t 12) (.k (.d (.bool true))) (.t 15)),
mq 4 16] [0,1,5,6,7,8,9,10,11,12,13,14,15,16]
.ret))⟩
def zw3:CF:=⟨[.tmp 2],
  (sr [
tq 2 (.mv (.k (.d (.bool false))))] [2]
(sr [
mq 3 0,
mq 4 0,
tq 5 (.bin .neq (.t 3) (.t 4)),
mq 2 5] [0,3,4,5]
.ret))⟩
def zdx:C:=
  (sr [
tq 9 (.bin .lss (.t 8) (.t 7))] []
(.seq (.cond (.t 9) .skip
 (.exit 0))
(.seq (.block 1 (sr [
mq 10 8,
mq 5 10] [10]
(sr [
mq 11 1,
mq 12 0,
mq 13 5,
tq 14 (.idxAddr 3 (.t 12) (.t 13)),
lq 15 3 14,
tq 16 (.call true true (.t 11) [.t 15])] [11,12,13,14,15]
(.cond (.t 16) (sr [
mq 17 5,
mq 4 17] [5,17]
.ret)
 .skip))))
(rg [
tq 18 (.bin .add (.t 8) (kq 1)),
mq 8 18] [18]))))
def zef:CF:=⟨[.tmp 4],
  (sr [
tq 4 (.mv (kq 0))] [4]
(.seq (sr [
mq 6 0,
tq 7 (.len .slc (.t 6)),
tq 8 (.mv (kq 0))] [6]
(.block 0 (.loop [0,1,7,8] zdx)))
(sr [
tq 4 (.mv (kq (-1)))] []
.ret)))⟩
def zkv:C:=
  (sr [
tq 11 (.bin .lss (.t 10) (.t 9))] []
(.seq (.cond (.t 11) .skip
 (.exit 0))
(.seq (.block 1 (sr [
mq 12 10,
tq 13 (.idxAddr 3 (.t 8) (.t 10)),
lq 14 3 13,
tq 6 (.alloc zgt [.z (.str []),.z (.str []),.z (.int .i64 0)]),
mq 5 12,
⟨none,none,.store 3 (.t 6) (.t 14)⟩] [12,13,14]
(.seq (.reg true [
mq 15 1,
mq 16 0,
mq 17 5,
tq 18 (.slice 3 (.t 16) none (some (.t 17)) none),
lq 19 3 6,
tq 20 (.call false true (.t 15) [.t 18,.t 19]),
mq 7 20] [5,6,15,16,17,18,19,20])
(sr [
mq 21 7,
tq 22 (.bin .neq (.t 21) (kq 0))] [21]
(.cond (.t 22) (sr [
mq 23 7,
mq 4 23] [7,23]
.ret)
 .skip)))))
(rg [
tq 24 (.bin .add (.t 10) (kq 1)),
mq 10 24] [24]))))
def zlp:CF:=⟨[.tmp 4],
  (sr [
tq 4 (.mv (kq 0))] [4]
(.seq (sr [
mq 8 0,
tq 9 (.len .slc (.t 8)),
tq 10 (.mv (kq 0))] []
(.block 0 (.loop [0,1,8,9,10] zkv)))
(sr [
tq 4 (.mv (kq 0))] []
.ret)))⟩
def zp4:CF:=⟨[.tmp 4],
  (sr [
tq 3 (.box zgt (.t 1)),
tq 4 (.mv (kq 0))] [1,4]
(sr [
lq 5 3 3,
tq 6 (cl zli [.t 5]),
mq 4 6] [3,5,6]
.ret))⟩
def zss:CF:=⟨[.tmp 2],
  (sr [
tq 1 (.box zgt (.t 0)),
tq 2 (.mv (kq 0))] [0,2]
(.seq (.reg true [
tq 4 (cl zlu []),
fa 5 0 1,
ld 6 5,
tq 7 (cl zcm [.t 4,.t 6]),
mq 3 7] [4,5,6,7])
(.seq (.reg true [
mq 8 3,
tq 9 (.un .not (.t 8)),
tq 10 (cl za9 [.t 9,kq 10]),
fa 11 1 1,
ld 12 11,
tq 13 (.bin .neq (.t 12) (.k (.d (.str [61])))),
mq 14 13,
gq 15 14 true (.fieldAddr 1 (.t 1)),
gq 16 14 true (.load none (.t 15)),
gq 17 14 true (.bin .neq (.t 16) (.k (.d (.str [60])))),
tq 18 (.pick (.t 14) (.t 17) (.k (.d (.bool false)))),
mq 19 18,
gq 20 19 true (.fieldAddr 1 (.t 1)),
gq 21 19 true (.load none (.t 20)),
gq 22 19 true (.bin .neq (.t 21) (.k (.d (.str [62])))),
tq 23 (.pick (.t 19) (.t 22) (.k (.d (.bool false)))),
tq 24 (cl za9 [.t 23,kq 13]),
fa 25 2 1,
ld 26 25,
tq 27 (cl zcv [.t 26,kq 0,kq 999999999]),
tq 28 (.mkList 1 3 [.t 10,.t 24,.t 27]),
tq 29 (cl za6 [.t 28]),
mq 2 29] [1,3,8,9,10,11,12,13,14,15,16,17,18,19,20,21,22,23,24,25,26,27,28,29])
.ret)))⟩
def zk8:C:=
  (sr [
tq 11 (.bin .lss (.t 10) (.t 9))] []
(.seq (.cond (.t 11) .skip
 (.exit 0))
(.seq (.block 1 (sr [
mq 12 10,
tq 13 (.idxAddr 2 (.t 8) (.t 10)),
lq 14 2 13,
tq 6 (.alloc zc1 [.z (.str []),.z (.bool false)]),
mq 5 12,
⟨none,none,.store 2 (.t 6) (.t 14)⟩] [12,13,14]
(.seq (.reg true [
mq 15 1,
mq 16 0,
mq 17 5,
tq 18 (.slice 2 (.t 16) none (some (.t 17)) none),
lq 19 2 6,
tq 20 (.call false true (.t 15) [.t 18,.t 19]),
mq 7 20] [5,6,15,16,17,18,19,20])
(sr [
mq 21 7,
tq 22 (.bin .neq (.t 21) (kq 0))] [21]
(.cond (.t 22) (sr [
mq 23 7,
mq 4 23] [7,23]
.ret)
 .skip)))))
(rg [
tq 24 (.bin .add (.t 10) (kq 1)),
mq 10 24] [24]))))
def zmd:CF:=⟨[.tmp 4],
  (sr [
tq 4 (.mv (kq 0))] [4]
(.seq (sr [
mq 8 0,
tq 9 (.len .slc (.t 8)),
tq 10 (.mv (kq 0))] []
(.block 0 (.loop [0,1,8,9,10] zk8)))
(sr [
tq 4 (.mv (kq 0))] []
.ret)))⟩
def zp5:CF:=⟨[.tmp 4],
  (sr [
tq 3 (.box zc1 (.t 1)),
tq 4 (.mv (kq 0))] [1,4]
(sr [
mq 6 0,
tq 7 (.mkFunc zh9 [] [.t 3]),
tq 8 (.call true true (.k (.fn zb1 [] [])) [.t 6,.t 7]),
mq 5 8] [0,6,7,8]
(.seq (.reg true [
tq 9 (cl zlu []),
fa 10 0 3,
ld 11 10,
tq 12 (cl zcm [.t 9,.t 11]),
tq 13 (.un .not (.t 12)),
tq 14 (cl za9 [.t 13,kq 10]),
mq 15 5,
tq 16 (cl za9 [.t 15,kq 9]),
tq 17 (.mkList 1 2 [.t 14,.t 16]),
tq 18 (cl za6 [.t 17]),
mq 4 18] [3,5,9,10,11,12,13,14,15,16,17,18])
.ret)))⟩
def zen:CF:=⟨[.tmp 4],
  (sr [
tq 4 (.mv (.k (.d (.bool false))))] [4]
(sr [
mq 5 0,
mq 6 1,
tq 7 (.call true true (.k (.fn zb9 [] [])) [.t 5,.t 6]),
tq 8 (.bin .geq (.t 7) (kq 0)),
mq 4 8] [0,1,5,6,7,8]
.ret))⟩
def znx:CF:=⟨[.tmp 3],
  (sr [
tq 2 (.box zc1 (.t 0)),
tq 3 (.mv (.k (.d (.bool false))))] [0,3]
(sr [
fa 4 0 2,
ld 5 4,
fa 6 0 1,
ld 7 6,
tq 8 (.bin .eql (.t 5) (.t 7)),
mq 3 8] [1,2,4,5,6,7,8]
.ret))⟩
def zkl:CF:=⟨[.tmp 4],
  (sr [
tq 4 (.mv (.k (.d (.bool false))))] [4]
(sr [
mq 5 0,
mq 6 1,
tq 7 (cl zgs [.t 5,.t 6]),
tq 8 (.bin .geq (.t 7) (kq 0)),
mq 4 8] [0,1,5,6,7,8]
.ret))⟩
def zv6:C:=
  (sr [
tq 7 (.bin .lss (.t 6) (.t 5))] []
(.seq (.cond (.t 7) .skip
 (.exit 0))
(.seq (.block 1 (sr [
tq 8 (.idxAddr 2 (.t 4) (.t 6)),
lq 9 2 8,
tq 3 (.alloc zl3 [.z (.str []),.z (.nilf)]),
⟨none,none,.store 2 (.t 3) (.t 9)⟩] [8,9]
(rg [
mq 10 1,
fa 11 0 3,
ld 12 11,
tq 13 (.mkList 1 1 [.t 12]),
tq 14 (.append ⟨false,zcc,1,16⟩ (.t 10) (.t 13)),
mq 1 14] [3,10,11,12,13,14])))
(rg [
tq 15 (.bin .add (.t 6) (kq 1)),
mq 6 15] [15]))))
def z0p:CF:=⟨[.tmp 0],
  (sr [
tq 0 (.ownNil ⟨false,zcc,1,16⟩)] [0]
(sr [
tq 1 (.ownNil ⟨false,zcc,1,16⟩)] []
(.seq (sr [
tq 4 (.call false false (.k (.fn zlv [] [])) []),
tq 5 (.len .slc (.t 4)),
tq 6 (.mv (kq 0))] []
(.block 0 (.loop [1,4,5,6] zv6)))
(sr [
mq 16 1,
mq 0 16] [1,16]
.ret))))⟩
def zyh:C:=
  (sr [
tq 8 (.bin .lss (.t 7) (.t 6))] []
(.seq (.cond (.t 8) .skip
 (.exit 0))
(.seq (.block 1 (sr [
tq 9 (.idxAddr 1 (.t 5) (.t 7)),
ld 10 9,
mq 4 10] [9,10]
(sr [
mq 11 4,
tq 12 (.bin .neq (.t 11) (kq 0))] [11]
(.cond (.t 12) (sr [
mq 13 4,
mq 2 13] [4,13]
.ret)
 .skip))))
(rg [
tq 14 (.bin .add (.t 7) (kq 1)),
mq 7 14] [14]))))
def z2l:CF:=⟨[.tmp 2],
  (sr [
tq 2 (.mv (kq 0))] [2]
(.seq (sr [
mq 5 0,
tq 6 (.len .slc (.t 5)),
tq 7 (.mv (kq 0))] [0]
(.block 0 (.loop [5,6,7] zyh)))
(sr [
tq 2 (.mv (kq 0))] []
.ret)))⟩
def z2m:CF:=⟨[.tmp 2],
  (sr [
tq 2 (.mv (kq 0))] [2]
(sr [
mq 3 0,
tq 4 (cl za8 [.t 3]),
tq 5 (.un .not (.t 4)),
tq 6 (cl zgu [.t 5,kq 8]),
mq 2 6] [0,3,4,5,6]
.ret))⟩
def zwn:CF:=⟨[.tmp 2],
  (sr [
tq 2 (.mv (kq 0))] [2]
(sr [
mq 3 0,
tq 4 (.bin .neq (.t 3) (.k (.d (.str [])))),
mq 5 4,
gq 6 5 true (.mv (.t 0)),
gq 7 5 true (cl za8 [.t 6]),
gq 8 5 true (.un .not (.t 7)),
tq 9 (.pick (.t 5) (.t 8) (.k (.d (.bool false)))),
tq 10 (cl zgu [.t 9,kq 8]),
mq 2 10] [0,3,4,5,6,7,8,9,10]
.ret))⟩
def z0n:CF:=⟨[.tmp 2],
  (sr [
tq 2 (.mv (.k (.d (.bool false))))] [2]
(sr [
mq 3 0,
tq 4 (.bin .eql (.t 3) (.k (.d (.str [65])))),
mq 5 4,
gq 6 5 false (.mv (.t 0)),
gq 7 5 false (.bin .eql (.t 6) (.k (.d (.str [68])))),
tq 8 (.pick (.t 5) (.k (.d (.bool true))) (.t 7)),
mq 2 8] [0,3,4,5,6,7,8]
.ret))⟩
def zm1:C:=
  (sr [
tq 19 (.bin .lss (.t 18) (.t 17))] []
(.seq (.cond (.t 19) .skip
 (.exit 0))
(.seq (.block 1 (sr [
tq 20 (.idxAddr 2 (.t 16) (.t 18)),
lq 21 2 20,
tq 5 (.alloc zc1 [.z (.str []),.z (.bool false)]),
⟨none,none,.store 2 (.t 5) (.t 21)⟩] [20,21]
(.seq (.reg true [
mq 22 0,
lq 23 2 5,
tq 24 (.call false false (.k (.fn zlw [] [])) []),
fa 25 0 5,
ld 26 25,
tq 27 (.lookup .str (.agg [.str [],.nilf]) false (.t 24) (.t 26)),
tq 28 (.call true true (.t 22) [.t 23,.t 27]),
tq 29 (.un .not (.t 28))] [5,22,23,24,25,26,27,28])
(.cond (.t 29) .ret
 .skip))))
(rg [
tq 30 (.bin .add (.t 18) (kq 1)),
mq 18 30] [30]))))
def zpb:CF:=⟨[],
  (.seq (sr [
ld 6 1,
fa 7 0 2,
ld 8 7,
tq 9 (.len .slc (.t 8)),
tq 10 (.bin .geq (.t 6) (.t 9))] [6,7,8,9]
(.cond (.t 10) .ret
 .skip))
(sr [
fa 11 0 2,
ld 12 11,
ld 13 1,
tq 14 (.idxAddr 3 (.t 12) (.t 13)),
fa 15 2 14,
ld 16 15,
tq 17 (.len .slc (.t 16)),
tq 18 (.mv (kq 0))] [1,2,11,12,13,14,15]
(.block 0 (.loop [0,16,17,18] zm1))))⟩
def z0r:CF:=⟨[.tmp 0],
  (sr [
tq 0 (.mv (.k (.d (.list 0 []))))] [0]
(sr [
tq 1 (.build [.z (.str []),.z (.nilf)] [(0,1,.k (.d (.str [104,105,115,116,111,114,105,99]))),(1,1,.k (.fn zof [] []))]),
tq 2 (.build [.z (.str []),.z (.nilf)] [(0,1,.k (.d (.str [114,101,116,105,109,101,100]))),(1,1,.k (.fn zog [] []))]),
tq 3 (.build [.z (.str []),.z (.nilf)] [(0,1,.k (.d (.str [110,101,119,99,111,109,101,114]))),(1,1,.k (.fn zoh [] []))]),
tq 4 (.build [.z (.str []),.z (.nilf)] [(0,1,.k (.d (.str [121,101,97,114,114,111,117,110,100]))),(1,1,.k (.fn zoi [] []))]),
tq 5 (.build [.z (.str []),.z (.nilf)] [(0,1,.k (.d (.str [100,97,121,115]))),(1,1,.k (.fn zoj [] []))]),
tq 6 (.build [.z (.str []),.z (.nilf)] [(0,1,.k (.d (.str [115,101,97,116,115]))),(1,1,.k (.fn zok [] []))]),
tq 7 (.build [.z (.str []),.z (.nilf)] [(0,1,.k (.d (.str [115,105,122,101]))),(1,1,.k (.fn zol [] []))]),
tq 8 (.build [.z (.str []),.z (.nilf)] [(0,1,.k (.d (.str [110,111,105,115,101]))),(1,1,.k (.fn zom [] []))]),
tq 9 (.build [.z (.str []),.z (.nilf)] [(0,1,.k (.d (.str [100,105,115,116,97,110,99,101]))),(1,1,.k (.fn zon [] []))]),
tq 10 (.build [.z (.str []),.z (.nilf)] [(0,1,.k (.d (.str [109,105,110,117,116,101]))),(1,1,.k (.fn znf [] []))]),
tq 11 (.mkList 2 10 [.t 1,.t 2,.t 3,.t 4,.t 5,.t 6,.t 7,.t 8,.t 9,.t 10]),
mq 0 11] [1,2,3,4,5,6,7,8,9,10,11]
.ret))⟩
def zgh:C:=
  (.block 1 (sr [
mq 13 10,
tq 14 (.bin .mul (kq 2) (.t 13)),
tq 15 (.bin .add (.t 14) (kq 1)),
mq 11 15] [13,14,15]
(.seq (sr [
mq 16 11,
mq 17 2,
tq 18 (.bin .geq (.t 16) (.t 17))] [16,17]
(.cond (.t 18) (.exit 0)
 .skip))
(.seq (.seq (.reg true [
mq 19 11,
tq 20 (.bin .add (.t 19) (kq 1)),
mq 21 2,
tq 22 (.bin .lss (.t 20) (.t 21)),
mq 23 22,
gq 24 23 true (.mv (.t 4)),
gq 25 23 true (.mv (.t 0)),
gq 26 23 true (.mv (.t 3)),
gq 27 23 true (.mv (.t 11)),
gq 28 23 true (.bin .add (.t 26) (.t 27)),
gq 29 23 true (.idxAddr 2 (.t 25) (.t 28)),
gq 30 23 true (.load (some 2) (.t 29)),
gq 31 23 true (.mv (.t 0)),
gq 32 23 true (.mv (.t 3)),
gq 33 23 true (.mv (.t 11)),
gq 34 23 true (.bin .add (.t 32) (.t 33)),
gq 35 23 true (.bin .add (.t 34) (kq 1)),
gq 36 23 true (.idxAddr 2 (.t 31) (.t 35)),
gq 37 23 true (.load (some 2) (.t 36)),
gq 38 23 true (.call true true (.t 24) [.t 30,.t 37]),
gq 39 23 true (.bin .lss (.t 38) (kq 0)),
tq 40 (.pick (.t 23) (.t 39) (.k (.d (.bool false))))] [19,20,21,22,23,24,25,26,27,28,29,30,31,32,33,34,35,36,37,38,39])
(.cond (.t 40) (rg [
mq 41 11,
tq 42 (.bin .add (.t 41) (kq 1)),
mq 11 42] [41,42])
 .skip))
(.seq (.seq (.reg true [
mq 43 4,
mq 44 0,
mq 45 3,
mq 46 10,
tq 47 (.bin .add (.t 45) (.t 46)),
tq 48 (.idxAddr 2 (.t 44) (.t 47)),
lq 49 2 48,
mq 50 0,
mq 51 3,
mq 52 11,
tq 53 (.bin .add (.t 51) (.t 52)),
tq 54 (.idxAddr 2 (.t 50) (.t 53)),
lq 55 2 54,
tq 56 (.call true true (.t 43) [.t 49,.t 55]),
tq 57 (.bin .lss (.t 56) (kq 0)),
tq 58 (.un .not (.t 57))] [43,44,45,46,47,48,49,50,51,52,53,54,55,56,57])
(.cond (.t 58) .ret
 .skip))
(.seq (.reg true [
mq 59 0,
mq 60 3,
mq 61 10,
tq 62 (.bin .add (.t 60) (.t 61)),
mq 63 0,
mq 64 3,
mq 65 11,
tq 66 (.bin .add (.t 64) (.t 65)),
mq 67 0,
mq 68 3,
mq 69 11,
tq 70 (.bin .add (.t 68) (.t 69)),
tq 71 (.idxAddr 2 (.t 67) (.t 70)),
lq 72 2 71,
mq 73 0,
mq 74 3,
mq 75 10,
tq 76 (.bin .add (.t 74) (.t 75)),
tq 77 (.idxAddr 2 (.t 73) (.t 76)),
lq 78 2 77,
tq 79 (.idxAddr 2 (.t 59) (.t 62)),
⟨none,none,.store 2 (.t 79) (.t 72)⟩,
tq 80 (.idxAddr 2 (.t 63) (.t 66)),
⟨none,none,.store 2 (.t 80) (.t 78)⟩] [10,59,60,61,62,63,64,65,66,67,68,69,70,71,72,73,74,75,76,77,78,79,80])
(rg [
mq 81 11,
mq 10 81] [11,81])))))))
def zhi:CF:=⟨[],
  (sr [
mq 12 1,
mq 10 12] [1,12]
(.block 0 (.loop [0,2,3,4,10] zgh)))⟩
def ze7:CF:=⟨[.tmp 8],
  (sr [
tq 8 (.mv (kq 0))] [8]
(sr [
mq 9 0,
mq 10 1,
tq 11 (.bin .sub (.t 10) (kq 1)),
mq 12 1,
mq 13 1,
tq 14 (.bin .add (.t 13) (kq 1)),
mq 15 2,
mq 16 3,
tq 17 (.call true true (.k (.fn zbt [] [])) [.t 9,.t 11,.t 12,.t 14,.t 15,.t 16]),
mq 8 17] [0,1,2,3,9,10,11,12,13,14,15,16,17]
.ret))⟩
def zhx:CF:=⟨[.tmp 12],
  (sr [
tq 12 (.mv (kq 0))] [12]
(sr [
mq 14 0,
mq 15 1,
mq 16 2,
mq 17 4,
mq 18 5,
tq 19 (.call true true (.k (.fn za3 [] [])) [.t 14,.t 15,.t 16,.t 17,.t 18]),
mq 13 19,
xq 20 13 0,
xq 21 13 1,
mq 1 20,
mq 2 21] [13,14,15,16,17,18,19,20,21]
(sr [
mq 23 0,
mq 24 2,
mq 25 3,
mq 26 4,
mq 27 5,
tq 28 (.call true true (.k (.fn za3 [] [])) [.t 23,.t 24,.t 25,.t 26,.t 27]),
mq 22 28,
xq 29 22 0,
xq 30 22 1,
mq 2 29,
mq 3 30] [3,22,23,24,25,26,27,28,29,30]
(sr [
mq 32 0,
mq 33 1,
mq 34 2,
mq 35 4,
mq 36 5,
tq 37 (.call true true (.k (.fn za3 [] [])) [.t 32,.t 33,.t 34,.t 35,.t 36]),
mq 31 37,
xq 38 31 0,
xq 39 31 1,
mq 1 38,
mq 2 39] [0,1,4,5,31,32,33,34,35,36,37,38,39]
(sr [
mq 40 2,
mq 12 40] [2,40]
.ret)))))⟩
def zhd:C:=
  (.seq (sr [
mq 18 10,
mq 19 11,
tq 20 (.bin .neq (.t 18) (.t 19))] [18,19]
(.cond (.t 20) .skip
 (.exit 0)))
(.block 1 (sr [
mq 21 10,
mq 22 11,
tq 23 (.bin .gtr (.t 21) (.t 22))] [21,22]
(.cond (.t 23) (sr [
mq 24 0,
mq 25 2,
mq 26 10,
tq 27 (.bin .sub (.t 25) (.t 26)),
mq 28 2,
mq 29 11,
mq 30 4,
tq 31 (.call true true (.k (.fn zaw [] [])) [.t 24,.t 27,.t 28,.t 29,.t 30])] [24,25,26,27,28,29,30,31]
(rg [
mq 32 10,
mq 33 11,
tq 34 (.bin .sub (.t 32) (.t 33)),
mq 10 34] [32,33,34]))
 (sr [
mq 35 0,
mq 36 2,
mq 37 10,
tq 38 (.bin .sub (.t 36) (.t 37)),
mq 39 2,
mq 40 11,
tq 41 (.bin .add (.t 39) (.t 40)),
mq 42 10,
tq 43 (.bin .sub (.t 41) (.t 42)),
mq 44 10,
mq 45 4,
tq 46 (.call true true (.k (.fn zaw [] [])) [.t 35,.t 38,.t 43,.t 44,.t 45])] [35,36,37,38,39,40,41,42,43,44,45,46]
(rg [
mq 47 11,
mq 48 10,
tq 49 (.bin .sub (.t 47) (.t 48)),
mq 11 49] [47,48,49]))))))
def zhz:CF:=⟨[],
  (sr [
mq 12 2,
mq 13 1,
tq 14 (.bin .sub (.t 12) (.t 13)),
mq 10 14] [1,12,13,14]
(sr [
mq 15 3,
mq 16 2,
tq 17 (.bin .sub (.t 15) (.t 16)),
mq 11 17] [3,15,16,17]
(.seq (.block 0 (.loop [0,2,4,10,11] zhd))
(rg [
mq 50 0,
mq 51 2,
mq 52 10,
tq 53 (.bin .sub (.t 51) (.t 52)),
mq 54 2,
mq 55 10,
mq 56 4,
tq 57 (.call true true (.k (.fn zaw [] [])) [.t 50,.t 53,.t 54,.t 55,.t 56])] [0,2,4,10,50,51,52,53,54,55,56,57]))))⟩
def zev:C:=
  (sr [
tq 9 (.bin .lss (.t 8) (.t 7))] []
(.seq (.cond (.t 9) .skip
 (.exit 0))
(.seq (.block 1 (sr [
mq 10 8,
mq 5 10] [10]
(sr [
mq 11 1,
mq 12 0,
mq 13 5,
tq 14 (.idxAddr 2 (.t 12) (.t 13)),
lq 15 2 14,
tq 16 (.call true true (.t 11) [.t 15])] [11,12,13,14,15]
(.cond (.t 16) (sr [
mq 17 5,
mq 4 17] [5,17]
.ret)
 .skip))))
(rg [
tq 18 (.bin .add (.t 8) (kq 1)),
mq 8 18] [18]))))
def zfe:CF:=⟨[.tmp 4],
  (sr [
tq 4 (.mv (kq 0))] [4]
(.seq (sr [
mq 6 0,
tq 7 (.len .slc (.t 6)),
tq 8 (.mv (kq 0))] [6]
(.block 0 (.loop [0,1,7,8] zev)))
(sr [
tq 4 (.mv (kq (-1)))] []
.ret)))⟩
def zkw:C:=
  (sr [
tq 9 (.bin .lss (.t 8) (.t 7))] []
(.seq (.cond (.t 9) .skip
 (.exit 0))
(.seq (.block 1 (sr [
mq 10 8,
mq 5 10] [10]
(sr [
mq 11 1,
mq 12 0,
mq 13 5,
tq 14 (.idxAddr 1 (.t 12) (.t 13)),
ld 15 14,
tq 16 (.bin .eql (.t 11) (.t 15))] [11,12,13,14,15]
(.cond (.t 16) (sr [
mq 17 5,
mq 4 17] [5,17]
.ret)
 .skip))))
(rg [
tq 18 (.bin .add (.t 8) (kq 1)),
mq 8 18] [18]))))
def zlq:CF:=⟨[.tmp 4],
  (sr [
tq 4 (.mv (kq 0))] [4]
(.seq (sr [
mq 6 0,
tq 7 (.len .slc (.t 6)),
tq 8 (.mv (kq 0))] [6]
(.block 0 (.loop [0,1,7,8] zkw)))
(sr [
tq 4 (.mv (kq (-1)))] []
.ret)))⟩
def zwq:CF:=⟨[.tmp 2],
  (sr [
tq 1 (.box zah (.t 0)),
tq 2 (.mv (kq 0))] [0,2]
(sr [
fa 3 13 1,
ld 4 3,
tq 5 (cl zcg [.t 4]),
mq 2 5] [1,3,4,5]
.ret))⟩
def zwr:CF:=⟨[.tmp 2],
  (sr [
tq 1 (.box zah (.t 0)),
tq 2 (.mv (kq 0))] [0,2]
(sr [
fa 3 14 1,
ld 4 3,
tq 5 (cl zcg [.t 4]),
mq 2 5] [1,3,4,5]
.ret))⟩
def zws:CF:=⟨[.tmp 2],
  (sr [
tq 1 (.box zah (.t 0)),
tq 2 (.mv (kq 0))] [0,2]
(sr [
fa 3 15 1,
ld 4 3,
tq 5 (cl zcg [.t 4]),
mq 2 5] [1,3,4,5]
.ret))⟩
def zwt:CF:=⟨[.tmp 2],
  (sr [
tq 1 (.box zah (.t 0)),
tq 2 (.mv (kq 0))] [0,2]
(sr [
fa 3 16 1,
ld 4 3,
tq 5 (cl zcg [.t 4]),
mq 2 5] [1,3,4,5]
.ret))⟩
def zwu:CF:=⟨[.tmp 2],
  (sr [
tq 1 (.box zah (.t 0)),
tq 2 (.mv (kq 0))] [0,2]
(sr [
fa 6 0 1,
fa 7 6 6,
lq 8 3 7,
tq 9 (cl zi0 [.t 8]),
mq 5 9,
xq 10 5 0,
xq 11 5 1,
mq 3 10,
mq 4 11] [1,4,5,6,7,8,9,10,11]
(sr [
mq 12 3,
mq 2 12] [3,12]
.ret)))⟩
def zwv:CF:=⟨[.tmp 2],
  (sr [
tq 1 (.box zah (.t 0)),
tq 2 (.mv (kq 0))] [0,2]
(sr [
fa 3 0 1,
fa 4 10 3,
ld 5 4,
mq 2 5] [1,3,4,5]
.ret))⟩
def zww:CF:=⟨[.tmp 2],
  (sr [
tq 1 (.box zah (.t 0)),
tq 2 (.mv (kq 0))] [0,2]
(sr [
fa 3 0 1,
fa 4 11 3,
ld 5 4,
mq 2 5] [1,3,4,5]
.ret))⟩
def zwx:CF:=⟨[.tmp 2],
  (sr [
tq 1 (.box zah (.t 0)),
tq 2 (.mv (kq 0))] [0,2]
(sr [
fa 3 0 1,
fa 4 12 3,
ld 5 4,
mq 2 5] [1,3,4,5]
.ret))⟩
def zwy:CF:=⟨[.tmp 2],
  (sr [
tq 1 (.box zah (.t 0)),
tq 2 (.mv (kq 0))] [0,2]
(sr [
fa 3 17 1,
ld 4 3,
mq 2 4] [1,3,4]
.ret))⟩
def zvb:CF:=⟨[.tmp 2],
  (sr [
tq 1 (.box zah (.t 0)),
tq 2 (.mv (kq 0))] [0,2]
(sr [
fa 3 0 1,
fa 4 9 3,
ld 5 4,
mq 2 5] [1,3,4,5]
.ret))⟩
def zhy:CF:=⟨[.tmp 10,.tmp 11],
  (sr [
tq 10 (.mv (kq 0)),
tq 11 (.mv (kq 0))] [10,11]
(.seq (.seq (.reg true [
mq 12 4,
mq 13 0,
mq 14 2,
tq 15 (.idxAddr 2 (.t 13) (.t 14)),
lq 16 2 15,
mq 17 0,
mq 18 1,
tq 19 (.idxAddr 2 (.t 17) (.t 18)),
lq 20 2 19,
tq 21 (.call true true (.t 12) [.t 16,.t 20]),
tq 22 (.bin .lss (.t 21) (kq 0))] [0,4,12,13,14,15,16,17,18,19,20,21])
(.cond (.t 22) (sr [
mq 23 3,
tq 24 (.nilCheck (.t 23)),
ld 25 24,
tq 26 (.bin .add (.t 25) (kq 1)),
tq 27 (.nilCheck (.t 23)),
⟨none,none,.store 1 (.t 27) (.t 26)⟩] [3,23,24,25,26,27]
(sr [
mq 28 2,
mq 29 1,
mq 10 28,
mq 11 29] [1,2,28,29]
.ret))
 .skip))
(sr [
mq 30 1,
mq 31 2,
mq 10 30,
mq 11 31] [1,2,30,31]
.ret)))⟩
def zf3:C:=
  (.seq (sr [
mq 11 10,
mq 12 3,
tq 13 (.bin .lss (.t 11) (.t 12))] [11,12]
(.cond (.t 13) .skip
 (.exit 0)))
(.seq (.block 1 (.reg true [
mq 16 0,
mq 17 1,
mq 18 10,
tq 19 (.bin .add (.t 17) (.t 18)),
mq 20 0,
mq 21 2,
mq 22 10,
tq 23 (.bin .add (.t 21) (.t 22)),
mq 24 0,
mq 25 2,
mq 26 10,
tq 27 (.bin .add (.t 25) (.t 26)),
tq 28 (.idxAddr 2 (.t 24) (.t 27)),
lq 29 2 28,
mq 30 0,
mq 31 1,
mq 32 10,
tq 33 (.bin .add (.t 31) (.t 32)),
tq 34 (.idxAddr 2 (.t 30) (.t 33)),
lq 35 2 34,
tq 36 (.idxAddr 2 (.t 16) (.t 19)),
⟨none,none,.store 2 (.t 36) (.t 29)⟩,
tq 37 (.idxAddr 2 (.t 20) (.t 23)),
⟨none,none,.store 2 (.t 37) (.t 35)⟩] [16,17,18,19,20,21,22,23,24,25,26,27,28,29,30,31,32,33,34,35,36,37]))
(rg [
mq 14 10,
tq 15 (.bin .add (.t 14) (kq 1)),
mq 10 15] [14,15])))
def zg0:CF:=⟨[],
  (sr [
tq 10 (.mv (kq 0))] []
(.block 0 (.loop [0,1,2,3,10] zf3)))⟩
end Go.Proofs.YtjfnkgfhbplfaaaGreatDoor.Co
