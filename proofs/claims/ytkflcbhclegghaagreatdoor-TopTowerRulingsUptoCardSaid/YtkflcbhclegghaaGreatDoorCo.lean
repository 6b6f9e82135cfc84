/-
  The functions of the seat in the evaluator's syntax (printed by a program of mine; checked in a text that follows).
-/
import Derived.Test.YtkflcbhclegghaaGreatDoorEvE
namespace Go.Proofs.YtkflcbhclegghaaGreatDoor.Co
open Go.Evl
def zi4:Nat:=3
def zg6:Nat:=4
def znj:Nat:=5
def zfc:Nat:=6
def zi5:Nat:=7
def zd3:Nat:=8
def zeb:Nat:=9
def zcf:Nat:=10
def za5:Nat:=11
def zhd:Nat:=12
def zmj:Nat:=13
def zdz:Nat:=14
def zki:Nat:=15
def zky:Nat:=16
def zkx:Nat:=17
def zsq:Nat:=18
def zi2:Nat:=19
def znk:Nat:=20
def zls:Nat:=21
def zuf:Nat:=22
def zbo:Nat:=23
def zco:Nat:=24
def zea:Nat:=25
def zft:Nat:=26
def zep:Nat:=27
def zdm:Nat:=28
def zb3:Nat:=29
def zew:Nat:=30
def zhi:Nat:=31
def zcv:Nat:=32
def zfm:Nat:=33
def zdn:Nat:=34
def zgs:Nat:=35
def ze5:Nat:=36
def zfb:Nat:=37
def zbr:Nat:=38
def zcp:Nat:=39
def zef:Nat:=40
def zp3:Nat:=41
def zso:Nat:=42
def zmh:Nat:=43
def zf5:Nat:=44
def zgl:Nat:=45
def zhy:Nat:=46
def zdi:Nat:=47
def zxd:Nat:=48
def zh9:Nat:=49
def zqz:Nat:=50
def zmn:Nat:=51
def zpb:Nat:=52
def zsp:Nat:=53
def zj1:Nat:=54
def z0l:Nat:=55
def zbj:Nat:=56
def zas:Nat:=57
def zy2:Nat:=58
def zp2:Nat:=59
def zno:Nat:=60
def zgm:Nat:=61
def zwc:Nat:=62
def zfp:Nat:=63
def zau:Nat:=64
def zaw:Nat:=65
def zcq:Nat:=67
def zfu:Nat:=68
def zcr:Nat:=69
def zng:Nat:=70
def ziy:Nat:=71
def zkh:Nat:=72
def zb4:Nat:=73
def zgt:Nat:=74
def zch:Nat:=75
def n_allocate_board_refusing_1:Nat:=77
def zha:Nat:=78
def zbx:Nat:=79
def zax:Nat:=80
def zme:Nat:=81
def zbz:Nat:=82
def zdb:Nat:=83
def zbl:Nat:=84
def zeg:Nat:=85
def zj9:Nat:=86
def zgk:Nat:=87
def zhj:Nat:=88
def zcl:Nat:=89
def zka:Nat:=90
def zdt:Nat:=91
def zf8:Nat:=92
def zhg:Nat:=93
def za6:Nat:=94
def zkw:Nat:=95
def zgw:Nat:=96
def zoa:Nat:=97
def zc7:Nat:=98
def zdv:Nat:=99
def zbt:Nat:=100
def zes:Nat:=101
def n_strings_Compare:Nat:=102
def zg5:Nat:=103
def zdo:Nat:=104
def zb1:Nat:=105
def zc2:Nat:=106
def zaz:Nat:=107
def zdu:Nat:=108
def zct:Nat:=109
def zbp:Nat:=110
def zd8:Nat:=111
def zlp:Nat:=112
def zfq:Nat:=113
def ze8:Nat:=114
def zlq:Nat:=115
def zfr:Nat:=116
def zxc:Nat:=117
def zkl:Nat:=118
def zn9:Nat:=119
def zdc:Nat:=120
def zjo:Nat:=121
def znp:Nat:=122
def zdp:Nat:=123
def znq:Nat:=124
def zfx:Nat:=125
def zl2:Nat:=126
def znr:Nat:=127
def zjp:Nat:=128
def zns:Nat:=129
def znt:Nat:=130
def zhc:Nat:=131
def zl3:Nat:=132
def zej:Nat:=133
def zl4:Nat:=134
def zd7:Nat:=136
def znh:Nat:=137
def za0:Nat:=139
def za1:Nat:=140
def zbk:Nat:=141
def zkj:Nat:=142
def zc1:Nat:=143
def zbb:Nat:=144
def zc6:Nat:=145
def zbf:Nat:=146
def zce:Nat:=147
def znu:Nat:=148
def zdj:Nat:=149
def zga:Nat:=150
def zek:Nat:=151
def zgb:Nat:=152
def zi1:Nat:=153
def zex:Nat:=154
def zhn:Nat:=155
def zhv:Nat:=157
def zhm:Nat:=158
def zbw:Nat:=159
def zde:Nat:=160
def zba:Nat:=161
def zeq:Nat:=162
def zgv:Nat:=163
def ze4:Nat:=164
def zec:Nat:=165
def zbc:Nat:=166
def zf9:Nat:=167
def zll:Nat:=168
def zg4:Nat:=169
def zlo:Nat:=171
def zi0:Nat:=172
def zdl:Nat:=173
def zhh:Nat:=174
def zf4:Nat:=175
def ze3:Nat:=176
def zer:Nat:=177
def zcu:Nat:=178
def zf3:Nat:=179
def zcj:Nat:=180
def zh6:Nat:=181
def zfv:Nat:=182
def zb0:Nat:=183
def zbe:Nat:=184
def zav:Nat:=186
def zdh:Nat:=187
def zkk:Nat:=188
def zqy:Nat:=189
def zpa:Nat:=190
def zh7:Nat:=191
def za3:Nat:=192
def zca:Nat:=193
def zh8:Nat:=194
def zhw:Nat:=196
def zdf:Nat:=201
def zb9:Nat:=202
def zdx:Nat:=203
def zfs:Nat:=204
def zlm:Nat:=206
def ze0:Nat:=207
def zln:Nat:=208
def zd4:Nat:=209
def zfn:Nat:=210
def ziz:Nat:=211
def zjg:Nat:=212
def zhl:Nat:=213
def zj0:Nat:=214
def zgu:Nat:=215
def zgx:Nat:=216
def ze6:Nat:=217
def zrj:Nat:=226
def zrk:Nat:=227
def zc3:Nat:=228
def zcb:Nat:=229
def zho:Nat:=231
def za7:Nat:=232
def zay:Nat:=233
def ze7:Nat:=234
def zam:Nat:=236
def zbu:Nat:=237
def zaq:Nat:=250
def zc8:Nat:=251
def zbn:Nat:=252
def zb7:Nat:=253
def zbm:Nat:=261
def zcs:Nat:=262
def zmg:Nat:=267
def zo9:Nat:=268
def zje:Nat:=269
def zqw:Nat:=270
def zdw:Nat:=271
def zb5:Nat:=272
def zdy:Nat:=278
def zci:Nat:=287
def zcz:Nat:=288
def zbv:Nat:=295
def zg3:Nat:=310
def zmf:Nat:=311
def zhk:Nat:=312
def zqx:Nat:=313
def za4:Nat:=319
def zfo:Nat:=336
def zjf:Nat:=337
def zh5:Nat:=338
def yf3:Nat:=361
def yek:Nat:=362
def z98:Nat:=363
def n_strconv_Itoa:Nat:=66
def n_slices_SortFunc_Lallocate_window_allocate_window:Nat:=76
def n_strings_Split:Nat:=135
def n_strings_Join:Nat:=138
def zl0:Nat:=185
def yi6:Nat:=195
def n_strconv_Atoi:Nat:=197
def n_strings_Builder_String:Nat:=200
def zee:Nat:=230
def n_slices_Sort_Lstring_string:Nat:=235
def zkz:Nat:=238
def zik:Nat:=239
def zjh:Nat:=240
def zi3:Nat:=241
def zgn:Nat:=242
def zh3:Nat:=243
def zkb:Nat:=244
def n_internal_stringslite_IndexByte:Nat:=246
def zhb:Nat:=247
def zpt:Nat:=248
def zij:Nat:=249
def n_strings_Builder_copyCheck:Nat:=259
def zob:Nat:=279
def zlr:Nat:=280
def zmi:Nat:=281
def zl1:Nat:=282
def zil:Nat:=283
def zk8:Nat:=284
def zni:Nat:=285
def zc0:Nat:=3
def ty_uint8:Nat:=5
def zad:Nat:=9
def zcw:Nat:=29
def zck:Nat:=31
def zcx:Nat:=33
def zat:Nat:=35
def zai:Nat:=38
def zb6:Nat:=39
def z1g:Nat:=40
def zjk:Nat:=45
def zro:Nat:=46
def zsx:Nat:=47
def zao:Nat:=49
def zah:Nat:=52
def zhp:Nat:=59
def zgd:Nat:=74
def zet:Nat:=76
def za8:Nat:=81
def zaj:Nat:=84
def zs4:Nat:=86
def zac:Nat:=95
def zcc:Nat:=103
def zap:Nat:=104
def zb8:Nat:=107
def zkm:Nat:=119
def zdq:Nat:=125
def zfd:Nat:=127
def zp7:Nat:=132
def zq3:Nat:=140
def zbi:Nat:=157
def zaa:Nat:=160
def zpg:Nat:=172
def zag:Nat:=194
def zan:Nat:=211
def z18:Nat:=223
def zs5:Nat:=228
def z17:Nat:=232
def zml:Nat:=250
def zd0:Nat:=258
def ty_strings_Builder:Nat:=278
def zby:Nat:=282
def zrv:C:=
  (sr [
mh 54 53 52] []
(kg 54 0
(.seq (.block 1 (sr [
md 55 13 51 53,
lq 56 13 55,
bh 11 zcx,
mc 13 11 56] [55,56]
(sr [
mq 57 7,
lq 58 13 11,
mu 59 zi5 58,
gx 60 18 1 59,
gd 61 zat 18 192 57 60,
mq 7 61] [57,58,59,60,61]
(.reg true [
mq 62 8,
fa 63 6 11,
fa 64 0 63,
ld 65 64,
tq 66 (.minmax false [.t 62,.t 65]),
mq 67 9,
fa 68 6 11,
fa 69 1 68,
ld 70 69,
tq 71 (.minmax true [.t 67,.t 70]),
mq 8 66,
mq 9 71] [11,62,63,64,65,66,67,68,69,70,71]))))
(rg [
mf 72 53 1,
mq 53 72] [72]))))
def zrw:C:=
  (sr [
mh 84 83 82] []
(kg 84 2
(.seq (.block 3 (sr [
mq 85 83,
mq 13 85] [85]
(rg [
mq 86 12,
mq 87 13,
mq 88 12,
mq 89 13,
md 90 11 88 89,
fa 91 10 90,
ld 92 91,
gk 93 92 1,
tq 94 (.minmax true [kq 0,.t 93]),
md 95 11 86 87,
fa 96 10 95,
mc 1 96 94] [13,86,87,88,89,90,91,92,93,94,95,96])))
(rg [
mf 97 83 1,
mq 83 97] [97]))))
def zrx:C:=
  (sr [
mh 140 139 138] []
(kg 140 4
(.seq (.block 5 (sr [
mq 141 139,
md 142 3 137 139,
lq 143 3 142,
bf 21 zah,
mq 20 141,
mc 3 21 143] [141,142,143]
(.reg true [
mq 144 19,
mq 145 20,
mu 146 zhd 145,
nn 147 [101] 146,
fa 148 0 21,
ld 149 148,
fo 150 1 2 147 149,
mq 151 0,
mq 152 20,
md 153 13 151 152,
fa 154 6 153,
fa 155 0 154,
ld 156 155,
mq 157 0,
mq 158 20,
md 159 13 157 158,
fa 160 6 159,
fa 161 1 160,
ld 162 161,
lq 163 3 21,
mu 164 zmj 163,
tq 165 (.mkList 1 4 [kq 5,.t 156,.t 162,.t 164]),
cm 166 144 [101,110,116,101,114] 150 165] [20,21,144,145,146,147,148,149,150,151,152,153,154,155,156,157,158,159,160,161,162,163,164,165,166])))
(rg [
mf 167 139 1,
mq 139 167] [167]))))
def zry:C:=
  (sr [
mh 171 170 169] []
(kg 171 6
(.seq (.block 7 (sr [
mq 172 170,
md 173 3 168 170,
lq 174 3 173,
bf 24 zah,
mq 23 172,
mc 3 24 174] [172,173,174]
(.seq (.seq (.reg true [
lq 175 3 24,
mq 176 14,
mq 177 23,
md 178 3 176 177,
lq 179 3 178,
tq 180 (.eqv (some [.str,.int,.bool]) false (.t 175) (.t 179))] [175,176,177,178,179])
(kh 180 (.exit 7)
 .skip))
(.seq (sr [
fa 181 2 24,
ld 182 181,
mq 183 182,
mw 184 183 14,
mw 185 183 23,
d6 186 183 3 184 185,
mz 187 183 2 186,
ge 188 183 187,
f5 189 183 188,
ml 190 183 189] [181,182,183,184,185,186,187,188,189]
(kh 190 (sr [
mg 4] []
.ret)
 .skip))
(sr [
mq 191 22,
mq 192 23,
mu 193 zhd 192,
nn 194 [114] 193,
gx 195 1 1 194,
gd 196 zad 1 16 191 195,
mq 22 196] [191,192,193,194,195,196]
(.reg true [
mq 197 19,
mq 198 23,
mu 199 zhd 198,
nn 200 [114] 199,
fa 201 0 24,
ld 202 201,
fo 203 1 2 200 202,
mq 204 0,
mq 205 23,
md 206 13 204 205,
fa 207 6 206,
fa 208 0 207,
ld 209 208,
mq 210 0,
mq 211 23,
md 212 13 210 211,
fa 213 6 212,
fa 214 1 213,
ld 215 214,
tq 216 (.mkList 1 4 [kq 8,.t 209,.t 215,kq 1440]),
cm 217 197 [114,117,108,101] 203 216] [23,24,197,198,199,200,201,202,203,204,205,206,207,208,209,210,211,212,213,214,215,216,217]))))))
(rg [
mf 218 170 1,
mq 170 218] [218]))))
def zrz:C:=
  (sr [
mh 238 237 236] []
(kg 238 8
(.seq (.block 9 (sr [
mq 239 237,
md 240 1 235 237,
ld 241 240,
mq 25 239,
mq 26 241] [239,240,241]
(rg [
mq 242 19,
mq 243 25,
mu 244 zhd 243,
nn 245 [102] 244,
mq 246 26,
tq 247 (.mkList 1 3 [.t 245,.k (.d (.str [122,122,95,115,112,97,114,101])),.t 246]),
mq 248 8,
mq 249 9,
tq 250 (.mkList 1 4 [kq 9,.t 248,.t 249,kq 700]),
cm 251 242 [102,111,108,108,111,119] 247 250] [25,26,242,243,244,245,246,247,248,249,250,251])))
(rg [
mf 252 237 1,
mq 237 252] [252]))))
def zr0:C:=
  (sr [
mh 256 255 254] []
(kg 256 10
(.seq (.block 11 (sr [
md 257 1 253 255,
ld 258 257,
mq 28 258] [257,258]
(sr [
ld 260 18,
mq 261 28,
gv 262 zki 260 261,
mq 259 262,
xq 263 259 0,
xq 264 259 1,
mq 29 263,
mq 30 264] [28,259,260,261,262,263,264]
(sr [
mq 265 30,
my 266 265 0,
mq 267 266,
mw 268 267 29,
nb 269 267 268,
c8 270 267 269 1,
ml 271 267 270] [29,30,265,266,267,268,269,270]
(kh 271 (sr [
mg 4] []
.ret)
 .skip)))))
(rg [
mf 272 255 1,
mq 255 272] [272]))))
def zr1:C:=
  (sr [
mh 276 275 274] []
(kg 276 12
(.seq (.block 13 (sr [
md 277 1 273 275,
ld 278 277,
mq 32 278] [277,278]
(rg [
mq 279 19,
mq 280 32,
gx 281 1 1 280,
tq 282 (.mkList 1 1 [kq 12]),
cm 283 279 [114,101,118,101,114,115,101] 281 282] [32,279,280,281,282,283])))
(rg [
mf 284 275 1,
mq 275 284] [284]))))
def zt1:CF:=⟨[.tmp 4],
  (sr [
mg 4] [4]
(sr [
mq 34 1,
mu 35 zg6 34,
mq 33 35,
xq 36 33 0,
xq 37 33 1,
mq 5 36,
mq 6 37] [1,33,34,35,36,37]
(.seq (sr [
mq 38 6,
gz 39 38,
mq 40 39,
mw 41 40 0,
cq 42 40 znj 41,
f5 43 40 42,
ml 44 40 43,
mq 45 44,
mw 46 45 0,
nb 47 45 46,
nc 48 45 47 3,
ml 49 45 48] [6,38,39,40,41,42,43,44,45,46,47,48]
(kh 49 (sr [
tq 50 (cl zfc []),
mq 4 50] [50]
.ret)
 .skip))
(sr [
gh 7 zat 18 192] []
(sr [
pz 8 99999,
pz 9 0] []
(.seq (sr [
mq 51 0,
mr 52 51,
pz 53 0] []
(kj 0 [0,5,7,8,9,51,52,53] zrv))
(.seq (sr [
mq 73 9,
mq 74 8,
m8 75 73 74,
fk 76 75 40] [73,74,75]
(kh 76 (sr [
tq 77 (cl zfc []),
mq 4 77] [77]
.ret)
 .skip))
(sr [
tq 78 (.mkRow ⟨true,zai,11,112⟩ 0 []),
mq 79 5,
f8 80 zai 11 112 78 79,
mq 12 80] [78,79,80]
(.seq (sr [
mq 81 12,
mr 82 81,
pz 83 0] [81]
(kj 2 [0,5,7,8,9,12,82,83] zrw))
(sr [
mq 99 5,
mq 100 7,
tq 101 (.callZ (.k (.fn zd3 [] [])) [.t 99,.t 100]),
mq 98 101,
xq 102 98 0,
xq 103 98 1,
mq 14 102,
mq 15 103] [5,98,99,100,101,102,103]
(.seq (sr [
mq 104 15,
my 105 104 0,
mq 106 105,
mw 107 106 14,
nb 108 106 107,
mw 109 106 0,
nb 110 106 109,
db 111 106 108 110,
ml 112 106 111] [15,104,105,106,107,108,109,110,111]
(kh 112 (sr [
mg 4] []
.ret)
 .skip))
(sr [
mq 114 12,
mq 115 7,
mq 116 14,
tq 117 (.callZ (.k (.fn zeb [] [])) [.t 114,.t 115,.t 116]),
mq 113 117,
xq 118 113 0,
xq 119 113 1,
mq 16 118,
mq 17 119] [113,114,115,116,117,118,119]
(.seq (sr [
mq 120 17,
my 121 120 0,
mq 122 121,
mw 123 122 16,
nb 124 122 123,
mw 125 122 0,
nb 126 122 125,
db 127 122 124 126,
ml 128 122 127,
mq 129 128,
mw 130 129 12,
mw 131 129 7,
mw 132 129 16,
gq 133 129 false (.callZ (.k (.fn zcf [] [])) [.t 130,.t 131,.t 132]),
c8 134 129 133 0,
ml 135 129 134] [12,17,120,121,122,123,124,125,126,127,128,129,130,131,132,133,134]
(kh 135 (sr [
mg 4] []
.ret)
 .skip))
(sr [
tq 18 (.alloc zjk [.own ⟨false,zao,5,88⟩])] []
(sr [
f0 136 za5 18,
mq 19 136] [136]
(.seq (sr [
mq 137 14,
mr 138 137,
pz 139 0] []
(kj 4 [0,7,8,9,14,16,18,19,137,138,139] zrx))
(sr [
gh 22 zad 1 16] []
(.seq (sr [
mq 168 16,
mr 169 168,
pz 170 0] []
(kj 6 [0,7,8,9,14,16,18,19,22,168,169,170] zry))
(.seq (sr [
ld 219 18,
mq 220 7,
mq 221 14,
mq 222 8,
mq 223 9,
tq 224 (cl zdz [.t 219,kq 7,.t 220,.t 221,.t 222,.t 223]),
gz 225 224,
mq 226 225,
ge 227 226 18,
mw 228 226 7,
mw 229 226 16,
mw 230 226 8,
mw 231 226 9,
gq 232 226 false (cl zdz [.t 227,kq 8,.t 228,.t 229,.t 230,.t 231]),
f5 233 226 232,
ml 234 226 233] [219,220,221,222,223,224,225,226,227,228,229,230,231,232,233]
(kh 234 (sr [
mg 4] []
.ret)
 .skip))
(.seq (sr [
mq 235 22,
mr 236 235,
pz 237 0] []
(kj 8 [7,8,9,14,16,18,19,22,235,236,237] zrz))
(.seq (sr [
mq 253 22,
mr 254 253,
pz 255 0] []
(kj 10 [7,8,9,14,16,18,19,22,253,254,255] zr0))
(.seq (sr [
mq 273 22,
mr 274 273,
pz 275 0] [22]
(kj 12 [7,8,9,14,16,18,19,273,274,275] zr1))
(sr [
ld 285 18,
mq 286 7,
mq 287 14,
mq 288 8,
mq 289 9,
tq 290 (cl zdz [.t 285,kq 12,.t 286,.t 287,.t 288,.t 289]),
mq 291 290,
ga 292 291 18,
mn 293 291 7,
mn 294 291 16,
mn 295 291 8,
mn 296 291 9,
gq 297 291 true (cl zdz [.t 292,kq 8,.t 293,.t 294,.t 295,.t 296]),
me 298 291 297,
mq 299 298,
ga 300 299 18,
mn 301 299 7,
mn 302 299 14,
mn 303 299 8,
mn 304 299 9,
gq 305 299 true (cl zdz [.t 300,kq 6,.t 301,.t 302,.t 303,.t 304]),
me 306 299 305,
mq 307 306,
gq 308 307 true (cl zfc []),
me 309 307 308,
mq 4 309] [7,8,9,14,16,18,285,286,287,288,289,290,291,292,293,294,295,296,297,298,299,300,301,302,303,304,305,306,307,308,309]
.ret)))))))))))))))))))))))⟩
def zwo:C:=
  (sr [
mh 10 9 8] []
(kg 10 0
(.seq (.block 1 (sr [
md 11 11 7 9,
lq 12 11 11,
tq 6 (.alloc zhp pg),
mc 11 6 12] [11,12]
(rg [
mq 13 4,
lq 14 11 6,
gx 15 11 1 14,
gd 16 zai 11 112 13 15,
mq 4 16] [6,13,14,15,16])))
(rg [
mf 17 9 1,
mq 9 17] [17]))))
def zz7:CF:=⟨[.tmp 2,.tmp 3],
  (sr [
gh 2 zai 11 112,
mg 3] [2,3]
(sr [
gh 4 zai 11 112] []
(.seq (sr [
mq 7 0,
mr 8 7,
pz 9 0] []
(kj 0 [0,4,7,8,9] zwo))
(sr [
mq 18 4,
mq 19 0,
mr 20 19,
dq 21 20 3,
mq 22 21,
mn 23 22 0,
gq 24 22 true (cl zky [.t 23,kq 3]),
me 25 22 24,
mq 26 25,
mn 27 26 0,
dj 28 26 zkx 27,
ci 29 26 28 0,
me 30 26 29,
mq 2 18,
mq 3 30] [0,4,18,19,20,21,22,23,24,25,26,27,28,29,30]
.ret))))⟩
def zxw:C:=
  (sr [
mh 21 20 19] []
(kg 21 0
(.seq (.block 1 (sr [
md 22 13 18 20,
lq 23 13 22,
bh 4 zcx,
mc 13 4 23] [22,23]
(sr [
fa 24 5 4,
ld 25 24,
cr 26 25,
mq 27 26,
mz 28 27 6 4,
mz 29 27 1 28,
ge 30 27 29,
mz 31 27 6 4,
mz 32 27 0 31,
ge 33 27 32,
gq 34 27 false (.bin .sub (.t 30) (.t 33)),
gq 35 27 false (.bin .geq (.t 34) (kq 8)),
ml 36 27 35] [4,24,25,26,27,28,29,30,31,32,33,34,35]
(kh 36 (sr [
mg 2] []
.ret)
 .skip))))
(rg [
mf 37 20 1,
mq 20 37] [37]))))
def z10:CF:=⟨[.tmp 2],
  (sr [
mg 2] [2]
(.seq (sr [
mq 5 0,
mr 6 5,
fk 7 6 4,
mq 8 7,
mw 9 8 0,
gq 10 8 false (cl zsq [.t 9,kq 4]),
f5 11 8 10,
ml 12 8 11,
mq 13 12,
mw 14 13 0,
cq 15 13 zi2 14,
c8 16 13 15 0,
ml 17 13 16] [5,6,7,8,9,10,11,12,13,14,15,16]
(kh 17 (sr [
mg 2] []
.ret)
 .skip))
(.seq (sr [
mq 18 0,
mr 19 18,
pz 20 0] [0]
(kj 0 [18,19,20] zxw))
(sr [
fe 2] []
.ret))))⟩
def zwp:C:=
  (sr [
mh 49 48 47] []
(kg 49 0
(.seq (.block 1 (sr [
md 50 1 46 48,
ld 51 50,
mq 5 51] [50,51]
(sr [
mq 53 3,
mq 54 5,
n7 55 zbo 53 54,
mq 52 55,
xq 56 52 0,
xq 57 52 1,
mq 6 56,
mq 7 57] [5,6,52,53,54,55,56,57]
(sr [
mq 58 7,
my 59 58 0] [7,58]
(kh 59 (sr [
mg 0] []
.ret)
 .skip)))))
(rg [
mf 60 48 1,
mq 48 60] [60]))))
def zz9:CF:=⟨[.tmp 0],
  (sr [
mg 0] [0]
(sr [
tq 15 (cl znk []),
gx 16 11 1 15,
tq 17 (cl zls [.k (.d (.str [97])),kq 100]),
mu 18 zi5 17,
gx 19 18 1 18,
gv 20 zd3 16 19,
mq 14 20,
xq 21 14 0,
xq 22 14 1,
mq 1 21,
mq 2 22] [14,15,16,17,18,19,20,21,22]
(.seq (sr [
mq 23 2,
my 24 23 0,
mq 25 24,
mw 26 25 1,
nb 27 25 26,
c8 28 25 27 1,
ml 29 25 28,
mq 30 29,
mw 31 30 1,
gq 32 30 false (.idxAddr 3 (.t 31) (kq 0)),
mz 33 30 2 32,
ge 34 30 33,
f5 35 30 34,
ml 36 30 35] [2,23,24,25,26,27,28,29,30,31,32,33,34,35]
(kh 36 (sr [
mg 0] []
.ret)
 .skip))
(sr [
np 37 zuf,
mq 3 37] [37]
(.seq (sr [
mq 38 3,
nj 39 0 38] [38]
(kh 39 (sr [
mg 0] []
.ret)
 .skip))
(.seq (sr [
mq 40 1,
m7 41 3 40 0,
fa 42 1 41,
ld 43 42,
mu 44 zhd 43,
nn 45 [101,110,116,101,114,32,101,32,97,32,53,32,50,32,51,32] 44,
tq 46 (.mkList 1 3 [.t 45,.k (.d (.str [114,117,108,101,32,114,32,97,32,56,32,50,32,51,32,49,52,52,48])),.k (.d (.str [114,101,118,101,114,115,101,32,114,32,57]))]),
mr 47 46,
pz 48 0] [1,40,41,42,43,44,45]
(kj 0 [3,46,47,48] zwp))
(sr [
mq 62 3,
dl 63 zbo 62 [115,108,111,116,32,97,32,55,32,50],
mq 61 63,
xq 64 61 0,
xq 65 61 1,
mq 8 64,
mq 9 65] [61,62,63,64,65]
(sr [
mq 67 3,
dl 68 zbo 67 [115,108,111,116,32,97,32,56,32,50],
mq 66 68,
xq 69 66 0,
xq 70 66 1,
mq 10 69,
mq 11 70] [66,67,68,69,70]
(sr [
mq 72 3,
dl 73 zbo 72 [115,108,111,116,32,97,32,57,32,50],
mq 71 73,
xq 74 71 0,
xq 75 71 1,
mq 12 74,
mq 13 75] [3,71,72,73,74,75]
(sr [
mq 76 9,
mq 77 11,
gf 78 76 77,
mq 79 13,
gf 80 78 79,
g0 81 80 0,
mq 82 81,
mn 83 82 8,
d4 84 82 83 [54,49,48],
me 85 82 84,
mq 86 85,
mn 87 86 10,
d4 88 86 87 [110,111,110,101],
me 89 86 88,
mq 90 89,
mn 91 90 12,
d4 92 90 91 [54,49,48],
me 93 90 92,
mq 0 93] [8,9,10,11,12,13,76,77,78,79,80,81,82,83,84,85,86,87,88,89,90,91,92,93]
.ret))))))))))⟩
def z3r:CF:=⟨[.cell 2 (some 18)],
  (sr [
mt 1 zcx 0,
dy 2 zat] [0]
(sr [
lq 3 13 1,
fa 4 9 1,
ld 5 4,
gk 6 5 20,
tq 7 (.minmax true [kq 0,.t 6]),
fa 8 9 1,
ld 9 8,
mf 10 9 20,
tq 11 (.minmax false [kq 1439,.t 10]),
tq 12 (.build pb [(0,13,.t 3),(13,1,.t 7),(14,1,.t 11),(15,1,kq 20)]),
mc 18 2 12] [1,3,4,5,6,7,8,9,10,11,12]
.ret))⟩
def zpx:C:=
  (rg [
nr 10 za8,
mc 2 10 30] [30])
def zxs:C:=
  (sr [
mh 36 35 34] []
(kg 36 2
(.seq (.block 3 (sr [
md 37 2 33 35,
lq 38 2 37,
nr 12 zaj,
mc 2 12 38] [37,38]
(.seq (.reg true [
ld 39 9,
lq 40 2 10,
ld 41 3,
lq 42 2 12,
b6 43 zcv 40 41 42,
tq 44 (.callU true (.t 39) [.t 43]),
mr 45 44,
g0 46 45 0] [39,40,41,42,43,44,45])
(kh 46 (sr [
lq 47 2 10,
ld 48 7,
lq 49 2 12,
d3 50 zfm 47 48 49] [7,47,48,49,50]
(sr [
ld 51 8,
ld 52 3,
lq 53 2 10,
lq 54 2 12,
tq 55 (.callU false (.k (.fn zdn [] [])) [.t 51,.t 52,.t 53,.t 54,kq 1])] [3,8,10,12,51,52,53,54,55]
(.exit 2)))
 .skip))))
(rg [
mf 56 35 1,
mq 35 56] [56]))))
def zpy:C:=
  (.block 1 (.scope (.seq .label
(sr [
lq 31 2 10,
ld 32 3,
gv 33 zhi 31 32,
mr 34 33,
pz 35 0] [31,32]
(kj 2 [3,7,8,9,10,33,34,35] zxs)))))
def z1n:CF:=⟨[.tmp 4,.tmp 5],
  (sr [
mt 3 zcw 1,
fc 4 zah 3 32,
pz 5 0] [1]
(.seq (.seq (.reg true [
mq 13 0,
mu 14 zea 13,
ld 15 3,
mu 16 zft 15,
fo 17 1 2 14 16,
mu 18 zco 17,
mq 6 18] [13,14,15,16,17,18])
(sr [
mq 19 6,
my 20 19 0] [19]
(kh 20 (sr [
mq 21 6,
fc 4 zah 3 32,
mq 5 21] [6,21]
.ret)
 .skip)))
(sr [
ld 22 3,
gu 23 zep 22,
tq 7 (.alloc zb6 [.own ⟨true,zah,3,32⟩]),
mc 1 7 23] [22,23]
(sr [
mq 24 0,
gu 25 zdm 24,
tq 8 (.alloc zgd [.z (.nilp)]),
mc 1 8 25] [0,24,25]
(sr [
ld 26 8,
tq 27 (.mkFunc zb3 [.t 26] []),
tq 9 (.alloc zet pw),
mc 1 9 27] [26,27]
(.seq (sr [
ld 28 3,
gu 29 zew 28] [28]
(.block 0 (.rangeFn 59 (.t 29) [30] zpx zpy)))
(sr [
ld 57 7,
mq 4 57,
pz 5 0] [7,57]
.ret)))))))⟩
def zmq:C:=
  (rg [
nr 11 za8,
mc 2 11 30] [30])
def zmr:C:=
  (.block 1 (sr [
lq 32 2 11,
ld 33 5,
gv 34 ze5 32 33,
mq 31 34,
xq 35 31 0,
xq 36 31 1,
nr 12 zaj,
mc 2 12 35,
mq 13 36] [5,31,32,33,34,35,36]
(.seq (.reg true [
mq 37 13,
mq 38 37,
ga 39 38 10,
ft 40 38 2 11,
ga 41 38 4,
ft 42 38 2 12,
gq 43 38 true (cl zcv [.t 40,.t 41,.t 42]),
gq 44 38 true (.callU true (.k (.fn zb3 [] [])) [.t 39,.t 43]),
gq 45 38 true (.len .slc (.t 44)),
ci 46 38 45 0,
me 47 38 46] [13,37,38,39,40,41,42,43,44,45,46])
(kh 47 (sr [
lq 48 2 11,
ld 49 9,
lq 50 2 12,
d3 51 zfm 48 49 50] [9,48,49,50,51]
(rg [
ld 52 10,
ld 53 4,
lq 54 2 11,
lq 55 2 12,
tq 56 (.callU false (.k (.fn zdn [] [])) [.t 52,.t 53,.t 54,.t 55,kq 1])] [4,10,11,12,52,53,54,55,56]))
 .skip))))
def zwr:CF:=⟨[.tmp 6,.tmp 7],
  (sr [
mt 4 zcw 1,
mt 5 zb6 2,
fc 6 zah 3 32,
pz 7 0] [1,2]
(.seq (.seq (.reg true [
mq 14 0,
mu 15 zea 14,
ld 16 4,
ld 17 5,
gv 18 zgs 16 17,
fo 19 1 2 15 18,
mu 20 zco 19,
mq 8 20] [14,15,16,17,18,19,20])
(sr [
mq 21 8,
my 22 21 0] [21]
(kh 22 (sr [
mq 23 8,
fc 6 zah 3 32,
mq 7 23] [8,23]
.ret)
 .skip)))
(sr [
ld 24 4,
gu 25 zep 24,
tq 9 (.alloc zb6 [.own ⟨true,zah,3,32⟩]),
mc 1 9 25] [24,25]
(sr [
mq 26 0,
gu 27 zdm 26,
tq 10 (.alloc zgd [.z (.nilp)]),
mc 1 10 27] [0,26,27]
(.seq (sr [
ld 28 4,
gu 29 zew 28] [28]
(.block 0 (.rangeFn 59 (.t 29) [30] zmq zmr)))
(sr [
ld 57 9,
mq 6 57,
pz 7 0] [9,57]
.ret))))))⟩
def zny:C:=
  (sr [
mh 30 29 28] []
(kg 30 0
(.seq (.block 1 (sr [
md 31 7 27 29,
lq 32 7 31,
kc 11 zac,
mc 7 11 32] [31,32]
(rg [
mq 33 9,
lq 34 7 11,
dz 35 zbr 33 34 1] [11,33,34,35])))
(rg [
mf 36 29 1,
mq 29 36] [36]))))
def zpl:CF:=⟨[.tmp 6],
  (sr [
pz 6 0] [6]
(.seq (sr [
mq 12 0,
mu 13 zea 12,
mq 7 13] [12,13]
(sr [
mq 14 7,
my 15 14 0] [14]
(kh 15 (sr [
mq 16 7,
mq 6 16] [7,16]
.ret)
 .skip)))
(.seq (sr [
mq 17 1,
mq 18 2,
gv 19 zgs 17 18,
mq 8 19] [17,18,19]
(sr [
mq 20 8,
my 21 20 0] [20]
(kh 21 (sr [
mq 22 8,
mq 6 22] [8,22]
.ret)
 .skip)))
(sr [
mq 23 0,
gu 24 zdm 23,
mq 9 24] [0,23,24]
(.seq (sr [
mq 25 1,
mq 26 2,
gv 27 zfb 25 26,
mr 28 27,
pz 29 0] [1,2,25,26]
(kj 0 [9,27,28,29] zny))
(sr [
mq 37 9,
tq 38 (.callU true (.k (.fn zef [] [])) [.t 37]),
gn 39 zcp 38 14,
mq 6 39] [9,37,38,39]
.ret))))))⟩
def zsh:CF:=⟨[],
  (rg [
ld 7 3,
ld 8 3,
mr 9 8,
mf 10 9 1,
mq 11 0,
mq 12 1,
mq 13 2,
tq 14 (.build pq [(0,1,.t 10),(1,1,.t 11),(2,1,.t 12),(3,1,.t 13)]),
gx 15 5 1 14,
gd 16 zao 5 88 7 15,
⟨none,none,.store 1 (.t 3) (.t 16)⟩] [0,1,2,3,7,8,9,10,11,12,13,14,15,16])⟩
def ybs:CF:=⟨[.tmp 2],
  (sr [
gp 2] [2]
(sr [
mq 3 0,
mu 4 zp3 3,
mq 2 4] [0,3,4]
.ret))⟩
def zz8:CF:=⟨[.tmp 2],
  (sr [
mt 1 zah 0,
pz 2 0] [0,2]
(.seq (sr [
fa 3 2 1,
ld 4 3] [3]
(kh 4 (sr [
fa 5 1 1,
ld 6 5,
mq 2 6] [1,5,6]
.ret)
 .skip))
(sr [
pz 2 1440] []
.ret)))⟩
def zzm:C:=
  (sr [
mh 35 34 33] []
(kg 35 2
(.seq (.block 3 (sr [
md 36 2 32 34,
lq 37 2 36,
tq 18 (.alloc zcc pr),
mc 2 18 37] [36,37]
(rg [
mq 38 16,
lq 39 2 18,
gx 40 2 1 39,
gd 41 zap 2 24 38 40,
mq 16 41] [18,38,39,40,41])))
(rg [
mf 42 34 1,
mq 34 42] [42]))))
def zzn:C:=
  (.seq (sr [
mq 20 13,
mq 21 5,
na 22 20 21] [20,21]
(kh 22 .skip
 (.exit 0)))
(.seq (.block 1 (sr [
mq 26 0,
mq 27 1,
mq 28 13,
b6 29 zso 26 27 28,
mq 25 29,
xq 30 25 0,
xq 31 25 1,
mq 14 30,
mq 15 31] [25,26,27,28,29,30,31]
(sr [
gh 16 zap 2 24] []
(.seq (sr [
mq 32 14,
mr 33 32,
pz 34 0] [14]
(kj 2 [0,1,2,3,5,13,15,16,32,33,34] zzm))
(sr [
mq 43 15,
my 44 43 0,
mq 45 44,
mw 46 45 16,
mw 47 45 2,
mw 48 45 3,
mw 49 45 13,
gq 50 45 false (cl zf5 [.t 47,.t 48,.t 49]),
gq 51 45 false (cl zmh [.t 46,.t 50]),
f5 52 45 51,
ml 53 45 52] [15,16,43,44,45,46,47,48,49,50,51,52]
(kh 53 (sr [
mg 12] []
.ret)
 .skip))))))
(rg [
mq 23 13,
mf 24 23 1,
mq 13 24] [23,24])))
def z3q:CF:=⟨[.tmp 12],
  (sr [
mg 12] [12]
(.seq (sr [
mq 19 4,
mq 13 19] [4,19]
(kj 0 [0,1,2,3,5,13] zzn))
(sr [
fe 12] []
.ret)))⟩
def z1v:CF:=⟨[.tmp 4,.tmp 5],
  (sr [
gi 4 0,
pz 5 0] [4,5]
(sr [
mq 9 0,
mq 10 1,
mu 11 zhy 10,
gx 12 1 1 11,
dt 13 zgl 9 12,
mq 8 13,
xq 14 8 0,
xq 15 8 1,
mq 6 14,
mq 7 15] [0,8,9,10,11,12,13,14,15]
(.seq (sr [
mq 16 7,
my 17 16 0] [16]
(kh 17 (sr [
mq 18 7,
gi 4 0,
mq 5 18] [7,18]
.ret)
 .skip))
(sr [
mq 19 6,
mq 20 1,
gg 21 zdi 19 20,
xq 22 21 0,
xq 23 21 1,
mq 4 22,
mq 5 23] [1,6,19,20,21,22,23]
.ret))))⟩
def ztv:C:=
  (.seq (sr [
mq 21 6,
mq 22 0,
mr 23 22,
mh 24 21 23] [21,22,23]
(kh 24 .skip
 (.exit 0)))
(.seq (.block 1 (.seq (sr [
mq 27 0,
mq 28 6,
md 29 11 27 28,
fa 30 0 29,
ld 31 30,
nv 32 31,
fk 33 32 40,
mq 34 33,
mw 35 34 0,
mw 36 34 6,
d6 37 34 11 35 36,
mz 38 34 1 37,
ge 39 34 38,
d8 40 34 39,
nc 41 34 40 40,
ml 42 34 41,
mq 43 42,
mw 44 43 0,
mw 45 43 6,
d6 46 43 11 44 45,
mz 47 43 2 46,
ge 48 43 47,
d8 49 43 48,
nc 50 43 49 40,
ml 51 43 50,
mq 52 51,
mw 53 52 0,
mw 54 52 6,
d6 55 52 11 53 54,
mz 56 52 7 55,
d5 57 52 3 56,
gq 58 52 false (cl zxd [.t 57,kq 24]),
f5 59 52 58,
ml 60 52 59] [27,28,29,30,31,32,33,34,35,36,37,38,39,40,41,42,43,44,45,46,47,48,49,50,51,52,53,54,55,56,57,58,59]
(kh 60 (sr [
mg 4] []
.ret)
 .skip))
(sr [
mq 61 0,
mq 62 6,
md 63 11 61 62,
lq 64 11 63,
mu 65 zh9 64,
g0 66 65 0] [61,62,63,64,65]
(kh 66 (.reg true [
mq 67 5,
mq 68 0,
mq 69 6,
md 70 11 68 69,
lq 71 11 70,
mu 72 zqz 71,
mq 73 0,
mq 74 6,
md 75 11 73 74,
fa 76 7 75,
lq 77 3 76,
mu 78 zmn 77,
mr 79 78,
bc 80 72 79,
gf 81 67 80,
mq 5 81] [67,68,69,70,71,72,73,74,75,76,77,78,79,80,81])
 .skip))))
(rg [
mq 25 6,
mf 26 25 1,
mq 6 26] [25,26])))
def zw4:CF:=⟨[.tmp 4],
  (sr [
mg 4] [4]
(.seq (sr [
mq 7 0,
mr 8 7,
mq 9 1,
fi 10 8 9,
mq 11 10,
mn 12 11 0,
gq 13 11 true (.len .slc (.t 12)),
nh 14 11 13 32,
me 15 11 14,
mq 16 15,
mw 17 16 0,
nb 18 16 17,
nc 19 16 18 34,
ml 20 16 19] [1,7,8,9,10,11,12,13,14,15,16,17,18,19]
(kh 20 (sr [
mg 4] []
.ret)
 .skip))
(sr [
pz 5 0] []
(.seq (sr [
pz 6 0] []
(kj 0 [0,5,6] ztv))
(sr [
mq 82 5,
dq 83 82 400,
mq 4 83] [5,82,83]
.ret)))))⟩
def ztu:C:=
  (.seq (sr [
mq 8 3,
mq 9 0,
mr 10 9,
mh 11 8 10] [8,9,10]
(kh 11 .skip
 (.exit 0)))
(.seq (.block 1 (.seq (sr [
mq 14 0,
mq 15 3,
md 16 11 14 15,
lq 17 11 16,
mu 18 zh9 17,
mq 4 18] [14,15,16,17,18]
(sr [
mq 19 4,
my 20 19 0] [19]
(kh 20 (sr [
mq 21 4,
mq 2 21] [4,21]
.ret)
 .skip)))
(.seq (.reg true [
mq 22 0,
mq 23 3,
dc 24 11 22 23,
mq 25 0,
mq 26 3,
md 27 11 25 26,
fa 28 0 27,
ld 29 28,
gv 30 zpb 24 29,
fh 31 30 0] [22,23,24,25,26,27,28,29,30])
(kh 31 (sr [
pz 2 9] []
.ret)
 .skip))))
(rg [
mq 12 3,
mf 13 12 1,
mq 3 13] [12,13])))
def zw3:CF:=⟨[.tmp 2],
  (sr [
pz 2 0] [2]
(.seq (sr [
mq 5 0,
mr 6 5,
fk 7 6 32] [5,6]
(kh 7 (sr [
pz 2 5] []
.ret)
 .skip))
(.seq (sr [
pz 3 0] []
(kj 0 [0,3] ztu))
(sr [
pz 2 0] []
.ret))))⟩
def z3a:C:=
  (.seq (sr [
mq 15 5,
mq 16 0,
mr 17 16,
mh 18 15 17] [15,16,17]
(kh 18 .skip
 (.exit 0)))
(.seq (.block 1 (sr [
mq 21 0,
mq 22 5,
md 23 13 21 22,
lq 24 13 23,
mu 25 zsp 24,
gz 26 25] [21,22,23,24,25]
(kh 26 (sr [
mg 4] []
.ret)
 .skip)))
(rg [
mq 19 5,
mf 20 19 1,
mq 5 20] [19,20])))
def z9g:CF:=⟨[.tmp 4],
  (sr [
mg 4] [4]
(.seq (sr [
mq 6 0,
mr 7 6,
mq 8 1,
fi 9 7 8,
mq 10 9,
mn 11 10 0,
gq 12 10 true (.len .slc (.t 11)),
gq 13 10 true (.bin .neq (.t 12) (kq 65)),
me 14 10 13] [1,6,7,8,9,10,11,12,13]
(kh 14 (sr [
mg 4] []
.ret)
 .skip))
(.seq (sr [
pz 5 0] []
(kj 0 [0,5] z3a))
(sr [
fe 4] []
.ret))))⟩
def zru:C:=
  (.seq (sr [
mq 8 3,
mq 9 0,
mr 10 9,
mh 11 8 10] [8,9,10]
(kh 11 .skip
 (.exit 0)))
(.seq (.block 1 (sr [
mq 14 0,
mq 15 3,
md 16 13 14 15,
lq 17 13 16,
mu 18 zj1 17,
mq 4 18] [14,15,16,17,18]
(.seq (.seq (.reg true [
mq 19 4,
g0 20 19 0,
mq 21 20,
mn 22 21 0,
mn 23 21 3,
gq 24 21 true (.slice 13 (.t 22) none (some (.t 23)) none),
mn 25 21 0,
mn 26 21 3,
fp 27 21 13 25 26,
gy 28 21 0 27,
ga 29 21 28,
gq 30 21 true (cl z0l [.t 24,.t 29]),
gq 31 21 true (.bin .geq (.t 30) (kq 0)),
me 32 21 31] [19,20,21,22,23,24,25,26,27,28,29,30,31])
(kh 32 (rg [
pz 4 9] [])
 .skip))
(sr [
mq 33 4,
my 34 33 0] [33]
(kh 34 (sr [
mq 35 4,
mq 2 35] [4,35]
.ret)
 .skip)))))
(rg [
mq 12 3,
mf 13 12 1,
mq 3 13] [12,13])))
def zt0:CF:=⟨[.tmp 2],
  (sr [
pz 2 0] [2]
(.seq (sr [
mq 5 0,
mr 6 5,
fk 7 6 64] [5,6]
(kh 7 (sr [
pz 2 5] []
.ret)
 .skip))
(.seq (sr [
pz 3 0] []
(kj 0 [0,3] zru))
(sr [
pz 2 0] []
.ret))))⟩
def z11:CF:=⟨[.cell 0 (some 11)],
  (sr [
tq 0 (.alloc zai pg)] []
(sr [
tq 1 (.build pu [(0,1,kq 2),(1,1,kq 3),(2,1,kq 127)]),
tq 2 (.build pg [(0,1,.k (.d (.str [115,105,120]))),(1,1,.k (.d (.str [84]))),(3,1,kq 60),(4,1,kq 60),(5,1,kq 600),(6,1,kq 600),(7,3,.t 1),(10,1,kq 1)]),
mc 11 0 2] [1,2]
.ret))⟩
def zyg:CF:=⟨[.cell 4 (some 13)],
  (sr [
bh 4 zcx] []
(sr [
mq 5 0,
tq 6 (.build pu [(0,1,kq 2),(1,1,kq 3),(2,1,kq 127)]),
mq 7 1,
tq 8 (.build pc [(0,1,.t 5),(1,1,.k (.d (.str [99]))),(2,1,.k (.d (.str [65]))),(4,1,.k (.d (.str [102,97,114]))),(6,3,.t 6),(9,1,kq 610),(10,1,.t 7),(11,1,kq 3)]),
mc 13 4 8] [0,1,5,6,7,8]
.ret))⟩
def ybq:CF:=⟨[.tmp 0],
  (sr [
f4 0] [0]
(sr [
tq 1 (.build [.own ⟨false,zao,5,88⟩,.z (.int .i64 0),.own ⟨false,zag,8,96⟩,.own ⟨false,zby,2,24⟩,.own ⟨true,zan,5,48⟩] []),
mt 2 zfd 1,
mq 0 2] [1,2]
.ret))⟩
def zw1:CF:=⟨[.tmp 4,.tmp 5],
  (sr [
gp 4,
pz 5 0] [4,5]
(.seq (sr [
mq 17 0,
nj 18 0 17] [17]
(kh 18 (sr [
gp 4,
pz 5 19] []
.ret)
 .skip))
(.seq (sr [
mq 19 1,
nv 20 19,
fk 21 20 4096,
gn 22 zas 21 26,
mq 23 1,
nz 24 23,
gn 25 zas 24 25,
fo 26 1 2 22 25,
mu 27 zbj 26,
mq 6 27] [19,20,21,22,23,24,25,26,27]
(sr [
mq 28 6,
my 29 28 0] [28]
(kh 29 (sr [
mq 30 6,
gp 4,
mq 5 30] [6,30]
.ret)
 .skip)))
(sr [
mq 32 1,
d7 33 zy2 32 [32],
mq 31 33,
xq 34 31 0,
xq 35 31 1,
xq 36 31 2,
mq 7 34,
mq 8 35,
mq 9 36] [8,9,31,32,33,34,35,36]
(.seq (sr [
np 38 zp2,
mq 39 7,
tq 40 (.lookup .str (.agg [.int .i64 0,.int .i64 0,.nilf]) true (.t 38) (.t 39)),
mq 37 40,
xq 41 37 0,
xq 42 37 1,
tq 10 (.alloc zp7 po),
mc 3 10 41,
mq 11 42] [37,38,39,40,41,42]
(sr [
mq 43 11] [11]
(kh 43 (sr [
mq 44 0,
lq 45 3 10,
mq 46 1,
tq 47 (.callU true (.k (.fn zno [] [])) [.t 44,.t 45,.t 46]),
xq 48 47 0,
xq 49 47 1,
mq 4 48,
mq 5 49] [0,1,10,44,45,46,47,48,49]
.ret)
 .skip)))
(.seq (sr [
np 51 zgm,
mq 52 7,
cc 53 0 0 51 52,
mq 50 53,
xq 54 50 0,
xq 55 50 1,
tq 12 (.alloc zq3 pl),
mc 4 12 54,
mq 13 55] [7,12,50,51,52,53,54,55]
(sr [
mq 56 13,
gz 57 56] [13,56]
(kh 57 (sr [
gp 4,
pz 5 13] []
.ret)
 .skip)))
(sr [
mq 59 1,
mu 60 zwc 59,
mq 58 60,
xq 61 58 0,
xq 62 58 1,
tq 14 (.alloc zao pq),
mc 5 14 61,
mq 15 62] [1,58,59,60,61,62]
(sr [
mq 63 0,
gb 64 63,
fa 65 0 64,
fa 66 0 65,
ld 67 66,
mr 68 67,
mf 69 68 1,
fa 70 0 14,
mc 1 70 69] [63,64,65,66,67,68,69,70]
(.seq (.reg true [
mq 71 15,
gz 72 71,
gn 73 zas 72 25,
mq 74 0,
gb 75 74,
fa 76 0 75,
fa 77 0 76,
ld 78 77,
mr 79 78,
fh 80 79 1000,
gn 81 zas 80 5,
fo 82 1 2 73 81,
mu 83 zbj 82,
mq 16 83] [15,71,72,73,74,75,76,77,78,79,80,81,82,83])
(.seq (sr [
mq 84 16,
g0 85 84 0] [84]
(kh 85 (rg [
lq 86 5 14,
mu 87 zfp 86,
mq 16 87] [86,87])
 .skip))
(.seq (sr [
mq 88 16,
g0 89 88 0] [88]
(kh 89 (.reg true [
mq 90 0,
gb 91 90,
fa 92 0 91,
lq 93 5 14,
fx 94 zau 92 93,
mq 16 94] [90,91,92,93,94])
 .skip))
(.seq (sr [
mq 95 16,
my 96 95 0] [95]
(kh 96 (sr [
mq 97 16,
gp 4,
mq 5 97] [16,97]
.ret)
 .skip))
(.seq (.reg true [
mq 98 0,
gb 99 98,
fa 100 0 99,
lq 101 5 14,
tq 102 (.callU false (.k (.fn zaw [] [])) [.t 100,.t 101])] [0,98,99,100,101,102])
(sr [
fa 103 0 14,
ld 104 103,
mu 105 n_strconv_Itoa 104,
nn 106 [100,111,110,101,32] 105,
mq 4 106,
pz 5 0] [14,103,104,105,106]
.ret))))))))))))))⟩
def zxt:C:=
  (sr [
mh 8 7 6] []
(kg 8 0
(.seq (.block 1 (sr [
md 9 1 5 7,
ld 10 9,
mq 4 10] [9,10]
(sr [
mq 11 4,
my 12 11 0] [11]
(kh 12 (sr [
mq 13 4,
mq 2 13] [4,13]
.ret)
 .skip))))
(rg [
mf 14 7 1,
mq 7 14] [14]))))
def z1o:CF:=⟨[.tmp 2],
  (sr [
pz 2 0] [2]
(.seq (sr [
mq 5 0,
mr 6 5,
pz 7 0] [0]
(kj 0 [5,6,7] zxt))
(sr [
pz 2 0] []
.ret)))⟩
def zq8:C:=
  (sr [
mh 12 11 10] []
(kg 12 0
(.seq (.block 1 (sr [
mq 13 11,
md 14 11 9 11,
lq 15 11 14,
tq 4 (.alloc zai pg),
mq 3 13,
mc 11 4 15] [13,14,15]
(.seq (.reg true [
lq 16 11 4,
mu 17 zfu 16,
mq 18 0,
mq 19 3,
dc 20 11 18 19,
fa 21 0 4,
ld 22 21,
gv 23 zng 20 22,
fh 24 23 0,
gn 25 zcr 24 9,
fo 26 1 2 17 25,
mu 27 zcq 26,
mq 5 27] [3,4,16,17,18,19,20,21,22,23,24,25,26,27])
(sr [
mq 28 5,
my 29 28 0] [28]
(kh 29 (sr [
mq 30 5,
mq 2 30] [5,30]
.ret)
 .skip)))))
(rg [
mf 31 11 1,
mq 11 31] [31]))))
def ztb:CF:=⟨[.tmp 2],
  (sr [
pz 2 0] [2]
(.seq (sr [
mq 6 0,
mr 7 6,
fk 8 7 32] [6,7]
(kh 8 (sr [
pz 2 5] []
.ret)
 .skip))
(.seq (sr [
mq 9 0,
mr 10 9,
pz 11 0] []
(kj 0 [0,9,10,11] zq8))
(sr [
pz 2 0] []
.ret))))⟩
def zq6:C:=
  (sr [
mh 16 15 14] []
(kg 16 0
(.seq (.block 1 (sr [
mq 17 15,
md 18 18 13 15,
lq 19 18 18,
dy 4 zat,
mq 3 17,
mc 18 4 19] [17,18,19]
(.seq (.reg true [
lq 20 18 4,
mu 21 ziy 20,
mq 22 0,
mq 23 3,
dc 24 18 22 23,
fa 25 0 4,
fa 26 0 25,
ld 27 26,
gv 28 zkh 24 27,
fh 29 28 0,
gn 30 zcp 29 9,
fo 31 1 2 21 30,
mu 32 zco 31,
mq 5 32] [3,4,20,21,22,23,24,25,26,27,28,29,30,31,32])
(sr [
mq 33 5,
my 34 33 0] [33]
(kh 34 (sr [
mq 35 5,
mq 2 35] [5,35]
.ret)
 .skip)))))
(rg [
mf 36 15 1,
mq 15 36] [36]))))
def zq7:C:=
  (sr [
mh 40 39 38] []
(kg 40 2
(.seq (.block 3 (sr [
mq 41 39,
md 42 18 37 39,
lq 43 18 42,
dy 7 zat,
mq 6 41,
mc 18 7 43] [41,42,43]
(.seq (sr [
fa 44 0 7,
fa 45 5 44,
ld 46 45,
nz 47 46] [44,45,46]
(kh 47 (.exit 3)
 .skip))
(sr [
mq 48 0,
fa 49 0 7,
fa 50 5 49,
ld 51 50,
gv 52 zkh 48 51,
mq 8 52] [48,49,50,51,52]
(.seq (sr [
mq 53 8,
fy 54 53 0] [53]
(kh 54 (sr [
pz 2 10] []
.ret)
 .skip))
(sr [
mq 55 0,
mq 56 8,
md 57 18 55 56,
fa 58 0 57,
lq 59 13 58,
bh 9 zcx,
mc 13 9 59] [55,56,57,58,59]
(sr [
mq 60 8,
mq 61 6,
fw 62 60 61,
mq 63 62,
mz 64 63 5 9,
ge 65 63 64,
mz 66 63 0 7,
mz 67 63 0 66,
ge 68 63 67,
db 69 63 65 68,
ml 70 63 69,
mq 71 70,
mz 72 71 2 9,
ge 73 71 72,
mz 74 71 0 7,
mz 75 71 2 74,
ge 76 71 75,
du 77 71 73 76,
ml 78 71 77,
mq 79 78,
mz 80 79 6 9,
d5 81 79 3 80,
mz 82 79 0 7,
mz 83 79 6 82,
d5 84 79 3 83,
gq 85 79 false (.eqv (some [.int,.int,.int]) true (.t 81) (.t 84)),
ml 86 79 85] [6,7,8,9,60,61,62,63,64,65,66,67,68,69,70,71,72,73,74,75,76,77,78,79,80,81,82,83,84,85]
(kh 86 (sr [
pz 2 32] []
.ret)
 .skip))))))))
(rg [
mf 87 39 1,
mq 39 87] [87]))))
def zs9:CF:=⟨[.tmp 2],
  (sr [
pz 2 0] [2]
(.seq (sr [
mq 10 0,
mr 11 10,
fk 12 11 64] [10,11]
(kh 12 (sr [
pz 2 5] []
.ret)
 .skip))
(.seq (sr [
mq 13 0,
mr 14 13,
pz 15 0] []
(kj 0 [0,13,14,15] zq6))
(.seq (sr [
mq 37 0,
mr 38 37,
pz 39 0] []
(kj 2 [0,37,38,39] zq7))
(sr [
pz 2 0] []
.ret)))))⟩
def zx5:CF:=⟨[.tmp 2],
  (sr [
fc 2 zah 3 32] [2]
(sr [
mq 3 0,
tq 4 (.call true false (.k (.fn zb4 [] [])) [.t 3,.k (.fn zgt [] [])]),
mq 2 4] [0,3,4]
.ret))⟩
def zwt:CF:=⟨[.tmp 2],
  (sr [
f4 2] [2]
(sr [
mq 3 0,
bl 4,
bl 5,
tq 6 (.build [.z (.list 0 []),.z (.nilm),.z (.nilm)] [(0,1,.t 3),(1,1,.t 4),(2,1,.t 5)]),
mt 7 zbi 6,
mq 2 7] [0,3,4,5,6,7]
.ret))⟩
def zon:C:=
  (sr [
mh 17 16 15] []
(kg 17 0
(.seq (.block 1 (sr [
md 18 7 14 16,
lq 19 7 18,
kc 6 zac,
mc 7 6 19] [18,19]
(rg [
mq 20 0,
lq 21 7 6,
dz 22 zbr 20 21 1] [6,20,21,22])))
(rg [
mf 23 16 1,
mq 16 23] [23]))))
def zoo:C:=
  (sr [
mh 35 34 33] []
(kg 35 4
(.seq (.block 5 (sr [
md 36 2 32 34,
lq 37 2 36,
nr 11 zaa,
mc 2 11 37] [36,37]
(.seq (.reg true [
mq 38 0,
gb 39 38,
fa 40 1 39,
ld 41 40,
lq 42 2 11,
b8 43 0 41 42,
mq 44 0,
gb 45 44,
fa 46 0 45,
ld 47 46,
fa 48 0 11,
ld 49 48,
md 50 11 47 49,
fa 51 10 50,
ld 52 51,
fi 53 43 52] [38,39,40,41,42,43,44,45,46,47,48,49,50,51,52])
(kh 53 (rg [
mq 54 7,
lq 55 2 11,
gx 56 2 1 55,
f8 57 zaa 2 16 54 56,
mq 7 57] [11,54,55,56,57])
 .skip))))
(rg [
mf 58 34 1,
mq 34 58] [58]))))
def zop:C:=
  (sr [
mh 27 26 25] []
(kg 27 2
(.seq (.block 3 (sr [
md 28 7 24 26,
lq 29 7 28,
kc 9 zac,
mc 7 9 29] [28,29]
(sr [
mq 30 0,
lq 31 7 9,
n7 32 zch 30 31,
mr 33 32,
pz 34 0] [9,30,31]
(kj 4 [0,1,7,24,25,26,32,33,34] zoo))))
(rg [
mf 59 26 1,
mq 26 59] [59]))))
def zoq:C:=
  (sr [
mh 63 62 61] []
(kg 63 6
(.seq (.block 7 (sr [
md 64 7 60 62,
lq 65 7 64,
kc 13 zac,
mc 7 13 65] [64,65]
(rg [
mq 66 0,
lq 67 7 13,
dz 68 zbr 66 67 (-1)] [13,66,67,68])))
(rg [
mf 69 62 1,
mq 62 69] [69]))))
def zqk:CF:=⟨[.tmp 4],
  (sr [
fc 4 zaa 2 16] [4]
(.seq (sr [
mq 14 1,
mr 15 14,
pz 16 0] []
(kj 0 [0,1,14,15,16] zon))
(sr [
fc 7 zaa 2 16] []
(.seq (sr [
mq 24 1,
mr 25 24,
pz 26 0] []
(kj 2 [0,1,7,24,25,26] zop))
(.seq (sr [
mq 60 1,
mr 61 60,
pz 62 0] [1]
(kj 6 [0,7,60,61,62] zoq))
(sr [
mq 70 7,
fq 71 n_slices_SortFunc_Lallocate_window_allocate_window 70 n_allocate_board_refusing_1] [70,71]
(sr [
mq 72 7,
tq 73 (.callU false (.k (.fn zax [] [])) [.t 72]),
mq 4 73] [7,72,73]
.ret)))))))⟩
def z1q:CF:=⟨[.tmp 2],
  (sr [
nw 2] [2]
(sr [
mq 4 0,
mu 5 zme 4,
tq 3 (.alloc zsx [.z (.list 0 [])]),
mc 1 3 5] [0,4,5]
(sr [
f0 6 zbz 3,
mq 2 6] [3,6]
.ret)))⟩
def zqd:C:=
  (sr [
mh 42 41 40] []
(kg 42 2
(.seq (.block 3 (sr [
md 43 1 39 41,
ld 44 43,
mq 10 44] [43,44]
(sr [
mq 45 8,
mq 46 10,
kf 47 0 1 45 1 1 46,
nr 11 zaj,
mc 2 11 47] [10,45,46,47]
(sr [
lq 48 2 2,
ld 49 3,
lq 50 2 11,
b6 51 zhj 48 49 50] [48,49,50]
(kh 51 (rg [
mq 52 6,
lq 53 2 11,
gx 54 2 1 53,
f8 55 zaj 2 16 52 54,
mq 6 55] [11,52,53,54,55])
 .skip)))))
(rg [
mf 56 41 1,
mq 41 56] [56]))))
def zqe:C:=
  (sr [
mh 31 30 29] []
(kg 31 0
(.seq (.block 1 (sr [
md 32 1 28 30,
ld 33 32,
mq 8 33] [32,33]
(sr [
ld 34 3,
fm 35 2 1 2 1,
ld 36 35,
md 37 18 34 36,
lq 38 18 37,
mu 39 zbl 38,
mr 40 39,
pz 41 0] [34,35,36,37,38]
(kj 2 [2,3,5,6,8,28,29,30,39,40,41] zqd))))
(rg [
mf 57 30 1,
mq 30 57] [57]))))
def zr7:CF:=⟨[.tmp 4],
  (sr [
mt 2 za8 0,
mt 3 zcw 1,
fc 4 zaj 2 16] [0,1,4]
(.seq (sr [
fm 12 2 1 2 1,
ld 13 12,
fy 14 13 0] [12,13]
(kh 14 (sr [
ld 15 3,
fm 16 2 1 2 0,
ld 17 16,
md 18 18 15 17,
lq 19 18 18,
mu 20 zbl 19,
tq 21 (.call true false (.k (.fn zdb [] [])) [.t 20,.k (.fn zeg [] [])]),
mq 4 21] [2,3,15,16,17,18,19,20,21]
.ret)
 .skip))
(sr [
di 22 zj9 3 2,
tq 5 (.alloc zpg pw),
mc 1 5 22] [22]
(sr [
fc 6 zaj 2 16] []
(.seq (sr [
ld 23 3,
fm 24 2 1 2 0,
ld 25 24,
md 26 18 23 25,
lq 27 18 26,
mu 28 zbl 27,
mr 29 28,
pz 30 0] [23,24,25,26,27]
(kj 0 [2,3,5,6,28,29,30] zqe))
(sr [
mq 58 6,
f0 59 zka 5,
gg 60 zcl 58 59] [5,58,59,60]
(sr [
mq 61 6,
mq 4 61] [6,61]
.ret)))))))⟩
def zos:C:=
  (sr [
mq 8 12] [12]
(rg [
mq 9 13] [13]))
def zot:C:=
  (.block 1 (.reg true [
ld 14 7,
ld 15 4,
mq 16 9,
md 17 18 15 16,
lq 18 18 17,
mq 19 8,
dv 20 2 1 5 19,
ld 21 20,
gv 22 zf8 18 21,
gd 23 zac 7 80 14 22,
mc 1 7 23] [4,5,7,8,9,14,15,16,17,18,19,20,21,22,23]))
def zqm:CF:=⟨[.tmp 6],
  (sr [
mt 3 za8 0,
mt 4 zcw 1,
mt 5 zaj 2,
gh 6 zac 7 80] [0,1,2]
(sr [
tq 7 (.alloc zs4 [.own ⟨false,zac,7,80⟩])] []
(.seq (sr [
lq 10 2 3,
gu 11 zdt 10] [3,10]
(.block 0 (.rangeFn 26 (.t 11) [12,13] zos zot)))
(sr [
ld 24 7,
mq 6 24] [7,24]
.ret))))⟩
def ztr:C:=
  (sr [
mq 6 10] [10]
(rg [
mq 7 11] [11]))
def zts:C:=
  (.block 1 (.reg true [
ld 12 4,
mq 13 7,
ld 14 4,
mq 15 7,
mq 16 6,
dv 17 2 1 5 16,
ld 18 17,
md 19 3 12 13,
fa 20 1 19,
⟨none,none,.storeR 1 (.t 20) (.t 18) [4]⟩,
md 21 3 14 15,
fa 22 2 21,
b7 1 22] [4,5,6,7,12,13,14,15,16,17,18,19,20,21,22]))
def zwv:CF:=⟨[],
  (sr [
mt 3 za8 0,
mt 4 zb6 1,
mt 5 zaj 2] [0,1,2]
(sr [
lq 8 2 3,
gu 9 zdt 8] [3,8]
(.block 0 (.rangeFn 24 (.t 9) [10,11] ztr zts))))⟩
def zrt:C:=
  (sr [
mh 18 17 16] []
(kg 18 0
(.seq (.block 1 (sr [
md 19 7 15 17,
lq 20 7 19,
kc 11 zac,
mc 7 11 20] [19,20]
(rg [
mq 21 0,
lq 22 7 11,
mq 23 4,
d3 24 zbr 21 22 23] [11,21,22,23,24])))
(rg [
mf 25 17 1,
mq 17 25] [25]))))
def ztx:CF:=⟨[],
  (sr [
mt 7 za8 2,
mt 8 zaj 3] [2,3]
(sr [
lq 12 2 7,
mq 13 1,
lq 14 2 8,
b6 15 zcv 12 13 14,
mr 16 15,
pz 17 0] [1,7,8,12,13,14]
(kj 0 [0,4,15,16,17] zrt)))⟩
def zvn:CF:=⟨[.tmp 4],
  (sr [
pz 4 0] [4]
(.seq (sr [
mq 6 0,
mu 7 zft 6,
mq 5 7] [6,7]
(sr [
mq 8 5,
my 9 8 0] [8]
(kh 9 (sr [
mq 10 5,
mq 4 10] [5,10]
.ret)
 .skip)))
(sr [
mq 11 0,
mq 12 1,
gv 13 zhg 11 12,
mq 4 13] [0,1,11,12,13]
.ret)))⟩
def zr5:CF:=⟨[.cell 4 (some 2),.tmp 5],
  (sr [
mt 2 za8 0,
nr 4 zaj,
mg 5] [0,5]
(sr [
mq 7 1,
fm 8 2 1 2 0,
ld 9 8,
md 10 3 7 9,
fa 11 1 10,
ld 12 11,
tq 13 (.build pi [(0,1,.t 12),(1,1,kq (-1))]),
nr 6 zaj,
mc 2 6 13] [7,8,9,10,11,12,13]
(.seq (sr [
fm 14 2 1 2 1,
ld 15 14,
fh 16 15 0] [14,15]
(kh 16 (rg [
mq 17 1,
fm 18 2 1 2 1,
ld 19 18,
md 20 3 17 19,
fa 21 1 20,
ld 22 21,
fm 23 2 1 6 1,
mc 1 23 22] [17,18,19,20,21,22,23])
 .skip))
(.seq (.reg true [
lq 24 2 6,
mq 25 1,
fm 26 2 1 2 0,
ld 27 26,
tq 28 (.idxAddrD 3 (.t 25) (.t 27)),
tq 29 (.fieldAddrD 2 (.t 28)),
tq 30 (.loadD none (.t 29)),
⟨none,none,.storeR 2 (.t 4) (.t 24) [2]⟩,
mq 5 30] [1,2,6,24,25,26,27,28,29,30])
.ret))))⟩
def zwl:C:=
  (sr [
mh 11 10 9] []
(kg 11 0
(.seq (.block 1 (sr [
mq 12 10,
md 13 3 8 10,
lq 14 3 13,
bf 7 zah,
mq 6 12,
mc 3 7 14] [12,13,14]
(sr [
fa 15 2 7,
ld 16 15] [15]
(kh 16 (.reg true [
mq 17 5,
mq 18 0,
mq 19 6,
md 20 18 18 19,
lq 21 18 20,
fa 22 1 7,
ld 23 22,
gv 24 zf8 21 23,
f8 25 zac 7 80 17 24,
mq 5 25] [6,7,17,18,19,20,21,22,23,24,25])
 .skip))))
(rg [
mf 26 10 1,
mq 10 26] [26]))))
def zzr:CF:=⟨[.tmp 4],
  (sr [
fc 4 zac 7 80] [4]
(sr [
fc 5 zac 7 80] []
(.seq (sr [
mq 8 1,
mr 9 8,
pz 10 0] [1]
(kj 0 [0,5,8,9,10] zwl))
(sr [
mq 27 5,
tq 28 (.callU false (.k (.fn za6 [] [])) [.t 27,.k (.fn zkw [] [])])] [27,28]
(sr [
mq 29 5,
mq 4 29] [5,29]
.ret)))))⟩
def zs6:C:=
  (sr [
mh 13 12 11] []
(kg 13 0
(.seq (.block 1 (sr [
md 14 2 10 12,
lq 15 2 14,
nr 7 zaa,
mc 2 7 15] [14,15]
(rg [
mq 16 0,
gb 17 16,
fa 18 1 17,
ld 19 18,
lq 20 2 7,
b8 21 0 19 20,
mq 22 2,
gf 23 21 22,
bw 19 20 23] [7,16,17,18,19,20,21,22,23,24,25])))
(rg [
mf 26 12 1,
mq 12 26] [26]))))
def zvm:CF:=⟨[],
  (sr [
mt 4 zac 1] [1]
(sr [
mq 8 0,
lq 9 7 4,
n7 10 zch 8 9,
mr 11 10,
pz 12 0] [4,8,9]
(kj 0 [0,2,10,11,12] zs6)))⟩
def z3f:CF:=⟨[.tmp 4],
  (sr [
pz 4 0] [4]
(.seq (sr [
mq 5 0] [0]
(kh 5 (sr [
mq 6 1,
mq 4 6] [1,6]
.ret)
 .skip))
(sr [
pz 4 0] []
.ret)))⟩
def zfe:C:=
  (.seq (.reg true [
mq 15 4,
mq 16 0,
gb 17 16,
fa 18 0 17,
ld 19 18,
fa 20 0 3,
ld 21 20,
md 22 11 19 21,
fa 23 10 22,
ld 24 23,
fi 25 15 24] [3,4,15,16,17,18,19,20,21,22,23,24])
(kh 25 (sr [
fe 2] []
.ret)
 .skip))
def zqj:CF:=⟨[.tmp 2],
  (sr [
mg 2] [2]
(.seq (.rangeM [mq 5 0,
gb 6 5,
fa 7 1 6,
ld 8 7] 9 (.t 8) 0 1 12 [0,9] [xq 13 12 0,
xq 14 12 1,
nr 3 zaa,
mc 2 3 13,
mq 4 14] [12,13,14] zfe)
(sr [
mg 2] []
.ret)))⟩
def ybr:CF:=⟨[.tmp 2],
  (sr [
gp 2] [2]
(.seq (sr [
mq 3 0,
fy 4 3 10] [3]
(kh 4 (sr [
mq 5 0,
mu 6 zoa 5,
mq 2 6] [0,5,6]
.ret)
 .skip))
(sr [
mq 7 0,
cy 8 7 10,
mu 9 zp3 8,
mq 10 0,
ba 11 10 10,
mu 12 zoa 11,
gf 13 9 12,
mq 2 13] [0,7,8,9,10,11,12,13]
.ret)))⟩
def z9a:CF:=⟨[.tmp 6,.tmp 7],
  (sr [
gi 6 0,
pz 7 0] [6,7]
(sr [
mq 11 0,
mq 12 1,
mu 13 zc7 12,
mq 14 2,
mu 15 zc7 14,
fo 16 1 2 13 15,
dt 17 zgl 11 16,
mq 10 17,
xq 18 10 0,
xq 19 10 1,
mq 8 18,
mq 9 19] [0,10,11,12,13,14,15,16,17,18,19]
(.seq (sr [
mq 20 9,
my 21 20 0] [20]
(kh 21 (sr [
mq 22 9,
gi 6 0,
mq 7 22] [9,22]
.ret)
 .skip))
(sr [
mq 23 8,
mq 24 1,
mq 25 2,
tq 26 (.call true true (.k (.fn zdv [] [])) [.t 23,.t 24,.t 25]),
mq 6 26,
pz 7 0] [1,2,8,23,24,25,26]
.ret))))⟩
def zwn:C:=
  (.seq (sr [
mq 11 5,
mq 12 0,
mr 13 12,
mh 14 11 13] [11,12,13]
(kh 14 .skip
 (.exit 0)))
(.seq (.block 1 (.seq (.reg true [
mq 17 0,
mq 18 5,
md 19 2 17 18,
lq 20 2 19,
mq 21 1,
mq 22 5,
md 23 2 21 22,
lq 24 2 23,
tq 25 (.eqv (some [.str,.int]) true (.t 20) (.t 24))] [17,18,19,20,21,22,23,24])
(kh 25 (sr [
mg 4] []
.ret)
 .skip)))
(rg [
mq 15 5,
mf 16 15 1,
mq 5 16] [15,16])))
def zz5:CF:=⟨[.tmp 4],
  (sr [
mg 4] [4]
(.seq (sr [
mq 6 0,
mr 7 6,
mq 8 1,
mr 9 8,
f9 10 7 9] [6,7,8,9]
(kh 10 (sr [
mg 4] []
.ret)
 .skip))
(.seq (sr [
pz 5 0] []
(kj 0 [0,1,5] zwn))
(sr [
fe 4] []
.ret))))⟩
def zxx:C:=
  (sr [
mh 14 13 12] []
(kg 14 0
(.seq (.block 1 (sr [
mq 15 13,
md 16 3 11 13,
lq 17 3 16,
bf 9 zah,
mq 8 15,
mc 3 9 17] [15,16,17]
(sr [
mq 18 0,
mq 19 8,
md 20 18 18 19,
fa 21 0 20,
fa 22 6 21,
lq 23 3 22,
tq 10 (.alloc zck pu),
mc 3 10 23] [8,18,19,20,21,22,23]
(sr [
fa 24 2 9,
ld 25 24,
mq 26 25,
gy 27 26 0 10,
ga 28 26 27,
mn 29 26 2,
ni 30 26 28 29,
me 31 26 30,
mq 32 31,
mn 33 32 2,
gy 34 32 1 10,
ga 35 32 34,
ni 36 32 33 35,
me 37 32 36] [10,24,25,26,27,28,29,30,31,32,33,34,35,36]
(kh 37 (rg [
mq 38 7,
fa 39 0 9,
ld 40 39,
fa 41 1 9,
ld 42 41,
tq 43 (.build pr [(0,1,.t 40),(1,1,.t 42)]),
gx 44 2 1 43,
f8 45 zap 2 24 38 44,
mq 7 45] [9,38,39,40,41,42,43,44,45])
 .skip)))))
(rg [
mf 46 13 1,
mq 13 46] [46]))))
def z12:CF:=⟨[.tmp 6],
  (sr [
fc 6 zap 2 24] [6]
(sr [
fc 7 zap 2 24] []
(.seq (sr [
mq 11 1,
mr 12 11,
pz 13 0] [1]
(kj 0 [0,2,7,11,12,13] zxx))
(sr [
mq 47 7,
tq 48 (.callU false (.k (.fn zbt [] [])) [.t 47,.k (.fn zes [] [])])] [47,48]
(sr [
mq 49 7,
mq 6 49] [7,49]
.ret)))))⟩
def z6b:CF:=⟨[.tmp 4,.tmp 5],
  (sr [
f4 4,
pz 5 0] [4,5]
(sr [
mq 10 0,
gu 11 zg5 10,
mq 9 11,
xq 12 9 0,
xq 13 9 1,
xq 14 9 2,
mq 6 12,
mq 7 13,
mq 8 14] [0,7,9,10,11,12,13,14]
(.seq (sr [
mq 15 8,
mq 16 1,
mu 17 zbj 16,
fo 18 1 2 15 17,
mu 19 zbj 18,
mq 8 19] [1,15,16,17,18,19]
(sr [
mq 20 8,
my 21 20 0] [20]
(kh 21 (sr [
mq 22 8,
f4 4,
mq 5 22] [8,22]
.ret)
 .skip)))
(sr [
mq 23 6,
gb 24 23,
fa 25 1 24,
mq 4 25,
pz 5 0] [6,23,24,25]
.ret))))⟩
def z6e:CF:=⟨[.tmp 2],
  (sr [
pz 2 0] [2]
(sr [
mq 3 0,
mu 4 zdo 3,
gz 5 4,
gn 6 zas 5 8,
mq 2 6] [0,3,4,5,6]
.ret))⟩
def zqs:CF:=⟨[.tmp 4,.tmp 5],
  (sr [
mt 2 zb8 0,
mt 3 zad 1,
gi 4 0,
pz 5 0] [0,1,4,5]
(.seq (sr [
ld 7 2,
ld 8 3,
fx 9 zb1 7 8,
nj 10 0 9] [7,8,9]
(kh 10 (sr [
gi 4 0,
pz 5 10] []
.ret)
 .skip))
(sr [
di 11 zc2 2 3,
mq 6 11] [3,11]
(sr [
ld 12 2,
gb 13 12,
fa 14 1 13,
ld 15 14,
mq 16 6,
gg 17 zd8 15 16,
fq 18 zbp 17 zlp,
mq 4 18,
pz 5 0] [2,6,12,13,14,15,16,17,18]
.ret))))⟩
def yez:CF:=⟨[.tmp 4],
  (sr [
mt 2 zck 0,
mg 4] [0,4]
(sr [
lq 5 3 2,
mu 6 zfq 5,
my 7 6 0,
mq 8 7,
mz 9 8 1 2,
ge 10 8 9,
mz 11 8 0 2,
ge 12 8 11,
gq 13 8 false (.bin .sub (.t 10) (.t 12)),
mw 14 8 1,
gq 15 8 false (.bin .lss (.t 13) (.t 14)),
ml 16 8 15,
mq 4 16] [1,2,5,6,7,8,9,10,11,12,13,14,15,16]
.ret))⟩
def zye:CF:=⟨[.tmp 2],
  (sr [
mt 1 zhp 0,
pz 2 0] [0,2]
(.seq (sr [
fa 4 0 1,
ld 5 4,
mu 6 ze8 5,
gz 7 6] [4,5,6]
(kh 7 (sr [
pz 2 8] []
.ret)
 .skip))
(.seq (sr [
fa 8 1 1,
ld 9 8,
df 10 9 [65],
mq 11 10,
gy 12 11 1 1,
ga 13 11 12,
cv 14 11 13 [68],
me 15 11 14,
mq 16 15,
gy 17 16 1 1,
ga 18 16 17,
cv 19 16 18 [84],
me 20 16 19] [8,9,10,11,12,13,14,15,16,17,18,19]
(kh 20 (sr [
pz 2 13] []
.ret)
 .skip))
(.seq (sr [
fa 21 2 1,
ld 22 21,
mu 23 zlq 22,
gz 24 23] [21,22,23]
(kh 24 (sr [
pz 2 8] []
.ret)
 .skip))
(.seq (sr [
fa 25 3 1,
ld 26 25,
fg 27 zfr 26 1 1440,
mq 28 27,
mz 29 28 4 1,
ge 30 28 29,
gq 31 28 false (cl zfr [.t 30,kq 1,kq 1440]),
ml 32 28 31,
mq 33 32,
mz 34 33 5 1,
ge 35 33 34,
gq 36 33 false (cl zfr [.t 35,kq 0,kq 1439]),
ml 37 33 36,
mq 38 37,
mz 39 38 6 1,
ge 40 38 39,
gq 41 38 false (cl zfr [.t 40,kq 0,kq 1439]),
ml 42 38 41] [25,26,27,28,29,30,31,32,33,34,35,36,37,38,39,40,41]
(kh 42 (sr [
pz 2 3] []
.ret)
 .skip))
(.seq (sr [
fa 43 5 1,
ld 44 43,
fa 45 6 1,
ld 46 45,
fi 47 44 46] [43,44,45,46]
(kh 47 (sr [
pz 2 11] []
.ret)
 .skip))
(.seq (sr [
fa 48 7 1,
lq 49 3 48,
mu 50 zfq 49,
mq 3 50] [48,49,50]
(sr [
mq 51 3,
my 52 51 0] [51]
(kh 52 (sr [
mq 53 3,
mq 2 53] [3,53]
.ret)
 .skip)))
(.seq (sr [
fa 54 10 1,
ld 55 54,
fg 56 zfr 55 0 999999999] [1,54,55]
(kh 56 (sr [
pz 2 3] []
.ret)
 .skip))
(sr [
pz 2 0] []
.ret)))))))))⟩
def z6j:CF:=⟨[.tmp 2],
  (sr [
mt 1 zhp 0,
pz 2 0] [0,2]
(.seq (.reg true [
fa 3 6 1,
ld 4 3,
fa 5 4 1,
ld 6 5,
nl 7 4 6,
fa 8 5 1,
ld 9 8,
fa 10 4 1,
ld 11 10,
gf 12 9 11,
gk 13 12 1,
fa 14 4 1,
ld 15 14,
nl 16 13 15,
m8 17 7 16,
mf 18 17 1,
mq 2 18] [1,3,4,5,6,7,8,9,10,11,12,13,14,15,16,17,18])
.ret))⟩
def z1k:C:=
  (.seq (sr [
mq 7 4,
fa 8 1 1,
ld 9 8,
na 10 7 9] [7,8,9]
(kh 10 .skip
 (.exit 0)))
(.seq (.block 1 (sr [
lq 13 3 1,
mq 14 4,
gv 15 zxc 13 14] [13,14]
(kh 15 (rg [
mq 16 3,
mq 17 4,
gx 18 1 1 17,
gd 19 zc0 1 8 16 18,
mq 3 19] [16,17,18,19])
 .skip)))
(rg [
mq 11 4,
mf 12 11 1,
mq 4 12] [11,12])))
def z6g:CF:=⟨[.tmp 2],
  (sr [
mt 1 zck 0,
gh 2 zc0 1 8] [0,2]
(sr [
gh 3 zc0 1 8] []
(.seq (sr [
fa 5 0 1,
ld 6 5,
mq 4 6] [5,6]
(kj 0 [1,3,4] z1k))
(sr [
mq 20 3,
mq 2 20] [3,20]
.ret))))⟩
def zzl:C:=
  (.seq (sr [
mq 6 5,
mq 7 0,
mr 8 7,
mh 9 6 8] [6,7,8]
(kh 9 .skip
 (.exit 0)))
(.seq (.block 1 (sr [
mq 12 0,
mq 13 5,
md 14 11 12 13,
fa 15 0 14,
ld 16 15,
mq 17 1,
fw 18 16 17] [12,13,14,15,16,17]
(kh 18 (sr [
mq 19 5,
mq 4 19] [5,19]
.ret)
 .skip)))
(rg [
mq 10 5,
mf 11 10 1,
mq 5 11] [10,11])))
def z3o:CF:=⟨[.tmp 4],
  (sr [
pz 4 0] [4]
(.seq (sr [
pz 5 0] []
(kj 0 [0,1,5] zzl))
(sr [
pz 4 (-1)] []
.ret)))⟩
def z9f:CF:=⟨[.tmp 2],
  (sr [
mt 1 zcx 0,
mg 2] [0,2]
(sr [
fa 3 0 1,
ld 4 3,
nv 5 4,
dq 6 5 40,
mq 7 6,
gy 8 7 1 1,
ga 9 7 8,
cd 10 7 9,
nh 11 7 10 40,
me 12 7 11,
mq 13 12,
gy 14 13 2 1,
ga 15 13 14,
cd 16 13 15,
nh 17 13 16 40,
me 18 13 17,
mq 19 18,
gy 20 19 3 1,
ga 21 19 20,
cd 22 19 21,
nh 23 19 22 40,
me 24 19 23,
mq 25 24,
gy 26 25 4 1,
ga 27 25 26,
cd 28 25 27,
nh 29 25 28 40,
me 30 25 29,
mq 31 30,
gy 32 31 5 1,
ga 33 31 32,
cd 34 31 33,
nh 35 31 34 40,
me 36 31 35,
mq 2 36] [1,3,4,5,6,7,8,9,10,11,12,13,14,15,16,17,18,19,20,21,22,23,24,25,26,27,28,29,30,31,32,33,34,35,36]
.ret))⟩
def zv2:CF:=⟨[.tmp 2],
  (sr [
mt 1 zcx 0,
pz 2 0] [0,2]
(.seq (sr [
fa 4 0 1,
ld 5 4,
mu 6 ze8 5,
gz 7 6,
mq 8 7,
mz 9 8 1 1,
ge 10 8 9,
cq 11 8 ze8 10,
f5 12 8 11,
ml 13 8 12,
mq 14 13,
mz 15 14 4 1,
ge 16 14 15,
cq 17 14 ze8 16,
f5 18 14 17,
ml 19 14 18,
mq 20 19,
mz 21 20 3 1,
ge 22 20 21,
cq 23 20 zkl 22,
f5 24 20 23,
ml 25 20 24,
mq 26 25,
mz 27 26 5 1,
ge 28 26 27,
cq 29 26 zkl 28,
f5 30 26 29,
ml 31 26 30] [4,5,6,7,8,9,10,11,12,13,14,15,16,17,18,19,20,21,22,23,24,25,26,27,28,29,30]
(kh 31 (sr [
pz 2 8] []
.ret)
 .skip))
(.seq (sr [
fa 32 2 1,
ld 33 32,
df 34 33 [65],
mq 35 34,
gy 36 35 2 1,
ga 37 35 36,
cv 38 35 37 [68],
me 39 35 38] [32,33,34,35,36,37,38]
(kh 39 (sr [
pz 2 13] []
.ret)
 .skip))
(.seq (sr [
fa 40 5 1,
ld 41 40,
fa 42 0 1,
ld 43 42,
fw 44 41 43] [40,41,42,43]
(kh 44 (sr [
pz 2 32] []
.ret)
 .skip))
(sr [
fa 45 6 1,
lq 46 3 45,
mu 47 zfq 46,
mq 3 47] [45,46,47]
(.seq (sr [
mq 48 3,
my 49 48 0] [48]
(kh 49 (sr [
mq 50 3,
mq 2 50] [3,50]
.ret)
 .skip))
(.seq (.reg true [
fa 51 9 1,
ld 52 51,
fg 53 zdc 52 0 1439,
fa 54 10 1,
ld 55 54,
fg 56 zdc 55 0 999,
fa 57 11 1,
ld 58 57,
fg 59 zdc 58 1 9,
fa 60 12 1,
ld 61 60,
fg 62 zdc 61 0 99,
tq 63 (.mkList 1 4 [.t 53,.t 56,.t 59,.t 62]),
mu 64 zn9 63,
mq 2 64] [1,51,52,53,54,55,56,57,58,59,60,61,62,63,64])
.ret)))))))⟩
def ybn:C:=
  (.seq (sr [
mq 6 5,
mq 7 0,
mr 8 7,
mh 9 6 8] [6,7,8]
(kh 9 .skip
 (.exit 0)))
(.seq (.block 1 (sr [
mq 12 0,
mq 13 5,
md 14 13 12 13,
fa 15 0 14,
ld 16 15,
mq 17 1,
fw 18 16 17] [12,13,14,15,16,17]
(kh 18 (sr [
mq 19 5,
mq 4 19] [5,19]
.ret)
 .skip)))
(rg [
mq 10 5,
mf 11 10 1,
mq 5 11] [10,11])))
def ykl:CF:=⟨[.tmp 4],
  (sr [
pz 4 0] [4]
(.seq (sr [
pz 5 0] []
(kj 0 [0,1,5] ybn))
(sr [
pz 4 (-1)] []
.ret)))⟩
def z1h:C:=
  (sr [
mh 8 7 6] []
(kg 8 0
(.seq (.block 1 (sr [
md 9 1 5 7,
ld 10 9,
mq 4 10] [9,10]
(sr [
mq 11 4,
my 12 11 0] [11]
(kh 12 (sr [
mq 13 4,
mq 2 13] [4,13]
.ret)
 .skip))))
(rg [
mf 14 7 1,
mq 7 14] [14]))))
def z6c:CF:=⟨[.tmp 2],
  (sr [
pz 2 0] [2]
(.seq (sr [
mq 5 0,
mr 6 5,
pz 7 0] [0]
(kj 0 [5,6,7] z1h))
(sr [
pz 2 0] []
.ret)))⟩
def z9c:CF:=⟨[.tmp 4],
  (sr [
pz 4 0] [4]
(.seq (sr [
mq 5 0] [0]
(kh 5 (sr [
mq 6 1,
mq 4 6] [1,6]
.ret)
 .skip))
(sr [
pz 4 0] []
.ret)))⟩
def z9h:CF:=⟨[.tmp 4,.tmp 5,.tmp 6],
  (sr [
gp 4,
gp 5,
mg 6] [4,5,6]
(sr [
mq 7 0,
mq 8 1,
gv 9 zjo 7 8,
xq 10 9 0,
xq 11 9 1,
xq 12 9 2,
mq 4 10,
mq 5 11,
mq 6 12] [0,1,7,8,9,10,11,12]
.ret))⟩
def zyc:CF:=⟨[.tmp 0],
  (sr [
bv 0] [0]
(sr [
bl 1,
cj 2 0 1 4 1 1 2 2 1 znp,
gj 1 [115,108,111,116] 2,
cj 3 0 1 3 1 1 2 2 1 znq,
gj 1 [100,97,121] 3,
cj 4 0 1 2 1 1 1 2 1 znr,
gj 1 [99,111,117,110,116,115] 4,
cj 5 0 1 2 1 1 0 2 1 zns,
gj 1 [114,101,115,116,115] 5,
cj 6 0 1 1 1 1 0 2 1 znt,
gj 1 [111,112,101,110] 6,
mq 7 1,
mq 0 7] [1,2,3,4,5,6,7]
.ret))⟩
def zs8:C:=
  (sr [
mh 36 35 34] []
(kg 36 0
(.seq (.block 1 (sr [
md 37 1 33 35,
ld 38 37,
mq 11 38] [37,38]
(sr [
mq 40 11,
mu 41 znh 40,
mq 39 41,
xq 42 39 0,
xq 43 39 1,
mq 12 42,
mq 13 43] [11,39,40,41,42,43]
(.seq (sr [
mq 44 13,
gz 45 44] [13,44]
(kh 45 (sr [
gp 6,
pz 7 25] []
.ret)
 .skip))
(rg [
mq 46 9,
mq 47 12,
gx 48 1 1 47,
gd 49 zc0 1 8 46 48,
mq 9 49] [12,46,47,48,49])))))
(rg [
mf 50 35 1,
mq 35 50] [50]))))
def zvu:CF:=⟨[.tmp 6,.tmp 7],
  (sr [
mt 4 zp7 1,
gp 6,
pz 7 0] [1,6,7]
(sr [
mq 16 2,
d7 17 n_strings_Split 16 [32],
mq 8 17] [2,16,17]
(.seq (sr [
mq 18 8,
mr 19 18,
fa 20 0 4,
ld 21 20,
f9 22 19 21,
mq 23 22,
mw 24 23 8,
gq 25 23 false (cl zd7 [.t 24,.k (.d (.str []))]),
ml 26 23 25] [18,19,20,21,22,23,24,25]
(kh 26 (sr [
gp 6,
pz 7 25] []
.ret)
 .skip))
(sr [
gh 9 zc0 1 8] []
(.seq (sr [
mq 27 8,
mq 28 8,
mr 29 28,
fa 30 1 4,
ld 31 30,
m8 32 29 31,
d9 33 1 27 32,
mr 34 33,
pz 35 0] [27,28,29,30,31,32]
(kj 0 [0,4,8,9,33,34,35] zs8))
(.seq (.reg true [
fa 52 2 4,
ld 53 52,
mq 54 0,
gb 55 54,
fa 56 0 55,
fa 57 1 56,
mq 58 8,
mq 59 9,
tq 60 (.callU true (.t 53) [.t 57,.t 58,.t 59]),
mq 51 60,
xq 61 51 0,
xq 62 51 1,
mq 14 61,
mq 15 62] [0,4,8,9,51,52,53,54,55,56,57,58,59,60,61,62])
(.seq (sr [
mq 63 15,
my 64 63 0] [63]
(kh 64 (sr [
mq 65 15,
gp 6,
mq 7 65] [15,65]
.ret)
 .skip))
(.seq (sr [
mq 66 14,
mr 67 66,
g0 68 67 0] [66,67]
(kh 68 (sr [
tq 6 (.mv (.k (.d (.str [110,111,110,101])))),
pz 7 0] []
.ret)
 .skip))
(sr [
mq 69 14,
d7 70 n_strings_Join 69 [32],
mq 6 70,
pz 7 0] [14,69,70]
.ret)))))))))⟩
def z6d:CF:=⟨[.tmp 0],
  (sr [
bv 0] [0]
(sr [
bl 1,
f7 2 0 1 2 1 1 4 2 1 za0 3 1 za1,
gj 1 [101,110,116,101,114] 2,
f7 3 0 1 2 1 1 4 2 1 za0 3 1 za1,
gj 1 [114,117,108,101] 3,
f7 4 0 1 3 1 1 4 2 1 za0 3 1 za1,
gj 1 [102,111,108,108,111,119] 4,
f7 5 0 1 1 1 1 1 2 1 zbk 3 1 zkj,
gj 1 [114,101,118,101,114,115,101] 5,
f7 6 0 1 2 1 1 1 2 1 zbb 3 1 zc6,
gj 1 [99,111,109,112,108,97,105,110] 6,
f7 7 0 1 1 1 1 2 2 1 zbf 3 1 zce,
gj 1 [100,101,99,105,100,101] 7,
mq 8 1,
mq 0 8] [1,2,3,4,5,6,7,8]
.ret))⟩
def z1i:C:=
  (sr [
mh 50 49 48] []
(kg 50 0
(.seq (.block 1 (.reg true [
fa 51 2 7,
ld 52 51,
mq 53 6,
tq 54 (.callR true (.t 53) [] [7]),
gx 55 1 1 54,
gd 56 zad 1 16 52 55,
fa 57 2 7,
mc 1 57 56] [51,52,53,54,55,56,57]))
(rg [
mf 58 49 1,
mq 49 58] [58]))))
def z1j:C:=
  (sr [
mh 62 61 60] []
(kg 62 2
(.seq (.block 3 (sr [
mq 64 6,
tq 65 (.call true true (.t 64) []),
mu 66 znh 65,
mq 63 66,
xq 67 63 0,
xq 68 63 1,
mq 10 67,
mq 11 68] [63,64,65,66,67,68]
(.seq (sr [
mq 69 11,
gz 70 69] [11,69]
(kh 70 (sr [
bn 71 0 zad 1 16 zc0 1 8,
mc 5 2 71,
mg 3] [71]
.ret)
 .skip))
(rg [
fa 72 3 7,
ld 73 72,
mq 74 10,
gx 75 1 1 74,
gd 76 zc0 1 8 73 75,
fa 77 3 7,
mc 1 77 76] [10,72,73,74,75,76,77]))))
(rg [
mf 78 61 1,
mq 61 78] [78]))))
def z6f:CF:=⟨[.cell 2 (some 5),.tmp 3],
  (sr [
bz 2 zao 0 zad 1 16 zc0 1 8,
mg 3] [3]
(sr [
mq 12 0,
d7 13 n_strings_Split 12 [32],
mq 4 13] [0,12,13]
(sr [
mq 14 4,
tq 15 (.build [.z (.list 0 [])] [(0,1,.t 14)]),
mt 16 z18 15,
mq 5 16] [14,15,16]
(sr [
mq 17 5,
tq 18 (.mkFunc znu [.t 17] []),
mq 6 18] [5,17,18]
(sr [
mq 19 6,
tq 20 (.call true true (.t 19) []),
tq 21 (.build [.z (.int .i64 0),.z (.str []),.own ⟨false,zad,1,16⟩,.own ⟨false,zc0,1,8⟩,.z (.str [])] [(1,1,.t 20)]),
bz 7 zao 0 zad 1 16 zc0 1 8,
mc 5 7 21] [19,20,21]
(.seq (.reg true [
bp 23 zgm,
fa 24 1 7,
ld 25 24,
cc 26 0 0 23 25,
mq 22 26,
xq 27 22 0,
xq 28 22 1,
tq 8 (.alloc zq3 pl),
mc 4 8 27,
mq 9 28] [22,23,24,25,26,27,28])
(.seq (sr [
mq 29 9,
gz 30 29,
mq 31 30,
mw 32 31 4,
nb 33 31 32,
mz 34 31 0 8,
ge 35 31 34,
gq 36 31 false (.bin .add (kq 1) (.t 35)),
mz 37 31 1 8,
ge 38 31 37,
gq 39 31 false (.bin .add (.t 36) (.t 38)),
db 40 31 33 39,
ml 41 31 40,
mq 42 41,
mw 43 42 4,
gq 44 42 false (cl zd7 [.t 43,.k (.d (.str []))]),
ml 45 42 44] [4,9,29,30,31,32,33,34,35,36,37,38,39,40,41,42,43,44]
(kh 45 (sr [
bn 46 0 zad 1 16 zc0 1 8,
mc 5 2 46,
mg 3] [46]
.ret)
 .skip))
(.seq (sr [
fa 47 0 8,
ld 48 47,
pz 49 0] [47]
(kj 0 [2,6,7,8,48,49] z1i))
(.seq (sr [
fa 59 1 8,
ld 60 59,
pz 61 0] [8,59]
(kj 2 [2,6,7,60,61] z1j))
(sr [
lq 79 5 7,
mc 5 2 79,
fe 3] [7,79]
.ret))))))))))⟩
def zw0:CF:=⟨[.tmp 2],
  (sr [
mt 1 zao 0,
pz 2 0] [0,2]
(.seq (.reg true [
bp 8 zgm,
fa 9 1 1,
ld 10 9,
cc 11 0 0 8 10,
mq 7 11,
xq 12 7 0,
xq 13 7 1,
tq 3 (.alloc zq3 pl),
mc 4 3 12,
mq 4 13] [7,8,9,10,11,12,13])
(sr [
fa 14 2 1,
ld 15 14,
tq 16 (cl zdj [.t 15,.k (.fn zga [] [])]),
mq 5 16] [14,15,16]
(sr [
fa 17 3 1,
ld 18 17,
tq 19 (cl zek [.t 18,.k (.fn zgb [] [])]),
mq 6 19] [17,18,19]
(.seq (.reg true [
fa 20 0 1,
ld 21 20,
fg 22 zi1 21 1 1000,
mq 23 4,
gz 24 23,
gn 25 zas 24 13,
fa 26 2 1,
ld 27 26,
mr 28 27,
fa 29 0 3,
ld 30 29,
f9 31 28 30,
mq 32 31,
mz 33 32 3 1,
ge 34 32 33,
nb 35 32 34,
mz 36 32 1 3,
ge 37 32 36,
db 38 32 35 37,
ml 39 32 38,
gn 40 zas 39 2,
mq 41 5,
gn 42 zas 41 8,
mq 43 6,
gn 44 zas 43 3,
fa 45 4 1,
ld 46 45,
cr 47 46,
gn 48 zas 47 1,
tq 49 (.mkList 1 6 [.t 22,.t 25,.t 40,.t 42,.t 44,.t 48]),
mu 50 zbj 49,
mq 2 50] [1,3,4,5,6,20,21,22,23,24,25,26,27,28,29,30,31,32,33,34,35,36,37,38,39,40,41,42,43,44,45,46,47,48,49,50])
.ret)))))⟩
def zrd:CF:=⟨[.tmp 4],
  (sr [
mt 3 zao 1,
pz 4 0] [1,4]
(sr [
mq 7 0,
gb 8 7,
fa 9 1 8,
mq 5 9] [7,8,9]
(.seq (.seq (.reg true [
fa 10 0 3,
ld 11 10,
mq 12 0,
gb 13 12,
fa 14 0 13,
ld 15 14,
mr 16 15,
mf 17 16 1,
f9 18 11 17,
gn 19 zas 18 11,
fa 20 3 3,
ld 21 20,
m7 22 1 21 0,
ld 23 22,
mq 24 5,
gb 25 24,
fa 26 0 25,
ld 27 26,
mh 28 23 27,
gn 29 zas 28 19,
fa 30 3 3,
ld 31 30,
m7 32 1 31 0,
ld 33 32,
fk 34 33 99999,
gn 35 zas 34 3,
cw 36 1 3 19 29 35,
mu 37 zbj 36,
mq 6 37] [0,10,11,12,13,14,15,16,17,18,19,20,21,22,23,24,25,26,27,28,29,30,31,32,33,34,35,36,37])
(sr [
mq 38 6,
my 39 38 0] [38]
(kh 39 (sr [
mq 40 6,
mq 4 40] [6,40]
.ret)
 .skip)))
(.seq (.reg true [
np 41 zgm,
fa 42 1 3,
ld 43 42,
bq 44 0 0 41 43,
tq 45 (.field 2 none (.t 44)),
mq 46 5,
lq 47 5 3,
tq 48 (.callQ (.t 45) [.t 46,.t 47]),
mq 4 48] [3,5,41,42,43,44,45,46,47,48])
.ret))))⟩
def zvv:CF:=⟨[],
  (sr [
mt 3 zao 1] [1]
(.seq (.reg true [
fa 4 2 3,
ld 5 4,
mu 6 zex 5,
fa 7 3 3,
ld 8 7,
mu 9 zhn 8,
fa 10 2 3,
mc 1 10 6,
fa 11 3 3,
mc 1 11 9] [4,5,6,7,8,9,10,11])
(.seq (.reg true [
mq 12 0,
mq 13 0,
gb 14 13,
fa 15 0 14,
ld 16 15,
lq 17 5 3,
gx 18 5 1 17,
gd 19 zao 5 88 16 18,
gb 20 12,
fa 21 0 20,
mc 1 21 19] [12,13,14,15,16,17,18,19,20,21])
(sr [
mq 22 0,
fa 23 3 3,
ld 24 23,
m7 25 1 24 0,
ld 26 25,
gb 27 22,
fa 28 1 27,
fa 29 0 28,
mc 1 29 26] [22,23,24,25,26,27,28,29]
(.reg true [
np 30 zgm,
fa 31 1 3,
ld 32 31,
bq 33 0 0 30 32,
tq 34 (.field 3 none (.t 33)),
mq 35 0,
gb 36 35,
fa 37 1 36,
lq 38 5 3,
tq 39 (.call true true (.t 34) [.t 37,.t 38])] [0,3,30,31,32,33,34,35,36,37,38,39])))))⟩
def zxv:C:=
  (sr [
mh 8 7 6] []
(kg 8 0
(.seq (.block 1 (sr [
md 9 1 5 7,
ld 10 9,
mq 4 10] [9,10]
(sr [
mq 11 4,
my 12 11 0] [11]
(kh 12 (sr [
mq 13 4,
mq 2 13] [4,13]
.ret)
 .skip))))
(rg [
mf 14 7 1,
mq 7 14] [14]))))
def z1s:CF:=⟨[.tmp 2],
  (sr [
pz 2 0] [2]
(.seq (sr [
mq 5 0,
mr 6 5,
pz 7 0] [0]
(kj 0 [5,6,7] zxv))
(sr [
pz 2 0] []
.ret)))⟩
def ztc:CF:=⟨[.tmp 2],
  (sr [
mt 1 zai 0,
pz 2 0] [0,2]
(.seq (.reg true [
bp 6 zhv,
fa 7 1 1,
ld 8 7,
tq 9 (.lookup .str (.agg [.nilf]) true (.t 6) (.t 8)),
mq 5 9,
xq 10 5 0,
xq 11 5 1,
tq 3 (.alloc z17 pw),
mc 1 3 10,
mq 4 11] [3,5,6,7,8,9,10,11])
(.seq (.reg true [
fa 12 0 1,
ld 13 12,
mu 14 zdo 13,
gz 15 14,
gn 16 zcr 15 8,
mq 17 4,
gz 18 17,
gn 19 zcr 18 13,
fa 20 2 1,
ld 21 20,
mu 22 zhm 21,
fa 23 3 1,
ld 24 23,
fg 25 zbw 24 1 1440,
fa 26 4 1,
ld 27 26,
fg 28 zbw 27 1 1440,
fa 29 5 1,
ld 30 29,
fg 31 zbw 30 0 1439,
fa 32 6 1,
ld 33 32,
fg 34 zbw 33 0 1439,
fa 35 5 1,
ld 36 35,
fa 37 6 1,
ld 38 37,
fi 39 36 38,
gn 40 zcr 39 11,
fa 41 7 1,
lq 42 3 41,
mu 43 zde 42,
fa 44 10 1,
ld 45 44,
fg 46 zbw 45 0 999999999,
tq 47 (.mkList 1 10 [.t 16,.t 19,.t 22,.t 25,.t 28,.t 31,.t 34,.t 40,.t 43,.t 46]),
mu 48 zcq 47,
mq 2 48] [1,4,12,13,14,15,16,17,18,19,20,21,22,23,24,25,26,27,28,29,30,31,32,33,34,35,36,37,38,39,40,41,42,43,44,45,46,47,48])
.ret)))⟩
def z3i:CF:=⟨[.tmp 4],
  (sr [
pz 4 0] [4]
(.seq (sr [
mq 5 0] [0]
(kh 5 (sr [
mq 6 1,
mq 4 6] [1,6]
.ret)
 .skip))
(sr [
pz 4 0] []
.ret)))⟩
def z1u:CF:=⟨[.tmp 4],
  (sr [
mt 3 zad 1,
pz 4 0] [1,4]
(sr [
mq 5 0,
f0 6 zeq 3,
gg 7 zba 5 6,
mq 4 7] [0,3,5,6,7]
.ret))⟩
def ztw:CF:=⟨[.tmp 2],
  (sr [
mt 1 zat 0,
pz 2 0] [0,2]
(sr [
fa 7 0 1,
lq 8 13 7,
bh 3 zcx,
mc 13 3 8] [7,8]
(sr [
lq 10 13 3,
mu 11 zgv 10,
mq 9 11,
xq 12 9 0,
xq 13 9 1,
mq 4 12,
mq 5 13] [4,9,10,11,12,13]
(sr [
tq 6 (.mv (.k (.fn ze4 [] [])))] []
(.seq (.reg true [
mq 14 5,
fa 15 1 3,
ld 16 15,
mu 17 zdo 16,
gz 18 17,
mq 19 18,
mw 20 19 6,
mz 21 19 4 3,
ge 22 19 21,
gq 23 19 false (.callR true (.t 20) [.t 22] [1,3]),
ml 24 19 23,
mq 25 24,
mw 26 25 6,
mz 27 25 5 3,
ge 28 25 27,
gq 29 25 false (.callR true (.t 26) [.t 28] [1,3]),
ml 30 25 29,
gn 31 zcp 30 8,
fa 32 13 1,
ld 33 32,
fg 34 zec 33 0 1439,
fa 35 14 1,
ld 36 35,
fg 37 zec 36 0 1439,
fa 38 13 1,
ld 39 38,
fa 40 9 3,
ld 41 40,
fi 42 39 41,
mq 43 42,
mz 44 43 14 1,
ge 45 43 44,
mz 46 43 9 3,
ge 47 43 46,
gq 48 43 false (.bin .lss (.t 45) (.t 47)),
ml 49 43 48,
gn 50 zcp 49 11,
fa 51 15 1,
ld 52 51,
fg 53 zec 52 1 120,
tq 54 (.mkList 1 6 [.t 14,.t 31,.t 34,.t 37,.t 50,.t 53]),
mu 55 zco 54,
mq 5 55] [6,14,15,16,17,18,19,20,21,22,23,24,25,26,27,28,29,30,31,32,33,34,35,36,37,38,39,40,41,42,43,44,45,46,47,48,49,50,51,52,53,54,55])
(.seq (sr [
mq 56 5,
my 57 56 0] [56]
(kh 57 (sr [
mq 58 5,
mq 2 58] [5,58]
.ret)
 .skip))
(.seq (.reg true [
fa 59 9 3,
ld 60 59,
fa 61 13 1,
ld 62 61,
m8 63 60 62,
fa 64 15 1,
ld 65 64,
nl 66 63 65,
fa 67 14 1,
ld 68 67,
fa 69 9 3,
ld 70 69,
m8 71 68 70,
fa 72 15 1,
ld 73 72,
nl 74 71 73,
gf 75 66 74,
mf 76 75 1,
fk 77 76 96,
gn 78 zcp 77 22,
fa 79 16 1,
ld 80 79,
fg 81 zec 80 0 1440,
fa 82 17 1,
ld 83 82,
fg 84 zec 83 0 1440,
fa 85 16 1,
ld 86 85,
fa 87 17 1,
ld 88 87,
fi 89 86 88,
gn 90 zcp 89 11,
tq 91 (.mkList 1 4 [.t 78,.t 81,.t 84,.t 90]),
mu 92 zco 91,
mq 2 92] [1,3,59,60,61,62,63,64,65,66,67,68,69,70,71,72,73,74,75,76,77,78,79,80,81,82,83,84,85,86,87,88,89,90,91,92])
.ret)))))))⟩
def z1p:CF:=⟨[.tmp 4],
  (sr [
mt 3 zad 1,
pz 4 0] [1,4]
(sr [
mq 5 0,
f0 6 zf9 3,
gg 7 zbc 5 6,
mq 4 7] [0,3,5,6,7]
.ret))⟩
def zfy:C:=
  (sr [
mh 11 10 9] []
(kg 11 0
(.seq (.block 1 (sr [
md 12 18 8 10,
lq 13 18 12,
dy 7 zat,
mc 18 7 13] [12,13]
(rg [
mq 14 5,
mq 15 1,
lq 16 18 7,
fd 17 15 16,
gx 18 3 1 17,
f8 19 zah 3 32 14 18,
mq 5 19] [7,14,15,16,17,18,19])))
(rg [
mf 20 10 1,
mq 10 20] [20]))))
def zgi:CF:=⟨[.tmp 4],
  (sr [
fc 4 zah 3 32] [4]
(sr [
fc 5 zah 3 32] []
(.seq (sr [
mq 8 0,
mr 9 8,
pz 10 0] [0]
(kj 0 [1,5,8,9,10] zfy))
(sr [
mq 21 5,
mq 4 21] [5,21]
.ret))))⟩
def zvo:CF:=⟨[.cell 2 (some 3)],
  (sr [
mt 1 zat 0,
bf 2 zah] [0]
(sr [
fa 3 0 1,
fa 4 0 3,
ld 5 4,
tq 6 (.build pn [(0,1,.t 5)]),
mc 3 2 6] [1,3,4,5,6]
.ret))⟩
def zp9:C:=
  (sr [
mh 69 68 67] []
(kg 69 4
(.seq (.block 5 (sr [
md 70 1 66 68,
ld 71 70,
mq 14 71] [70,71]
(sr [
mq 72 14,
fa 73 0 3,
ld 74 73,
na 75 72 74,
mq 76 75,
gy 77 76 0 3,
ga 78 76 77,
mn 79 76 14,
gy 80 76 3 7,
ga 81 76 80,
gq 82 76 true (.bin .add (.t 79) (.t 81)),
de 83 76 78 82,
me 84 76 83] [72,73,74,75,76,77,78,79,80,81,82,83]
(kh 84 (rg [
mq 85 5,
mq 86 6,
mq 87 14,
kf 88 0 1 86 1 1 87,
gx 89 2 1 88,
gd 90 zaa 2 16 85 89,
mq 5 90] [14,85,86,87,88,89,90])
 .skip))))
(rg [
mf 91 68 1,
mq 68 91] [91]))))
def zqa:C:=
  (sr [
fy 38 37 2] []
(kg 38 2
(.seq (.block 3 (sr [
tq 39 (.idxA 2 1 none (.t 36) (.t 37)),
mq 9 39] [39]
(sr [
mq 40 6,
mq 41 9,
kf 42 0 1 40 1 1 41,
nr 10 zaa,
mc 2 10 42] [40,41,42]
(.seq (.reg true [
mq 44 0,
gb 45 44,
fa 46 2 45,
ld 47 46,
lq 48 2 10,
tq 49 (.lookup (.rc [false,false]) (.list 0 []) true (.t 47) (.t 48)),
mq 43 49,
xq 50 43 0,
xq 51 43 1,
mq 11 50,
mq 12 51] [43,44,45,46,47,48,49,50,51])
(.seq (sr [
mq 52 12,
gz 53 52] [12,52]
(kh 53 (sr [
lq 55 11 7,
mq 56 9,
gv 57 zg4 55 56,
mq 54 57,
xq 58 54 0,
xq 59 54 1,
mq 11 58] [9,54,55,56,57,58,59]
(.reg true [
mq 60 0,
gb 61 60,
fa 62 2 61,
ld 63 62,
lq 64 2 10,
mq 65 11,
bw 63 64 65] [10,60,61,62,63,64,65]))
 .skip))
(sr [
mq 66 11,
mr 67 66,
pz 68 0] [11]
(kj 4 [0,3,5,6,7,18,19,20,36,37,66,67,68] zp9)))))))
(rg [
mf 92 37 1,
mq 37 92] [92]))))
def zqb:C:=
  (sr [
mh 21 20 19] []
(kg 21 0
(.seq (.block 1 (sr [
mq 22 20,
md 23 11 18 20,
lq 24 11 23,
tq 7 (.alloc zai pg),
mq 6 22,
mc 11 7 24] [22,23,24]
(.seq (sr [
lq 25 11 7,
lq 26 7 3,
gv 27 zll 25 26,
gz 28 27] [25,26,27]
(kh 28 (.exit 1)
 .skip))
(sr [
fa 29 0 3,
ld 30 29,
cy 31 30 1440,
gk 32 31 1,
fa 33 0 3,
ld 34 33,
cy 35 34 1440,
kf 36 0 1 32 1 1 35,
pz 37 0] [29,30,31,32,33,34,35]
(kj 2 [0,3,5,6,7,18,19,20,36,37] zqa)))))
(rg [
mf 93 20 1,
mq 20 93] [93]))))
def zr3:CF:=⟨[.tmp 4],
  (sr [
mt 3 zac 1,
gh 4 zaa 2 16] [1,4]
(sr [
gh 5 zaa 2 16] []
(.seq (sr [
mq 15 0,
gb 16 15,
fa 17 0 16,
ld 18 17,
mr 19 18,
pz 20 0] [15,16,17]
(kj 0 [0,3,5,18,19,20] zqb))
(sr [
mq 94 5,
mq 4 94] [5,94]
.ret))))⟩
def zov:CF:=⟨[.tmp 4],
  (sr [
mt 2 zaa 0,
mt 3 zaa 1,
pz 4 0] [0,1,4]
(.seq (.reg true [
fa 5 0 2,
ld 6 5,
fa 7 0 3,
ld 8 7,
gv 9 zbx 6 8,
fa 10 1 2,
ld 11 10,
fa 12 1 3,
ld 13 12,
gv 14 zbx 11 13,
fo 15 1 2 9 14,
mu 16 zha 15,
mq 4 16] [2,3,5,6,7,8,9,10,11,12,13,14,15,16])
.ret))⟩
def z57:C:=
  (sr [
mh 9 8 7] []
(kg 9 0
(.seq (.block 1 (sr [
md 10 1 6 8,
ld 11 10,
mq 5 11] [10,11]
(sr [
mq 12 5,
mq 13 3,
f9 14 12 13] [12,13]
(kh 14 (sr [
mq 15 5,
mq 2 15] [5,15]
.ret)
 .skip))))
(rg [
mf 16 8 1,
mq 8 16] [16]))))
def ybp:CF:=⟨[.tmp 2],
  (sr [
pz 2 0] [2]
(sr [
pz 3 0] []
(.seq (sr [
mq 6 0,
mr 7 6,
pz 8 0] [0]
(kj 0 [3,6,7,8] z57))
(sr [
mq 17 3,
mq 2 17] [3,17]
.ret))))⟩
def zz1:CF:=⟨[.tmp 4],
  (sr [
pz 4 0] [4]
(sr [
mq 7 0,
mu 8 zi0 7,
mq 5 8] [7,8]
(sr [
mq 9 1,
mu 10 zi0 9,
mq 6 10] [9,10]
(.seq (sr [
mq 11 5] [5]
(kh 11 (.seq (sr [
mq 12 6] [6]
(kh 12 (sr [
pz 4 0] []
.ret)
 .skip))
(sr [
pz 4 (-1)] []
.ret))
 .skip))
(.seq (sr [
mq 13 6] [6]
(kh 13 (sr [
pz 4 1] []
.ret)
 .skip))
(.seq (sr [
mq 14 0,
mq 15 1,
mh 16 14 15] [14,15]
(kh 16 (sr [
pz 4 (-1)] []
.ret)
 .skip))
(.seq (sr [
mq 17 0,
mq 18 1,
fi 19 17 18] [0,1,17,18]
(kh 19 (sr [
pz 4 1] []
.ret)
 .skip))
(sr [
pz 4 0] []
.ret))))))))⟩
def zfh:C:=
  (.seq (sr [
mq 29 5,
mq 30 4,
mr 31 30,
mh 32 29 31] [29,30,31]
(kh 32 .skip
 (.exit 2)))
(.seq (.block 3 (.seq (.reg true [
mq 35 4,
mq 36 5,
md 37 2 35 36,
lq 38 2 37,
mq 39 4,
mq 40 5,
gk 41 40 1,
md 42 2 39 41,
lq 43 2 42,
tq 44 (.eqv (some [.int,.int]) true (.t 38) (.t 43))] [35,36,37,38,39,40,41,42,43])
(kh 44 (sr [
mq 45 0,
mq 46 3,
mq 47 4,
mq 48 5,
md 49 2 47 48,
lq 50 2 49,
md 51 2 45 46,
mc 2 51 50] [45,46,47,48,49,50,51]
(rg [
mq 52 3,
mf 53 52 1,
mq 3 53] [52,53]))
 .skip)))
(rg [
mq 33 5,
mf 34 33 1,
mq 5 34] [33,34])))
def zfi:C:=
  (.seq (sr [
mq 10 3,
mq 11 0,
mr 12 11,
mh 13 10 12] [10,11,12]
(kh 13 .skip
 (.exit 0)))
(.seq (.block 1 (.seq (.reg true [
mq 16 0,
mq 17 3,
md 18 2 16 17,
lq 19 2 18,
mq 20 0,
mq 21 3,
gk 22 21 1,
md 23 2 20 22,
lq 24 2 23,
tq 25 (.eqv (some [.int,.int]) false (.t 19) (.t 24))] [16,17,18,19,20,21,22,23,24])
(kh 25 (sr [
mq 26 0,
mq 27 3,
d9 28 2 26 27,
mq 4 28] [26,27,28]
(.seq (sr [
pz 5 1] []
(kj 2 [0,3,4,5] zfh))
(sr [
mq 54 0,
mq 55 3,
d9 56 2 54 55,
⟨none,none,.clear [.int .i64 0,.int .i64 0] (.t 56)⟩] [54,55,56]
(sr [
mq 57 0,
mq 58 3,
dc 59 2 57 58,
mq 2 59] [0,3,57,58,59]
.ret))))
 .skip)))
(rg [
mq 14 3,
mf 15 14 1,
mq 3 15] [14,15])))
def zf0:CF:=⟨[.tmp 2],
  (sr [
fc 2 zaa 2 16] [2]
(.seq (sr [
mq 6 0,
mr 7 6,
fy 8 7 2] [6,7]
(kh 8 (sr [
mq 9 0,
mq 2 9] [0,9]
.ret)
 .skip))
(.seq (sr [
pz 3 1] []
(kj 0 [0,3] zfi))
(sr [
mq 60 0,
mq 2 60] [0,60]
.ret))))⟩
def zwk:C:=
  (sr [
mh 10 9 8] []
(kg 10 0
(.seq (.block 1 (sr [
mq 11 9,
md 12 18 7 9,
lq 13 18 12,
dy 5 zat,
mq 4 11,
mc 18 5 13] [11,12,13]
(rg [
ld 14 3,
fa 15 0 5,
fa 16 0 15,
ld 17 16,
mq 18 4,
⟨none,none,.mapSet .str (.t 14) (.t 17) (.t 18)⟩] [4,5,14,15,16,17,18])))
(rg [
mf 19 9 1,
mq 9 19] [19]))))
def zzq:CF:=⟨[.tmp 2],
  (sr [
gi 2 0] [2]
(sr [
bl 6,
tq 3 (.alloc zml [.z (.nilm)]),
mc 1 3 6] [6]
(.seq (sr [
mq 7 0,
mr 8 7,
pz 9 0] []
(kj 0 [0,3,7,8,9] zwk))
(sr [
mq 20 0,
f0 21 zhh 3,
gg 22 zdl 20 21,
mq 2 22] [0,3,20,21,22]
.ret))))⟩
def zvk:C:=
  (sr [
mh 8 7 6] []
(kg 8 0
(.seq (.block 1 (sr [
mq 9 7,
md 10 1 5 7,
ld 11 10,
mq 3 9,
mq 4 11] [9,10,11]
(sr [
mq 12 4,
fy 13 12 0,
mq 14 13,
mw 15 14 3,
mw 16 14 4,
gq 17 14 false (.bin .lss (.t 15) (.t 16)),
ml 18 14 17,
mq 19 18,
mn 20 19 0,
mn 21 19 3,
mn 22 19 4,
gq 23 19 true (.build pi [(0,1,.t 21),(1,1,.t 22)]),
gq 24 19 true (.call true true (.t 20) [.t 23]),
nf 25 19 24,
me 26 19 25] [3,4,12,13,14,15,16,17,18,19,20,21,22,23,24,25]
(kh 26 .ret
 .skip))))
(rg [
mf 27 7 1,
mq 7 27] [27]))))
def zx6:CF:=⟨[],
  (sr [
ld 5 1,
mr 6 5,
pz 7 0] [1]
(kj 0 [0,5,6,7] zvk))⟩
def zim:C:=
  (sr [
mh 11 10 9] []
(kg 11 0
(.seq (.block 1 (sr [
md 12 1 8 10,
ld 13 12,
mq 7 13] [12,13]
(rg [
mq 14 5,
mq 15 1,
mq 16 7,
fd 17 15 16,
gx 18 2 1 17,
f8 19 zaj 2 16 14 18,
mq 5 19] [7,14,15,16,17,18,19])))
(rg [
mf 20 10 1,
mq 10 20] [20]))))
def zjw:CF:=⟨[.tmp 4],
  (sr [
fc 4 zaj 2 16] [4]
(sr [
fc 5 zaj 2 16] []
(.seq (sr [
mq 8 0,
mr 9 8,
pz 10 0] [0]
(kj 0 [1,5,8,9,10] zim))
(sr [
mq 21 5,
mq 4 21] [5,21]
.ret))))⟩
def znz:C:=
  (sr [
mh 26 25 24] []
(kg 26 0
(.seq (.block 1 (sr [
mq 27 25,
mq 5 27] [27]
(.reg true [
mq 28 4,
ld 29 3,
ld 30 3,
fa 31 13 1,
ld 32 31,
m8 33 30 32,
fa 34 15 1,
ld 35 34,
nl 36 33 35,
fa 37 15 1,
ld 38 37,
bc 39 36 38,
m8 40 29 39,
mq 41 5,
fa 42 15 1,
ld 43 42,
bc 44 41 43,
gf 45 40 44,
gx 46 1 1 45,
f8 47 zc0 1 8 28 46,
mq 4 47] [5,28,29,30,31,32,33,34,35,36,37,38,39,40,41,42,43,44,45,46,47])))
(rg [
mf 48 25 1,
mq 25 48] [48]))))
def zpm:CF:=⟨[.tmp 2],
  (sr [
mt 1 zat 0,
fc 2 zc0 1 8] [0,2]
(sr [
fa 6 0 1,
fa 7 9 6,
ld 8 7,
tq 3 (.alloc zc0 px),
mc 1 3 8] [6,7,8]
(sr [
fc 4 zc0 1 8] []
(.seq (.seq (.reg true [
ld 9 3,
fa 10 13 1,
ld 11 10,
m8 12 9 11,
fa 13 15 1,
ld 14 13,
nl 15 12 14,
fa 16 14 1,
ld 17 16,
ld 18 3,
m8 19 17 18,
fa 20 15 1,
ld 21 20,
nl 22 19 21,
gf 23 15 22,
mf 24 23 1,
pz 25 0] [9,10,11,12,13,14,15,16,17,18,19,20,21,22,23])
(kj 0 [1,3,4,24,25] znz))
(sr [
mq 49 4,
f0 50 ze3 3,
gg 51 zf4 49 50] [3,49,50,51]
(sr [
mq 52 4,
mq 2 52] [4,52]
.ret))))))⟩
def zqn:CF:=⟨[.cell 2 (some 2)],
  (sr [
nr 2 zaj] []
(sr [
mq 3 0,
tq 4 (.build pi [(0,1,.t 3),(1,1,kq (-1))]),
mc 2 2 4] [0,3,4]
.ret))⟩
def zqo:CF:=⟨[.tmp 4],
  (sr [
mt 3 zaj 0,
pz 4 0] [0,4]
(.seq (.reg true [
fm 5 2 1 3 0,
ld 6 5,
ld 7 1,
fm 8 2 1 2 0,
ld 9 8,
md 10 18 7 9,
fa 11 0 10,
fa 12 9 11,
ld 13 12,
m8 14 6 13,
mu 15 zgk 14,
fm 16 2 1 3 1,
ld 17 16,
ld 18 1,
fm 19 2 1 2 1,
ld 20 19,
md 21 18 18 20,
fa 22 0 21,
fa 23 9 22,
ld 24 23,
m8 25 17 24,
mu 26 zgk 25,
gf 27 15 26,
mq 4 27] [1,2,3,5,6,7,8,9,10,11,12,13,14,15,16,17,18,19,20,21,22,23,24,25,26,27])
.ret))⟩
def z58:CF:=⟨[.tmp 2],
  (sr [
pz 2 0] [2]
(sr [
mq 3 0,
mq 4 0,
tq 5 (.un .neg (.t 4)),
tq 6 (.minmax true [.t 3,.t 5]),
mq 2 6] [0,3,4,5,6]
.ret))⟩
def zr8:CF:=⟨[.tmp 6],
  (sr [
mt 3 za8 0,
mt 5 zaj 2,
mg 6] [0,2,6]
(.seq (sr [
fm 10 2 1 3 1,
ld 11 10,
fy 12 11 0] [10,11]
(kh 12 (sr [
fe 6] []
.ret)
 .skip))
(sr [
pz 7 0] []
(.seq (sr [
mq 13 1,
fm 14 2 1 3 0,
ld 15 14,
md 16 18 13 15,
fa 17 0 16,
fa 18 2 17,
ld 19 18,
dh 20 19 [68]] [13,14,15,16,17,18,19]
(kh 20 (rg [
pz 7 1] [])
 .skip))
(.seq (.reg true [
mq 21 7,
tq 22 (.bin .sub (kq 1) (.t 21)),
dv 23 2 1 5 22,
ld 24 23,
mq 25 7,
dv 26 2 1 5 25,
ld 27 26,
m8 28 24 27,
mq 8 28] [5,21,22,23,24,25,26,27,28])
(sr [
mq 29 1,
mq 30 7,
dv 31 2 1 3 30,
ld 32 31,
md 33 18 29 32,
lq 34 18 33,
dy 9 zat,
mc 18 9 34] [1,3,7,29,30,31,32,33,34]
(sr [
mq 35 8,
fa 36 16 9,
ld 37 36,
ny 38 35 37,
mq 39 38,
mn 40 39 8,
gy 41 39 17 9,
ga 42 39 41,
ni 43 39 40 42,
me 44 39 43,
mq 6 44] [8,9,35,36,37,38,39,40,41,42,43,44]
.ret)))))))⟩
def zen:CF:=⟨[],
  (rg [
mq 4 0,
mq 5 0,
mr 6 5,
mq 7 1,
tq 8 (.call true true (.k (.fn zer [] [])) [.t 4,.t 6,.t 7])] [0,1,4,5,6,7,8])⟩
def zqp:CF:=⟨[.tmp 5],
  (sr [
mt 3 zaj 0,
mt 4 zaj 1,
pz 5 0] [0,1,5]
(.seq (.reg true [
ld 6 2,
lq 7 2 3,
tq 8 (.callR true (.t 6) [.t 7] [2,4]),
ld 9 2,
lq 10 2 4,
fd 11 9 10,
gv 12 zbx 8 11,
mq 5 12] [2,3,4,6,7,8,9,10,11,12])
.ret))⟩
def zr6:CF:=⟨[.tmp 2],
  (sr [
mt 1 za8 0,
nw 2] [0,2]
(sr [
f0 3 zcu 1,
mq 2 3] [1,3]
.ret))⟩
def zx2:CF:=⟨[.tmp 4],
  (sr [
mt 2 zat 0,
gi 4 0] [0,4]
(sr [
fa 8 0 2,
lq 9 13 8,
bh 5 zcx,
mc 13 5 9] [2,8,9]
(sr [
mq 10 1,
fa 11 9 5,
mc 1 11 10] [1,10,11]
(sr [
lq 13 13 5,
mu 14 zgv 13,
mq 12 14,
xq 15 12 0,
xq 16 12 1,
mq 6 15,
mq 7 16] [5,7,12,13,14,15,16]
(sr [
mq 17 6,
mq 4 17] [6,17]
.ret)))))⟩
def zqc:C:=
  (sr [
mh 20 19 18] []
(kg 20 0
(.seq (.block 1 (sr [
mq 21 19,
md 22 3 17 19,
lq 23 3 22,
bf 6 zah,
mq 5 21,
mc 3 6 23] [21,22,23]
(sr [
lq 24 3 6,
fa 25 0 6,
ld 26 25,
fa 27 1 6,
ld 28 27,
tq 29 (.build pn [(0,1,.t 26),(1,1,.t 28)]),
tq 30 (.eqv (some [.str,.int,.bool]) false (.t 24) (.t 29)),
mq 7 30] [24,25,26,27,28,29,30]
(.seq (.reg true [
fa 31 0 6,
ld 32 31,
ld 33 2,
mq 34 5,
md 35 18 33 34,
fa 36 0 35,
fa 37 0 36,
ld 38 37,
f9 39 32 38,
gn 40 zcp 39 8,
fa 41 2 6,
ld 42 41,
mq 43 42,
ga 44 43 2,
mn 45 43 5,
fp 46 43 18 44 45,
ft 47 43 18 46,
dj 48 43 zbl 47,
gy 49 43 1 6,
ga 50 43 49,
gq 51 43 true (cl zf3 [.t 48,.t 50]),
nf 52 43 51,
me 53 43 52,
gn 54 zcp 53 30,
mq 55 7,
mq 56 55,
gy 57 56 1 6,
ga 58 56 57,
gq 59 56 true (.bin .neq (.t 58) (kq 0)),
me 60 56 59,
gn 61 zcp 60 19,
cw 62 1 3 40 54 61,
mu 63 zco 62,
mq 8 63] [5,6,7,31,32,33,34,35,36,37,38,39,40,41,42,43,44,45,46,47,48,49,50,51,52,53,54,55,56,57,58,59,60,61,62,63])
(sr [
mq 64 8,
my 65 64 0] [64]
(kh 65 (sr [
mq 66 8,
mc 1 4 66] [8,66]
.ret)
 .skip))))))
(rg [
mf 67 19 1,
mq 19 67] [67]))))
def zj3:C:=
  (rg [
nr 9 za8,
mc 2 9 70] [70])
def zj4:C:=
  (.block 3 (.seq (sr [
fm 71 2 1 9 1,
ld 72 71,
fy 73 72 0] [71,72]
(kh 73 (.exit 3)
 .skip))
(sr [
lq 75 2 9,
ld 76 3,
gv 77 ze5 75 76,
mq 74 77,
xq 78 74 0,
xq 79 74 1,
nr 10 zaj,
mc 2 10 78,
mq 11 79] [74,75,76,77,78,79]
(sr [
mq 80 11,
ld 81 3,
fm 82 2 1 9 1,
ld 83 82,
md 84 3 81 83,
fa 85 2 84,
ld 86 85,
tq 87 (.eqv none true (.t 80) (.t 86)),
mq 88 87,
mw 89 88 11,
mw 90 88 89,
ft 91 90 2 9,
ga 92 90 2,
ft 93 90 2 10,
gq 94 90 true (cl zhj [.t 91,.t 92,.t 93]),
nf 95 90 94,
ng 96 88 90 95,
ml 97 88 96] [2,3,9,10,11,80,81,82,83,84,85,86,87,88,89,90,91,92,93,94,95,96]
(kh 97 (sr [
dp 1 4 32] []
.ret)
 .skip)))))
def zr4:CF:=⟨[.cell 4 none],
  (sr [
mt 2 zcw 0,
mt 3 zb6 1,
tq 4 (.alloc z1g px)] [0,1]
(.seq (sr [
ld 12 3,
mr 13 12,
ld 14 2,
mr 15 14,
f9 16 13 15] [12,13,14,15]
(kh 16 (sr [
dp 1 4 2] []
.ret)
 .skip))
(.seq (sr [
ld 17 3,
mr 18 17,
pz 19 0] []
(kj 0 [2,3,4,9,17,18,19] zqc))
(.seq (sr [
ld 68 2,
gu 69 zew 68] [68]
(.block 2 (.rangeFn 99 (.t 69) [70] zj3 zj4)))
(sr [
dp 1 4 0] []
.ret)))))⟩
def zfw:CF:=⟨[],
  (rg [
mq 4 0,
mq 5 0,
mr 6 5,
mq 7 1,
tq 8 (.callU false (.k (.fn zcj [] [])) [.t 4,.t 6,.t 7])] [0,1,4,5,6,7,8])⟩
def zwu:CF:=⟨[.tmp 4],
  (sr [
mt 2 zac 0,
mt 3 zac 1,
pz 4 0] [0,1,4]
(.seq (.reg true [
fa 5 0 2,
ld 6 5,
fa 7 0 3,
ld 8 7,
gv 9 zbx 6 8,
fa 10 1 2,
ld 11 10,
fa 12 1 3,
ld 13 12,
gv 14 zgw 11 13,
fa 15 6 2,
ld 16 15,
fa 17 6 3,
ld 18 17,
gv 19 zgw 16 18,
cw 20 1 3 9 14 19,
mu 21 zha 20,
mq 4 21] [2,3,5,6,7,8,9,10,11,12,13,14,15,16,17,18,19,20,21])
.ret))⟩
def zvt:CF:=⟨[.tmp 4],
  (sr [
pz 4 0] [4]
(sr [
mq 7 0,
mu 8 zh6 7,
mq 5 8] [7,8]
(sr [
mq 9 1,
mu 10 zh6 9,
mq 6 10] [9,10]
(.seq (sr [
mq 11 5] [5]
(kh 11 (.seq (sr [
mq 12 6] [6]
(kh 12 (sr [
pz 4 0] []
.ret)
 .skip))
(sr [
pz 4 (-1)] []
.ret))
 .skip))
(.seq (sr [
mq 13 6] [6]
(kh 13 (sr [
pz 4 1] []
.ret)
 .skip))
(.seq (sr [
mq 14 0,
mq 15 1,
mh 16 14 15] [14,15]
(kh 16 (sr [
pz 4 (-1)] []
.ret)
 .skip))
(.seq (sr [
mq 17 0,
mq 18 1,
fi 19 17 18] [0,1,17,18]
(kh 19 (sr [
pz 4 1] []
.ret)
 .skip))
(sr [
pz 4 0] []
.ret))))))))⟩
def z9e:CF:=⟨[.tmp 2],
  (sr [
gp 2] [2]
(sr [
mq 3 0,
mq 4 0,
mf 5 4 1,
tq 6 (.sliceS (.k (.d (.str [48,49,50,51,52,53,54,55,56,57]))) (some (.t 3)) (some (.t 5))),
mq 2 6] [0,3,4,5,6]
.ret))⟩
def zz4:CF:=⟨[.tmp 2],
  (sr [
pz 2 0] [2]
(sr [
mq 3 0,
fg 4 zi1 3 0 99999,
mq 2 4] [0,3,4]
.ret))⟩
def zqg:C:=
  (sr [
mh 21 20 19] []
(kg 21 0
(.seq (.block 1 (sr [
md 22 8 18 20,
lq 23 8 22,
ke 9 zag,
mc 8 9 23] [22,23]
(rg [
mq 24 7,
fa 25 2 9,
ld 26 25,
⟨none,none,.mapSet .str (.t 24) (.t 26) (.k (.d (.bool true)))⟩] [9,24,25,26])))
(rg [
mf 27 20 1,
mq 20 27] [27]))))
def zqh:C:=
  (sr [
mh 33 32 31] []
(kg 33 2
(.seq (.block 3 (sr [
md 34 1 30 32,
ld 35 34,
mq 12 35] [34,35]
(sr [
mq 36 12,
mq 37 0,
mq 38 12,
mq 39 1,
mq 40 2,
tq 41 (.callQ (.k (.fn zdp [] [])) [.t 37,.t 38,.t 39,.t 40]),
tq 42 (.build pr [(0,1,.t 36),(1,1,.t 41)]),
tq 13 (.alloc zcc pr),
mc 2 13 42] [36,37,38,39,40,41,42]
(sr [
lq 43 2 13,
mq 44 12,
tq 45 (.build pr [(0,1,.t 44),(1,1,kq 1440)]),
tq 46 (.eqv (some [.str,.int]) true (.t 43) (.t 45))] [12,43,44,45]
(kh 46 (rg [
mq 47 10,
lq 48 2 13,
gx 49 2 1 48,
gd 50 zcc 2 24 47 49,
mq 10 50] [13,47,48,49,50])
 .skip)))))
(rg [
mf 51 32 1,
mq 32 51] [51]))))
def zsd:CF:=⟨[.tmp 6],
  (sr [
gh 6 zcc 2 24] [6]
(sr [
bl 14,
mq 7 14] [14]
(.seq (sr [
mq 15 0,
gb 16 15,
fa 17 1 16,
ld 18 17,
mr 19 18,
pz 20 0] [15,16,17]
(kj 0 [0,1,2,7,18,19,20] zqg))
(sr [
gh 10 zcc 2 24] []
(.seq (sr [
mq 28 7,
tq 29 (.call true false (.k (.fn zb0 [] [])) [.t 28]),
tq 30 (.call true true (.k (.fn zfv [] [])) [.t 29]),
mr 31 30,
pz 32 0] [7,28,29]
(kj 2 [0,1,2,10,30,31,32] zqh))
(sr [
mq 52 10,
mq 6 52] [10,52]
.ret))))))⟩
def zig:CF:=⟨[],
  (sr [
mq 5 0,
mr 6 5,
mq 4 6] [5,6]
(rg [
mq 7 0,
mq 8 4,
mq 9 4,
dm 10 9,
mu 11 zlo 10,
mq 12 1,
tq 13 (.callU false (.k (.fn zbe [] [])) [.t 7,kq 0,.t 8,.t 11,.t 12])] [0,1,4,7,8,9,10,11,12,13]))⟩
def zyh:CF:=⟨[.tmp 4],
  (sr [
mt 2 zap 0,
mt 3 zap 1,
pz 4 0] [0,1,4]
(sr [
fa 5 0 2,
ld 6 5,
fa 7 0 3,
ld 8 7,
gv 9 n_strings_Compare 6 8,
mq 4 9] [2,3,5,6,7,8,9]
.ret))⟩
def zz6:CF:=⟨[.tmp 4],
  (sr [
pz 4 0] [4]
(sr [
mq 5 0,
mq 6 1,
gv 7 zl0 5 6,
mq 4 7] [0,1,5,6,7]
.ret))⟩
def zzk:C:=
  (sr [
mh 17 16 15] []
(kg 17 0
(.seq (.block 1 (sr [
mq 18 16,
md 19 5 14 16,
lq 20 5 19,
tq 7 (.alloc zao pq),
mq 6 18,
mc 5 7 20] [18,19,20]
(sr [
lq 21 5 7,
mu 22 zfp 21,
mq 8 22] [21,22]
(.seq (sr [
mq 23 8,
g0 24 23 0] [23]
(kh 24 (rg [
mq 25 5,
lq 26 5 7,
fx 27 zau 25 26,
mq 8 27] [25,26,27])
 .skip))
(.seq (sr [
mq 28 8,
my 29 28 0] [28]
(kh 29 (sr [
mq 30 6,
mf 31 30 1,
mq 32 8,
f4 2,
mq 3 31,
mq 4 32] [6,8,30,31,32]
.ret)
 .skip))
(rg [
mq 33 5,
lq 34 5 7,
gg 35 zaw 33 34] [7,33,34,35]))))))
(rg [
mf 36 16 1,
mq 16 36] [36]))))
def z3l:CF:=⟨[.tmp 2,.tmp 3,.tmp 4],
  (sr [
f4 2,
pz 3 0,
pz 4 0] [2,3,4]
(.seq (sr [
mq 9 0,
mr 10 9,
fk 11 10 1000] [9,10]
(kh 11 (sr [
f4 2,
pz 3 0,
pz 4 5] []
.ret)
 .skip))
(sr [
tq 12 (.build [.own ⟨false,zao,5,88⟩,.z (.int .i64 0),.own ⟨false,zag,8,96⟩,.own ⟨false,zby,2,24⟩,.own ⟨true,zan,5,48⟩] []),
mt 13 zdq 12,
mq 5 13] [12,13]
(.seq (sr [
mq 14 0,
mr 15 14,
pz 16 0] [0]
(kj 0 [5,14,15,16] zzk))
(sr [
mq 37 5,
mq 2 37,
pz 3 0,
pz 4 0] [5,37]
.ret)))))⟩
def zwm:C:=
  (sr [
tq 16 (.nextS (.t 15)),
xq 17 16 0] []
(kg 17 0
(.block 1 (sr [
xq 18 16 1,
xq 19 16 2,
mq 3 18,
mq 4 19] [16,18,19]
(sr [
mq 20 4,
tq 21 (.bin .geq (.t 20) (.k (.d (.int .i32 65)))),
mq 22 21,
mn 23 22 4,
gq 24 22 true (.bin .leq (.t 23) (.k (.d (.int .i32 90)))),
me 25 22 24,
mq 26 25,
mw 27 26 4,
gq 28 26 false (.bin .geq (.t 27) (.k (.d (.int .i32 97)))),
mw 29 26 28,
mn 30 29 4,
gq 31 29 true (.bin .leq (.t 30) (.k (.d (.int .i32 122)))),
ng 32 26 29 31,
ml 33 26 32,
mq 5 33] [20,21,22,23,24,25,26,27,28,29,30,31,32,33]
(sr [
mq 34 5,
gz 35 34,
mq 36 35,
mn 37 36 3,
ci 38 36 37 0,
mn 39 36 38,
mw 40 39 4,
gq 41 39 false (.bin .neq (.t 40) (.k (.d (.int .i32 95)))),
mw 42 39 41,
mn 43 42 4,
gq 44 42 true (.bin .lss (.t 43) (.k (.d (.int .i32 48)))),
mn 45 42 44,
mw 46 45 4,
gq 47 45 false (.bin .gtr (.t 46) (.k (.d (.int .i32 57)))),
nk 48 42 45 47,
ng 49 39 42 48,
nk 50 36 39 49,
me 51 36 50] [3,4,5,34,35,36,37,38,39,40,41,42,43,44,45,46,47,48,49,50]
(kh 51 (sr [
mg 2] []
.ret)
 .skip)))))))
def zzu:CF:=⟨[.tmp 2],
  (sr [
mg 2] [2]
(.seq (sr [
mq 6 0,
nv 7 6,
g0 8 7 0,
mq 9 8,
mw 10 9 0,
d8 11 9 10,
nc 12 9 11 24,
ml 13 9 12] [6,7,8,9,10,11,12]
(kh 13 (sr [
mg 2] []
.ret)
 .skip))
(.seq (sr [
mq 14 0,
tq 15 (.rangeS (.t 14))] [0,14]
(kj 0 [15] zwm))
(sr [
fe 2] []
.ret))))⟩
def zsc:CF:=⟨[.tmp 4],
  (sr [
mt 3 zad 1,
f4 4] [1,4]
(.seq (sr [
mq 6 0,
gb 7 6,
fa 8 1 7,
ld 9 8,
f0 10 zdh 3,
gg 11 zav 9 10,
mq 5 11] [3,6,7,8,9,10,11]
(sr [
mq 12 5,
fh 13 12 0] [12]
(kh 13 (sr [
mq 14 0,
gb 15 14,
fa 16 1 15,
ld 17 16,
mq 18 5,
md 19 8 17 18,
mq 4 19] [0,5,14,15,16,17,18,19]
.ret)
 .skip)))
(sr [
f4 4] []
.ret)))⟩
def zoz:CF:=⟨[.tmp 4],
  (sr [
mt 3 zag 0,
mg 4] [0,4]
(sr [
ld 5 1,
lq 6 8 3,
gg 7 zdu 5 6,
tq 8 (.slice 8 (.t 7) (some (kq 1)) none none),
f0 9 zct 2,
gg 10 zaz 8 9,
mq 4 10] [1,2,3,5,6,7,8,9,10]
.ret))⟩
def zf7:CF:=⟨[.tmp 4],
  (sr [
mg 4] [4]
(sr [
mq 5 0,
mq 6 1,
gg 7 zav 5 6,
fh 8 7 0,
mq 4 8] [0,1,5,6,7,8]
.ret))⟩
def zqf:C:=
  (.block 1 (sr [
mq 9 0,
mq 10 5,
mq 11 5,
mr 12 11,
gk 13 12 1,
md 14 8 10 13,
fa 15 3 14,
ld 16 15,
fx 17 zb1 9 16,
mq 6 17] [9,10,11,12,13,14,15,16,17]
(.seq (sr [
mq 18 6,
nj 19 0 18] [18]
(kh 19 (.exit 0)
 .skip))
(rg [
mq 20 5,
mq 21 6,
gb 22 21,
lq 23 8 22,
gx 24 8 1 23,
gd 25 zag 8 96 20 24,
mq 5 25] [6,20,21,22,23,24,25]))))
def zsb:CF:=⟨[.tmp 4],
  (sr [
mt 3 zag 1,
gh 4 zag 8 96] [1,4]
(.scope (sr [
lq 7 8 3,
tq 8 (.mkRow ⟨false,zag,8,96⟩ 1 [.t 7]),
mq 5 8] [3,7,8]
(.seq .label
(.seq (kj 0 [0,5] zqf)
(sr [
mq 26 5,
mq 4 26] [5,26]
.ret))))))⟩
def znc:CF:=⟨[.tmp 3],
  (sr [
mt 2 zag 0,
mg 3] [0,3]
(sr [
fa 4 0 2,
ld 5 4,
ld 6 1,
fw 7 5 6,
mq 3 7] [1,2,4,5,6,7]
.ret))⟩
def zjr:C:=
  (sr [
mh 11 10 9] []
(kg 11 0
(.seq (.block 1 (sr [
md 12 8 8 10,
lq 13 8 12,
ke 7 zag,
mc 8 7 13] [12,13]
(rg [
mq 14 5,
mq 15 1,
lq 16 8 7,
fd 17 15 16,
gx 18 1 1 17,
gd 19 zad 1 16 14 18,
mq 5 19] [7,14,15,16,17,18,19])))
(rg [
mf 20 10 1,
mq 10 20] [20]))))
def zkr:CF:=⟨[.tmp 4],
  (sr [
gh 4 zad 1 16] [4]
(sr [
gh 5 zad 1 16] []
(.seq (sr [
mq 8 0,
mr 9 8,
pz 10 0] [0]
(kj 0 [1,5,8,9,10] zjr))
(sr [
mq 21 5,
mq 4 21] [5,21]
.ret))))⟩
def zn0:C:=
  (sr [
mh 11 10 9] []
(kg 11 0
(.seq (.block 1 (sr [
md 12 8 8 10,
lq 13 8 12,
ke 7 zag,
mc 8 7 13] [12,13]
(sr [
mq 14 1,
lq 15 8 7,
fd 16 14 15] [14,15]
(kh 16 (rg [
mq 17 5,
lq 18 8 7,
gx 19 8 1 18,
gd 20 zag 8 96 17 19,
mq 5 20] [7,17,18,19,20])
 .skip))))
(rg [
mf 21 10 1,
mq 10 21] [21]))))
def zpq:CF:=⟨[.tmp 4],
  (sr [
gh 4 zag 8 96] [4]
(sr [
gh 5 zag 8 96] []
(.seq (sr [
mq 8 0,
mr 9 8,
pz 10 0] [0]
(kj 0 [1,5,8,9,10] zn0))
(sr [
mq 22 5,
mq 4 22] [5,22]
.ret))))⟩
def z9b:CF:=⟨[.tmp 2],
  (sr [
mt 1 zag 0,
gp 2] [0,2]
(sr [
fa 3 0 1,
ld 4 3,
mq 2 4] [1,3,4]
.ret))⟩
def zw2:CF:=⟨[.tmp 2],
  (sr [
mt 1 zck 0,
pz 2 0] [0,2]
(.seq (sr [
fa 3 0 1,
ld 4 3,
mu 5 zkk 4,
my 6 5 0,
mq 7 6,
mz 8 7 1 1,
ge 9 7 8,
cq 10 7 zkk 9,
c8 11 7 10 0,
ml 12 7 11] [3,4,5,6,7,8,9,10,11]
(kh 12 (sr [
pz 2 3] []
.ret)
 .skip))
(.seq (sr [
fa 13 1 1,
ld 14 13,
fa 15 0 1,
ld 16 15,
mh 17 14 16] [13,14,15,16]
(kh 17 (sr [
pz 2 11] []
.ret)
 .skip))
(.seq (sr [
fa 18 1 1,
ld 19 18,
fa 20 0 1,
ld 21 20,
m8 22 19 21,
fk 23 22 400] [18,19,20,21,22]
(kh 23 (sr [
pz 2 4] []
.ret)
 .skip))
(sr [
fa 24 2 1,
ld 25 24,
fg 26 zdc 25 1 127,
mq 2 26] [1,24,25,26]
.ret)))))⟩
def z1m:C:=
  (.seq (sr [
mq 14 3,
mq 15 0,
nv 16 15,
mh 17 14 16] [14,15,16]
(kh 17 .skip
 (.exit 0)))
(.seq (.block 1 (sr [
mq 20 0,
mq 21 3,
tq 22 (.idxS (.t 20) (.t 21)),
mq 4 22] [20,21,22]
(sr [
mq 23 4,
tq 24 (.bin .geq (.t 23) (.k (.d (.int .u8 97)))),
mq 25 24,
mn 26 25 4,
gq 27 25 true (.bin .leq (.t 26) (.k (.d (.int .u8 122)))),
me 28 25 27,
mq 29 28,
mw 30 29 4,
gq 31 29 false (.bin .geq (.t 30) (.k (.d (.int .u8 65)))),
mw 32 29 31,
mn 33 32 4,
gq 34 32 true (.bin .leq (.t 33) (.k (.d (.int .u8 90)))),
ng 35 29 32 34,
ml 36 29 35,
mq 5 36] [23,24,25,26,27,28,29,30,31,32,33,34,35,36]
(sr [
mq 37 5,
gz 38 37,
mq 39 38,
mn 40 39 3,
ci 41 39 40 0,
mn 42 39 41,
mw 43 42 4,
gq 44 42 false (.bin .neq (.t 43) (.k (.d (.int .u8 95)))),
mw 45 42 44,
mn 46 45 4,
gq 47 45 true (.bin .lss (.t 46) (.k (.d (.int .u8 48)))),
mn 48 45 47,
mw 49 48 4,
gq 50 48 false (.bin .gtr (.t 49) (.k (.d (.int .u8 57)))),
nk 51 45 48 50,
ng 52 42 45 51,
nk 53 39 42 52,
me 54 39 53] [4,5,37,38,39,40,41,42,43,44,45,46,47,48,49,50,51,52,53]
(kh 54 (sr [
mg 2] []
.ret)
 .skip)))))
(rg [
mq 18 3,
mf 19 18 1,
mq 3 19] [18,19])))
def z6i:CF:=⟨[.tmp 2],
  (sr [
mg 2] [2]
(.seq (sr [
mq 6 0,
nv 7 6,
g0 8 7 0,
mq 9 8,
mw 10 9 0,
d8 11 9 10,
nc 12 9 11 24,
ml 13 9 12] [6,7,8,9,10,11,12]
(kh 13 (sr [
mg 2] []
.ret)
 .skip))
(.seq (sr [
pz 3 0] []
(kj 0 [0,3] z1m))
(sr [
fe 2] []
.ret))))⟩
def zyf:CF:=⟨[.tmp 2],
  (sr [
mg 2] [2]
(sr [
mq 3 0,
nz 4 3,
mq 5 4,
mw 6 5 0,
cq 7 5 ze8 6,
ml 8 5 7,
mq 2 8] [0,3,4,5,6,7,8]
.ret))⟩
def z3p:CF:=⟨[.tmp 6],
  (sr [
mg 6] [6]
(sr [
mq 7 0,
mq 8 1,
mh 9 7 8,
mq 10 9,
mw 11 10 0,
mw 12 10 2,
nq 13 10 11 12,
ml 14 10 13,
mq 6 14] [0,1,2,7,8,9,10,11,12,13,14]
.ret))⟩
def yey:CF:=⟨[.tmp 4],
  (sr [
mt 2 zck 0,
mg 4] [0,4]
(.seq (.reg true [
mq 5 1,
fa 6 0 2,
ld 7 6,
ny 8 5 7,
mq 9 8,
mn 10 9 1,
gy 11 9 1 2,
ga 12 9 11,
ni 13 9 10 12,
me 14 9 13,
mq 15 14,
gy 16 15 2 2,
ga 17 15 16,
mn 18 15 1,
dj 19 15 zpa 18,
gq 20 15 true (cl zqy [.t 17,.t 19]),
me 21 15 20,
mq 4 21] [1,2,5,6,7,8,9,10,11,12,13,14,15,16,17,18,19,20,21])
.ret))⟩
def z1z:CF:=⟨[.tmp 2],
  (sr [
mg 2] [2]
(sr [
mq 3 0,
nz 4 3,
mq 5 4,
mw 6 5 0,
cq 7 5 ze8 6,
ml 8 5 7,
mq 2 8] [0,3,4,5,6,7,8]
.ret))⟩
def z29:C:=
  (.seq (sr [
mq 4 3,
mq 5 0,
mr 6 5,
mh 7 4 6] [4,5,6]
(kh 7 .skip
 (.exit 0)))
(.seq (.block 1 (sr [
mq 10 0,
mq 11 3,
md 12 1 10 11,
ld 13 12,
my 14 13 0] [10,11,12,13]
(kh 14 (sr [
mq 15 0,
mq 16 3,
md 17 1 15 16,
ld 18 17,
mq 2 18] [0,3,15,16,17,18]
.ret)
 .skip)))
(rg [
mq 8 3,
mf 9 8 1,
mq 3 9] [8,9])))
def z9d:CF:=⟨[.tmp 2],
  (sr [
pz 2 0] [2]
(.seq (sr [
pz 3 0] []
(kj 0 [0,3] z29))
(sr [
pz 2 0] []
.ret)))⟩
def zyd:CF:=⟨[.tmp 6],
  (sr [
pz 6 0] [6]
(.seq (sr [
mq 7 0,
mq 8 1,
mh 9 7 8,
mq 10 9,
mw 11 10 0,
mw 12 10 2,
nq 13 10 11 12,
ml 14 10 13] [0,1,2,7,8,9,10,11,12,13]
(kh 14 (sr [
pz 6 3] []
.ret)
 .skip))
(sr [
pz 6 0] []
.ret)))⟩
def zpn:CF:=⟨[.tmp 4,.tmp 5,.tmp 6],
  (sr [
gp 4,
gp 5,
mg 6] [4,5,6]
(.seq (sr [
mq 8 0,
mq 9 1,
gv 10 zh7 8 9,
mq 7 10] [8,9,10]
(sr [
mq 11 7,
fh 12 11 0] [11]
(kh 12 (.seq (.reg true [
mq 13 0,
mq 14 7,
tq 15 (.sliceS (.t 13) none (some (.t 14))),
mq 16 0,
mq 17 7,
mq 18 1,
nv 19 18,
gf 20 17 19,
bj 21 16 20,
mq 4 15,
mq 5 21,
fe 6] [0,1,7,13,14,15,16,17,18,19,20,21])
.ret)
 .skip)))
(sr [
mq 22 0,
mq 4 22,
gp 5,
mg 6] [0,22]
.ret)))⟩
def zvw:CF:=⟨[.tmp 6,.tmp 7],
  (sr [
gi 6 0,
pz 7 0] [6,7]
(.seq (.seq (.reg true [
mq 10 1,
m7 11 1 10 1,
ld 12 11,
mu 13 zhy 12,
mq 14 2,
m7 15 1 14 0,
ld 16 15,
mu 17 zc7 16,
mq 18 2,
m7 19 1 18 1,
ld 20 19,
mu 21 zc7 20,
cw 22 1 3 13 17 21,
mu 23 zbj 22,
mq 8 23] [10,11,12,13,14,15,16,17,18,19,20,21,22,23])
(sr [
mq 24 8,
my 25 24 0] [24]
(kh 25 (sr [
mq 26 8,
gi 6 0,
mq 7 26] [8,26]
.ret)
 .skip)))
(.seq (.seq (.reg true [
mq 27 0,
mq 28 1,
m7 29 1 28 1,
ld 30 29,
mq 31 2,
m7 32 1 31 0,
ld 33 32,
mq 34 2,
m7 35 1 34 1,
ld 36 35,
tq 37 (.callQ (.k (.fn zdp [] [])) [.t 27,.t 30,.t 33,.t 36]),
mq 9 37] [0,1,2,27,28,29,30,31,32,33,34,35,36,37])
(sr [
mq 38 9,
my 39 38 1440] [38]
(kh 39 (sr [
mq 40 9,
mu 41 n_strconv_Itoa 40,
gx 42 1 1 41,
mq 6 42,
pz 7 0] [9,40,41,42]
.ret)
 .skip)))
(sr [
gi 6 0,
pz 7 0] []
.ret))))⟩
def zjm:C:=
  (rg [
ke 10 zag,
mc 8 10 17] [17])
def zjn:C:=
  (.block 1 (sr [
fa 18 2 10,
ld 19 18,
ld 20 5,
fw 21 19 20,
mq 22 21,
gy 23 22 5 10,
ga 24 22 23,
ga 25 22 7,
ni 26 22 24 25,
me 27 22 26,
mq 28 27,
ga 29 28 7,
gy 30 28 6 10,
ga 31 28 30,
ni 32 28 29 31,
me 33 28 32,
mq 34 33,
ga 35 34 4,
ft 36 34 8 10,
ga 37 34 6,
gq 38 34 true (.callQ (.k (.fn zca [] [])) [.t 35,.t 36,.t 37]),
me 39 34 38] [4,5,6,7,18,19,20,21,22,23,24,25,26,27,28,29,30,31,32,33,34,35,36,37,38]
(kh 39 (sr [
fa 40 7 10,
ld 41 40,
mc 1 8 41] [10,40,41]
.ret)
 .skip)))
def zrb:CF:=⟨[.cell 8 none],
  (sr [
mt 4 zb8 0,
mt 5 zad 1,
mt 6 zc0 2,
mt 7 zc0 3,
tq 8 (.alloc zc0 px)] [0,1,2,3]
(.seq (sr [
ld 11 4,
gb 12 11,
fa 13 1 12,
ld 14 13,
gu 15 za3 14] [11,12,13,14]
(.block 0 (.rangeFn 43 (.t 15) [16,17] zjm zjn)))
(sr [
dp 1 8 1440] []
.ret)))⟩
def zvx:CF:=⟨[.tmp 6,.tmp 7],
  (sr [
gi 6 0,
pz 7 0] [6,7]
(.seq (.seq (.reg true [
mq 9 2,
m7 10 1 9 0,
ld 11 10,
mu 12 zc7 11,
mq 13 2,
m7 14 1 13 1,
ld 15 14,
mu 16 zc7 15,
fo 17 1 2 12 16,
mu 18 zbj 17,
mq 8 18] [9,10,11,12,13,14,15,16,17,18])
(sr [
mq 19 8,
my 20 19 0] [19]
(kh 20 (sr [
mq 21 8,
gi 6 0,
mq 7 21] [8,21]
.ret)
 .skip)))
(.seq (.reg true [
mq 22 0,
mq 23 2,
m7 24 1 23 0,
ld 25 24,
mq 26 2,
m7 27 1 26 1,
ld 28 27,
tq 29 (.callU true (.k (.fn zdv [] [])) [.t 22,.t 25,.t 28]),
fq 30 zfx 29 zl2,
mq 6 30,
pz 7 0] [0,2,22,23,24,25,26,27,28,29,30])
.ret)))⟩
def zj5:C:=
  (sr [
mh 11 10 9] []
(kg 11 0
(.seq (.block 1 (sr [
md 12 2 8 10,
lq 13 2 12,
tq 7 (.alloc zcc pr),
mc 2 7 13] [12,13]
(rg [
mq 14 5,
mq 15 1,
lq 16 2 7,
fd 17 15 16,
gx 18 1 1 17,
gd 19 zad 1 16 14 18,
mq 5 19] [7,14,15,16,17,18,19])))
(rg [
mf 20 10 1,
mq 10 20] [20]))))
def zk6:CF:=⟨[.tmp 4],
  (sr [
gh 4 zad 1 16] [4]
(sr [
gh 5 zad 1 16] []
(.seq (sr [
mq 8 0,
mr 9 8,
pz 10 0] [0]
(kj 0 [1,5,8,9,10] zj5))
(sr [
mq 21 5,
mq 4 21] [5,21]
.ret))))⟩
def zte:CF:=⟨[.tmp 2],
  (sr [
mt 1 zcc 0,
gp 2] [0,2]
(.seq (.reg true [
fa 3 0 1,
ld 4 3,
tq 5 (.bin .add (.t 4) (.k (.d (.str [32])))),
fa 6 1 1,
ld 7 6,
mu 8 n_strconv_Itoa 7,
gf 9 5 8,
mq 2 9] [1,3,4,5,6,7,8,9])
.ret))⟩
def zvy:CF:=⟨[.tmp 6,.tmp 7],
  (sr [
gi 6 0,
pz 7 0] [6,7]
(.seq (sr [
mq 9 2,
m7 10 1 9 0,
ld 11 10,
mu 12 zc7 11,
mq 8 12] [9,10,11,12]
(sr [
mq 13 8,
my 14 13 0] [13]
(kh 14 (sr [
mq 15 8,
gi 6 0,
mq 7 15] [8,15]
.ret)
 .skip)))
(sr [
mq 16 0,
mq 17 2,
m7 18 1 17 0,
ld 19 18,
n7 20 zjp 16 19,
mq 6 20,
pz 7 0] [0,2,16,17,18,19,20]
.ret)))⟩
def zpo:CF:=⟨[.tmp 4],
  (sr [
mt 2 zb8 0,
mt 3 zc0 1,
gi 4 0] [0,1,4]
(sr [
ld 5 2,
gb 6 5,
fa 7 1 6,
ld 8 7,
di 9 zh8 2 3,
gg 10 zd8 8 9,
fq 11 zbp 10 zlp,
mq 4 11] [2,3,5,6,7,8,9,10,11]
.ret))⟩
def zvz:CF:=⟨[.tmp 6,.tmp 7],
  (sr [
gi 6 0,
pz 7 0] [6,7]
(.seq (sr [
mq 9 1,
m7 10 1 9 1,
ld 11 10,
mu 12 zhy 11,
mq 8 12] [9,10,11,12]
(sr [
mq 13 8,
my 14 13 0] [13]
(kh 14 (sr [
mq 15 8,
gi 6 0,
mq 7 15] [8,15]
.ret)
 .skip)))
(sr [
mq 16 0,
mq 17 1,
m7 18 1 17 1,
ld 19 18,
n7 20 zdi 16 19,
xq 21 20 0,
xq 22 20 1,
mq 6 21,
mq 7 22] [0,1,16,17,18,19,20,21,22]
.ret)))⟩
def zv0:CF:=⟨[.tmp 6,.tmp 7],
  (sr [
gi 6 0,
pz 7 0] [6,7]
(sr [
mq 9 0,
gb 10 9,
fa 11 3 10,
ld 12 11,
fq 13 zhc 12 zl3,
mq 8 13] [0,9,10,11,12,13]
(sr [
mq 14 8,
fq 15 zej 14 zl4,
mq 6 15,
pz 7 0] [8,14,15]
.ret)))⟩
def zlx:C:=
  (sr [
mh 11 10 9] []
(kg 11 0
(.seq (.block 1 (sr [
md 12 5 8 10,
lq 13 5 12,
tq 7 (.alloc zan pp),
mc 5 7 13] [12,13]
(sr [
mq 14 1,
lq 15 5 7,
fd 16 14 15] [14,15]
(kh 16 (rg [
mq 17 5,
lq 18 5 7,
gx 19 5 1 18,
gd 20 zan 5 48 17 19,
mq 5 20] [7,17,18,19,20])
 .skip))))
(rg [
mf 21 10 1,
mq 10 21] [21]))))
def zmw:CF:=⟨[.tmp 4],
  (sr [
gh 4 zan 5 48] [4]
(sr [
gh 5 zan 5 48] []
(.seq (sr [
mq 8 0,
mr 9 8,
pz 10 0] [0]
(kj 0 [1,5,8,9,10] zlx))
(sr [
mq 22 5,
mq 4 22] [5,22]
.ret))))⟩
def ztf:CF:=⟨[.tmp 2],
  (sr [
mt 1 zan 0,
mg 2] [0,2]
(sr [
fa 3 3 1,
ld 4 3,
gz 5 4,
mq 2 5] [1,3,4,5]
.ret))⟩
def zh0:C:=
  (sr [
mh 11 10 9] []
(kg 11 0
(.seq (.block 1 (sr [
md 12 5 8 10,
lq 13 5 12,
tq 7 (.alloc zan pp),
mc 5 7 13] [12,13]
(rg [
mq 14 5,
mq 15 1,
lq 16 5 7,
fd 17 15 16,
gx 18 1 1 17,
gd 19 zad 1 16 14 18,
mq 5 19] [7,14,15,16,17,18,19])))
(rg [
mf 20 10 1,
mq 10 20] [20]))))
def ziu:CF:=⟨[.tmp 4],
  (sr [
gh 4 zad 1 16] [4]
(sr [
gh 5 zad 1 16] []
(.seq (sr [
mq 8 0,
mr 9 8,
pz 10 0] [0]
(kj 0 [1,5,8,9,10] zh0))
(sr [
mq 21 5,
mq 4 21] [5,21]
.ret))))⟩
def ztg:CF:=⟨[.tmp 2],
  (sr [
mt 1 zan 0,
gp 2] [0,2]
(sr [
fa 3 0 1,
ld 4 3,
mq 2 4] [1,3,4]
.ret))⟩
def zly:CF:=⟨[.tmp 4],
  (sr [
mg 4] [4]
(sr [
mq 5 0,
mq 6 1,
gv 7 zhw 5 6,
fh 8 7 0,
mq 4 8] [0,1,5,6,7,8]
.ret))⟩
def z1w:CF:=⟨[.tmp 2,.tmp 3],
  (sr [
pz 2 0,
mg 3] [2,3]
(sr [
mq 7 0,
gu 8 n_strconv_Atoi 7,
mq 6 8,
xq 9 6 0,
xq 10 6 1,
mq 4 9,
mq 5 10] [6,7,8,9,10]
(sr [
mq 11 4,
mq 12 5,
nj 13 1 12,
mq 14 13,
mn 15 14 0,
cd 16 14 15,
nh 17 14 16 9,
me 18 14 17,
mq 19 18,
mn 20 19 4,
gq 21 19 true (.bin .geq (.t 20) (kq 0)),
me 22 19 21,
mq 23 22,
mn 24 23 4,
dj 25 23 n_strconv_Itoa 24,
mn 26 23 0,
gq 27 23 true (.bin .eql (.t 25) (.t 26)),
me 28 23 27,
mq 2 11,
mq 3 28] [0,4,5,11,12,13,14,15,16,17,18,19,20,21,22,23,24,25,26,27,28]
.ret)))⟩
def zow:CF:=⟨[.tmp 4],
  (sr [
mt 3 zao 1,
pz 4 0] [1,4]
(.seq (.reg true [
fa 11 3 3,
ld 12 11,
m7 13 1 12 0,
ld 14 13,
fa 15 3 3,
ld 16 15,
m7 17 1 16 1,
ld 18 17,
fa 19 3 3,
ld 20 19,
m7 21 1 20 2,
ld 22 21,
fa 23 3 3,
ld 24 23,
m7 25 1 24 3,
ld 26 25,
mq 5 14,
mq 6 18,
mq 7 22,
mq 8 26] [11,12,13,14,15,16,17,18,19,20,21,22,23,24,25,26])
(.seq (.seq (.reg true [
mq 27 0,
fa 28 2 3,
ld 29 28,
m7 30 1 29 0,
ld 31 30,
fx 32 zb1 27 31,
tq 33 (.nilEq 0 true (.t 32)),
gn 34 zas 33 9,
mq 35 0,
gb 36 35,
fa 37 1 36,
ld 38 37,
mr 39 38,
fh 40 39 256,
gn 41 zas 40 5,
fo 42 1 2 34 41,
mu 43 zbj 42,
mq 9 43] [27,28,29,30,31,32,33,34,35,36,37,38,39,40,41,42,43])
(sr [
mq 44 9,
my 45 44 0] [44]
(kh 45 (sr [
mq 46 9,
mq 4 46] [9,46]
.ret)
 .skip)))
(.seq (sr [
fa 47 1 3,
ld 48 47,
dh 49 48 [102,111,108,108,111,119]] [47,48]
(kh 49 (sr [
mq 50 0,
fa 51 2 3,
ld 52 51,
m7 53 1 52 2,
ld 54 53,
mq 55 5,
n8 56 zdf 50 54 55,
mq 10 56] [0,3,5,50,51,52,53,54,55,56]
(sr [
mq 57 10,
my 58 57 0] [57]
(kh 58 (sr [
mq 59 10,
mq 4 59] [10,59]
.ret)
 .skip)))
 .skip))
(sr [
mq 60 6,
fk 61 60 99999,
mq 62 61,
mw 63 62 7,
nc 64 62 63 99999,
ml 65 62 64,
mq 66 65,
mw 67 66 8,
nc 68 66 67 1440,
ml 69 66 68,
gn 70 zas 69 3,
mq 71 7,
mq 72 6,
mh 73 71 72,
gn 74 zas 73 11,
fo 75 1 2 70 74,
mu 76 zbj 75,
mq 4 76] [6,7,8,60,61,62,63,64,65,66,67,68,69,70,71,72,73,74,75,76]
.ret)))))⟩
def zoy:CF:=⟨[],
  (sr [
mt 3 zao 1] [1]
(.seq (.reg true [
fa 5 2 3,
ld 6 5,
m7 7 1 6 0,
ld 8 7,
fa 9 1 3,
ld 10 9,
fa 11 2 3,
ld 12 11,
m7 13 1 12 1,
ld 14 13,
fa 15 3 3,
ld 16 15,
m7 17 1 16 0,
ld 18 17,
fa 19 3 3,
ld 20 19,
m7 21 1 20 1,
ld 22 21,
fa 23 3 3,
ld 24 23,
m7 25 1 24 2,
ld 26 25,
fa 27 3 3,
ld 28 27,
m7 29 1 28 3,
ld 30 29,
tq 31 (.build pj [(0,1,.t 8),(1,1,.t 10),(2,1,.t 14),(4,1,.t 18),(5,1,.t 22),(6,1,.t 26),(7,1,.t 30)]),
ke 4 zag,
mc 8 4 31] [5,6,7,8,9,10,11,12,13,14,15,16,17,18,19,20,21,22,23,24,25,26,27,28,29,30,31])
(.seq (sr [
fa 32 1 3,
ld 33 32,
dh 34 33 [102,111,108,108,111,119]] [32,33]
(kh 34 (rg [
fa 35 2 3,
ld 36 35,
m7 37 1 36 2,
ld 38 37,
fa 39 3 4,
mc 1 39 38] [3,35,36,37,38,39])
 .skip))
(.reg true [
mq 40 0,
mq 41 0,
gb 42 41,
fa 43 1 42,
ld 44 43,
lq 45 8 4,
gx 46 8 1 45,
gd 47 zag 8 96 44 46,
gb 48 40,
fa 49 1 48,
⟨none,none,.store 1 (.t 49) (.t 47)⟩] [0,4,40,41,42,43,44,45,46,47,48,49]))))⟩
def zna:CF:=⟨[.tmp 4],
  (sr [
mt 3 zao 1,
pz 4 0] [1,4]
(sr [
mq 6 0,
fa 7 2 3,
ld 8 7,
m7 9 1 8 0,
ld 10 9,
fx 11 zb1 6 10,
mq 5 11] [6,7,8,9,10,11]
(.seq (sr [
mq 12 5,
nj 13 0 12] [12]
(kh 13 (sr [
pz 4 10] []
.ret)
 .skip))
(.seq (.reg true [
mq 14 5,
gb 15 14,
fa 16 1 15,
ld 17 16,
df 18 17 [114,117,108,101],
gn 19 zas 18 13,
mq 20 0,
mq 21 5,
gb 22 21,
fa 23 0 22,
ld 24 23,
fa 25 3 3,
ld 26 25,
m7 27 1 26 0,
ld 28 27,
n8 29 zdf 20 24 28,
fo 30 1 2 19 29,
mu 31 zbj 30,
mq 4 31] [0,3,5,14,15,16,17,18,19,20,21,22,23,24,25,26,27,28,29,30,31])
.ret))))⟩
def z1x:CF:=⟨[],
  (sr [
mt 3 zao 1] [1]
(.reg true [
mq 4 0,
fa 5 2 3,
ld 6 5,
m7 7 1 6 0,
ld 8 7,
fa 9 3 3,
ld 10 9,
m7 11 1 10 0,
ld 12 11,
tq 13 (.call true true (.k (.fn zc1 [] [])) [.t 4,.t 8,.t 12])] [0,3,4,5,6,7,8,9,10,11,12,13]))⟩
def zrc:CF:=⟨[],
  (rg [
mq 6 0,
mq 7 0,
gb 8 7,
fa 9 2 8,
ld 10 9,
mq 11 1,
mq 12 2,
tq 13 (.build pr [(0,1,.t 11),(1,1,.t 12)]),
gx 14 2 1 13,
gd 15 zby 2 24 10 14,
gb 16 6,
fa 17 2 16,
⟨none,none,.store 1 (.t 17) (.t 15)⟩] [0,1,2,6,7,8,9,10,11,12,13,14,15,16,17])⟩
def zl9:CF:=⟨[.tmp 4],
  (sr [
mt 3 zao 1,
pz 4 0] [1,4]
(.seq (.reg true [
mq 5 0,
fa 6 2 3,
ld 7 6,
m7 8 1 7 0,
ld 9 8,
fx 10 zb9 5 9,
tq 11 (.nilEq 0 true (.t 10)),
gn 12 zas 11 9,
mq 13 0,
gb 14 13,
fa 15 3 14,
ld 16 15,
mr 17 16,
fh 18 17 64,
gn 19 zas 18 5,
mq 20 0,
fa 21 2 3,
ld 22 21,
m7 23 1 22 1,
ld 24 23,
fa 25 3 3,
ld 26 25,
m7 27 1 26 0,
ld 28 27,
n8 29 zdf 20 24 28,
cw 30 1 3 12 19 29,
mu 31 zbj 30,
mq 4 31] [0,3,5,6,7,8,9,10,11,12,13,14,15,16,17,18,19,20,21,22,23,24,25,26,27,28,29,30,31])
.ret))⟩
def zma:CF:=⟨[],
  (sr [
mt 3 zao 1] [1]
(.reg true [
mq 4 0,
mq 5 0,
gb 6 5,
fa 7 3 6,
ld 8 7,
fa 9 2 3,
ld 10 9,
m7 11 1 10 0,
ld 12 11,
fa 13 2 3,
ld 14 13,
m7 15 1 14 1,
ld 16 15,
fa 17 3 3,
ld 18 17,
m7 19 1 18 0,
ld 20 19,
tq 21 (.build pp [(0,1,.t 12),(1,1,.t 16),(2,1,.t 20)]),
gx 22 5 1 21,
gd 23 zan 5 48 8 22,
gb 24 4,
fa 25 3 24,
⟨none,none,.store 1 (.t 25) (.t 23)⟩] [0,3,4,5,6,7,8,9,10,11,12,13,14,15,16,17,18,19,20,21,22,23,24,25]))⟩
def zmu:CF:=⟨[.tmp 4],
  (sr [
mt 3 zao 1,
pz 4 0] [1,4]
(sr [
mq 6 0,
fa 7 2 3,
ld 8 7,
m7 9 1 8 0,
ld 10 9,
fx 11 zb9 6 10,
mq 5 11] [0,6,7,8,9,10,11]
(.seq (sr [
mq 12 5,
nj 13 0 12] [12]
(kh 13 (sr [
pz 4 10] []
.ret)
 .skip))
(.seq (.reg true [
mq 14 5,
gb 15 14,
fa 16 3 15,
ld 17 16,
gn 18 zas 17 20,
fa 19 3 3,
ld 20 19,
m7 21 1 20 1,
ld 22 21,
fk 23 22 1,
gn 24 zas 23 3,
fo 25 1 2 18 24,
mu 26 zbj 25,
mq 4 26] [3,5,14,15,16,17,18,19,20,21,22,23,24,25,26])
.ret))))⟩
def zmv:CF:=⟨[],
  (sr [
mt 3 zao 1] [1]
(sr [
mq 5 0,
fa 6 2 3,
ld 7 6,
m7 8 1 7 0,
ld 9 8,
fx 10 zb9 5 9,
mq 4 10] [5,6,7,8,9,10]
(sr [
mq 11 4,
mq 12 4,
fa 13 3 3,
ld 14 13,
m7 15 1 14 1,
ld 16 15,
g0 17 16 1,
gb 18 11,
fa 19 3 18,
b7 1 19,
gb 20 12,
fa 21 4 20,
mc 1 21 17] [11,12,13,14,15,16,17,18,19,20,21]
(sr [
mq 22 4,
gb 23 22,
fa 24 4 23,
ld 25 24] [22,23,24]
(kh 25 (.reg true [
mq 26 0,
mq 27 4,
gb 28 27,
fa 29 1 28,
ld 30 29,
fa 31 3 3,
ld 32 31,
m7 33 1 32 0,
ld 34 33,
tq 35 (.call true true (.k (.fn zc1 [] [])) [.t 26,.t 30,.t 34])] [0,3,4,26,27,28,29,30,31,32,33,34,35])
 .skip)))))⟩
def zv1:CF:=⟨[.tmp 2],
  (sr [
gp 2] [2]
(.seq (sr [
mq 4 0,
gb 5 4,
fa 6 0 5,
ld 7 6,
mr 8 7,
g0 9 8 0] [4,5,6,7,8]
(kh 9 (sr [
gp 2] []
.ret)
 .skip))
(sr [
mq 10 0,
gb 11 10,
fa 12 0 11,
ld 13 12,
m7 14 1 13 0,
ld 15 14,
mq 3 15] [10,11,12,13,14,15]
(sr [
mq 16 0,
mq 17 0,
gb 18 17,
fa 19 0 18,
ld 20 19,
tq 21 (.slice 1 (.t 20) (some (kq 1)) none none),
gb 22 16,
fa 23 0 22,
mc 1 23 21] [0,16,17,18,19,20,21,22,23]
(sr [
mq 24 3,
mq 2 24] [3,24]
.ret)))))⟩
def zj7:CF:=⟨[.tmp 4],
  (sr [
mg 4] [4]
(sr [
mq 5 0,
mq 6 1,
gv 7 zdx 5 6,
fh 8 7 0,
mq 4 8] [0,1,5,6,7,8]
.ret))⟩
def zty:CF:=⟨[.tmp 2],
  (sr [
mg 2] [2]
(sr [
mq 3 0,
mu 4 zhy 3,
my 5 4 0,
mq 2 5] [0,3,4,5]
.ret))⟩
def zmx:CF:=⟨[.tmp 4],
  (sr [
mg 4] [4]
(sr [
mq 5 0,
mq 6 1,
gv 7 zfs 5 6,
fh 8 7 0,
mq 4 8] [0,1,5,6,7,8]
.ret))⟩
def ztz:CF:=⟨[.tmp 2],
  (sr [
mg 2] [2]
(sr [
mq 3 0,
fg 4 zi1 3 0 999999999,
my 5 4 0,
mq 2 5] [0,3,4,5]
.ret))⟩
def z3m:CF:=⟨[.tmp 6],
  (sr [
pz 6 0] [6]
(sr [
mq 7 0,
mq 8 1,
mh 9 7 8,
mq 10 9,
mw 11 10 0,
mw 12 10 2,
nq 13 10 11 12,
ml 14 10 13,
gn 15 zas 14 3,
mq 6 15] [0,1,2,7,8,9,10,11,12,13,14,15]
.ret))⟩
def znd:CF:=⟨[.tmp 2],
  (sr [
gh 2 zad 1 16] [2]
(.seq (sr [
mq 3 0,
nj 4 2 3] [3]
(kh 4 (sr [
gh 2 zad 1 16] []
.ret)
 .skip))
(sr [
tq 5 (.mkRow ⟨false,zad,1,16⟩ 0 []),
mq 6 0,
gd 7 zad 1 16 5 6,
mq 2 7] [0,5,6,7]
.ret)))⟩
def zse:CF:=⟨[.tmp 2],
  (sr [
gh 2 zc0 1 8] [2]
(.seq (sr [
mq 3 0,
nj 4 2 3] [3]
(kh 4 (sr [
gh 2 zc0 1 8] []
.ret)
 .skip))
(sr [
tq 5 (.mkRow ⟨false,zc0,1,8⟩ 0 []),
mq 6 0,
gd 7 zc0 1 8 5 6,
mq 2 7] [0,5,6,7]
.ret)))⟩
def z1t:CF:=⟨[.tmp 0],
  (sr [
bv 0] [0]
(sr [
tq 1 (.mv (.k (.fn zlm [] [])))] []
(sr [
bl 2,
mq 3 1,
tq 4 (.call true false (.t 3) [.k (.d (.str [65]))]),
tq 5 (.build pw [(0,1,.t 4)]),
gj 2 [65] 5,
mq 6 1,
tq 7 (.call true false (.t 6) [.k (.d (.str [68]))]),
tq 8 (.build pw [(0,1,.t 7)]),
gj 2 [68] 8,
tq 9 (.build pw [(0,1,.k (.fn zln [] []))]),
gj 2 [84] 9,
mq 10 2,
mq 0 10] [1,2,3,4,5,6,7,8,9,10]
.ret)))⟩
def zwz:CF:=⟨[.tmp 2],
  (sr [
pz 2 0] [2]
(sr [
mq 3 0,
cr 4 3,
mq 5 4,
mn 6 5 0,
dj 7 5 zdo 6,
nf 8 5 7,
me 9 5 8,
gn 10 zcr 9 8,
mq 2 10] [0,3,4,5,6,7,8,9,10]
.ret))⟩
def zz0:CF:=⟨[.tmp 6],
  (sr [
pz 6 0] [6]
(sr [
mq 7 0,
mq 8 1,
mh 9 7 8,
mq 10 9,
mw 11 10 0,
mw 12 10 2,
nq 13 10 11 12,
ml 14 10 13,
gn 15 zcr 14 3,
mq 6 15] [0,1,2,7,8,9,10,11,12,13,14,15]
.ret))⟩
def zta:CF:=⟨[.tmp 2],
  (sr [
mt 1 zck 0,
pz 2 0] [0,2]
(.seq (.seq (.reg true [
fa 4 0 1,
ld 5 4,
mu 6 zfn 5,
fa 7 1 1,
ld 8 7,
mu 9 zfn 8,
fo 10 1 2 6 9,
mu 11 zd4 10,
mq 3 11] [4,5,6,7,8,9,10,11])
(sr [
mq 12 3,
my 13 12 0] [12]
(kh 13 (sr [
mq 14 3,
mq 2 14] [3,14]
.ret)
 .skip)))
(.seq (.reg true [
fa 15 1 1,
ld 16 15,
fa 17 0 1,
ld 18 17,
mh 19 16 18,
gn 20 ziz 19 11,
fa 21 1 1,
ld 22 21,
fa 23 0 1,
ld 24 23,
m8 25 22 24,
fk 26 25 400,
gn 27 ziz 26 4,
fa 28 2 1,
ld 29 28,
fg 30 zjg 29 1 127,
cw 31 1 3 20 27 30,
mu 32 zd4 31,
mq 2 32] [1,15,16,17,18,19,20,21,22,23,24,25,26,27,28,29,30,31,32])
.ret)))⟩
def zfj:C:=
  (sr [
mh 9 8 7] []
(kg 9 0
(.seq (.block 1 (sr [
mq 10 8,
mq 5 10] [10]
(sr [
mq 11 1,
mq 12 0,
mq 13 5,
md 14 11 12 13,
lq 15 11 14,
fd 16 11 15] [11,12,13,14,15]
(kh 16 (sr [
mq 17 5,
mq 4 17] [5,17]
.ret)
 .skip))))
(rg [
mf 18 8 1,
mq 8 18] [18]))))
def zf1:CF:=⟨[.tmp 4],
  (sr [
pz 4 0] [4]
(.seq (sr [
mq 6 0,
mr 7 6,
pz 8 0] [6]
(kj 0 [0,1,7,8] zfj))
(sr [
pz 4 (-1)] []
.ret)))⟩
def zya:CF:=⟨[.tmp 3],
  (sr [
mt 2 zai 0,
mg 3] [0,3]
(sr [
fa 4 0 2,
ld 5 4,
ld 6 1,
fw 7 5 6,
mq 3 7] [1,2,4,5,6,7]
.ret))⟩
def zvq:CF:=⟨[.tmp 2,.tmp 3],
  (sr [
mt 1 zcx 0,
gi 2 0,
pz 3 0] [0,2,3]
(.seq (sr [
lq 5 13 1,
mu 6 zhl 5,
mq 4 6] [5,6]
(sr [
mq 7 4,
my 8 7 0] [7]
(kh 8 (sr [
mq 9 4,
gi 2 0,
mq 3 9] [4,9]
.ret)
 .skip)))
(sr [
lq 10 13 1,
mu 11 zj0 10,
mq 2 11,
pz 3 0] [1,10,11]
.ret)))⟩
def zr2:CF:=⟨[.tmp 2],
  (sr [
mg 2] [2]
(sr [
mq 3 0,
cr 4 3,
mq 5 4,
mn 6 5 0,
dj 7 5 zdo 6,
nf 8 5 7,
me 9 5 8,
mq 2 9] [0,3,4,5,6,7,8,9]
.ret))⟩
def zzs:CF:=⟨[.tmp 6],
  (sr [
pz 6 0] [6]
(sr [
mq 7 0,
mq 8 1,
mh 9 7 8,
mq 10 9,
mw 11 10 0,
mw 12 10 2,
nq 13 10 11 12,
ml 14 10 13,
gn 15 zcp 14 3,
mq 6 15] [0,1,2,7,8,9,10,11,12,13,14,15]
.ret))⟩
def zfz:C:=
  (sr [
mh 9 8 7] []
(kg 9 0
(.seq (.block 1 (sr [
mq 10 8,
mq 5 10] [10]
(sr [
mq 11 1,
mq 12 0,
mq 13 5,
md 14 18 12 13,
lq 15 18 14,
fd 16 11 15] [11,12,13,14,15]
(kh 16 (sr [
mq 17 5,
mq 4 17] [5,17]
.ret)
 .skip))))
(rg [
mf 18 8 1,
mq 8 18] [18]))))
def zgj:CF:=⟨[.tmp 4],
  (sr [
pz 4 0] [4]
(.seq (sr [
mq 6 0,
mr 7 6,
pz 8 0] [6]
(kj 0 [0,1,7,8] zfz))
(sr [
pz 4 (-1)] []
.ret)))⟩
def zx4:CF:=⟨[.tmp 3],
  (sr [
mt 2 zat 0,
mg 3] [0,3]
(sr [
fa 4 0 2,
fa 5 0 4,
ld 6 5,
ld 7 1,
fw 8 6 7,
mq 3 8] [1,2,4,5,6,7,8]
.ret))⟩
def zx3:CF:=⟨[.tmp 4],
  (sr [
mt 2 zai 0,
mt 3 zac 1,
mg 4] [0,1,4]
(sr [
fa 5 1 2,
ld 6 5,
dh 7 6 [84],
mq 8 7,
mz 9 8 1 2,
ge 10 8 9,
mz 11 8 1 3,
ge 12 8 11,
du 13 8 10 12,
ml 14 8 13,
mq 15 14,
gy 16 15 2 2,
ga 17 15 16,
gq 18 15 true (.bin .eql (.t 17) (.k (.d (.str [])))),
mn 19 15 18,
mz 20 19 2 2,
ge 21 19 20,
mz 22 19 2 3,
ge 23 19 22,
du 24 19 21 23,
nk 25 15 19 24,
me 26 15 25,
mq 4 26] [2,3,5,6,7,8,9,10,11,12,13,14,15,16,17,18,19,20,21,22,23,24,25,26]
.ret))⟩
def zzy:CF:=⟨[.tmp 4,.tmp 5],
  (sr [
mt 2 zai 0,
gi 4 0,
pz 5 0] [0,4,5]
(.seq (sr [
lq 7 11 2,
mu 8 zfu 7,
mq 9 1,
fg 10 zbw 9 0 99999,
fo 11 1 2 8 10,
mu 12 zcq 11,
mq 6 12] [7,8,9,10,11,12]
(sr [
mq 13 6,
my 14 13 0] [13]
(kh 14 (sr [
mq 15 6,
gi 4 0,
mq 5 15] [6,15]
.ret)
 .skip)))
(.seq (sr [
lq 16 11 2,
mq 17 1,
gv 18 zgu 16 17,
gz 19 18] [16,17,18]
(kh 19 (sr [
gi 4 0,
pz 5 30] []
.ret)
 .skip))
(sr [
lq 20 11 2,
mq 21 1,
dt 22 ze6 20 21,
tq 23 (.call true true (.k (.fn zgx [] [])) [.t 22]),
mq 4 23,
pz 5 0] [1,2,20,21,22,23]
.ret))))⟩
def z3k:CF:=⟨[.tmp 2],
  (sr [
pz 2 0] [2]
(.seq (.cond (.k (.d (.bool false))) (sr [
mq 3 0,
tq 4 (.conv .u32 (.t 3)),
mu 5 zrj 4,
mq 2 5] [0,3,4,5]
.ret)
 .skip)
(sr [
mq 6 0,
mu 7 zrk 6,
mq 2 7] [0,6,7]
.ret)))⟩
def z3j:CF:=⟨[.tmp 2],
  (sr [
mg 2] [2]
(sr [
mq 3 0,
mq 4 0,
f9 5 3 4,
mq 2 5] [0,3,4,5]
.ret))⟩
def zjq:C:=
  (sr [
mh 11 10 9] []
(kg 11 0
(.seq (.block 1 (sr [
md 12 18 8 10,
lq 13 18 12,
dy 7 zat,
mc 18 7 13] [12,13]
(rg [
mq 14 5,
mq 15 1,
lq 16 18 7,
fd 17 15 16,
gx 18 1 1 17,
gd 19 zc0 1 8 14 18,
mq 5 19] [7,14,15,16,17,18,19])))
(rg [
mf 20 10 1,
mq 10 20] [20]))))
def zkq:CF:=⟨[.tmp 4],
  (sr [
gh 4 zc0 1 8] [4]
(sr [
gh 5 zc0 1 8] []
(.seq (sr [
mq 8 0,
mr 9 8,
pz 10 0] [0]
(kj 0 [1,5,8,9,10] zjq))
(sr [
mq 21 5,
mq 4 21] [5,21]
.ret))))⟩
def zws:CF:=⟨[.tmp 3],
  (sr [
mt 2 zat 0,
pz 3 0] [0,3]
(.seq (sr [
fa 4 0 2,
fa 5 5 4,
ld 6 5,
nz 7 6] [4,5,6]
(kh 7 (sr [
pz 3 (-1)] []
.ret)
 .skip))
(sr [
ld 8 1,
fa 9 0 2,
fa 10 5 9,
ld 11 10,
tq 12 (.lookup .str (.int .i64 0) false (.t 8) (.t 11)),
mq 3 12] [1,2,8,9,10,11,12]
.ret)))⟩
def zps:CF:=⟨[],
  (sr [
mq 5 0,
mr 6 5,
mq 4 6] [5,6]
(rg [
mq 7 0,
mq 8 4,
mq 9 4,
dm 10 9,
mu 11 zlo 10,
mq 12 1,
tq 13 (.call true true (.k (.fn zc3 [] [])) [.t 7,kq 0,.t 8,.t 11,.t 12])] [0,1,4,7,8,9,10,11,12,13]))⟩
def zn1:CF:=⟨[.tmp 5],
  (sr [
pz 5 0] [5]
(.seq (.reg true [
mq 6 0,
ld 7 2,
m8 8 6 7,
mu 9 zgk 8,
mq 10 1,
ld 11 2,
m8 12 10 11,
mu 13 zgk 12,
gv 14 zbx 9 13,
mq 15 0,
mq 16 1,
gv 17 zbx 15 16,
fo 18 1 2 14 17,
mu 19 zha 18,
mq 5 19] [0,1,2,6,7,8,9,10,11,12,13,14,15,16,17,18,19])
.ret))⟩
def zic:C:=
  (.seq (sr [
mq 11 8,
mq 12 1,
na 13 11 12] [11,12]
(kh 13 .skip
 (.exit 0)))
(.block 1 (sr [
mq 14 0,
mq 15 7,
mq 16 8,
mq 17 2,
gm 18 zcb 14 15 16 17] [7,14,15,16,17,18]
(sr [
mq 19 8,
mq 7 19] [19]
(rg [
mq 20 8,
mq 21 6,
gf 22 20 21,
mq 8 22] [20,21,22])))))
def zid:C:=
  (.seq (sr [
mq 33 8,
mq 34 1,
na 35 33 34] [33,34]
(kh 35 .skip
 (.exit 4)))
(.block 5 (sr [
mq 36 0,
mq 37 7,
mq 38 7,
mq 39 6,
gf 40 38 39,
mq 41 8,
mq 42 2,
fl 43 zee 36 37 40 41 42] [7,36,37,38,39,40,41,42,43]
(sr [
mq 44 8,
mq 7 44] [44]
(rg [
mq 45 8,
mq 46 6,
cz 47 2 46,
gf 48 45 47,
mq 8 48] [45,46,47,48])))))
def zie:C:=
  (.seq (sr [
mq 28 6,
mq 29 1,
mh 30 28 29] [28,29]
(kh 30 .skip
 (.exit 2)))
(.block 3 (sr [
mq 31 6,
cz 32 2 31,
pz 7 0,
mq 8 32] [31,32]
(.seq (kj 4 [0,1,2,6,7,8] zid)
(.seq (sr [
mq 49 7,
mq 50 6,
gf 51 49 50,
mq 9 51] [49,50,51]
(sr [
mq 52 9,
mq 53 1,
mh 54 52 53] [52,53]
(kh 54 (rg [
mq 55 0,
mq 56 7,
mq 57 9,
mq 58 1,
mq 59 2,
fl 60 zee 55 56 57 58 59] [7,9,55,56,57,58,59,60])
 .skip)))
(rg [
mq 61 6,
tq 62 (.bin .mul (.t 61) (kq 2)),
mq 6 62] [61,62]))))))
def zi8:CF:=⟨[],
  (sr [
pz 6 20] []
(sr [
mq 10 6,
pz 7 0,
mq 8 10] [10]
(.seq (kj 0 [0,1,2,6,7,8] zic)
(sr [
mq 23 0,
mq 24 7,
mq 25 1,
mq 26 2,
gm 27 zcb 23 24 25 26] [7,23,24,25,26,27]
(kj 2 [0,1,2,6] zie)))))⟩
def zor:C:=
  (sr [
fy 7 6 2] []
(kg 7 0
(.seq (.block 1 (sr [
mq 8 6,
tq 9 (.idxA 2 1 none (.t 5) (.t 6)),
mq 3 8,
mq 4 9] [8,9]
(sr [
mq 10 4,
fh 11 10 0,
mq 12 11,
mn 13 12 0,
mn 14 12 3,
mn 15 12 4,
n9 16 12 13 14 15,
nf 17 12 16,
me 18 12 17] [3,4,10,11,12,13,14,15,16,17]
(kh 18 .ret
 .skip))))
(rg [
mf 19 6 1,
mq 6 19] [19]))))
def zql:CF:=⟨[],
  (sr [
lq 5 2 1,
pz 6 0] [1]
(kj 0 [0,5,6] zor))⟩
def zpr:CF:=⟨[.tmp 4],
  (sr [
mg 4] [4]
(sr [
mq 5 0,
mq 6 1,
gv 7 zho 5 6,
fh 8 7 0,
mq 4 8] [0,1,5,6,7,8]
.ret))⟩
def zjt:C:=
  (.seq (sr [
mq 11 8,
mq 12 1,
na 13 11 12] [11,12]
(kh 13 .skip
 (.exit 0)))
(.block 1 (sr [
mq 14 0,
mq 15 7,
mq 16 8,
mq 17 2,
dx 18 za7 14 15 16 17] [7,14,15,16,17,18]
(sr [
mq 19 8,
mq 7 19] [19]
(rg [
mq 20 8,
mq 21 6,
gf 22 20 21,
mq 8 22] [20,21,22])))))
def zju:C:=
  (.seq (sr [
mq 33 8,
mq 34 1,
na 35 33 34] [33,34]
(kh 35 .skip
 (.exit 4)))
(.block 5 (sr [
mq 36 0,
mq 37 7,
mq 38 7,
mq 39 6,
gf 40 38 39,
mq 41 8,
mq 42 2,
fj 43 zay 36 37 40 41 42] [7,36,37,38,39,40,41,42,43]
(sr [
mq 44 8,
mq 7 44] [44]
(rg [
mq 45 8,
mq 46 6,
cz 47 2 46,
gf 48 45 47,
mq 8 48] [45,46,47,48])))))
def zjv:C:=
  (.seq (sr [
mq 28 6,
mq 29 1,
mh 30 28 29] [28,29]
(kh 30 .skip
 (.exit 2)))
(.block 3 (sr [
mq 31 6,
cz 32 2 31,
pz 7 0,
mq 8 32] [31,32]
(.seq (kj 4 [0,1,2,6,7,8] zju)
(.seq (sr [
mq 49 7,
mq 50 6,
gf 51 49 50,
mq 9 51] [49,50,51]
(sr [
mq 52 9,
mq 53 1,
mh 54 52 53] [52,53]
(kh 54 (rg [
mq 55 0,
mq 56 7,
mq 57 9,
mq 58 1,
mq 59 2,
fj 60 zay 55 56 57 58 59] [7,9,55,56,57,58,59,60])
 .skip)))
(rg [
mq 61 6,
tq 62 (.bin .mul (.t 61) (kq 2)),
mq 6 62] [61,62]))))))
def zkt:CF:=⟨[],
  (sr [
pz 6 20] []
(sr [
mq 10 6,
pz 7 0,
mq 8 10] [10]
(.seq (kj 0 [0,1,2,6,7,8] zjt)
(sr [
mq 23 0,
mq 24 7,
mq 25 1,
mq 26 2,
dx 27 za7 23 24 25 26] [7,23,24,25,26,27]
(kj 2 [0,1,2,6] zjv)))))⟩
def zyb:CF:=⟨[.tmp 2],
  (sr [
mg 2] [2]
(sr [
mq 3 0,
mq 4 0,
f9 5 3 4,
mq 2 5] [0,3,4,5]
.ret))⟩
def zth:CF:=⟨[.tmp 2],
  (sr [
fc 2 zad 1 16] [2]
(sr [
mq 4 0,
tq 5 (.call true false (.k (.fn ze7 [] [])) [.t 4]),
mq 3 5] [0,4,5]
(sr [
mq 6 3,
tq 7 (.callB true (.k (.fn n_slices_Sort_Lstring_string [] [])) [.t 6] 6)] [6,7]
(sr [
mq 8 3,
mq 2 8] [3,8]
.ret))))⟩
def zit:CF:=⟨[.tmp 2],
  (sr [
mt 1 zd0 0,
nw 2] [0,2]
(sr [
f0 3 zam 1,
mq 2 3] [1,3]
.ret))⟩
def zj6:C:=
  (.block 1 (sr [
mq 21 2,
mq 22 1,
m8 23 21 22,
mq 12 23] [21,22,23]
(.seq (sr [
mq 24 12,
dq 25 24 12] [24]
(kh 25 (sr [
mq 26 0,
mq 27 1,
mq 28 2,
mq 29 4,
dx 30 zbu 26 27 28 29] [0,1,2,4,26,27,28,29,30]
.ret)
 .skip))
(.seq (sr [
mq 31 3,
g0 32 31 0] [31]
(kh 32 (sr [
mq 33 0,
mq 34 1,
mq 35 2,
mq 36 4,
gm 37 zkz 33 34 35 36] [0,1,2,4,33,34,35,36,37]
.ret)
 .skip))
(.seq (sr [
mq 38 10,
gz 39 38] [38]
(kh 39 (sr [
mq 40 0,
mq 41 1,
mq 42 2,
mq 43 4,
gm 44 zik 40 41 42 43] [40,41,42,43,44]
(rg [
mq 45 3,
gk 46 45 1,
mq 3 46] [45,46]))
 .skip))
(sr [
mq 48 0,
mq 49 1,
mq 50 2,
mq 51 4,
gm 52 zjh 48 49 50 51,
mq 47 52,
xq 53 47 0,
xq 54 47 1,
mq 13 53,
mq 14 54] [47,48,49,50,51,52,53,54]
(.seq (sr [
mq 55 14,
g0 56 55 2] [55]
(kh 56 (sr [
mq 57 0,
mq 58 1,
mq 59 2,
mq 60 4,
gm 61 zi3 57 58 59 60] [57,58,59,60,61]
(sr [
mq 62 2,
gk 63 62 1,
mq 64 13,
mq 65 1,
m8 66 64 65,
m8 67 63 66,
mq 13 67] [62,63,64,65,66,67]
(rg [
pz 14 1] [])))
 .skip))
(.seq (sr [
mq 68 10,
mq 69 68,
mn 70 69 11,
me 71 69 70,
mq 72 71,
mn 73 72 14,
ci 74 72 73 1,
me 75 72 74] [14,68,69,70,71,72,73,74]
(kh 75 (sr [
mq 76 0,
mq 77 1,
mq 78 2,
mq 79 4,
gm 80 zgn 76 77 78 79] [76,77,78,79]
(kh 80 .ret
 .skip))
 .skip))
(.seq (.seq (.reg true [
mq 81 1,
fk 82 81 0,
mq 83 82,
mn 84 83 4,
mn 85 83 0,
mn 86 83 1,
ce 87 83 86 1,
fp 88 83 2 85 87,
ft 89 83 2 88,
mn 90 83 0,
mn 91 83 13,
fp 92 83 2 90 91,
ft 93 83 2 92,
n9 94 83 84 89 93,
cg 95 83 94 0,
nf 96 83 95,
me 97 83 96] [81,82,83,84,85,86,87,88,89,90,91,92,93,94,95,96])
(kh 97 (sr [
mq 98 0,
mq 99 1,
mq 100 2,
mq 101 13,
mq 102 4,
fl 103 zh3 98 99 100 101 102,
mq 15 103] [1,13,98,99,100,101,102,103]
(sr [
mq 104 15,
mq 1 104] [15,104]
(.exit 1)))
 .skip))
(sr [
mq 106 0,
mq 107 1,
mq 108 2,
mq 109 13,
mq 110 4,
fl 111 zkb 106 107 108 109 110,
mq 105 111,
xq 112 105 0,
xq 113 105 1,
mq 16 112,
mq 17 113] [13,105,106,107,108,109,110,111,112,113]
(sr [
mq 114 17,
mq 11 114] [17,114]
(sr [
mq 115 16,
mq 116 1,
m8 117 115 116,
mq 118 2,
mq 119 16,
m8 120 118 119,
mq 18 117,
mq 19 120] [115,116,117,118,119,120]
(sr [
mq 121 12,
cy 122 121 8,
mq 20 122] [12,121,122]
(sr [
mq 123 18,
mq 124 19,
mh 125 123 124] [123,124]
(kh 125 (sr [
mq 126 18,
mq 127 20,
ny 128 126 127,
mq 10 128] [18,20,126,127,128]
(sr [
mq 129 0,
mq 130 1,
mq 131 16,
mq 132 3,
mq 133 4,
fj 134 zbe 129 130 131 132 133] [1,129,130,131,132,133,134]
(rg [
mq 135 16,
mf 136 135 1,
mq 1 136] [16,135,136])))
 (sr [
mq 137 19,
mq 138 20,
ny 139 137 138,
mq 10 139] [19,20,137,138,139]
(sr [
mq 140 0,
mq 141 16,
mf 142 141 1,
mq 143 2,
mq 144 3,
mq 145 4,
fj 146 zbe 140 142 143 144 145] [2,140,141,142,143,144,145,146]
(rg [
mq 147 16,
mq 2 147] [16,147]))))))))))))))))))
def zk7:CF:=⟨[],
  (sr [
fe 10] []
(sr [
fe 11] []
(kj 0 [0,1,2,3,4,10,11] zj6)))⟩
def zgf:C:=
  (sr [
mh 9 8 7] []
(kg 9 0
(.seq (.block 1 (sr [
mq 10 8,
mq 5 10] [10]
(sr [
mq 11 1,
mq 12 0,
mq 13 5,
md 14 8 12 13,
lq 15 8 14,
fd 16 11 15] [11,12,13,14,15]
(kh 16 (sr [
mq 17 5,
mq 4 17] [5,17]
.ret)
 .skip))))
(rg [
mf 18 8 1,
mq 8 18] [18]))))
def zgz:CF:=⟨[.tmp 4],
  (sr [
pz 4 0] [4]
(.seq (sr [
mq 6 0,
mr 7 6,
pz 8 0] [6]
(kj 0 [0,1,7,8] zgf))
(sr [
pz 4 (-1)] []
.ret)))⟩
def zqr:CF:=⟨[.tmp 3],
  (sr [
mt 2 zag 0,
mg 3] [0,3]
(sr [
fa 4 0 2,
ld 5 4,
ld 6 1,
fw 7 5 6,
mq 3 7] [1,2,4,5,6,7]
.ret))⟩
def z1y:CF:=⟨[.tmp 2],
  (sr [
pz 2 0] [2]
(sr [
mq 3 0,
fg 4 zdc 3 0 99999,
mq 2 4] [0,3,4]
.ret))⟩
def z1l:C:=
  (.seq (sr [
mq 6 5,
mq 7 1,
mh 8 6 7] [6,7]
(kh 8 .skip
 (.exit 0)))
(.seq (.block 1 (rg [
mq 11 0,
cy 12 11 2,
mq 0 12] [11,12]))
(rg [
mq 9 5,
mf 10 9 1,
mq 5 10] [9,10])))
def z6h:CF:=⟨[.tmp 4],
  (sr [
mg 4] [4]
(.seq (sr [
pz 5 0] []
(kj 0 [0,1,5] z1l))
(sr [
mq 13 0,
ba 14 13 2,
g0 15 14 1,
mq 4 15] [0,13,14,15]
.ret)))⟩
def z3n:CF:=⟨[.tmp 2],
  (sr [
pz 2 0] [2]
(sr [
mq 3 0,
mf 4 3 5,
ba 5 4 7,
mq 2 5] [0,3,4,5]
.ret))⟩
def zms:C:=
  (.seq (sr [
mq 57 8,
mq 58 9,
mh 59 57 58] [57,58]
(kh 59 .skip
 (.exit 1)))
(.block 2 (.seq (sr [
mq 60 0,
mq 61 8,
tq 62 (.idxS (.t 60) (.t 61)),
mq 63 6,
f9 64 62 63] [60,61,62,63]
(kh 64 (sr [
mq 65 0,
mq 66 8,
mf 67 66 1,
mq 68 9,
tq 69 (.sliceS (.t 65) (some (.t 67)) (some (.t 68))),
mq 70 6,
gv 71 n_internal_stringslite_IndexByte 69 70,
mq 11 71] [65,66,67,68,69,70,71]
(.seq (sr [
mq 72 11,
fy 73 72 0] [72]
(kh 73 (sr [
pz 4 (-1)] []
.ret)
 .skip))
(rg [
mq 74 8,
mq 75 11,
mf 76 75 1,
gf 77 74 76,
mq 8 77] [11,74,75,76,77])))
 .skip))
(.seq (sr [
mq 78 0,
mq 79 8,
mf 80 79 1,
tq 81 (.idxS (.t 78) (.t 80)),
mq 82 7,
fw 83 81 82,
mq 84 83,
mn 85 84 0,
mn 86 84 8,
mn 87 84 8,
mn 88 84 5,
gq 89 84 true (.bin .add (.t 87) (.t 88)),
gq 90 84 true (.sliceS (.t 85) (some (.t 86)) (some (.t 89))),
mn 91 84 1,
gq 92 84 true (.bin .eql (.t 90) (.t 91)),
me 93 84 92] [78,79,80,81,82,83,84,85,86,87,88,89,90,91,92]
(kh 93 (sr [
mq 94 8,
mq 4 94] [8,94]
.ret)
 .skip))
(sr [
mq 95 8,
mf 96 95 1,
mq 8 96] [95,96]
(sr [
mq 97 10,
mf 98 97 1,
mq 10 98] [97,98]
(sr [
mq 99 5,
tq 100 (.bad),
na 101 99 100,
mq 102 101,
mn 103 102 10,
mn 104 102 8,
dj 105 102 zpt 104,
gq 106 102 true (.bin .gtr (.t 103) (.t 105)),
me 107 102 106] [99,100,101,102,103,104,105,106]
(kh 107 (sr [
mq 108 0,
mq 109 8,
bj 110 108 109,
mq 111 1,
gv 112 zhb 110 111,
mq 12 112] [0,1,108,109,110,111,112]
(.seq (sr [
mq 113 12,
fh 114 113 0] [113]
(kh 114 (sr [
mq 115 12,
mq 116 8,
gf 117 115 116,
mq 4 117] [8,12,115,116,117]
.ret)
 .skip))
(sr [
pz 4 (-1)] []
.ret)))
 (sr [
mq 118 5,
tq 119 (.bad),
fi 120 118 119,
mq 121 120,
mn 122 121 10,
mn 123 121 8,
gq 124 121 true (.bin .shr (.t 123) (.k (.d (.int .u64 4)))),
gq 125 121 true (.bin .add (kq 4) (.t 124)),
gq 126 121 true (.bin .geq (.t 122) (.t 125)),
me 127 121 126,
mq 128 127,
mn 129 128 8,
mn 130 128 9,
de 131 128 129 130,
me 132 128 131] [118,119,120,121,122,123,124,125,126,127,128,129,130,131]
(kh 132 (sr [
mq 133 0,
mq 134 8,
bj 135 133 134,
mq 136 1,
gv 137 zij 135 136,
mq 13 137] [0,1,133,134,135,136,137]
(.seq (sr [
mq 138 13,
fy 139 138 0] [138]
(kh 139 (sr [
pz 4 (-1)] []
.ret)
 .skip))
(sr [
mq 140 8,
mq 141 13,
gf 142 140 141,
mq 4 142] [8,13,140,141,142]
.ret)))
 .skip))))))))))
def zn2:CF:=⟨[.tmp 4],
  (sr [
pz 4 0] [4]
(sr [
mq 14 1,
nv 15 14,
mq 5 15] [14,15]
(.seq (.block 0 (sr [
mq 17 5,
g0 18 17 0,
mq 19 18,
mw 20 19 1,
mw 21 19 0,
du 22 19 20 21,
ml 23 19 22,
mq 16 23] [17,18,19,20,21,22,23]
(kh 16 (sr [
pz 4 0] []
.ret)
 (sr [
mq 25 5,
g0 26 25 1,
mq 24 26] [25,26]
(kh 24 (sr [
mq 27 0,
mq 28 1,
tq 29 (.idxS (.t 28) (kq 0)),
gv 30 n_internal_stringslite_IndexByte 27 29,
mq 4 30] [0,1,27,28,29,30]
.ret)
 (sr [
mq 32 5,
mq 33 0,
nv 34 33,
ny 35 32 34,
mq 31 35] [32,33,34,35]
(kh 31 (sr [
pz 4 (-1)] []
.ret)
 (sr [
mq 37 5,
tq 38 (.bad),
na 39 37 38,
mq 40 39,
mn 41 40 0,
cd 42 40 41,
nh 43 40 42 64,
me 44 40 43,
mq 36 44] [37,38,39,40,41,42,43,44]
(kh 36 (sr [
mq 45 0,
mq 46 1,
gv 47 zhb 45 46,
mq 4 47] [0,1,45,46,47]
.ret)
 .skip)))))))))
(sr [
mq 48 1,
tq 49 (.idxS (.t 48) (kq 0)),
mq 6 49] [48,49]
(sr [
mq 50 1,
tq 51 (.idxS (.t 50) (kq 1)),
mq 7 51] [50,51]
(sr [
pz 8 0] []
(sr [
mq 52 0,
nv 53 52,
mq 54 5,
m8 55 53 54,
mf 56 55 1,
mq 9 56] [52,53,54,55,56]
(sr [
pz 10 0] []
(.seq (kj 1 [0,1,5,6,7,8,9,10] zms)
(sr [
pz 4 (-1)] []
.ret))))))))))⟩
def zg9:CF:=⟨[.tmp 2],
  (sr [
mt 1 zkm 0,
nw 2] [0,2]
(sr [
f0 3 zaq 1,
mq 2 3] [1,3]
.ret))⟩
def zra:CF:=⟨[.tmp 6],
  (sr [
mt 3 zb8 0,
mt 4 zag 1,
mt 5 zc0 2,
mg 6] [0,1,2,6]
(sr [
ld 8 3,
lq 9 8 4,
gg 10 zdu 8 9,
di 11 zc8 3 5,
gg 12 zaz 10 11,
mq 7 12] [3,8,9,10,11,12]
(sr [
fa 13 4 4,
ld 14 13,
ld 15 5,
na 16 14 15,
mq 17 16,
mn 18 17 7,
nf 19 17 18,
me 20 17 19,
mq 6 20] [4,5,7,13,14,15,16,17,18,19,20]
.ret)))⟩
def zn3:CF:=⟨[.tmp 4],
  (sr [
mt 3 zag 0,
mg 4] [0,4]
(sr [
ld 5 1,
lq 6 8 3,
ld 7 2,
n8 8 zca 5 6 7,
mq 4 8] [1,2,3,5,6,7,8]
.ret))⟩
def zl8:C:=
  (sr [
mh 9 8 7] []
(kg 9 0
(.seq (.block 1 (sr [
mq 10 8,
mq 5 10] [10]
(sr [
mq 11 1,
mq 12 0,
mq 13 5,
md 14 1 12 13,
ld 15 14,
fw 16 11 15] [11,12,13,14,15]
(kh 16 (sr [
mq 17 5,
mq 4 17] [5,17]
.ret)
 .skip))))
(rg [
mf 18 8 1,
mq 8 18] [18]))))
def zne:CF:=⟨[.tmp 4],
  (sr [
pz 4 0] [4]
(.seq (sr [
mq 6 0,
mr 7 6,
pz 8 0] [6]
(kj 0 [0,1,7,8] zl8))
(sr [
pz 4 (-1)] []
.ret)))⟩
def ztd:CF:=⟨[.tmp 6],
  (sr [
pz 6 0] [6]
(sr [
mq 8 0,
mq 9 1,
fx 10 zb1 8 9,
mq 7 10] [1,8,9,10]
(.seq (sr [
mq 11 7,
nj 12 0 11] [11]
(kh 12 (sr [
pz 6 10] []
.ret)
 .skip))
(sr [
mq 13 0,
mq 14 7,
gb 15 14,
lq 16 8 15,
mq 17 2,
n8 18 zca 13 16 17,
gz 19 18,
gn 20 zas 19 20,
mq 6 20] [0,2,7,13,14,15,16,17,18,19,20]
.ret))))⟩
def zox:CF:=⟨[.tmp 4],
  (sr [
mt 3 zad 1,
f4 4] [1,4]
(.seq (sr [
mq 6 0,
gb 7 6,
fa 8 3 7,
ld 9 8,
f0 10 zcs 3,
gg 11 zbm 9 10,
mq 5 11] [3,6,7,8,9,10,11]
(sr [
mq 12 5,
fh 13 12 0] [12]
(kh 13 (sr [
mq 14 0,
gb 15 14,
fa 16 3 15,
ld 17 16,
mq 18 5,
md 19 5 17 18,
mq 4 19] [0,5,14,15,16,17,18,19]
.ret)
 .skip)))
(sr [
f4 4] []
.ret)))⟩
def zkn:C:=
  (sr [
mh 9 8 7] []
(kg 9 0
(.seq (.block 1 (sr [
mq 10 8,
mq 5 10] [10]
(sr [
mq 11 1,
mq 12 0,
mq 13 5,
md 14 1 12 13,
ld 15 14,
tq 16 (.call false true (.t 11) [.t 15])] [11,12,13,14,15]
(kh 16 (sr [
mq 17 5,
mq 4 17] [5,17]
.ret)
 .skip))))
(rg [
mf 18 8 1,
mq 8 18] [18]))))
def zld:CF:=⟨[.tmp 4],
  (sr [
pz 4 0] [4]
(.seq (sr [
mq 6 0,
mr 7 6,
pz 8 0] [6]
(kj 0 [0,1,7,8] zkn))
(sr [
pz 4 (-1)] []
.ret)))⟩
def zm7:C:=
  (sr [
mh 9 8 7] []
(kg 9 0
(.seq (.block 1 (sr [
mq 10 8,
mq 5 10] [10]
(sr [
mq 11 1,
mq 12 0,
mq 13 5,
md 14 1 12 13,
ld 15 14,
tq 16 (.call false true (.t 11) [.t 15])] [11,12,13,14,15]
(kh 16 (sr [
mq 17 5,
mq 4 17] [5,17]
.ret)
 .skip))))
(rg [
mf 18 8 1,
mq 8 18] [18]))))
def zo1:CF:=⟨[.tmp 4],
  (sr [
pz 4 0] [4]
(.seq (sr [
mq 6 0,
mr 7 6,
pz 8 0] [6]
(kj 0 [0,1,7,8] zm7))
(sr [
pz 4 (-1)] []
.ret)))⟩
def zx8:CF:=⟨[.tmp 2],
  (sr [
mt 1 zad 0,
nw 2] [0,2]
(sr [
f0 3 ze0 1,
mq 2 3] [1,3]
.ret))⟩
def zvr:CF:=⟨[.tmp 3],
  (sr [
mg 3] [3]
(sr [
mq 4 0,
ld 5 1,
fw 6 4 5,
mq 3 6] [0,1,4,5,6]
.ret))⟩
def zx9:CF:=⟨[.tmp 2],
  (sr [
mg 2] [2]
(sr [
fe 2] []
.ret))⟩
def zxu:C:=
  (sr [
mh 8 7 6] []
(kg 8 0
(.seq (.block 1 (sr [
md 9 1 5 7,
ld 10 9,
mq 4 10] [9,10]
(sr [
mq 11 4,
my 12 11 0] [11]
(kh 12 (sr [
mq 13 4,
mq 2 13] [4,13]
.ret)
 .skip))))
(rg [
mf 14 7 1,
mq 7 14] [14]))))
def z1r:CF:=⟨[.tmp 2],
  (sr [
pz 2 0] [2]
(.seq (sr [
mq 5 0,
mr 6 5,
pz 7 0] [0]
(kj 0 [5,6,7] zxu))
(sr [
pz 2 0] []
.ret)))⟩
def zwx:CF:=⟨[.tmp 2],
  (sr [
pz 2 0] [2]
(sr [
mq 3 0,
fg 4 zjg 3 0 99999,
mq 2 4] [0,3,4]
.ret))⟩
def z3g:CF:=⟨[.tmp 4],
  (sr [
pz 4 0] [4]
(.seq (sr [
mq 5 0] [0]
(kh 5 (sr [
mq 6 1,
mq 4 6] [1,6]
.ret)
 .skip))
(sr [
pz 4 0] []
.ret)))⟩
def zzx:CF:=⟨[.tmp 6],
  (sr [
pz 6 0] [6]
(sr [
mq 7 0,
mq 8 1,
mh 9 7 8,
mq 10 9,
mw 11 10 0,
mw 12 10 2,
nq 13 10 11 12,
ml 14 10 13,
gn 15 ziz 14 3,
mq 6 15] [0,1,2,7,8,9,10,11,12,13,14,15]
.ret))⟩
def zsa:CF:=⟨[.tmp 2],
  (sr [
mt 1 zcx 0,
pz 2 0] [0,2]
(.seq (.reg true [
fa 3 0 1,
ld 4 3,
mu 5 zdo 4,
gz 6 5,
gn 7 zcr 6 8,
fa 8 2 1,
ld 9 8,
mu 10 zmg 9,
fa 11 3 1,
ld 12 11,
mu 13 zhm 12,
fa 14 6 1,
lq 15 3 14,
mu 16 zde 15,
fa 17 9 1,
ld 18 17,
fg 19 zbw 18 0 1439,
fa 20 10 1,
ld 21 20,
fa 22 11 1,
ld 23 22,
fa 24 12 1,
ld 25 24,
b6 26 zo9 21 23 25,
tq 27 (.mkList 1 6 [.t 7,.t 10,.t 13,.t 16,.t 19,.t 26]),
mu 28 zcq 27,
mq 2 28] [1,3,4,5,6,7,8,9,10,11,12,13,14,15,16,17,18,19,20,21,22,23,24,25,26,27,28])
.ret))⟩
def zs7:C:=
  (sr [
mh 17 16 15] []
(kg 17 0
(.seq (.block 1 (sr [
md 18 1 14 16,
ld 19 18,
mq 7 19] [18,19]
(rg [
mq 20 5,
mq 21 7,
cz 22 1440 21,
fa 23 9 1,
ld 24 23,
gf 25 22 24,
fa 26 2 1,
ld 27 26,
fa 28 3 1,
ld 29 28,
fa 30 10 1,
ld 31 30,
fa 32 11 1,
ld 33 32,
fa 34 12 1,
ld 35 34,
fa 36 0 1,
ld 37 36,
tq 38 (.build pk [(0,1,.t 25),(1,1,.t 27),(2,1,.t 29),(3,1,.t 31),(4,1,.t 33),(5,1,.t 35),(6,1,.t 37)]),
gx 39 7 1 38,
gd 40 zac 7 80 20 39,
mq 5 40] [7,20,21,22,23,24,25,26,27,28,29,30,31,32,33,34,35,36,37,38,39,40])))
(rg [
mf 41 16 1,
mq 16 41] [41]))))
def zvs:CF:=⟨[.tmp 2],
  (sr [
mt 1 zcx 0,
gh 2 zac 7 80] [0,2]
(sr [
fa 9 6 1,
lq 10 3 9,
mu 11 zje 10,
mq 8 11,
xq 12 8 0,
xq 13 8 1,
mq 3 12,
mq 4 13] [4,8,9,10,11,12,13]
(sr [
gh 5 zac 7 80] []
(.seq (sr [
mq 14 3,
mr 15 14,
pz 16 0] [3]
(kj 0 [1,5,14,15,16] zs7))
(sr [
mq 42 5,
mq 2 42] [5,42]
.ret)))))⟩
def zvp:CF:=⟨[.tmp 4],
  (sr [
mt 2 zai 0,
mg 4] [0,4]
(sr [
fa 8 7 2,
lq 9 3 8,
mq 10 1,
gv 11 zqw 9 10,
mq 7 11,
xq 12 7 0,
xq 13 7 1,
mq 5 12,
mq 6 13] [1,2,7,8,9,10,11,12,13]
(sr [
mq 14 6,
g0 15 14 0,
mq 16 15,
mn 17 16 5,
me 18 16 17,
mq 4 18] [5,6,14,15,16,17,18]
.ret)))⟩
def zv3:CF:=⟨[.tmp 2],
  (sr [
gi 2 0] [2]
(sr [
mq 3 0,
tq 4 (.call true true (.k (.fn zdw [] [])) [.k (.d .nil),.t 3]),
mq 2 4] [0,3,4]
.ret))⟩
def zr9:CF:=⟨[.tmp 4],
  (sr [
mt 2 zai 0,
mt 3 zc0 1,
nw 4] [0,1,4]
(sr [
di 5 zb5 3 2,
mq 4 5] [2,3,5]
.ret))⟩
def zz2:CF:=⟨[.tmp 2],
  (sr [
pz 2 0] []
(.seq (sr [
mq 3 0,
tq 4 (.bin .geq (.t 3) (.k (.d (.int .u32 65536))))] [3]
(kh 4 (sr [
mq 5 0,
fu 6 5 16,
mq 0 6] [5,6]
(rg [
pz 2 16] []))
 .skip))
(.seq (sr [
mq 7 0,
tq 8 (.bin .geq (.t 7) (.k (.d (.int .u32 256))))] [7]
(kh 8 (sr [
mq 9 0,
fu 10 9 8,
mq 0 10] [9,10]
(rg [
mq 11 2,
mf 12 11 8,
mq 2 12] [11,12]))
 .skip))
(sr [
mq 13 2,
mq 14 0,
tq 15 (.conv .u8 (.t 14)),
tq 16 (.idxS (.k (.d (.str [0,1,2,2,3,3,3,3,4,4,4,4,4,4,4,4,5,5,5,5,5,5,5,5,5,5,5,5,5,5,5,5,6,6,6,6,6,6,6,6,6,6,6,6,6,6,6,6,6,6,6,6,6,6,6,6,6,6,6,6,6,6,6,6,7,7,7,7,7,7,7,7,7,7,7,7,7,7,7,7,7,7,7,7,7,7,7,7,7,7,7,7,7,7,7,7,7,7,7,7,7,7,7,7,7,7,7,7,7,7,7,7,7,7,7,7,7,7,7,7,7,7,7,7,7,7,7,7,8,8,8,8,8,8,8,8,8,8,8,8,8,8,8,8,8,8,8,8,8,8,8,8,8,8,8,8,8,8,8,8,8,8,8,8,8,8,8,8,8,8,8,8,8,8,8,8,8,8,8,8,8,8,8,8,8,8,8,8,8,8,8,8,8,8,8,8,8,8,8,8,8,8,8,8,8,8,8,8,8,8,8,8,8,8,8,8,8,8,8,8,8,8,8,8,8,8,8,8,8,8,8,8,8,8,8,8,8,8,8,8,8,8,8,8,8,8,8,8,8,8,8,8,8,8,8,8]))) (.t 15)),
dn 17 16,
gf 18 13 17,
mq 2 18] [0,13,14,15,16,17,18]
.ret))))⟩
def zz3:CF:=⟨[.tmp 2],
  (sr [
pz 2 0] []
(.seq (sr [
mq 3 0,
dw 4 3 4294967296] [3]
(kh 4 (sr [
mq 5 0,
fu 6 5 32,
mq 0 6] [5,6]
(rg [
pz 2 32] []))
 .skip))
(.seq (sr [
mq 7 0,
dw 8 7 65536] [7]
(kh 8 (sr [
mq 9 0,
fu 10 9 16,
mq 0 10] [9,10]
(rg [
mq 11 2,
mf 12 11 16,
mq 2 12] [11,12]))
 .skip))
(.seq (sr [
mq 13 0,
dw 14 13 256] [13]
(kh 14 (sr [
mq 15 0,
fu 16 15 8,
mq 0 16] [15,16]
(rg [
mq 17 2,
mf 18 17 8,
mq 2 18] [17,18]))
 .skip))
(sr [
mq 19 2,
mq 20 0,
tq 21 (.conv .u8 (.t 20)),
tq 22 (.idxS (.k (.d (.str [0,1,2,2,3,3,3,3,4,4,4,4,4,4,4,4,5,5,5,5,5,5,5,5,5,5,5,5,5,5,5,5,6,6,6,6,6,6,6,6,6,6,6,6,6,6,6,6,6,6,6,6,6,6,6,6,6,6,6,6,6,6,6,6,7,7,7,7,7,7,7,7,7,7,7,7,7,7,7,7,7,7,7,7,7,7,7,7,7,7,7,7,7,7,7,7,7,7,7,7,7,7,7,7,7,7,7,7,7,7,7,7,7,7,7,7,7,7,7,7,7,7,7,7,7,7,7,7,8,8,8,8,8,8,8,8,8,8,8,8,8,8,8,8,8,8,8,8,8,8,8,8,8,8,8,8,8,8,8,8,8,8,8,8,8,8,8,8,8,8,8,8,8,8,8,8,8,8,8,8,8,8,8,8,8,8,8,8,8,8,8,8,8,8,8,8,8,8,8,8,8,8,8,8,8,8,8,8,8,8,8,8,8,8,8,8,8,8,8,8,8,8,8,8,8,8,8,8,8,8,8,8,8,8,8,8,8,8,8,8,8,8,8,8,8,8,8,8,8,8,8,8,8,8,8,8]))) (.t 21)),
dn 23 22,
gf 24 19 23,
mq 2 24] [0,19,20,21,22,23,24]
.ret)))))⟩
def zm8:C:=
  (.block 1 (sr [
mq 21 2,
mq 22 1,
m8 23 21 22,
mq 12 23] [21,22,23]
(.seq (sr [
mq 24 12,
dq 25 24 12] [24]
(kh 25 (sr [
mq 26 0,
mq 27 1,
mq 28 2,
mq 29 4,
gm 30 zdy 26 27 28 29] [0,1,2,4,26,27,28,29,30]
.ret)
 .skip))
(.seq (sr [
mq 31 3,
g0 32 31 0] [31]
(kh 32 (sr [
mq 33 0,
mq 34 1,
mq 35 2,
mq 36 4,
gm 37 zob 33 34 35 36] [0,1,2,4,33,34,35,36,37]
.ret)
 .skip))
(.seq (sr [
mq 38 10,
gz 39 38] [38]
(kh 39 (sr [
mq 40 0,
mq 41 1,
mq 42 2,
mq 43 4,
gm 44 zlr 40 41 42 43] [40,41,42,43,44]
(rg [
mq 45 3,
gk 46 45 1,
mq 3 46] [45,46]))
 .skip))
(sr [
mq 48 0,
mq 49 1,
mq 50 2,
mq 51 4,
gm 52 zmi 48 49 50 51,
mq 47 52,
xq 53 47 0,
xq 54 47 1,
mq 13 53,
mq 14 54] [47,48,49,50,51,52,53,54]
(.seq (sr [
mq 55 14,
g0 56 55 2] [55]
(kh 56 (sr [
mq 57 0,
mq 58 1,
mq 59 2,
mq 60 4,
gm 61 zl1 57 58 59 60] [57,58,59,60,61]
(sr [
mq 62 2,
gk 63 62 1,
mq 64 13,
mq 65 1,
m8 66 64 65,
m8 67 63 66,
mq 13 67] [62,63,64,65,66,67]
(rg [
pz 14 1] [])))
 .skip))
(.seq (sr [
mq 68 10,
mq 69 68,
mn 70 69 11,
me 71 69 70,
mq 72 71,
mn 73 72 14,
ci 74 72 73 1,
me 75 72 74] [14,68,69,70,71,72,73,74]
(kh 75 (sr [
mq 76 0,
mq 77 1,
mq 78 2,
mq 79 4,
gm 80 zil 76 77 78 79] [76,77,78,79]
(kh 80 .ret
 .skip))
 .skip))
(.seq (.seq (.reg true [
mq 81 1,
fk 82 81 0,
mq 83 82,
mn 84 83 4,
mn 85 83 0,
mn 86 83 1,
ce 87 83 86 1,
fp 88 83 1 85 87,
ga 89 83 88,
mn 90 83 0,
mn 91 83 13,
fp 92 83 1 90 91,
ga 93 83 92,
n9 94 83 84 89 93,
cg 95 83 94 0,
nf 96 83 95,
me 97 83 96] [81,82,83,84,85,86,87,88,89,90,91,92,93,94,95,96])
(kh 97 (sr [
mq 98 0,
mq 99 1,
mq 100 2,
mq 101 13,
mq 102 4,
fl 103 zk8 98 99 100 101 102,
mq 15 103] [1,13,98,99,100,101,102,103]
(sr [
mq 104 15,
mq 1 104] [15,104]
(.exit 1)))
 .skip))
(sr [
mq 106 0,
mq 107 1,
mq 108 2,
mq 109 13,
mq 110 4,
fl 111 zni 106 107 108 109 110,
mq 105 111,
xq 112 105 0,
xq 113 105 1,
mq 16 112,
mq 17 113] [13,105,106,107,108,109,110,111,112,113]
(sr [
mq 114 17,
mq 11 114] [17,114]
(sr [
mq 115 16,
mq 116 1,
m8 117 115 116,
mq 118 2,
mq 119 16,
m8 120 118 119,
mq 18 117,
mq 19 120] [115,116,117,118,119,120]
(sr [
mq 121 12,
cy 122 121 8,
mq 20 122] [12,121,122]
(sr [
mq 123 18,
mq 124 19,
mh 125 123 124] [123,124]
(kh 125 (sr [
mq 126 18,
mq 127 20,
ny 128 126 127,
mq 10 128] [18,20,126,127,128]
(sr [
mq 129 0,
mq 130 1,
mq 131 16,
mq 132 3,
mq 133 4,
fl 134 zc3 129 130 131 132 133] [1,129,130,131,132,133,134]
(rg [
mq 135 16,
mf 136 135 1,
mq 1 136] [16,135,136])))
 (sr [
mq 137 19,
mq 138 20,
ny 139 137 138,
mq 10 139] [19,20,137,138,139]
(sr [
mq 140 0,
mq 141 16,
mf 142 141 1,
mq 143 2,
mq 144 3,
mq 145 4,
fl 146 zc3 140 142 143 144 145] [2,140,141,142,143,144,145,146]
(rg [
mq 147 16,
mq 2 147] [16,147]))))))))))))))))))
def zo2:CF:=⟨[],
  (sr [
fe 10] []
(sr [
fe 11] []
(kj 0 [0,1,2,3,4,10,11] zm8)))⟩
def zgg:C:=
  (.seq (.seq (.reg true [
mq 18 9,
mq 19 1,
fi 20 18 19,
mq 21 20,
mn 22 21 3,
mn 23 21 0,
mn 24 21 9,
fp 25 21 2 23 24,
ft 26 21 2 25,
mn 27 21 0,
mn 28 21 9,
ce 29 21 28 1,
fp 30 21 2 27 29,
ft 31 21 2 30,
n9 32 21 22 26 31,
cg 33 21 32 0,
me 34 21 33] [18,19,20,21,22,23,24,25,26,27,28,29,30,31,32,33])
(kh 34 .skip
 (.exit 2)))
(.seq (.block 3 (.reg true [
mq 37 0,
mq 38 9,
mq 39 0,
mq 40 9,
gk 41 40 1,
mq 42 0,
mq 43 9,
gk 44 43 1,
md 45 2 42 44,
lq 46 2 45,
mq 47 0,
mq 48 9,
md 49 2 47 48,
lq 50 2 49,
md 51 2 37 38,
mc 2 51 46,
md 52 2 39 41,
mc 2 52 50] [37,38,39,40,41,42,43,44,45,46,47,48,49,50,51,52]))
(rg [
mq 35 9,
gk 36 35 1,
mq 9 36] [35,36])))
def zgh:C:=
  (.seq (sr [
mq 12 8,
mq 13 2,
mh 14 12 13] [12,13]
(kh 14 .skip
 (.exit 0)))
(.seq (.block 1 (sr [
mq 17 8,
mq 9 17] [17]
(kj 2 [0,1,2,3,8,9] zgg)))
(rg [
mq 15 8,
mf 16 15 1,
mq 8 16] [15,16])))
def zg0:CF:=⟨[],
  (sr [
mq 10 1,
mf 11 10 1,
mq 8 11] [10,11]
(kj 0 [0,1,2,3,8] zgh))⟩
def zqi:C:=
  (sr [
mh 9 8 7] []
(kg 9 0
(.seq (.block 1 (sr [
mq 10 8,
mq 5 10] [10]
(sr [
mq 11 1,
mq 12 0,
mq 13 5,
md 14 1 12 13,
ld 15 14,
fw 16 11 15] [11,12,13,14,15]
(kh 16 (sr [
mq 17 5,
mq 4 17] [5,17]
.ret)
 .skip))))
(rg [
mf 18 8 1,
mq 8 18] [18]))))
def zsg:CF:=⟨[.tmp 4],
  (sr [
pz 4 0] [4]
(.seq (sr [
mq 6 0,
mr 7 6,
pz 8 0] [6]
(kj 0 [0,1,7,8] zqi))
(sr [
pz 4 (-1)] []
.ret)))⟩
def zg7:C:=
  (.seq (.seq (.reg true [
mq 18 9,
mq 19 1,
fi 20 18 19,
mq 21 20,
mn 22 21 3,
mn 23 21 0,
mn 24 21 9,
fp 25 21 7 23 24,
ft 26 21 7 25,
mn 27 21 0,
mn 28 21 9,
ce 29 21 28 1,
fp 30 21 7 27 29,
ft 31 21 7 30,
gq 32 21 true (.call false true (.t 22) [.t 26,.t 31]),
cg 33 21 32 0,
me 34 21 33] [18,19,20,21,22,23,24,25,26,27,28,29,30,31,32,33])
(kh 34 .skip
 (.exit 2)))
(.seq (.block 3 (.reg true [
mq 37 0,
mq 38 9,
mq 39 0,
mq 40 9,
gk 41 40 1,
mq 42 0,
mq 43 9,
gk 44 43 1,
md 45 7 42 44,
lq 46 7 45,
mq 47 0,
mq 48 9,
md 49 7 47 48,
lq 50 7 49,
md 51 7 37 38,
mc 7 51 46,
md 52 7 39 41,
mc 7 52 50] [37,38,39,40,41,42,43,44,45,46,47,48,49,50,51,52]))
(rg [
mq 35 9,
gk 36 35 1,
mq 9 36] [35,36])))
def zg8:C:=
  (.seq (sr [
mq 12 8,
mq 13 2,
mh 14 12 13] [12,13]
(kh 14 .skip
 (.exit 0)))
(.seq (.block 1 (sr [
mq 17 8,
mq 9 17] [17]
(kj 2 [0,1,2,3,8,9] zg7)))
(rg [
mq 15 8,
mf 16 15 1,
mq 8 16] [15,16])))
def zhu:CF:=⟨[],
  (sr [
mq 10 1,
mf 11 10 1,
mq 8 11] [10,11]
(kj 0 [0,1,2,3,8] zg8))⟩
def zin:C:=
  (.seq (sr [
mq 31 10,
mq 32 11,
mh 33 31 32] [31,32]
(kh 33 .skip
 (.exit 0)))
(.block 1 (sr [
mq 34 10,
mq 35 11,
gf 36 34 35,
dm 37 36,
fu 38 37 1,
dn 39 38,
mq 12 39] [34,35,36,37,38,39]
(.seq (.reg true [
mq 40 4,
mq 41 0,
mq 42 12,
md 43 7 41 42,
lq 44 7 43,
mq 45 0,
mq 46 1,
md 47 7 45 46,
lq 48 7 47,
br 49 40 44 48,
fy 50 49 0] [40,41,42,43,44,45,46,47,48,49])
(kh 50 (rg [
mq 51 12,
mf 52 51 1,
mq 10 52] [12,51,52])
 (rg [
mq 53 12,
mq 11 53] [12,53]))))))
def zio:C:=
  (.seq (sr [
mq 55 13,
mq 56 10,
gk 57 56 1,
mh 58 55 57] [55,56,57]
(kh 58 .skip
 (.exit 2)))
(.seq (.block 3 (.reg true [
mq 61 0,
mq 62 13,
mq 63 0,
mq 64 13,
mf 65 64 1,
mq 66 0,
mq 67 13,
mf 68 67 1,
md 69 7 66 68,
lq 70 7 69,
mq 71 0,
mq 72 13,
md 73 7 71 72,
lq 74 7 73,
md 75 7 61 62,
mc 7 75 70,
md 76 7 63 65,
mc 7 76 74] [61,62,63,64,65,66,67,68,69,70,71,72,73,74,75,76]))
(rg [
mq 59 13,
mf 60 59 1,
mq 13 60] [59,60])))
def ziq:C:=
  (.seq (sr [
mq 83 14,
mq 84 15,
mh 85 83 84] [83,84]
(kh 85 .skip
 (.exit 4)))
(.block 5 (sr [
mq 86 14,
mq 87 15,
gf 88 86 87,
dm 89 88,
fu 90 89 1,
dn 91 90,
mq 16 91] [86,87,88,89,90,91]
(.seq (.reg true [
mq 92 4,
mq 93 0,
mq 94 2,
md 95 7 93 94,
lq 96 7 95,
mq 97 0,
mq 98 16,
md 99 7 97 98,
lq 100 7 99,
br 101 92 96 100,
fy 102 101 0,
gz 103 102] [92,93,94,95,96,97,98,99,100,101,102])
(kh 103 (rg [
mq 104 16,
mf 105 104 1,
mq 14 105] [16,104,105])
 (rg [
mq 106 16,
mq 15 106] [16,106]))))))
def zir:C:=
  (.seq (sr [
mq 108 17,
mq 109 14,
fi 110 108 109] [108,109]
(kh 110 .skip
 (.exit 6)))
(.seq (.block 7 (.reg true [
mq 113 0,
mq 114 17,
mq 115 0,
mq 116 17,
gk 117 116 1,
mq 118 0,
mq 119 17,
gk 120 119 1,
md 121 7 118 120,
lq 122 7 121,
mq 123 0,
mq 124 17,
md 125 7 123 124,
lq 126 7 125,
md 127 7 113 114,
mc 7 127 122,
md 128 7 115 117,
mc 7 128 126] [113,114,115,116,117,118,119,120,121,122,123,124,125,126,127,128]))
(rg [
mq 111 17,
gk 112 111 1,
mq 17 112] [111,112])))
def zis:C:=
  (.seq (sr [
mq 149 20,
mq 150 21,
mh 151 149 150] [149,150]
(kh 151 .skip
 (.exit 8)))
(.block 9 (sr [
mq 152 20,
mq 153 21,
gf 154 152 153,
dm 155 154,
fu 156 155 1,
dn 157 156,
mq 23 157] [152,153,154,155,156,157]
(.seq (.reg true [
mq 158 4,
mq 159 0,
mq 160 22,
mq 161 23,
m8 162 160 161,
md 163 7 159 162,
lq 164 7 163,
mq 165 0,
mq 166 23,
md 167 7 165 166,
lq 168 7 167,
br 169 158 164 168,
fy 170 169 0,
gz 171 170] [158,159,160,161,162,163,164,165,166,167,168,169,170])
(kh 171 (rg [
mq 172 23,
mf 173 172 1,
mq 20 173] [23,172,173])
 (rg [
mq 174 23,
mq 21 174] [23,174]))))))
def zjx:CF:=⟨[],
  (.seq (sr [
mq 25 2,
mq 26 1,
m8 27 25 26,
g0 28 27 1] [25,26,27]
(kh 28 (sr [
mq 29 2,
mq 10 29] [2,29]
(sr [
mq 30 3,
mq 11 30] [3,30]
(.seq (kj 0 [0,1,4,10,11] zin)
(.seq (sr [
mq 54 1,
mq 13 54] [1,54]
(kj 2 [0,10,13] zio))
.ret))))
 .skip))
(.seq (sr [
mq 77 3,
mq 78 2,
m8 79 77 78,
g0 80 79 1] [77,78,79]
(kh 80 (sr [
mq 81 1,
mq 14 81] [1,81]
(sr [
mq 82 2,
mq 15 82] [82]
(.seq (kj 4 [0,2,4,14,15] ziq)
(.seq (sr [
mq 107 2,
mq 17 107] [2,107]
(kj 6 [0,14,17] zir))
.ret))))
 .skip))
(sr [
mq 129 1,
mq 130 3,
gf 131 129 130,
dm 132 131,
fu 133 132 1,
dn 134 133,
mq 18 134] [129,130,131,132,133,134]
(sr [
mq 135 18,
mq 136 2,
gf 137 135 136,
mq 19 137] [135,136,137]
(sr [
pz 20 0,
pz 21 0] [20,21]
(.seq (sr [
mq 138 2,
mq 139 18,
fi 140 138 139] [138,139]
(kh 140 (sr [
mq 141 19,
mq 142 3,
m8 143 141 142,
mq 20 143] [141,142,143]
(rg [
mq 144 18,
mq 21 144] [144]))
 (sr [
mq 145 1,
mq 20 145] [145]
(rg [
mq 146 2,
mq 21 146] [146]))))
(sr [
mq 147 19,
gk 148 147 1,
mq 22 148] [147,148]
(.seq (kj 8 [0,1,2,3,4,18,19,20,21,22] zis)
(sr [
mq 175 19,
mq 176 20,
m8 177 175 176,
mq 24 177] [19,175,176,177]
(.seq (sr [
mq 178 20,
mq 179 2,
mh 180 178 179,
mq 181 180,
mn 182 181 2,
mn 183 181 24,
de 184 181 182 183,
me 185 181 184] [178,179,180,181,182,183,184]
(kh 185 (rg [
mq 186 0,
mq 187 20,
mq 188 2,
mq 189 24,
mq 190 4,
fj 191 zci 186 187 188 189 190] [2,186,187,188,189,190,191])
 .skip))
(.seq (sr [
mq 192 1,
mq 193 20,
mh 194 192 193,
mq 195 194,
mn 196 195 20,
mn 197 195 18,
de 198 195 196 197,
me 199 195 198] [192,193,194,195,196,197,198]
(kh 199 (rg [
mq 200 0,
mq 201 1,
mq 202 20,
mq 203 18,
mq 204 4,
fj 205 zay 200 201 202 203 204] [1,20,200,201,202,203,204,205])
 .skip))
(sr [
mq 206 18,
mq 207 24,
mh 208 206 207,
mq 209 208,
mn 210 209 24,
mn 211 209 3,
de 212 209 210 211,
me 213 209 212] [206,207,208,209,210,211,212]
(kh 213 (rg [
mq 214 0,
mq 215 18,
mq 216 24,
mq 217 3,
mq 218 4,
fj 219 zay 214 215 216 217 218] [0,3,4,18,24,214,215,216,217,218,219])
 .skip)))))))))))))⟩
def zsf:CF:=⟨[.tmp 2],
  (sr [
fc 2 zad 1 16] [2]
(sr [
mq 3 0,
tq 4 (.call true false (.k (.fn zcz [] [])) [.k (.d .nil),.t 3]),
mq 2 4] [0,3,4]
.ret))⟩
def zcg:C:=
  (sr [
mq 10 0,
mq 11 3,
fd 12 10 11,
gz 13 12] [3,10,11,12]
(kh 13 .ret
 .skip))
def zh1:CF:=⟨[],
  (.rangeM [ld 4 1] 5 (.t 4) 0 1 8 [0,5] [xq 9 8 0,
mq 3 9] [8,9] zcg)⟩
def zhs:C:=
  (.seq (.seq (.reg true [
mq 18 9,
mq 19 1,
fi 20 18 19,
mq 21 20,
mn 22 21 3,
mn 23 21 0,
mn 24 21 9,
fp 25 21 2 23 24,
ft 26 21 2 25,
mn 27 21 0,
mn 28 21 9,
ce 29 21 28 1,
fp 30 21 2 27 29,
ft 31 21 2 30,
gq 32 21 true (.call false true (.t 22) [.t 26,.t 31]),
cg 33 21 32 0,
me 34 21 33] [18,19,20,21,22,23,24,25,26,27,28,29,30,31,32,33])
(kh 34 .skip
 (.exit 2)))
(.seq (.block 3 (.reg true [
mq 37 0,
mq 38 9,
mq 39 0,
mq 40 9,
gk 41 40 1,
mq 42 0,
mq 43 9,
gk 44 43 1,
md 45 2 42 44,
lq 46 2 45,
mq 47 0,
mq 48 9,
md 49 2 47 48,
lq 50 2 49,
md 51 2 37 38,
mc 2 51 46,
md 52 2 39 41,
mc 2 52 50] [37,38,39,40,41,42,43,44,45,46,47,48,49,50,51,52]))
(rg [
mq 35 9,
gk 36 35 1,
mq 9 36] [35,36])))
def zht:C:=
  (.seq (sr [
mq 12 8,
mq 13 2,
mh 14 12 13] [12,13]
(kh 14 .skip
 (.exit 0)))
(.seq (.block 1 (sr [
mq 17 8,
mq 9 17] [17]
(kj 2 [0,1,2,3,8,9] zhs)))
(rg [
mq 15 8,
mf 16 15 1,
mq 8 16] [15,16])))
def zih:CF:=⟨[],
  (sr [
mq 10 1,
mf 11 10 1,
mq 8 11] [10,11]
(kj 0 [0,1,2,3,8] zht))⟩
def zf6:C:=
  (.seq (sr [
mq 7 3,
fh 8 7 0] [7]
(kh 8 .skip
 (.exit 0)))
(.seq (.block 1 (sr [
mq 11 0,
mq 12 3,
ld 13 1,
mq 14 3,
md 15 8 13 14,
lq 16 8 15,
tq 17 (.call true true (.t 11) [.t 12,.t 16]),
gz 18 17] [11,12,13,14,15,16,17]
(kh 18 .ret
 .skip)))
(rg [
mq 9 3,
gk 10 9 1,
mq 3 10] [9,10])))
def zgq:CF:=⟨[],
  (sr [
ld 4 1,
mr 5 4,
gk 6 5 1,
mq 3 6] [4,5,6]
(kj 0 [0,1,3] zf6))⟩
def zpp:CF:=⟨[.tmp 4],
  (sr [
mt 3 zag 0,
mg 4] [0,4]
(sr [
ld 5 1,
gb 6 5,
fa 7 2 6,
ld 8 7,
di 9 zb7 3 2,
gg 10 zbn 8 9,
mq 4 10] [1,2,3,5,6,7,8,9,10]
.ret))⟩
def zfa:CF:=⟨[.tmp 4],
  (sr [
mg 4] [4]
(sr [
mq 5 0,
mq 6 1,
gg 7 zbv 5 6,
fh 8 7 0,
mq 4 8] [0,1,5,6,7,8]
.ret))⟩
def zn4:CF:=⟨[.tmp 4],
  (sr [
mt 3 zby 0,
mg 4] [0,4]
(sr [
fa 5 0 3,
ld 6 5,
fa 7 0 1,
ld 8 7,
fw 9 6 8,
mq 10 9,
gy 11 10 1 3,
ga 12 10 11,
ga 13 10 2,
ni 14 10 12 13,
me 15 10 14,
mq 4 15] [1,2,3,5,6,7,8,9,10,11,12,13,14,15]
.ret))⟩
def zeu:C:=
  (sr [
mh 9 8 7] []
(kg 9 0
(.seq (.block 1 (sr [
mq 10 8,
mq 5 10] [10]
(sr [
mq 11 1,
mq 12 0,
mq 13 5,
md 14 5 12 13,
lq 15 5 14,
fd 16 11 15] [11,12,13,14,15]
(kh 16 (sr [
mq 17 5,
mq 4 17] [5,17]
.ret)
 .skip))))
(rg [
mf 18 8 1,
mq 8 18] [18]))))
def ze2:CF:=⟨[.tmp 4],
  (sr [
pz 4 0] [4]
(.seq (sr [
mq 6 0,
mr 7 6,
pz 8 0] [6]
(kj 0 [0,1,7,8] zeu))
(sr [
pz 4 (-1)] []
.ret)))⟩
def znb:CF:=⟨[.tmp 3],
  (sr [
mt 2 zan 0,
mg 3] [0,3]
(sr [
fa 4 0 2,
ld 5 4,
ld 6 1,
fw 7 5 6,
mq 3 7] [1,2,4,5,6,7]
.ret))⟩
def zzz:CF:=⟨[.tmp 2],
  (sr [
pz 2 0] [2]
(sr [
mq 3 0,
df 4 3 [65],
mq 5 4,
mn 6 5 0,
cv 7 5 6 [68],
me 8 5 7,
gn 9 zcr 8 13,
mq 2 9] [0,3,4,5,6,7,8,9]
.ret))⟩
def z3h:CF:=⟨[.tmp 6],
  (sr [
pz 6 0] [6]
(sr [
mq 7 0,
fg 8 zbw 7 0 999,
mq 9 1,
fg 10 zbw 9 0 9,
mq 11 2,
fg 12 zbw 11 0 99,
cw 13 1 3 8 10 12,
mu 14 zcq 13,
mq 6 14] [0,1,2,7,8,9,10,11,12,13,14]
.ret))⟩
def zzt:CF:=⟨[.tmp 2,.tmp 3],
  (sr [
mt 1 zck 0,
gi 2 0,
pz 3 0] [0,2,3]
(.seq (sr [
lq 5 3 1,
mu 6 zde 5,
mq 4 6] [5,6]
(sr [
mq 7 4,
my 8 7 0] [7]
(kh 8 (sr [
mq 9 4,
gi 2 0,
mq 3 9] [4,9]
.ret)
 .skip)))
(sr [
lq 10 3 1,
gu 11 zmf 10,
fq 12 zg3 11 zhk,
mq 2 12,
pz 3 0] [1,10,11,12]
.ret)))⟩
def z59:CF:=⟨[.tmp 4,.tmp 5],
  (sr [
mt 2 zck 0,
mg 4,
pz 5 0] [0,4,5]
(.seq (sr [
lq 7 3 2,
mu 8 zde 7,
mq 9 1,
mu 10 zfn 9,
fo 11 1 2 8 10,
mu 12 zd4 11,
mq 6 12] [7,8,9,10,11,12]
(sr [
mq 13 6,
my 14 13 0] [13]
(kh 14 (sr [
mq 15 6,
mg 4,
mq 5 15] [6,15]
.ret)
 .skip)))
(sr [
lq 16 3 2,
mq 17 1,
gv 18 zqx 16 17,
mq 4 18,
pz 5 0] [1,2,16,17,18]
.ret)))⟩
def zhq:C:=
  (rg [
mq 5 7] [7])
def zhr:C:=
  (.block 1 (rg [
ld 8 2,
mq 9 5,
gx 10 1 1 9,
gd 11 zc0 1 8 8 10,
mc 1 2 11] [2,5,8,9,10,11]))
def zo0:CF:=⟨[.tmp 4],
  (sr [
mt 2 zsx 0,
gh 4 zc0 1 8] [0]
(.seq (sr [
mq 6 1] [1]
(.block 0 (.rangeFn 14 (.t 6) [7] zhq zhr)))
(sr [
ld 12 2,
mq 4 12] [2,12]
.ret)))⟩
def zou:C:=
  (sr [
mh 43 42 41] []
(kg 43 0
(.seq (.block 1 (sr [
mq 44 42,
mq 5 44] [44]
(sr [
mq 45 0,
ld 46 1,
cz 47 1440 46,
fa 48 4 2,
ld 49 48,
mq 50 4,
mq 51 5,
gf 52 50 51,
bc 53 49 52,
gf 54 47 53,
fd 55 45 54,
gz 56 55] [5,45,46,47,48,49,50,51,52,53,54,55]
(kh 56 .ret
 .skip))))
(rg [
mf 57 42 1,
mq 42 57] [57]))))
def zqq:CF:=⟨[],
  (.seq (sr [
ld 6 1,
fa 7 7 2,
fa 8 0 7,
ld 9 8,
mh 10 6 9,
mq 11 10,
ge 12 11 1,
mz 13 11 7 2,
mz 14 11 1 13,
ge 15 11 14,
nq 16 11 12 15,
ml 17 11 16,
mq 18 17,
d5 19 18 11 2,
ge 20 18 1,
gq 21 18 false (cl zgu [.t 19,.t 20]),
f5 22 18 21,
ml 23 18 22] [6,7,8,9,10,11,12,13,14,15,16,17,18,19,20,21,22]
(kh 23 .ret
 .skip))
(sr [
fa 24 5 2,
ld 25 24,
fa 26 4 2,
ld 27 26,
gf 28 25 27,
gk 29 28 1,
fa 30 4 2,
ld 31 30,
nl 32 29 31,
mq 4 32] [24,25,26,27,28,29,30,31,32]
(sr [
fa 33 6 2,
ld 34 33,
fa 35 4 2,
ld 36 35,
nl 37 34 36,
mq 38 4,
m8 39 37 38,
mf 40 39 1,
tq 41 (.minmax true [kq 0,.t 40]),
pz 42 0] [33,34,35,36,37,38,39,40]
(kj 0 [0,1,2,4,41,42] zou))))⟩
def zko:C:=
  (.seq (.seq (.reg true [
mq 18 9,
mq 19 1,
fi 20 18 19,
mq 21 20,
mn 22 21 3,
mn 23 21 0,
mn 24 21 9,
fp 25 21 1 23 24,
ga 26 21 25,
mn 27 21 0,
mn 28 21 9,
ce 29 21 28 1,
fp 30 21 1 27 29,
ga 31 21 30,
n9 32 21 22 26 31,
cg 33 21 32 0,
me 34 21 33] [18,19,20,21,22,23,24,25,26,27,28,29,30,31,32,33])
(kh 34 .skip
 (.exit 2)))
(.seq (.block 3 (.reg true [
mq 37 0,
mq 38 9,
mq 39 0,
mq 40 9,
gk 41 40 1,
mq 42 0,
mq 43 9,
gk 44 43 1,
md 45 1 42 44,
ld 46 45,
mq 47 0,
mq 48 9,
md 49 1 47 48,
ld 50 49,
md 51 1 37 38,
mc 1 51 46,
md 52 1 39 41,
mc 1 52 50] [37,38,39,40,41,42,43,44,45,46,47,48,49,50,51,52]))
(rg [
mq 35 9,
gk 36 35 1,
mq 9 36] [35,36])))
def zkp:C:=
  (.seq (sr [
mq 12 8,
mq 13 2,
mh 14 12 13] [12,13]
(kh 14 .skip
 (.exit 0)))
(.seq (.block 1 (sr [
mq 17 8,
mq 9 17] [17]
(kj 2 [0,1,2,3,8,9] zko)))
(rg [
mq 15 8,
mf 16 15 1,
mq 8 16] [15,16])))
def zle:CF:=⟨[],
  (sr [
mq 10 1,
mf 11 10 1,
mq 8 11] [10,11]
(kj 0 [0,1,2,3,8] zkp))⟩
def zjs:C:=
  (.seq (sr [
mq 18 10,
mq 19 11,
f9 20 18 19] [18,19]
(kh 20 .skip
 (.exit 0)))
(.block 1 (sr [
mq 21 10,
mq 22 11,
fi 23 21 22] [21,22]
(kh 23 (sr [
mq 24 0,
mq 25 2,
mq 26 10,
m8 27 25 26,
mq 28 2,
mq 29 11,
mq 30 4,
fj 31 za4 24 27 28 29 30] [24,25,26,27,28,29,30,31]
(rg [
mq 32 10,
mq 33 11,
m8 34 32 33,
mq 10 34] [32,33,34]))
 (sr [
mq 35 0,
mq 36 2,
mq 37 10,
m8 38 36 37,
mq 39 2,
mq 40 11,
gf 41 39 40,
mq 42 10,
m8 43 41 42,
mq 44 10,
mq 45 4,
fj 46 za4 35 38 43 44 45] [35,36,37,38,39,40,41,42,43,44,45,46]
(rg [
mq 47 11,
mq 48 10,
m8 49 47 48,
mq 11 49] [47,48,49]))))))
def zks:CF:=⟨[],
  (sr [
mq 12 2,
mq 13 1,
m8 14 12 13,
mq 10 14] [1,12,13,14]
(sr [
mq 15 3,
mq 16 2,
m8 17 15 16,
mq 11 17] [3,15,16,17]
(.seq (kj 0 [0,2,4,10,11] zjs)
(rg [
mq 50 0,
mq 51 2,
mq 52 10,
m8 53 51 52,
mq 54 2,
mq 55 10,
mq 56 4,
tq 57 (.callU false (.k (.fn za4 [] [])) [.t 50,.t 53,.t 54,.t 55,.t 56])] [0,2,4,10,50,51,52,53,54,55,56,57]))))⟩
def zff:C:=
  (rg [
mq 5 7] [7])
def zfg:C:=
  (.block 1 (rg [
ld 8 2,
mq 9 5,
gx 10 1 1 9,
f8 11 zad 1 16 8 10,
mc 1 2 11] [2,5,8,9,10,11]))
def zlc:CF:=⟨[.tmp 4],
  (sr [
mt 2 zro 0,
fc 4 zad 1 16] [0]
(.seq (sr [
mq 6 1] [1]
(.block 0 (.rangeFn 14 (.t 6) [7] zff zfg)))
(sr [
ld 12 2,
mq 4 12] [2,12]
.ret)))⟩
def zfk:C:=
  (sr [
mh 9 8 7] []
(kg 9 0
(.seq (.block 1 (sr [
mq 10 8,
mq 5 10] [10]
(sr [
mq 11 1,
mq 12 0,
mq 13 5,
md 14 2 12 13,
lq 15 2 14,
fd 16 11 15] [11,12,13,14,15]
(kh 16 (sr [
mq 17 5,
mq 4 17] [5,17]
.ret)
 .skip))))
(rg [
mf 18 8 1,
mq 8 18] [18]))))
def zf2:CF:=⟨[.tmp 4],
  (sr [
pz 4 0] [4]
(.seq (sr [
mq 6 0,
mr 7 6,
pz 8 0] [6]
(kj 0 [0,1,7,8] zfk))
(sr [
pz 4 (-1)] []
.ret)))⟩
def zpi:C:=
  (rg [
mq 6 8] [8])
def zpj:C:=
  (.block 1 (sr [
ld 9 3,
mq 10 6,
fd 11 9 10] [3,9,10]
(kh 11 (rg [
ld 12 5,
mq 13 6,
gx 14 1 1 13,
gd 15 zc0 1 8 12 14,
mc 1 5 15] [5,6,12,13,14,15])
 .skip)))
def zq9:CF:=⟨[.tmp 4],
  (sr [
mt 3 zs5 1,
gh 4 zc0 1 8] [1]
(sr [
tq 5 (.alloc zsx [.own ⟨false,zc0,1,8⟩])] []
(.seq (sr [
mq 7 0] [0]
(.block 0 (.rangeFn 18 (.t 7) [8] zpi zpj)))
(sr [
ld 16 5,
mq 4 16] [5,16]
.ret))))⟩
def zzv:CF:=⟨[.tmp 2],
  (sr [
mt 1 zck 0,
nw 2] [0,2]
(sr [
f0 3 zfo 1,
mq 2 3] [1,3]
.ret))⟩
def zww:CF:=⟨[.tmp 2],
  (sr [
mg 2] [2]
(sr [
fe 2] []
.ret))⟩
def z6a:CF:=⟨[.tmp 4],
  (sr [
mt 2 zck 0,
mg 4] [0,4]
(.seq (.reg true [
mq 5 1,
fa 6 0 2,
ld 7 6,
ny 8 5 7,
mq 9 8,
mn 10 9 1,
gy 11 9 1 2,
ga 12 9 11,
ni 13 9 10 12,
me 14 9 13,
mq 15 14,
gy 16 15 2 2,
ga 17 15 16,
mn 18 15 1,
dj 19 15 zh5 18,
gq 20 15 true (cl zjf [.t 17,.t 19]),
me 21 15 20,
mq 4 21] [1,2,5,6,7,8,9,10,11,12,13,14,15,16,17,18,19,20,21])
.ret))⟩
def zif:C:=
  (.seq (sr [
mq 11 10,
mq 12 3,
mh 13 11 12] [11,12]
(kh 13 .skip
 (.exit 0)))
(.seq (.block 1 (.reg true [
mq 16 0,
mq 17 1,
mq 18 10,
gf 19 17 18,
mq 20 0,
mq 21 2,
mq 22 10,
gf 23 21 22,
mq 24 0,
mq 25 2,
mq 26 10,
gf 27 25 26,
md 28 7 24 27,
lq 29 7 28,
mq 30 0,
mq 31 1,
mq 32 10,
gf 33 31 32,
md 34 7 30 33,
lq 35 7 34,
md 36 7 16 19,
mc 7 36 29,
md 37 7 20 23,
mc 7 37 35] [16,17,18,19,20,21,22,23,24,25,26,27,28,29,30,31,32,33,34,35,36,37]))
(rg [
mq 14 10,
mf 15 14 1,
mq 10 15] [14,15])))
def zi9:CF:=⟨[],
  (sr [
pz 10 0] []
(kj 0 [0,1,2,3,10] zif))⟩
def ztt:C:=
  (.seq (sr [
mq 6 3,
fa 7 1 1,
ld 8 7,
na 9 6 8] [6,7,8]
(kh 9 .skip
 (.exit 0)))
(.seq (.block 1 (.seq (.reg true [
fa 12 2 1,
ld 13 12,
mq 14 3,
mu 15 zh5 14,
gv 16 zjf 13 15,
mq 17 16,
mn 18 17 0,
mn 19 17 3,
gq 20 17 true (.call true true (.t 18) [.t 19]),
nf 21 17 20,
me 22 17 21] [12,13,14,15,16,17,18,19,20,21])
(kh 22 .ret
 .skip)))
(rg [
mq 10 3,
mf 11 10 1,
mq 3 11] [10,11])))
def zwy:CF:=⟨[],
  (sr [
fa 4 0 1,
ld 5 4,
mq 3 5] [4,5]
(kj 0 [0,1,3] ztt))⟩
def zzw:CF:=⟨[.tmp 4],
  (sr [
mg 4] [4]
(sr [
mq 5 0,
mq 6 1,
tq 7 (.bin .shr (.t 5) (.t 6)),
tq 8 (.bin .and (.t 7) (kq 1)),
g0 9 8 1,
mq 4 9] [0,1,5,6,7,8,9]
.ret))⟩
def zx7:CF:=⟨[.tmp 2],
  (sr [
pz 2 0] [2]
(sr [
mq 3 0,
mf 4 3 5,
ba 5 4 7,
mq 2 5] [0,3,4,5]
.ret))⟩
def codes:List (Nat×CF):=[
  (zi4,zt1),
  (zg6,zz7),
  (znj,z10),
  (zfc,zz9),
  (zi5,z3r),
  (zd3,z1n),
  (zeb,zwr),
  (zcf,zpl),
  (za5,zsh),
  (zhd,ybs),
  (zmj,zz8),
  (zdz,z3q),
  (zki,z1v),
  (zky,zw4),
  (zkx,zw3),
  (zsq,z9g),
  (zi2,zt0),
  (znk,z11),
  (zls,zyg),
  (zuf,ybq),
  (zbo,zw1),
  (zco,z1o),
  (zea,ztb),
  (zft,zs9),
  (zep,zx5),
  (zdm,zwt),
  (zb3,zqk),
  (zew,z1q),
  (zhi,zr7),
  (zcv,zqm),
  (zfm,zwv),
  (zdn,ztx),
  (zgs,zvn),
  (ze5,zr5),
  (zfb,zzr),
  (zbr,zvm),
  (zcp,z3f),
  (zef,zqj),
  (zp3,ybr),
  (zso,z9a),
  (zmh,zz5),
  (zf5,z12),
  (zgl,z6b),
  (zhy,z6e),
  (zdi,zqs),
  (zxd,yez),
  (zh9,zye),
  (zqz,z6j),
  (zmn,z6g),
  (zpb,z3o),
  (zsp,z9f),
  (zj1,zv2),
  (z0l,ykl),
  (zbj,z6c),
  (zas,z9c),
  (zy2,z9h),
  (zp2,zyc),
  (zno,zvu),
  (zgm,z6d),
  (zwc,z6f),
  (zfp,zw0),
  (zau,zrd),
  (zaw,zvv),
  (zcq,z1s),
  (zfu,ztc),
  (zcr,z3i),
  (zng,z1u),
  (ziy,ztw),
  (zkh,z1p),
  (zb4,zgi),
  (zgt,zvo),
  (zch,zr3),
  (n_allocate_board_refusing_1,zov),
  (zha,ybp),
  (zbx,zz1),
  (zax,zf0),
  (zme,zzq),
  (zbz,zx6),
  (zdb,zjw),
  (zbl,zpm),
  (zeg,zqn),
  (zj9,zqo),
  (zgk,z58),
  (zhj,zr8),
  (zcl,zen),
  (zka,zqp),
  (zdt,zr6),
  (zf8,zx2),
  (zhg,zr4),
  (za6,zfw),
  (zkw,zwu),
  (zgw,zvt),
  (zoa,z9e),
  (zc7,zz4),
  (zdv,zsd),
  (zbt,zig),
  (zes,zyh),
  (n_strings_Compare,zz6),
  (zg5,z3l),
  (zdo,zzu),
  (zb1,zsc),
  (zc2,zoz),
  (zaz,zf7),
  (zdu,zsb),
  (zct,znc),
  (zbp,zkr),
  (zd8,zpq),
  (zlp,z9b),
  (zfq,zw2),
  (ze8,z6i),
  (zlq,zyf),
  (zfr,z3p),
  (zxc,yey),
  (zkl,z1z),
  (zn9,z9d),
  (zdc,zyd),
  (zjo,zpn),
  (znp,zvw),
  (zdp,zrb),
  (znq,zvx),
  (zfx,zk6),
  (zl2,zte),
  (znr,zvy),
  (zjp,zpo),
  (zns,zvz),
  (znt,zv0),
  (zhc,zmw),
  (zl3,ztf),
  (zej,ziu),
  (zl4,ztg),
  (zd7,zly),
  (znh,z1w),
  (za0,zow),
  (za1,zoy),
  (zbk,zna),
  (zkj,z1x),
  (zc1,zrc),
  (zbb,zl9),
  (zc6,zma),
  (zbf,zmu),
  (zce,zmv),
  (znu,zv1),
  (zdj,zj7),
  (zga,zty),
  (zek,zmx),
  (zgb,ztz),
  (zi1,z3m),
  (zex,znd),
  (zhn,zse),
  (zhv,z1t),
  (zhm,zwz),
  (zbw,zz0),
  (zde,zta),
  (zba,zf1),
  (zeq,zya),
  (zgv,zvq),
  (ze4,zr2),
  (zec,zzs),
  (zbc,zgj),
  (zf9,zx4),
  (zll,zx3),
  (zg4,zzy),
  (zlo,z3k),
  (zi0,z3j),
  (zdl,zkq),
  (zhh,zws),
  (zf4,zps),
  (ze3,zn1),
  (zer,zi8),
  (zcu,zql),
  (zf3,zpr),
  (zcj,zkt),
  (zh6,zyb),
  (zfv,zth),
  (zb0,zit),
  (zbe,zk7),
  (zav,zgz),
  (zdh,zqr),
  (zkk,z1y),
  (zqy,z6h),
  (zpa,z3n),
  (zh7,zn2),
  (za3,zg9),
  (zca,zra),
  (zh8,zn3),
  (zhw,zne),
  (zdf,ztd),
  (zb9,zox),
  (zdx,zld),
  (zfs,zo1),
  (zlm,zx8),
  (ze0,zvr),
  (zln,zx9),
  (zd4,z1r),
  (zfn,zwx),
  (ziz,z3g),
  (zjg,zzx),
  (zhl,zsa),
  (zj0,zvs),
  (zgu,zvp),
  (zgx,zv3),
  (ze6,zr9),
  (zrj,zz2),
  (zrk,zz3),
  (zc3,zo2),
  (zcb,zg0),
  (zho,zsg),
  (za7,zhu),
  (zay,zjx),
  (ze7,zsf),
  (zam,zh1),
  (zbu,zih),
  (zaq,zgq),
  (zc8,zpp),
  (zbn,zfa),
  (zb7,zn4),
  (zbm,ze2),
  (zcs,znb),
  (zmg,zzz),
  (zo9,z3h),
  (zje,zzt),
  (zqw,z59),
  (zdw,zo0),
  (zb5,zqq),
  (zdy,zle),
  (zci,zks),
  (zcz,zlc),
  (zbv,zf2),
  (zg3,zq9),
  (zmf,zzv),
  (zhk,zww),
  (zqx,z6a),
  (za4,zi9),
  (zfo,zwy),
  (zjf,zzw),
  (zh5,zx7)]
def code(f:Nat):Option CF:=findC f codes
def globs:Globs:=[(1,[.int .u64 1,.int .u64 10,.int .u64 100,.int .u64 1000,.int .u64 10000,.int .u64 100000,.int .u64 1000000,.int .u64 10000000,.int .u64 100000000,.int .u64 1000000000,.int .u64 10000000000,.int .u64 100000000000,.int .u64 1000000000000,.int .u64 10000000000000,.int .u64 100000000000000,.int .u64 1000000000000000,.int .u64 10000000000000000,.int .u64 100000000000000000,.int .u64 1000000000000000000,.int .u64 10000000000000000000]),(2,[.ifc true]),(3,[.ifc true])]
end Go.Proofs.YtkflcbhclegghaaGreatDoor.Co
