/-
  The functions of the seat in the evaluator's syntax (printed by a program of mine; checked in a text that follows).
-/
import Derived.Test.YtnabmkmhbncidabGreatDoorEvE
namespace Go.Proofs.YtnabmkmhbncidabGreatDoor.Co
open Go.Evl
def zjt:Nat:=4
def zjs:Nat:=5
def zeg:Nat:=6
def zjc:Nat:=7
def zst:Nat:=8
def zbe:Nat:=9
def zsv:Nat:=14
def zfb:Nat:=16
def zjr:Nat:=17
def zpo:Nat:=18
def zdm:Nat:=19
def zpl:Nat:=20
def zm0:Nat:=21
def zbd:Nat:=22
def zf9:Nat:=23
def zji:Nat:=24
def zl5:Nat:=25
def zl9:Nat:=26
def zn3:Nat:=27
def zkj:Nat:=28
def zho:Nat:=29
def zeu:Nat:=30
def zfm:Nat:=31
def za3:Nat:=32
def zal:Nat:=33
def zwr:Nat:=34
def zot:Nat:=35
def zmg:Nat:=36
def zfz:Nat:=37
def zub:Nat:=38
def zet:Nat:=39
def zam:Nat:=40
def zan:Nat:=41
def zgi:Nat:=48
def zsu:Nat:=50
def zhn:Nat:=52
def zn0:Nat:=53
def zu7:Nat:=54
def zd9:Nat:=55
def zba:Nat:=56
def zc6:Nat:=57
def zf0:Nat:=58
def zbg:Nat:=59
def zb5:Nat:=60
def zih:Nat:=61
def zk5:Nat:=62
def zdf:Nat:=63
def zg9:Nat:=64
def zks:Nat:=65
def zkr:Nat:=66
def zoo:Nat:=67
def znw:Nat:=68
def zi5:Nat:=69
def zrk:Nat:=70
def zke:Nat:=71
def zfy:Nat:=72
def znx:Nat:=73
def zlq:Nat:=74
def zh9:Nat:=75
def zou:Nat:=76
def zpn:Nat:=77
def zga:Nat:=78
def zhc:Nat:=79
def zcz:Nat:=80
def ziq:Nat:=81
def zmh:Nat:=82
def zmi:Nat:=83
def ze2:Nat:=84
def zkt:Nat:=85
def zmj:Nat:=86
def zir:Nat:=87
def zmk:Nat:=88
def zjb:Nat:=89
def zml:Nat:=90
def zgn:Nat:=91
def zku:Nat:=92
def zdl:Nat:=93
def zkv:Nat:=94
def zdd:Nat:=96
def zl7:Nat:=97
def zaq:Nat:=98
def zar:Nat:=99
def za4:Nat:=100
def zjh:Nat:=101
def zb9:Nat:=102
def zaw:Nat:=103
def zcf:Nat:=104
def zaz:Nat:=105
def zby:Nat:=106
def zmm:Nat:=107
def zcv:Nat:=108
def zfk:Nat:=109
def zdn:Nat:=110
def zfl:Nat:=111
def zh8:Nat:=112
def zdw:Nat:=113
def zgz:Nat:=114
def zq5:Nat:=125
def zpm:Nat:=128
def zn1:Nat:=129
def zey:Nat:=130
def zbm:Nat:=131
def zc0:Nat:=132
def zau:Nat:=133
def zbv:Nat:=134
def zdv:Nat:=135
def zer:Nat:=136
def zh6:Nat:=137
def zij:Nat:=138
def zgh:Nat:=139
def zk4:Nat:=140
def zgy:Nat:=141
def zfa:Nat:=142
def zhi:Nat:=143
def zc5:Nat:=144
def zrm:Nat:=145
def zlp:Nat:=146
def zeq:Nat:=147
def zl6:Nat:=148
def zct:Nat:=149
def zmd:Nat:=150
def zf8:Nat:=151
def zgw:Nat:=152
def zce:Nat:=153
def zh5:Nat:=154
def zss:Nat:=155
def zef:Nat:=156
def zck:Nat:=157
def zp7:Nat:=158
def zop:Nat:=159
def zd4:Nat:=160
def zde:Nat:=161
def zi7:Nat:=162
def zi8:Nat:=163
def zi4:Nat:=164
def zkf:Nat:=165
def zb2:Nat:=166
def zi9:Nat:=167
def zgx:Nat:=168
def zol:Nat:=169
def zn2:Nat:=170
def zhl:Nat:=171
def zcy:Nat:=172
def ze9:Nat:=173
def zhm:Nat:=174
def zq4:Nat:=175
def zbn:Nat:=176
def zh7:Nat:=177
def zav:Nat:=178
def zd7:Nat:=179
def zha:Nat:=180
def zhb:Nat:=182
def zcr:Nat:=184
def zbu:Nat:=185
def zc7:Nat:=186
def zev:Nat:=187
def zd8:Nat:=198
def zag:Nat:=200
def zak:Nat:=201
def zcj:Nat:=202
def zbb:Nat:=203
def zbp:Nat:=204
def zes:Nat:=205
def zii:Nat:=206
def zhk:Nat:=207
def zrl:Nat:=208
def zjq:Nat:=209
def zbt:Nat:=210
def zcl:Nat:=211
def zos:Nat:=212
def zi1:Nat:=213
def zkd:Nat:=214
def zee:Nat:=215
def zcw:Nat:=216
def zon:Nat:=217
def zom:Nat:=218
def zp8:Nat:=219
def zbo:Nat:=220
def znz:Nat:=221
def zny:Nat:=222
def zep:Nat:=223
def znv:Nat:=224
def zis:Nat:=225
def zhj:Nat:=226
def zds:Nat:=227
def zi6:Nat:=228
def zat:Nat:=233
def zcu:Nat:=234
def za7:Nat:=240
def zb3:Nat:=241
def zb7:Nat:=255
def zbi:Nat:=257
def zoq:Nat:=258
def zme:Nat:=259
def zor:Nat:=260
def zkh:Nat:=261
def zmf:Nat:=262
def zi0:Nat:=263
def zmn:Nat:=264
def zkg:Nat:=265
def zc2:Nat:=266
def zdj:Nat:=267
def zc1:Nat:=268
def zc8:Nat:=269
def zc3:Nat:=270
def zca:Nat:=271
def zcx:Nat:=272
def zdg:Nat:=273
def zqa:Nat:=274
def zqb:Nat:=275
def zc9:Nat:=276
def zbw:Nat:=277
def zax:Nat:=278
def zp9:Nat:=306
def zsr:Nat:=307
def zt9:Nat:=308
def zia:Nat:=309
def zja:Nat:=310
def zb8:Nat:=311
def za1:Nat:=314
def zcg:Nat:=315
def zfn:Nat:=316
def zdr:Nat:=324
def zua:Nat:=336
def zbq:Nat:=337
def zbf:Nat:=341
def yas:Nat:=361
def z26:Nat:=362
def n_strconv_Itoa:Nat:=42
def n_strings_Join:Nat:=44
def n_strings_Split:Nat:=95
def n_strings_Builder_String:Nat:=118
def n_slices_Clone_Loffice_Removal_office_Removal:Nat:=126
def n_slices_Clone_Loffice_Complaint_office_Complaint:Nat:=127
def yda:Nat:=181
def n_strconv_Atoi:Nat:=183
def n_strings_Builder_copyCheck:Nat:=189
def n_strings_Repeat:Nat:=193
def n_slices_Sort_Lstring_string:Nat:=199
def n_internal_stringslite_IndexByte:Nat:=229
def zgm:Nat:=230
def zof:Nat:=231
def zhx:Nat:=232
def n_internal_stringslite_HasSuffix:Nat:=252
def zq6:Nat:=312
def zr5:Nat:=313
def zm1:Nat:=317
def zki:Nat:=318
def zk6:Nat:=319
def zkp:Nat:=320
def zhy:Nat:=321
def zj1:Nat:=322
def zl8:Nat:=323
def za6:Nat:=3
def ty_uint8:Nat:=5
def zab:Nat:=9
def zaa:Nat:=30
def zqh:Nat:=35
def z64:Nat:=36
def zad:Nat:=38
def zjj:Nat:=48
def yd6:Nat:=56
def za8:Nat:=58
def zb4:Nat:=71
def zn5:Nat:=76
def zch:Nat:=80
def zea:Nat:=84
def zbk:Nat:=86
def zk9:Nat:=89
def zcp:Nat:=91
def zci:Nat:=96
def zeh:Nat:=98
def zo0:Nat:=105
def zps:Nat:=113
def zb1:Nat:=134
def zbs:Nat:=137
def zrp:Nat:=147
def zs3:Nat:=151
def zil:Nat:=153
def zdy:Nat:=157
def zas:Nat:=160
def zzj:Nat:=162
def zkx:Nat:=168
def za0:Nat:=173
def za9:Nat:=175
def zai:Nat:=183
def zzl:Nat:=193
def ty_strings_Builder:Nat:=202
def zbl:Nat:=218
def zda:Nat:=221
def zac:Nat:=222
def zyh:Nat:=241
def zbx:Nat:=243
def zbc:Nat:=247
def zn6:Nat:=258
def zzk:Nat:=294
def zyi:Nat:=310
def zw6:Nat:=382
def zle:C:=
  (sr [
tq 138 (.bin .lss (.t 137) (.t 136))] []
(.seq (.cond (.t 138) .skip
 (.exit 4))
(.seq (.block 5 (sr [
tq 139 (.idxAddr 1 (.t 135) (.t 137)),
ld 140 139,
mq 23 140] [139,140]
(sr [
mq 142 0,
mq 143 23,
mq 144 18,
mq 145 16,
tq 146 (cl zbd [.t 142,.t 143,.t 144,.t 145]),
mq 141 146,
xq 147 141 0,
xq 148 141 1,
mq 24 147,
mq 25 148] [141,142,143,144,145,146,147,148]
(.seq (sr [
mq 149 25,
tq 150 (.bin .neq (.t 149) (kq 0))] [25,149]
(.cond (.t 150) (sr [
tq 6 (.mv (.k (.d (.bool false))))] []
.ret)
 .skip))
(.seq (sr [
mq 151 24,
tq 152 (.bin .eql (.t 151) (kq 1440))] [151]
(.cond (.t 152) (.exit 5)
 .skip))
(.seq (sr [
mq 153 21,
mq 154 19,
tq 155 (.len .slc (.t 154)),
tq 156 (.bin .geq (.t 153) (.t 155)),
mq 157 156,
gq 158 157 false (.mv (.t 19)),
gq 159 157 false (.mv (.t 21)),
gq 160 157 false (.idxAddr 2 (.t 158) (.t 159)),
gq 161 157 false (.load (some 2) (.t 160)),
gq 162 157 false (.mv (.t 23)),
gq 163 157 false (.mv (.t 24)),
gq 164 157 false (.build [.z (.str []),.z (.int .i64 0)] [(0,1,.t 162),(1,1,.t 163)]),
gq 165 157 false (.eqv (some [.str,.int]) true (.t 161) (.t 164)),
tq 166 (.pick (.t 157) (.k (.d (.bool true))) (.t 165))] [23,24,153,154,155,156,157,158,159,160,161,162,163,164,165]
(.cond (.t 166) (sr [
tq 6 (.mv (.k (.d (.bool false))))] []
.ret)
 .skip))
(rg [
mq 167 21,
tq 168 (.bin .add (.t 167) (kq 1)),
mq 21 168] [167,168])))))))
(rg [
tq 169 (.bin .add (.t 137) (kq 1)),
mq 137 169] [169]))))
def zlf:C:=
  (sr [
tq 116 (.bin .lss (.t 115) (.t 114))] []
(.seq (.cond (.t 116) .skip
 (.exit 2))
(.seq (.block 3 (sr [
tq 117 (.idxAddr 1 (.t 113) (.t 115)),
ld 118 117,
mq 18 118] [117,118]
(sr [
mq 120 0,
mq 121 18,
mq 122 16,
tq 123 (cl zm0 [.t 120,.t 121,.t 122]),
mq 119 123,
xq 124 119 0,
xq 125 119 1,
mq 19 124,
mq 20 125] [119,120,121,122,123,124,125]
(.seq (sr [
mq 126 20,
tq 127 (.bin .neq (.t 126) (kq 0)),
mq 128 127,
gq 129 128 false (.mv (.t 19)),
gq 130 128 false (.len .slc (.t 129)),
gq 131 128 false (.mv (.t 12)),
gq 132 128 false (.len .slc (.t 131)),
gq 133 128 false (.bin .gtr (.t 130) (.t 132)),
tq 134 (.pick (.t 128) (.k (.d (.bool true))) (.t 133))] [20,126,127,128,129,130,131,132,133]
(.cond (.t 134) (sr [
tq 6 (.mv (.k (.d (.bool false))))] []
.ret)
 .skip))
(sr [
tq 21 (.mv (kq 0))] []
(.seq (sr [
mq 135 12,
tq 136 (.len .slc (.t 135)),
tq 137 (.mv (kq 0))] []
(.block 4 (.loop [0,5,7,8,9,12,13,14,16,18,19,21,105,106,107,113,114,115,135,136,137] zle)))
(sr [
mq 170 21,
mq 171 19,
tq 172 (.len .slc (.t 171)),
tq 173 (.bin .neq (.t 170) (.t 172))] [19,21,170,171,172]
(.cond (.t 173) (sr [
tq 6 (.mv (.k (.d (.bool false))))] []
.ret)
 .skip))))))))
(rg [
tq 174 (.bin .add (.t 115) (kq 1)),
mq 115 174] [174]))))
def zcc:C:=
  (sr [
tq 178 (.bin .lss (.t 177) (.t 176))] []
(.seq (.cond (.t 178) .skip
 (.exit 6))
(.seq (.block 7 (sr [
tq 179 (.idxAddr 1 (.t 175) (.t 177)),
ld 180 179,
mq 27 180] [179,180]
(sr [
mq 182 0,
mq 183 27,
mq 184 7,
mq 185 16,
tq 186 (cl zbd [.t 182,.t 183,.t 184,.t 185]),
mq 181 186,
xq 187 181 0,
xq 188 181 1,
mq 28 187,
mq 29 188] [181,182,183,184,185,186,187,188]
(sr [
mq 190 0,
mq 191 27,
mq 192 8,
mq 193 16,
tq 194 (cl zbd [.t 190,.t 191,.t 192,.t 193]),
mq 189 194,
xq 195 189 0,
xq 196 189 1,
mq 30 195,
mq 31 196] [189,190,191,192,193,194,195,196]
(sr [
mq 198 13,
mq 199 27,
fa 200 0 9,
ld 201 200,
mq 202 16,
tq 203 (cl zbd [.t 198,.t 199,.t 201,.t 202]),
mq 197 203,
xq 204 197 0,
xq 205 197 1,
mq 32 204,
mq 33 205] [197,198,199,200,201,202,203,204,205]
(sr [
mq 207 0,
mq 208 27,
fa 209 0 9,
ld 210 209,
mq 211 16,
tq 212 (cl zbd [.t 207,.t 208,.t 210,.t 211]),
mq 206 212,
xq 213 206 0,
xq 214 206 1,
mq 34 213,
mq 35 214] [206,207,208,209,210,211,212,213,214]
(.seq (sr [
mq 215 29,
mq 216 31,
tq 217 (.bin .add (.t 215) (.t 216)),
mq 218 33,
tq 219 (.bin .add (.t 217) (.t 218)),
mq 220 35,
tq 221 (.bin .add (.t 219) (.t 220)),
tq 222 (.bin .neq (.t 221) (kq 0)),
mq 223 222,
gq 224 223 false (.mv (.t 32)),
gq 225 223 false (.mv (.t 34)),
gq 226 223 false (.bin .neq (.t 224) (.t 225)),
tq 227 (.pick (.t 223) (.k (.d (.bool true))) (.t 226))] [29,31,32,33,34,35,215,216,217,218,219,220,221,222,223,224,225,226]
(.cond (.t 227) (sr [
tq 6 (.mv (.k (.d (.bool false))))] []
.ret)
 .skip))
(sr [
mq 228 28,
mq 229 30,
tq 230 (.bin .neq (.t 228) (.t 229))] [28,30,228,229]
(.cond (.t 230) (rg [
mq 231 14,
mq 232 27,
mq 233 14,
mq 234 27,
tq 235 (.lookup .str .nil false (.t 233) (.t 234)),
mq 236 16,
tq 237 (.mkList 1 1 [.t 236]),
tq 238 (.append ⟨false,za6,1,8⟩ (.t 235) (.t 237)),
⟨none,none,.mapSet .str (.t 231) (.t 232) (.t 238)⟩] [27,231,232,233,234,235,236,237,238])
 .skip)))))))))
(rg [
tq 239 (.bin .add (.t 177) (kq 1)),
mq 177 239] [239]))))
def zfg:C:=
  (sr [
tq 108 (.bin .lss (.t 107) (.t 106))] []
(.seq (.cond (.t 108) .skip
 (.exit 0))
(.seq (.block 1 (sr [
tq 109 (.idxAddr 1 (.t 105) (.t 107)),
ld 110 109,
mq 16 110] [109,110]
(.seq (sr [
mq 111 7,
mq 112 8,
tq 113 (.mkList 1 2 [.t 111,.t 112]),
tq 114 (.len .slc (.t 113)),
tq 115 (.mv (kq 0))] [111,112]
(.block 2 (.loop [0,5,7,8,9,12,13,14,16,105,106,107,113,114,115] zlf)))
(.seq (sr [
mq 175 12,
tq 176 (.len .slc (.t 175)),
tq 177 (.mv (kq 0))] []
(.block 6 (.loop [0,5,7,8,9,12,13,14,16,105,106,107,175,176,177] zcc)))
(sr [
mq 241 13,
fa 242 0 9,
ld 243 242,
tq 244 (.bin .add (.t 243) (kq 1)),
mq 245 16,
tq 246 (cl zbd [.t 241,.k (.d (.str [97])),.t 244,.t 245]),
mq 240 246,
xq 247 240 0,
xq 248 240 1,
mq 36 247,
mq 37 248] [16,240,241,242,243,244,245,246,247,248]
(sr [
mq 249 37,
tq 250 (.bin .neq (.t 249) (kq 0)),
mq 251 250,
gq 252 251 false (.mv (.t 36)),
gq 253 251 false (.bin .neq (.t 252) (kq 5)),
tq 254 (.pick (.t 251) (.k (.d (.bool true))) (.t 253))] [36,37,249,250,251,252,253]
(.cond (.t 254) (sr [
tq 6 (.mv (.k (.d (.bool false))))] []
.ret)
 .skip)))))))
(rg [
tq 255 (.bin .add (.t 107) (kq 1)),
mq 107 255] [255]))))
def zfh:C:=
  (sr [
tq 259 (.bin .lss (.t 258) (.t 257))] []
(.seq (.cond (.t 259) .skip
 (.exit 8))
(.seq (.block 9 (sr [
tq 260 (.idxAddr 1 (.t 256) (.t 258)),
ld 261 260,
mq 39 261] [260,261]
(sr [
mq 263 0,
mq 264 39,
mq 265 7,
mq 266 8,
lq 267 3 5,
tq 268 (cl zf9 [.t 263,.t 264,.t 265,.t 266,.t 267]),
mq 262 268,
xq 269 262 0,
xq 270 262 1,
mq 40 269,
mq 41 270] [262,263,264,265,266,267,268,269,270]
(sr [
mq 271 41,
tq 272 (.bin .neq (.t 271) (kq 0)),
mq 273 272,
gq 274 273 false (.mv (.t 40)),
gq 275 273 false (.mv (.t 14)),
gq 276 273 false (.mv (.t 39)),
gq 277 273 false (.lookup .str (.list 0 []) false (.t 275) (.t 276)),
gq 278 273 false (cl zji [.t 274,.t 277]),
gq 279 273 false (.un .not (.t 278)),
tq 280 (.pick (.t 273) (.k (.d (.bool true))) (.t 279))] [39,40,41,271,272,273,274,275,276,277,278,279]
(.cond (.t 280) (sr [
tq 6 (.mv (.k (.d (.bool false))))] []
.ret)
 .skip)))))
(rg [
tq 281 (.bin .add (.t 258) (kq 1)),
mq 258 281] [281]))))
def zuz:CF:=⟨[.tmp 6],
  (sr [
tq 4 (.box yd6 (.t 1)),
tq 5 (.box za8 (.t 2)),
tq 6 (.mv (.k (.d (.bool false))))] [1,2,6]
(.seq (.reg true [
tq 42 (.idxAddrA 2 1 (.t 4) (kq 0)),
ld 43 42,
tq 44 (.idxAddrA 2 1 (.t 4) (kq 1)),
ld 45 44,
mq 7 43,
mq 8 45] [4,42,43,44,45])
(.seq (.seq (.reg true [
mq 46 0,
tq 47 (cl zjs [.t 46,kq 12]),
tq 48 (.un .not (.t 47)),
mq 49 48,
gq 50 49 false (.mv (.t 7)),
gq 51 49 false (cl zfb [.t 50]),
gq 52 49 false (.mv (.t 8)),
gq 53 49 false (cl zfb [.t 52]),
gq 54 49 false (.bin .add (.t 51) (.t 53)),
gq 55 49 false (.load (some 3) (.t 5)),
gq 56 49 false (cl zjr [.t 55]),
gq 57 49 false (.bin .add (.t 54) (.t 56)),
gq 58 49 false (.bin .neq (.t 57) (kq 0)),
tq 59 (.pick (.t 49) (.k (.d (.bool true))) (.t 58)),
mq 60 59,
gq 61 60 false (.fieldAddr 1 (.t 5)),
gq 62 60 false (.load none (.t 61)),
gq 63 60 false (.fieldAddr 0 (.t 5)),
gq 64 60 false (.load none (.t 63)),
gq 65 60 false (.bin .sub (.t 62) (.t 64)),
gq 66 60 false (.bin .geq (.t 65) (kq 20)),
tq 67 (.pick (.t 60) (.k (.d (.bool true))) (.t 66))] [46,47,48,49,50,51,52,53,54,55,56,57,58,59,60,61,62,63,64,65,66])
(.cond (.t 67) (sr [
tq 68 (cl zeg []),
mq 6 68] [68]
.ret)
 .skip))
(sr [
mq 70 0,
tq 71 (cl zjc [.t 70]),
mq 69 71,
xq 72 69 0,
xq 73 69 1,
xq 74 69 2,
tq 9 (.alloc zaa [.z (.int .i64 0),.z (.list 0 []),.z (.list 0 []),.z (.list 0 [])]),
⟨none,none,.store 4 (.t 9) (.t 72)⟩,
mq 10 73,
mq 11 74] [10,69,70,71,72,73,74]
(.seq (sr [
mq 75 11,
tq 76 (.bin .neq (.t 75) (kq 0)),
mq 77 76,
gq 78 77 false (.fieldAddr 0 (.t 9)),
gq 79 77 false (.load none (.t 78)),
gq 80 77 false (.bin .geq (.t 79) (kq 99999)),
tq 81 (.pick (.t 77) (.k (.d (.bool true))) (.t 80))] [11,75,76,77,78,79,80]
(.cond (.t 81) (sr [
tq 82 (cl zeg []),
mq 6 82] [82]
.ret)
 .skip))
(sr [
lq 83 4 9,
tq 84 (cl zpo [.t 83]),
mq 12 84] [83,84]
(.seq (.regC [
tq 85 (.mkRow ⟨false,zad,5,88⟩ 0 []),
mq 86 0,
tq 87 (.append ⟨false,zad,5,88⟩ (.t 85) (.t 86)),
mq 88 0,
tq 89 (.len .slc (.t 88)),
tq 90 (.bin .add (.t 89) (kq 1)),
tq 91 (.mkListD 1 2 [.k (.d (.str [116,111,119,101,114])),.k (.d (.str [97]))]),
fa 92 0 9,
ld 93 92,
tq 94 (.bin .add (.t 93) (kq 1)),
tq 95 (.mkListD 1 4 [.t 94,kq 0,kq 99999,kq 5]),
tq 96 (.build [.z (.int .i64 0),.z (.str []),.z (.list 0 []),.z (.list 0 []),.z (.str [])] [(0,1,.t 90),(1,1,.k (.d (.str [101,110,116,101,114]))),(2,1,.t 91),(3,1,.t 95)]),
tq 97 (.mkListD 5 1 [.t 96]),
tq 98 (.append ⟨false,zad,5,88⟩ (.t 87) (.t 97)),
mq 13 98] [85,86,87,88,89,90,91,92,93,94,95,96,97,98] [(88,87),(9,87),(92,87)])
(.seq (sr [
lq 99 4 9,
tq 100 (cl zdm [.t 99,.k (.d (.str [116,111,119,101,114]))]),
tq 101 (.bin .geq (.t 100) (kq 0))] [99,100]
(.cond (.t 101) (sr [
tq 102 (cl zeg []),
mq 6 102] [102]
.ret)
 .skip))
(sr [
tq 103 (.mkMap),
mq 14 103] [103]
(.seq (sr [
lq 104 3 5,
tq 105 (cl zpl [.t 104]),
tq 106 (.len .slc (.t 105)),
tq 107 (.mv (kq 0))] [104]
(.block 0 (.loop [0,5,7,8,9,12,13,14,105,106,107] zfg)))
(.seq (sr [
mq 256 12,
tq 257 (.len .slc (.t 256)),
tq 258 (.mv (kq 0))] [12]
(.block 8 (.loop [0,5,7,8,14,256,257,258] zfh)))
(sr [
tq 282 (cl zeg []),
mq 6 282] [282]
.ret))))))))))))⟩
def zsc:C:=
  (.seq (sr [
mq 51 6,
mq 52 0,
mq 53 5,
tq 54 (.idxAddr 5 (.t 52) (.t 53)),
fa 55 2 54,
ld 56 55,
tq 57 (.len .slc (.t 56)),
tq 58 (.bin .lss (.t 51) (.t 57))] [51,52,53,54,55,56,57]
(.cond (.t 58) .skip
 (.exit 2)))
(.seq (.block 3 (sr [
mq 61 0,
mq 62 5,
tq 63 (.idxAddr 5 (.t 61) (.t 62)),
fa 64 2 63,
ld 65 64,
mq 66 6,
tq 67 (.idxAddr 1 (.t 65) (.t 66)),
ld 68 67,
tq 69 (.len .str (.t 68)),
tq 70 (.bin .gtr (.t 69) (kq 60))] [61,62,63,64,65,66,67,68,69]
(.cond (.t 70) (sr [
tq 4 (.mv (.k (.d (.bool false))))] []
.ret)
 .skip)))
(rg [
mq 59 6,
tq 60 (.bin .add (.t 59) (kq 1)),
mq 6 60] [59,60])))
def zsd:C:=
  (.seq (sr [
mq 11 5,
mq 12 0,
tq 13 (.len .slc (.t 12)),
tq 14 (.bin .lss (.t 11) (.t 13))] [11,12,13]
(.cond (.t 14) .skip
 (.exit 0)))
(.seq (.block 1 (.seq (sr [
mq 17 0,
mq 18 5,
tq 19 (.idxAddr 5 (.t 17) (.t 18)),
fa 20 1 19,
ld 21 20,
tq 22 (.len .str (.t 21)),
tq 23 (.bin .gtr (.t 22) (kq 60)),
mq 24 23,
gq 25 24 false (.mv (.t 0)),
gq 26 24 false (.mv (.t 5)),
gq 27 24 false (.idxAddr 5 (.t 25) (.t 26)),
gq 28 24 false (.fieldAddr 2 (.t 27)),
gq 29 24 false (.load none (.t 28)),
gq 30 24 false (.len .slc (.t 29)),
gq 31 24 false (.bin .gtr (.t 30) (kq 6)),
tq 32 (.pick (.t 24) (.k (.d (.bool true))) (.t 31)),
mq 33 32,
gq 34 33 false (.mv (.t 0)),
gq 35 33 false (.mv (.t 5)),
gq 36 33 false (.idxAddr 5 (.t 34) (.t 35)),
gq 37 33 false (.fieldAddr 3 (.t 36)),
gq 38 33 false (.load none (.t 37)),
gq 39 33 false (.len .slc (.t 38)),
gq 40 33 false (.bin .gtr (.t 39) (kq 8)),
tq 41 (.pick (.t 33) (.k (.d (.bool true))) (.t 40)),
mq 42 41,
gq 43 42 false (.mv (.t 0)),
gq 44 42 false (.mv (.t 5)),
gq 45 42 false (.idxAddr 5 (.t 43) (.t 44)),
gq 46 42 false (.fieldAddr 4 (.t 45)),
gq 47 42 false (.load none (.t 46)),
gq 48 42 false (.len .str (.t 47)),
gq 49 42 false (.bin .gtr (.t 48) (kq 60)),
tq 50 (.pick (.t 42) (.k (.d (.bool true))) (.t 49))] [17,18,19,20,21,22,23,24,25,26,27,28,29,30,31,32,33,34,35,36,37,38,39,40,41,42,43,44,45,46,47,48,49]
(.cond (.t 50) (sr [
tq 4 (.mv (.k (.d (.bool false))))] []
.ret)
 .skip))
(sr [
tq 6 (.mv (kq 0))] []
(.block 2 (.loop [0,5,6] zsc)))))
(rg [
mq 15 5,
tq 16 (.bin .add (.t 15) (kq 1)),
mq 5 16] [15,16])))
def zuy:CF:=⟨[.tmp 4],
  (sr [
tq 4 (.mv (.k (.d (.bool false))))] [4]
(.seq (sr [
mq 7 0,
tq 8 (.len .slc (.t 7)),
mq 9 1,
tq 10 (.bin .gtr (.t 8) (.t 9))] [1,7,8,9]
(.cond (.t 10) (sr [
tq 4 (.mv (.k (.d (.bool false))))] []
.ret)
 .skip))
(.seq (sr [
tq 5 (.mv (kq 0))] []
(.block 0 (.loop [0,5] zsd)))
(sr [
tq 4 (.mv (.k (.d (.bool true))))] []
.ret))))⟩
def zul:C:=
  (sr [
tq 49 (.bin .lss (.t 48) (.t 47))] []
(.seq (.cond (.t 49) .skip
 (.exit 0))
(.seq (.block 1 (sr [
tq 50 (.idxAddr 1 (.t 46) (.t 48)),
ld 51 50,
mq 5 51] [50,51]
(sr [
mq 53 3,
mq 54 5,
tq 55 (.callU true (.k (.fn zbe [] [])) [.t 53,.t 54]),
mq 52 55,
xq 56 52 0,
xq 57 52 1,
mq 6 56,
mq 7 57] [5,6,52,53,54,55,56,57]
(sr [
mq 58 7,
tq 59 (.bin .neq (.t 58) (kq 0))] [7,58]
(.cond (.t 59) (sr [
tq 0 (.mv (.k (.d (.bool false))))] []
.ret)
 .skip)))))
(rg [
tq 60 (.bin .add (.t 48) (kq 1)),
mq 48 60] [60]))))
def zxv:CF:=⟨[.tmp 0],
  (sr [
tq 0 (.mv (.k (.d (.bool false))))] [0]
(sr [
tq 15 (cl zl9 []),
tq 16 (.mkList 11 1 [.t 15]),
tq 17 (cl zkj [.k (.d (.str [97])),kq 100]),
tq 18 (cl zn3 [.t 17]),
tq 19 (.mkList 18 1 [.t 18]),
tq 20 (cl zl5 [.t 16,.t 19]),
mq 14 20,
xq 21 14 0,
xq 22 14 1,
mq 1 21,
mq 2 22] [14,15,16,17,18,19,20,21,22]
(.seq (sr [
mq 23 2,
tq 24 (.bin .neq (.t 23) (kq 0)),
mq 25 24,
gq 26 25 false (.mv (.t 1)),
gq 27 25 false (.len .slc (.t 26)),
gq 28 25 false (.bin .neq (.t 27) (kq 1)),
tq 29 (.pick (.t 25) (.k (.d (.bool true))) (.t 28)),
mq 30 29,
gq 31 30 false (.mv (.t 1)),
gq 32 30 false (.idxAddr 3 (.t 31) (kq 0)),
gq 33 30 false (.fieldAddr 2 (.t 32)),
gq 34 30 false (.load none (.t 33)),
gq 35 30 false (.un .not (.t 34)),
tq 36 (.pick (.t 30) (.k (.d (.bool true))) (.t 35))] [2,23,24,25,26,27,28,29,30,31,32,33,34,35]
(.cond (.t 36) (sr [
tq 0 (.mv (.k (.d (.bool false))))] []
.ret)
 .skip))
(sr [
tq 37 (.call false false (.k (.fn zst [] [])) []),
mq 3 37] [37]
(.seq (sr [
mq 38 3,
tq 39 (.nilEq 0 false (.t 38))] [38]
(.cond (.t 39) (sr [
tq 0 (.mv (.k (.d (.bool false))))] []
.ret)
 .skip))
(.seq (sr [
mq 40 1,
tq 41 (.idxAddr 3 (.t 40) (kq 0)),
fa 42 1 41,
ld 43 42,
tq 44 (cl zsv [.t 43]),
tq 45 (.bin .add (.k (.d (.str [101,110,116,101,114,32,101,32,97,32,53,32,50,32,51,32]))) (.t 44)),
tq 46 (.mkList 1 3 [.t 45,.k (.d (.str [114,117,108,101,32,114,32,97,32,56,32,50,32,51,32,49,52,52,48])),.k (.d (.str [114,101,118,101,114,115,101,32,114,32,57]))]),
tq 47 (.len .slc (.t 46)),
tq 48 (.mv (kq 0))] [1,40,41,42,43,44,45]
(.block 0 (.loop [3,46,47,48] zul)))
(sr [
mq 62 3,
tq 63 (.callU true (.k (.fn zbe [] [])) [.t 62,.k (.d (.str [115,108,111,116,32,97,32,55,32,50]))]),
mq 61 63,
xq 64 61 0,
xq 65 61 1,
mq 8 64,
mq 9 65] [61,62,63,64,65]
(sr [
mq 67 3,
tq 68 (.callU true (.k (.fn zbe [] [])) [.t 67,.k (.d (.str [115,108,111,116,32,97,32,56,32,50]))]),
mq 66 68,
xq 69 66 0,
xq 70 66 1,
mq 10 69,
mq 11 70] [66,67,68,69,70]
(sr [
mq 72 3,
tq 73 (.callU true (.k (.fn zbe [] [])) [.t 72,.k (.d (.str [115,108,111,116,32,97,32,57,32,50]))]),
mq 71 73,
xq 74 71 0,
xq 75 71 1,
mq 12 74,
mq 13 75] [3,71,72,73,74,75]
(sr [
mq 76 9,
mq 77 11,
tq 78 (.bin .add (.t 76) (.t 77)),
mq 79 13,
tq 80 (.bin .add (.t 78) (.t 79)),
tq 81 (.bin .eql (.t 80) (kq 0)),
mq 82 81,
gq 83 82 true (.mv (.t 8)),
gq 84 82 true (.bin .eql (.t 83) (.k (.d (.str [54,49,48])))),
tq 85 (.pick (.t 82) (.t 84) (.k (.d (.bool false)))),
mq 86 85,
gq 87 86 true (.mv (.t 10)),
gq 88 86 true (.bin .eql (.t 87) (.k (.d (.str [110,111,110,101])))),
tq 89 (.pick (.t 86) (.t 88) (.k (.d (.bool false)))),
mq 90 89,
gq 91 90 true (.mv (.t 12)),
gq 92 90 true (.bin .eql (.t 91) (.k (.d (.str [54,49,48])))),
tq 93 (.pick (.t 90) (.t 92) (.k (.d (.bool false)))),
mq 0 93] [8,9,10,11,12,13,76,77,78,79,80,81,82,83,84,85,86,87,88,89,90,91,92,93]
.ret))))))))))⟩
def zyz:C:=
  (.seq (sr [
mq 13 6,
mq 14 0,
tq 15 (.len .slc (.t 14)),
tq 16 (.bin .lss (.t 13) (.t 15))] [13,14,15]
(.cond (.t 16) .skip
 (.exit 0)))
(.seq (.block 1 (sr [
mq 19 0,
mq 20 6,
tq 21 (.idxAddr 5 (.t 19) (.t 20)),
lq 22 5 21,
tq 23 (cl zho [.t 22]),
mq 7 23] [19,20,21,22,23]
(.seq (sr [
mq 24 7,
tq 25 (.bin .eql (.t 24) (kq 0)),
mq 26 25,
gq 27 26 true (.mv (.t 0)),
gq 28 26 true (.mv (.t 6)),
gq 29 26 true (.idxAddr 5 (.t 27) (.t 28)),
gq 30 26 true (.fieldAddr 0 (.t 29)),
gq 31 26 true (.load none (.t 30)),
gq 32 26 true (.mv (.t 6)),
gq 33 26 true (.bin .add (.t 32) (kq 1)),
gq 34 26 true (.bin .neq (.t 31) (.t 33)),
tq 35 (.pick (.t 26) (.t 34) (.k (.d (.bool false))))] [24,25,26,27,28,29,30,31,32,33,34]
(.cond (.t 35) (rg [
tq 7 (.mv (kq 11))] [])
 .skip))
(.seq (sr [
mq 36 7,
tq 37 (.bin .eql (.t 36) (kq 0))] [36]
(.cond (.t 37) (.reg true [
lq 38 4 5,
mq 39 0,
mq 40 6,
tq 41 (.idxAddr 5 (.t 39) (.t 40)),
lq 42 5 41,
tq 43 (cl zeu [.t 38,.t 42]),
mq 7 43] [38,39,40,41,42,43])
 .skip))
(.seq (sr [
mq 44 7,
tq 45 (.bin .neq (.t 44) (kq 0))] [44]
(.cond (.t 45) (sr [
tq 46 (.build [.z (.int .i64 0),.z (.list 0 []),.z (.list 0 []),.z (.list 0 [])] []),
mq 47 6,
tq 48 (.bin .add (.t 47) (kq 1)),
mq 49 7,
⟨none,none,.store 4 (.t 2) (.t 46)⟩,
mq 3 48,
mq 4 49] [6,7,46,47,48,49]
.ret)
 .skip))
(.reg true [
lq 50 4 5,
mq 51 0,
mq 52 6,
tq 53 (.idxAddr 5 (.t 51) (.t 52)),
lq 54 5 53,
tq 55 (cl zfm [.t 50,.t 54]),
⟨none,none,.store 4 (.t 5) (.t 55)⟩] [50,51,52,53,54,55]))))))
(rg [
mq 17 6,
tq 18 (.bin .add (.t 17) (kq 1)),
mq 6 18] [17,18])))
def z2x:CF:=⟨[.cell 2 (some 4),.tmp 3,.tmp 4],
  (sr [
tq 2 (.alloc zaa [.z (.int .i64 0),.z (.list 0 []),.z (.list 0 []),.z (.list 0 [])]),
tq 3 (.mv (kq 0)),
tq 4 (.mv (kq 0))] [3,4]
(.seq (sr [
mq 8 0,
tq 9 (.len .slc (.t 8)),
tq 10 (.bin .gtr (.t 9) (kq 1000))] [8,9]
(.cond (.t 10) (sr [
tq 11 (.build [.z (.int .i64 0),.z (.list 0 []),.z (.list 0 []),.z (.list 0 [])] []),
⟨none,none,.store 4 (.t 2) (.t 11)⟩,
tq 3 (.mv (kq 0)),
tq 4 (.mv (kq 5))] [11]
.ret)
 .skip))
(sr [
tq 12 (.build [.z (.int .i64 0),.z (.list 0 []),.z (.list 0 []),.z (.list 0 [])] []),
tq 5 (.alloc zaa [.z (.int .i64 0),.z (.list 0 []),.z (.list 0 []),.z (.list 0 [])]),
⟨none,none,.store 4 (.t 5) (.t 12)⟩] [12]
(.seq (sr [
tq 6 (.mv (kq 0))] []
(.block 0 (.loop [0,2,5,6] zyz)))
(sr [
lq 56 4 5,
⟨none,none,.store 4 (.t 2) (.t 56)⟩,
tq 3 (.mv (kq 0)),
tq 4 (.mv (kq 0))] [5,56]
.ret)))))⟩
def z7f:CF:=⟨[.tmp 0],
  (sr [
tq 0 (.mv (.k (.d (.nilp))))] [0]
(sr [
tq 1 (.build [.own ⟨false,zad,5,88⟩,.z (.int .i64 0),.own ⟨false,zac,8,96⟩,.own ⟨false,zbl,2,24⟩,.own ⟨true,zai,5,48⟩] []),
tq 2 (.box zeh (.t 1)),
mq 0 2] [1,2]
.ret))⟩
def zuv:CF:=⟨[.tmp 4,.tmp 5],
  (sr [
tq 4 (.mv (.k (.d (.str [])))),
tq 5 (.mv (kq 0))] [4,5]
(.seq (sr [
mq 17 0,
tq 18 (.nilEq 0 false (.t 17))] [17]
(.cond (.t 18) (sr [
tq 4 (.mv (.k (.d (.str [])))),
tq 5 (.mv (kq 19))] []
.ret)
 .skip))
(.seq (sr [
mq 19 1,
tq 20 (.len .str (.t 19)),
tq 21 (.bin .gtr (.t 20) (kq 4096)),
tq 22 (cl zal [.t 21,kq 26]),
mq 23 1,
tq 24 (.bin .eql (.t 23) (.k (.d (.str [])))),
tq 25 (cl zal [.t 24,kq 25]),
tq 26 (.mkList 1 2 [.t 22,.t 25]),
tq 27 (cl za3 [.t 26]),
mq 6 27] [19,20,21,22,23,24,25,26,27]
(sr [
mq 28 6,
tq 29 (.bin .neq (.t 28) (kq 0))] [28]
(.cond (.t 29) (sr [
mq 30 6,
tq 4 (.mv (.k (.d (.str [])))),
mq 5 30] [6,30]
.ret)
 .skip)))
(sr [
mq 32 1,
tq 33 (cl zwr [.t 32,.k (.d (.str [32]))]),
mq 31 33,
xq 34 31 0,
xq 35 31 1,
xq 36 31 2,
mq 7 34,
mq 8 35,
mq 9 36] [8,9,31,32,33,34,35,36]
(.seq (sr [
tq 38 (.call false false (.k (.fn zot [] [])) []),
mq 39 7,
tq 40 (.lookup .str (.agg [.int .i64 0,.int .i64 0,.nilf]) true (.t 38) (.t 39)),
mq 37 40,
xq 41 37 0,
xq 42 37 1,
tq 10 (.alloc zo0 [.z (.int .i64 0),.z (.int .i64 0),.z (.nilf)]),
⟨none,none,.store 3 (.t 10) (.t 41)⟩,
mq 11 42] [37,38,39,40,41,42]
(sr [
mq 43 11] [11]
(.cond (.t 43) (sr [
mq 44 0,
lq 45 3 10,
mq 46 1,
tq 47 (.callU true (.k (.fn zmg [] [])) [.t 44,.t 45,.t 46]),
xq 48 47 0,
xq 49 47 1,
mq 4 48,
mq 5 49] [0,1,10,44,45,46,47,48,49]
.ret)
 .skip)))
(.seq (sr [
tq 51 (.call false false (.k (.fn zfz [] [])) []),
mq 52 7,
tq 53 (.lookup .str (.agg [.int .i64 0,.int .i64 0,.nilf,.nilf]) true (.t 51) (.t 52)),
mq 50 53,
xq 54 50 0,
xq 55 50 1,
tq 12 (.alloc zps [.z (.int .i64 0),.z (.int .i64 0),.z (.nilf),.z (.nilf)]),
⟨none,none,.store 4 (.t 12) (.t 54)⟩,
mq 13 55] [7,12,50,51,52,53,54,55]
(sr [
mq 56 13,
tq 57 (.un .not (.t 56))] [13,56]
(.cond (.t 57) (sr [
tq 4 (.mv (.k (.d (.str [])))),
tq 5 (.mv (kq 13))] []
.ret)
 .skip)))
(sr [
mq 59 1,
tq 60 (cl zub [.t 59]),
mq 58 60,
xq 61 58 0,
xq 62 58 1,
tq 14 (.alloc zad [.z (.int .i64 0),.z (.str []),.z (.list 0 []),.z (.list 0 []),.z (.str [])]),
⟨none,none,.store 5 (.t 14) (.t 61)⟩,
mq 15 62] [1,58,59,60,61,62]
(sr [
mq 63 0,
tq 64 (.nilCheck (.t 63)),
fa 65 0 64,
fa 66 0 65,
ld 67 66,
tq 68 (.len .slc (.t 67)),
tq 69 (.bin .add (.t 68) (kq 1)),
fa 70 0 14,
⟨none,none,.store 1 (.t 70) (.t 69)⟩] [63,64,65,66,67,68,69,70]
(.seq (.reg true [
mq 71 15,
tq 72 (.un .not (.t 71)),
tq 73 (cl zal [.t 72,kq 25]),
mq 74 0,
tq 75 (.nilCheck (.t 74)),
fa 76 0 75,
fa 77 0 76,
ld 78 77,
tq 79 (.len .slc (.t 78)),
tq 80 (.bin .geq (.t 79) (kq 1000)),
tq 81 (cl zal [.t 80,kq 5]),
tq 82 (.mkList 1 2 [.t 73,.t 81]),
tq 83 (cl za3 [.t 82]),
mq 16 83] [15,71,72,73,74,75,76,77,78,79,80,81,82,83])
(.seq (sr [
mq 84 16,
tq 85 (.bin .eql (.t 84) (kq 0))] [84]
(.cond (.t 85) (rg [
lq 86 5 14,
tq 87 (cl zet [.t 86]),
mq 16 87] [86,87])
 .skip))
(.seq (sr [
mq 88 16,
tq 89 (.bin .eql (.t 88) (kq 0))] [88]
(.cond (.t 89) (.reg true [
mq 90 0,
tq 91 (.nilCheck (.t 90)),
fa 92 0 91,
lq 93 5 14,
tq 94 (.callQ (.k (.fn zam [] [])) [.t 92,.t 93]),
mq 16 94] [90,91,92,93,94])
 .skip))
(.seq (sr [
mq 95 16,
tq 96 (.bin .neq (.t 95) (kq 0))] [95]
(.cond (.t 96) (sr [
mq 97 16,
tq 4 (.mv (.k (.d (.str [])))),
mq 5 97] [16,97]
.ret)
 .skip))
(.seq (.reg true [
mq 98 0,
tq 99 (.nilCheck (.t 98)),
fa 100 0 99,
lq 101 5 14,
tq 102 (.callU false (.k (.fn zan [] [])) [.t 100,.t 101])] [0,98,99,100,101,102])
(sr [
fa 103 0 14,
ld 104 103,
tq 105 (cl n_strconv_Itoa [.t 104]),
tq 106 (.bin .add (.k (.d (.str [100,111,110,101,32]))) (.t 105)),
mq 4 106,
tq 5 (.mv (kq 0))] [14,103,104,105,106]
.ret))))))))))))))⟩
def z7i:CF:=⟨[.tmp 2],
  (sr [
tq 2 (.mv (.k (.d (.str []))))] [2]
(sr [
mq 3 0,
tq 4 (cl zsu [.t 3]),
mq 2 4] [0,3,4]
.ret))⟩
def zzc:CF:=⟨[.tmp 2],
  (sr [
tq 2 (.mv (kq 0))] [2]
(sr [
mq 3 0,
tq 4 (cl zhn [.t 3,kq 0,kq 99999]),
mq 2 4] [0,3,4]
.ret))⟩
def zuw:CF:=⟨[.tmp 2],
  (sr [
tq 1 (.box za8 (.t 0)),
tq 2 (.mv (kq 0))] [0,2]
(.seq (sr [
fa 3 0 1,
ld 4 3,
tq 5 (cl zfb [.t 4]),
tq 6 (.bin .neq (.t 5) (kq 0)),
mq 7 6,
gq 8 7 false (.fieldAddr 1 (.t 1)),
gq 9 7 false (.load none (.t 8)),
gq 10 7 false (cl zfb [.t 9]),
gq 11 7 false (.bin .neq (.t 10) (kq 0)),
tq 12 (.pick (.t 7) (.k (.d (.bool true))) (.t 11))] [3,4,5,6,7,8,9,10,11]
(.cond (.t 12) (sr [
tq 2 (.mv (kq 3))] []
.ret)
 .skip))
(.seq (sr [
fa 13 1 1,
ld 14 13,
fa 15 0 1,
ld 16 15,
tq 17 (.bin .lss (.t 14) (.t 16))] [13,14,15,16]
(.cond (.t 17) (sr [
tq 2 (.mv (kq 11))] []
.ret)
 .skip))
(.seq (sr [
fa 18 1 1,
ld 19 18,
fa 20 0 1,
ld 21 20,
tq 22 (.bin .sub (.t 19) (.t 21)),
tq 23 (.bin .gtr (.t 22) (kq 400))] [18,19,20,21,22]
(.cond (.t 23) (sr [
tq 2 (.mv (kq 4))] []
.ret)
 .skip))
(sr [
fa 24 2 1,
ld 25 24,
tq 26 (cl zhn [.t 25,kq 1,kq 127]),
mq 2 26] [1,24,25,26]
.ret)))))⟩
def zy0:C:=
  (.seq (sr [
mq 25 6,
tq 26 (.bin .gtr (.t 25) (kq 0)),
mq 27 26,
gq 28 27 true (.mv (.t 3)),
gq 29 27 true (.mv (.t 6)),
gq 30 27 true (.bin .sub (.t 29) (kq 1)),
gq 31 27 true (.idxAddr 1 (.t 28) (.t 30)),
gq 32 27 true (.load none (.t 31)),
gq 33 27 true (.mv (.t 5)),
gq 34 27 true (.bin .gtr (.t 32) (.t 33)),
tq 35 (.pick (.t 27) (.t 34) (.k (.d (.bool false))))] [25,26,27,28,29,30,31,32,33,34]
(.cond (.t 35) .skip
 (.exit 2)))
(.block 3 (rg [
mq 36 6,
tq 37 (.bin .sub (.t 36) (kq 1)),
mq 6 37] [36,37])))
def zy1:C:=
  (.seq (sr [
mq 7 4,
fa 8 1 1,
ld 9 8,
tq 10 (.len .slc (.t 9)),
tq 11 (.bin .lss (.t 7) (.t 10))] [7,8,9,10]
(.cond (.t 11) .skip
 (.exit 0)))
(.seq (.block 1 (sr [
fa 14 1 1,
ld 15 14,
mq 16 4,
tq 17 (.idxAddr 8 (.t 15) (.t 16)),
fa 18 2 17,
ld 19 18,
mq 5 19] [14,15,16,17,18,19]
(.seq (sr [
mq 20 3,
mq 21 5,
tq 22 (cl zn0 [.t 20,.t 21])] [20,21]
(.cond (.t 22) (.exit 1)
 .skip))
(sr [
mq 23 3,
tq 24 (.len .slc (.t 23)),
mq 6 24] [23,24]
(.seq (.block 2 (.loop [1,3,4,5,6] zy0))
(.regC [
tq 38 (.mkRow ⟨false,zab,1,16⟩ 0 []),
mq 39 3,
mq 40 6,
tq 41 (.slice 1 (.t 39) none (some (.t 40)) none),
tq 42 (.append ⟨false,zab,1,16⟩ (.t 38) (.t 41)),
mq 43 5,
tq 44 (.mkListD 1 1 [.t 43]),
tq 45 (.append ⟨false,zab,1,16⟩ (.t 42) (.t 44)),
mq 46 3,
mq 47 6,
tq 48 (.slice 1 (.t 46) (some (.t 47)) none none),
tq 49 (.append ⟨false,zab,1,16⟩ (.t 45) (.t 48)),
mq 3 49] [5,6,38,39,40,41,42,43,44,45,46,47,48,49] [(46,42),(46,45)]))))))
(rg [
mq 12 4,
tq 13 (.bin .add (.t 12) (kq 1)),
mq 4 13] [12,13])))
def z2y:CF:=⟨[.tmp 2],
  (sr [
tq 1 (.box zaa (.t 0)),
tq 2 (.ownNil ⟨false,zab,1,16⟩)] [0,2]
(sr [
tq 3 (.ownNil ⟨false,zab,1,16⟩)] []
(.seq (sr [
tq 4 (.mv (kq 0))] []
(.block 0 (.loop [1,3,4] zy1)))
(sr [
mq 50 3,
mq 2 50] [3,50]
.ret))))⟩
def zxa:C:=
  (.seq (sr [
mq 6 5,
fa 7 1 2,
ld 8 7,
tq 9 (.len .slc (.t 8)),
tq 10 (.bin .lss (.t 6) (.t 9))] [6,7,8,9]
(.cond (.t 10) .skip
 (.exit 0)))
(.seq (.block 1 (sr [
fa 13 1 2,
ld 14 13,
mq 15 5,
tq 16 (.idxAddr 8 (.t 14) (.t 15)),
fa 17 0 16,
ld 18 17,
mq 19 1,
tq 20 (.bin .eql (.t 18) (.t 19))] [13,14,15,16,17,18,19]
(.cond (.t 20) (sr [
mq 21 5,
mq 4 21] [5,21]
.ret)
 .skip)))
(rg [
mq 11 5,
tq 12 (.bin .add (.t 11) (kq 1)),
mq 5 12] [11,12])))
def z0v:CF:=⟨[.tmp 4],
  (sr [
tq 2 (.box zaa (.t 0)),
tq 4 (.mv (kq 0))] [0,4]
(.seq (sr [
tq 5 (.mv (kq 0))] []
(.block 0 (.loop [1,2,5] zxa)))
(sr [
tq 4 (.mv (kq (-1)))] []
.ret)))⟩
def zyw:C:=
  (.seq (sr [
mq 7 4,
fa 8 1 1,
ld 9 8,
tq 10 (.bin .leq (.t 7) (.t 9))] [7,8,9]
(.cond (.t 10) .skip
 (.exit 0)))
(.seq (.block 1 (sr [
lq 13 3 1,
mq 14 4,
tq 15 (cl zu7 [.t 13,.t 14])] [13,14]
(.cond (.t 15) (rg [
mq 16 3,
mq 17 4,
tq 18 (.mkList 1 1 [.t 17]),
tq 19 (.append ⟨false,za6,1,8⟩ (.t 16) (.t 18)),
mq 3 19] [16,17,18,19])
 .skip)))
(rg [
mq 11 4,
tq 12 (.bin .add (.t 11) (kq 1)),
mq 4 12] [11,12])))
def z2t:CF:=⟨[.tmp 2],
  (sr [
tq 1 (.box za8 (.t 0)),
tq 2 (.ownNil ⟨false,za6,1,8⟩)] [0,2]
(sr [
tq 3 (.ownNil ⟨false,za6,1,8⟩)] []
(.seq (sr [
fa 5 0 1,
ld 6 5,
mq 4 6] [5,6]
(.block 0 (.loop [1,3,4] zyw)))
(sr [
mq 20 3,
mq 2 20] [3,20]
.ret))))⟩
def z5g:CF:=⟨[.tmp 6,.tmp 7],
  (sr [
tq 6 (.mv (.k (.d (.list 0 [])))),
tq 7 (.mv (kq 0))] [6,7]
(sr [
mq 11 0,
mq 12 1,
tq 13 (cl zba [.t 12]),
mq 14 2,
tq 15 (cl zba [.t 14]),
tq 16 (.mkList 1 2 [.t 13,.t 15]),
tq 17 (.call false false (.k (.fn zd9 [] [])) [.t 11,.t 16]),
mq 10 17,
xq 18 10 0,
xq 19 10 1,
mq 8 18,
mq 9 19] [0,10,11,12,13,14,15,16,17,18,19]
(.seq (sr [
mq 20 9,
tq 21 (.bin .neq (.t 20) (kq 0))] [20]
(.cond (.t 21) (sr [
mq 22 9,
tq 6 (.mv (.k (.d (.list 0 [])))),
mq 7 22] [9,22]
.ret)
 .skip))
(sr [
mq 23 8,
mq 24 1,
mq 25 2,
tq 26 (.call true true (.k (.fn zc6 [] [])) [.t 23,.t 24,.t 25]),
mq 6 26,
tq 7 (.mv (kq 0))] [1,2,8,23,24,25,26]
.ret))))⟩
def z0q:CF:=⟨[.tmp 8,.tmp 9],
  (sr [
tq 8 (.mv (kq 0)),
tq 9 (.mv (kq 0))] [8,9]
(sr [
mq 13 0,
mq 14 1,
tq 15 (cl zf0 [.t 14]),
mq 16 2,
tq 17 (cl zba [.t 16]),
mq 18 3,
tq 19 (cl zba [.t 18]),
tq 20 (.mkList 1 3 [.t 15,.t 17,.t 19]),
tq 21 (.call false false (.k (.fn zd9 [] [])) [.t 13,.t 20]),
mq 12 21,
xq 22 12 0,
xq 23 12 1,
mq 10 22,
mq 11 23] [0,12,13,14,15,16,17,18,19,20,21,22,23]
(.seq (sr [
mq 24 11,
tq 25 (.bin .neq (.t 24) (kq 0))] [24]
(.cond (.t 25) (sr [
mq 26 11,
tq 8 (.mv (kq 0)),
mq 9 26] [11,26]
.ret)
 .skip))
(sr [
mq 27 10,
mq 28 1,
mq 29 2,
mq 30 3,
tq 31 (.callQ (.k (.fn zbg [] [])) [.t 27,.t 28,.t 29,.t 30]),
mq 8 31,
tq 9 (.mv (kq 0))] [1,2,3,10,27,28,29,30,31]
.ret))))⟩
def ztr:CF:=⟨[.tmp 10,.tmp 11],
  (sr [
tq 6 (.box zab (.t 1)),
tq 7 (.box za6 (.t 2)),
tq 8 (.box za6 (.t 3)),
tq 9 (.box za8 (.t 4)),
tq 10 (.mv (.k (.d (.list 0 [])))),
tq 11 (.mv (kq 0))] [1,2,3,4,10,11]
(.seq (.reg true [
mq 16 0,
ld 17 6,
tq 18 (cl zf0 [.t 17]),
ld 19 7,
tq 20 (cl zba [.t 19]),
ld 21 8,
tq 22 (cl zba [.t 21]),
lq 23 3 9,
tq 24 (cl zb5 [.t 23]),
tq 25 (.mkList 1 4 [.t 18,.t 20,.t 22,.t 24]),
tq 26 (.callN (.k (.fn zd9 [] [])) [.t 16,.t 25]),
mq 15 26,
xq 27 15 0,
xq 28 15 1,
tq 12 (.alloc zbs [.z (.nilp)]),
⟨none,none,.store 1 (.t 12) (.t 27)⟩,
mq 13 28] [0,15,16,17,18,19,20,21,22,23,24,25,26,27,28])
(.seq (sr [
mq 29 13,
tq 30 (.bin .neq (.t 29) (kq 0))] [29]
(.cond (.t 30) (sr [
mq 31 13,
tq 10 (.mv (.k (.d (.list 0 [])))),
mq 11 31] [13,31]
.ret)
 .skip))
(sr [
lq 33 3 9,
tq 34 (cl zih [.t 33]),
mq 32 34,
xq 35 32 0,
xq 36 32 1,
mq 14 35,
mq 13 36] [9,32,33,34,35,36]
(.seq (sr [
mq 37 13,
tq 38 (.bin .neq (.t 37) (kq 0))] [37]
(.cond (.t 38) (sr [
mq 39 13,
tq 10 (.mv (.k (.d (.list 0 [])))),
mq 11 39] [13,39]
.ret)
 .skip))
(sr [
mq 40 14,
tq 41 (.mkFunc zdf [] [.t 12,.t 6,.t 7,.t 8]),
tq 42 (.call true true (.k (.fn zk5 [] [])) [.t 40,.t 41]),
mq 10 42,
tq 11 (.mv (kq 0))] [6,7,8,12,14,40,41,42]
.ret))))))⟩
def zvt:C:=
  (.seq (sr [
mq 11 5,
mq 12 0,
tq 13 (.len .slc (.t 12)),
tq 14 (.bin .lss (.t 11) (.t 13))] [11,12,13]
(.cond (.t 14) .skip
 (.exit 0)))
(.seq (.block 1 (.seq (.reg true [
mq 17 0,
mq 18 5,
tq 19 (.idxAddr 1 (.t 17) (.t 18)),
ld 20 19,
mq 21 1,
mq 22 5,
tq 23 (.idxAddr 1 (.t 21) (.t 22)),
ld 24 23,
tq 25 (.bin .neq (.t 20) (.t 24))] [17,18,19,20,21,22,23,24])
(.cond (.t 25) (sr [
tq 4 (.mv (.k (.d (.bool false))))] []
.ret)
 .skip)))
(rg [
mq 15 5,
tq 16 (.bin .add (.t 15) (kq 1)),
mq 5 16] [15,16])))
def zzd:CF:=⟨[.tmp 4],
  (sr [
tq 4 (.mv (.k (.d (.bool false))))] [4]
(.seq (sr [
mq 6 0,
tq 7 (.len .slc (.t 6)),
mq 8 1,
tq 9 (.len .slc (.t 8)),
tq 10 (.bin .neq (.t 7) (.t 9))] [6,7,8,9]
(.cond (.t 10) (sr [
tq 4 (.mv (.k (.d (.bool false))))] []
.ret)
 .skip))
(.seq (sr [
tq 5 (.mv (kq 0))] []
(.block 0 (.loop [0,1,5] zvt)))
(sr [
tq 4 (.mv (.k (.d (.bool true))))] []
.ret))))⟩
def zvn:C:=
  (rg [
tq 10 (.alloc zdy [.z (.int .i64 0),.z (.int .i64 0)]),
⟨none,none,.store 2 (.t 10) (.t 30)⟩] [30])
def zvo:C:=
  (sr [
tq 36 (.bin .lss (.t 35) (.t 34))] []
(.seq (.cond (.t 36) .skip
 (.exit 2))
(.seq (.block 3 (sr [
tq 37 (.idxAddr 2 (.t 33) (.t 35)),
lq 38 2 37,
tq 12 (.alloc zas [.z (.int .i64 0),.z (.int .i64 0)]),
⟨none,none,.store 2 (.t 12) (.t 38)⟩] [37,38]
(.seq (.reg true [
ld 39 9,
lq 40 2 10,
ld 41 3,
lq 42 2 12,
tq 43 (cl zfy [.t 40,.t 41,.t 42]),
tq 44 (.call true true (.t 39) [.t 43]),
tq 45 (.len .slc (.t 44)),
tq 46 (.bin .eql (.t 45) (kq 0))] [39,40,41,42,43,44,45])
(.cond (.t 46) (sr [
lq 47 2 10,
ld 48 7,
lq 49 2 12,
tq 50 (.call true true (.k (.fn znx [] [])) [.t 47,.t 48,.t 49])] [7,47,48,49,50]
(sr [
ld 51 8,
ld 52 3,
lq 53 2 10,
lq 54 2 12,
tq 55 (.call true true (.k (.fn zlq [] [])) [.t 51,.t 52,.t 53,.t 54,kq 1])] [3,8,10,12,51,52,53,54,55]
(.exit 2)))
 .skip))))
(rg [
tq 56 (.bin .add (.t 35) (kq 1)),
mq 35 56] [56]))))
def zvp:C:=
  (.block 1 (.scope (.seq .label
(sr [
lq 31 2 10,
ld 32 3,
tq 33 (cl zke [.t 31,.t 32]),
tq 34 (.len .slc (.t 33)),
tq 35 (.mv (kq 0))] [31,32]
(.block 2 (.loop [3,7,8,9,10,33,34,35] zvo))))))
def zy2:CF:=⟨[.tmp 4,.tmp 5],
  (sr [
tq 3 (.box zk9 (.t 1)),
tq 4 (.ownNil ⟨true,zcp,3,32⟩),
tq 5 (.mv (kq 0))] [1]
(.seq (.seq (.reg true [
mq 13 0,
tq 14 (cl zks [.t 13]),
ld 15 3,
tq 16 (cl zkr [.t 15]),
tq 17 (.mkList 1 2 [.t 14,.t 16]),
tq 18 (cl zg9 [.t 17]),
mq 6 18] [13,14,15,16,17,18])
(sr [
mq 19 6,
tq 20 (.bin .neq (.t 19) (kq 0))] [19]
(.cond (.t 20) (sr [
mq 21 6,
tq 4 (.ownNil ⟨true,zcp,3,32⟩),
mq 5 21] [6,21]
.ret)
 .skip)))
(sr [
ld 22 3,
tq 23 (.call false false (.k (.fn zoo [] [])) [.t 22]),
tq 7 (.alloc zn5 [.own ⟨true,zcp,3,32⟩]),
⟨none,none,.store 1 (.t 7) (.t 23)⟩] [22,23]
(sr [
mq 24 0,
tq 25 (.call false false (.k (.fn znw [] [])) [.t 24]),
tq 8 (.alloc zs3 [.z (.nilp)]),
⟨none,none,.store 1 (.t 8) (.t 25)⟩] [0,24,25]
(sr [
ld 26 8,
tq 27 (.mkFunc zi5 [.t 26] []),
tq 9 (.alloc zil [.z (.nilf)]),
⟨none,none,.store 1 (.t 9) (.t 27)⟩] [26,27]
(.seq (sr [
ld 28 3,
tq 29 (.call false false (.k (.fn zrk [] [])) [.t 28])] [28]
(.block 0 (.rangeFn 59 (.t 29) [30] zvn zvp)))
(sr [
ld 57 7,
mq 4 57,
tq 5 (.mv (kq 0))] [7,57]
.ret)))))))⟩
def zze:CF:=⟨[.cell 0 (some 11)],
  (sr [
tq 0 (.alloc zch [.z (.str []),.z (.str []),.z (.str []),.z (.int .i64 0),.z (.int .i64 0),.z (.int .i64 0),.z (.int .i64 0),.z (.int .i64 0),.z (.int .i64 0),.z (.int .i64 0),.z (.int .i64 0)])] []
(sr [
tq 1 (.build [.z (.int .i64 0),.z (.int .i64 0),.z (.int .i64 0)] [(0,1,kq 2),(1,1,kq 3),(2,1,kq 127)]),
tq 2 (.build [.z (.str []),.z (.str []),.z (.str []),.z (.int .i64 0),.z (.int .i64 0),.z (.int .i64 0),.z (.int .i64 0),.z (.int .i64 0),.z (.int .i64 0),.z (.int .i64 0),.z (.int .i64 0)] [(0,1,.k (.d (.str [115,105,120]))),(1,1,.k (.d (.str [84]))),(3,1,kq 60),(4,1,kq 60),(5,1,kq 600),(6,1,kq 600),(7,3,.t 1),(10,1,kq 1)]),
⟨none,none,.store 11 (.t 0) (.t 2)⟩] [1,2]
.ret))⟩
def z0z:CF:=⟨[.cell 2 (some 18)],
  (sr [
tq 1 (.box zea (.t 0)),
tq 2 (.alloc zbk [.z (.str []),.z (.str []),.z (.str []),.z (.str []),.z (.str []),.z (.str []),.z (.int .i64 0),.z (.int .i64 0),.z (.int .i64 0),.z (.int .i64 0),.z (.int .i64 0),.z (.int .i64 0),.z (.int .i64 0),.z (.int .i64 0),.z (.int .i64 0),.z (.int .i64 0),.z (.int .i64 0),.z (.int .i64 0)])] [0]
(sr [
lq 3 13 1,
fa 4 9 1,
ld 5 4,
tq 6 (.bin .sub (.t 5) (kq 20)),
tq 7 (.minmax true [kq 0,.t 6]),
fa 8 9 1,
ld 9 8,
tq 10 (.bin .add (.t 9) (kq 20)),
tq 11 (.minmax false [kq 1439,.t 10]),
tq 12 (.build [.z (.str []),.z (.str []),.z (.str []),.z (.str []),.z (.str []),.z (.str []),.z (.int .i64 0),.z (.int .i64 0),.z (.int .i64 0),.z (.int .i64 0),.z (.int .i64 0),.z (.int .i64 0),.z (.int .i64 0),.z (.int .i64 0),.z (.int .i64 0),.z (.int .i64 0),.z (.int .i64 0),.z (.int .i64 0)] [(0,13,.t 3),(13,1,.t 7),(14,1,.t 11),(15,1,kq 20)]),
⟨none,none,.store 18 (.t 2) (.t 12)⟩] [1,3,4,5,6,7,8,9,10,11,12]
.ret))⟩
def zv8:CF:=⟨[.cell 4 (some 13)],
  (sr [
tq 4 (.alloc zea [.z (.str []),.z (.str []),.z (.str []),.z (.str []),.z (.str []),.z (.str []),.z (.int .i64 0),.z (.int .i64 0),.z (.int .i64 0),.z (.int .i64 0),.z (.int .i64 0),.z (.int .i64 0),.z (.int .i64 0)])] []
(sr [
mq 5 0,
tq 6 (.build [.z (.int .i64 0),.z (.int .i64 0),.z (.int .i64 0)] [(0,1,kq 2),(1,1,kq 3),(2,1,kq 127)]),
mq 7 1,
tq 8 (.build [.z (.str []),.z (.str []),.z (.str []),.z (.str []),.z (.str []),.z (.str []),.z (.int .i64 0),.z (.int .i64 0),.z (.int .i64 0),.z (.int .i64 0),.z (.int .i64 0),.z (.int .i64 0),.z (.int .i64 0)] [(0,1,.t 5),(1,1,.k (.d (.str [99]))),(2,1,.k (.d (.str [65]))),(4,1,.k (.d (.str [102,97,114]))),(6,3,.t 6),(9,1,kq 610),(10,1,.t 7),(11,1,kq 3)]),
⟨none,none,.store 13 (.t 4) (.t 8)⟩] [0,1,5,6,7,8]
.ret))⟩
def ztj:C:=
  (.seq (sr [
mq 29 4,
fa 30 0 3,
ld 31 30,
tq 32 (.bin .lss (.t 29) (.t 31))] [29,30,31]
(.cond (.t 32) .skip
 (.exit 0)))
(.seq (.block 1 (sr [
fa 35 2 1,
ld 36 35,
mq 37 4,
tq 38 (.idxAddr 1 (.t 36) (.t 37)),
ld 39 38,
tq 40 (cl zpn [.t 39]),
tq 41 (.un .not (.t 40))] [35,36,37,38,39,40]
(.cond (.t 41) (sr [
tq 2 (.mv (kq 8))] []
.ret)
 .skip)))
(rg [
mq 33 4,
tq 34 (.bin .add (.t 33) (kq 1)),
mq 4 34] [33,34])))
def ztk:C:=
  (.seq (sr [
mq 42 5,
fa 43 1 3,
ld 44 43,
tq 45 (.bin .lss (.t 42) (.t 44))] [42,43,44]
(.cond (.t 45) .skip
 (.exit 2)))
(.seq (.block 3 (sr [
fa 48 3 1,
ld 49 48,
mq 50 5,
tq 51 (.idxAddr 1 (.t 49) (.t 50)),
ld 52 51,
tq 53 (cl zh9 [.t 52,kq 0,kq 999999999])] [48,49,50,51,52]
(.cond (.t 53) (sr [
tq 2 (.mv (kq 3))] []
.ret)
 .skip)))
(rg [
mq 46 5,
tq 47 (.bin .add (.t 46) (kq 1)),
mq 5 47] [46,47])))
def zv7:CF:=⟨[.tmp 2],
  (sr [
tq 1 (.box zad (.t 0)),
tq 2 (.mv (kq 0))] [0,2]
(.seq (sr [
fa 6 0 1,
ld 7 6,
tq 8 (cl zh9 [.t 7,kq 1,kq 1000])] [6,7]
(.cond (.t 8) (sr [
tq 2 (.mv (kq 3))] []
.ret)
 .skip))
(sr [
fa 9 1 1,
ld 10 9,
tq 11 (cl zou [.t 10]),
tq 3 (.alloc zkx [.z (.int .i64 0),.z (.int .i64 0),.z (.bool false)]),
⟨none,none,.store 3 (.t 3) (.t 11)⟩] [9,10,11]
(.seq (sr [
fa 12 2 3,
ld 13 12,
tq 14 (.un .not (.t 13))] [12,13]
(.cond (.t 14) (sr [
tq 2 (.mv (kq 13))] []
.ret)
 .skip))
(.seq (sr [
fa 15 2 1,
ld 16 15,
tq 17 (.len .slc (.t 16)),
fa 18 0 3,
ld 19 18,
tq 20 (.bin .neq (.t 17) (.t 19)),
mq 21 20,
gq 22 21 false (.fieldAddr 3 (.t 1)),
gq 23 21 false (.load none (.t 22)),
gq 24 21 false (.len .slc (.t 23)),
gq 25 21 false (.fieldAddr 1 (.t 3)),
gq 26 21 false (.load none (.t 25)),
gq 27 21 false (.bin .neq (.t 24) (.t 26)),
tq 28 (.pick (.t 21) (.k (.d (.bool true))) (.t 27))] [15,16,17,18,19,20,21,22,23,24,25,26,27]
(.cond (.t 28) (sr [
tq 2 (.mv (kq 2))] []
.ret)
 .skip))
(.seq (sr [
tq 4 (.mv (kq 0))] []
(.block 0 (.loop [1,3,4] ztj)))
(.seq (sr [
tq 5 (.mv (kq 0))] []
(.block 2 (.loop [1,3,5] ztk)))
(.seq (sr [
fa 54 4 1,
ld 55 54,
tq 56 (.bin .neq (.t 55) (.k (.d (.str []))))] [1,54,55]
(.cond (.t 56) (sr [
tq 2 (.mv (kq 1))] []
.ret)
 .skip))
(sr [
tq 2 (.mv (kq 0))] []
.ret)))))))))⟩
def z0x:CF:=⟨[.tmp 4],
  (sr [
tq 2 (.box zaa (.t 0)),
tq 3 (.box zad (.t 1)),
tq 4 (.mv (kq 0))] [0,1,4]
(sr [
fa 9 3 3,
ld 10 9,
tq 11 (.idxAddr 1 (.t 10) (kq 0)),
ld 12 11,
mq 5 12] [9,10,11,12]
(.seq (sr [
mq 13 5,
fa 14 0 2,
ld 15 14,
tq 16 (.bin .lss (.t 13) (.t 15))] [13,14,15]
(.cond (.t 16) (sr [
tq 4 (.mv (kq 19))] []
.ret)
 .skip))
(.seq (sr [
mq 17 5,
tq 18 (.bin .gtr (.t 17) (kq 99999))] [17]
(.cond (.t 18) (sr [
tq 4 (.mv (kq 3))] []
.ret)
 .skip))
(.seq (sr [
fa 19 1 3,
ld 20 19] [19]
(.block 0 (.seq (sr [
tq 22 (.bin .eql (.t 20) (.k (.d (.str [101,110,116,101,114])))),
mq 21 22] [22]
(.cond (.t 21) .skip
 (sr [
tq 23 (.bin .eql (.t 20) (.k (.d (.str [114,117,108,101])))),
mq 21 23] [23]
(.cond (.t 21) .skip
 (rg [
tq 24 (.bin .eql (.t 20) (.k (.d (.str [102,111,108,108,111,119])))),
mq 21 24] [24])))))
(.cond (.t 21) (sr [
lq 25 4 2,
lq 26 5 3,
tq 27 (cl zga [.t 25,.t 26]),
mq 4 27] [2,3,25,26,27]
.ret)
 (sr [
tq 29 (.bin .eql (.t 20) (.k (.d (.str [114,101,118,101,114,115,101])))),
mq 28 29] [29]
(.cond (.t 28) (.seq (.reg true [
lq 30 4 2,
fa 31 2 3,
ld 32 31,
tq 33 (.idxAddr 1 (.t 32) (kq 0)),
ld 34 33,
tq 35 (cl zdm [.t 30,.t 34]),
mq 6 35] [3,30,31,32,33,34,35])
(.seq (sr [
mq 36 6,
tq 37 (.bin .lss (.t 36) (kq 0))] [36]
(.cond (.t 37) (sr [
tq 4 (.mv (kq 10))] []
.ret)
 .skip))
(.seq (sr [
fa 38 1 2,
ld 39 38,
mq 40 6,
tq 41 (.idxAddr 8 (.t 39) (.t 40)),
fa 42 1 41,
ld 43 42,
tq 44 (.bin .neq (.t 43) (.k (.d (.str [114,117,108,101]))))] [38,39,40,41,42,43]
(.cond (.t 44) (sr [
tq 4 (.mv (kq 13))] []
.ret)
 .skip))
(sr [
lq 45 4 2,
mq 46 6,
mq 47 5,
tq 48 (cl zhc [.t 45,.t 46,.t 47]),
tq 49 (.un .not (.t 48))] [2,5,6,45,46,47,48]
(.cond (.t 49) (sr [
tq 4 (.mv (kq 20))] []
.ret)
 .skip)))))
 (sr [
tq 51 (.bin .eql (.t 20) (.k (.d (.str [99,111,109,112,108,97,105,110])))),
mq 50 51] [51]
(.cond (.t 50) (.seq (.seq (.reg true [
lq 52 4 2,
fa 53 2 3,
ld 54 53,
tq 55 (.idxAddr 1 (.t 54) (kq 0)),
ld 56 55,
tq 57 (cl zcz [.t 52,.t 56]),
tq 58 (.bin .geq (.t 57) (kq 0))] [52,53,54,55,56,57])
(.cond (.t 58) (sr [
tq 4 (.mv (kq 9))] []
.ret)
 .skip))
(.seq (sr [
fa 59 3 2,
ld 60 59,
tq 61 (.len .slc (.t 60)),
tq 62 (.bin .geq (.t 61) (kq 64))] [59,60,61]
(.cond (.t 62) (sr [
tq 4 (.mv (kq 5))] []
.ret)
 .skip))
(.seq (.reg true [
lq 63 4 2,
fa 64 2 3,
ld 65 64,
tq 66 (.idxAddr 1 (.t 65) (kq 1)),
ld 67 66,
tq 68 (cl zdm [.t 63,.t 67]),
mq 7 68] [3,63,64,65,66,67,68])
(.seq (sr [
mq 69 7,
tq 70 (.bin .lss (.t 69) (kq 0))] [69]
(.cond (.t 70) (sr [
tq 4 (.mv (kq 10))] []
.ret)
 .skip))
(sr [
lq 71 4 2,
mq 72 7,
mq 73 5,
tq 74 (cl zhc [.t 71,.t 72,.t 73]),
tq 75 (.un .not (.t 74))] [2,5,7,71,72,73,74]
(.cond (.t 75) (sr [
tq 4 (.mv (kq 20))] []
.ret)
 .skip))))))
 (sr [
tq 77 (.bin .eql (.t 20) (.k (.d (.str [100,101,99,105,100,101])))),
mq 76 77] [20,77]
(.cond (.t 76) (.seq (.reg true [
lq 78 4 2,
fa 79 2 3,
ld 80 79,
tq 81 (.idxAddr 1 (.t 80) (kq 0)),
ld 82 81,
tq 83 (cl zcz [.t 78,.t 82]),
mq 8 83] [78,79,80,81,82,83])
(.seq (sr [
mq 84 8,
tq 85 (.bin .lss (.t 84) (kq 0))] [84]
(.cond (.t 85) (sr [
tq 4 (.mv (kq 10))] []
.ret)
 .skip))
(.seq (sr [
fa 86 3 2,
ld 87 86,
mq 88 8,
tq 89 (.idxAddr 5 (.t 87) (.t 88)),
fa 90 3 89,
ld 91 90] [2,8,86,87,88,89,90]
(.cond (.t 91) (sr [
tq 4 (.mv (kq 20))] []
.ret)
 .skip))
(sr [
fa 92 3 3,
ld 93 92,
tq 94 (.idxAddr 1 (.t 93) (kq 1)),
ld 95 94,
tq 96 (.bin .gtr (.t 95) (kq 1))] [3,92,93,94,95]
(.cond (.t 96) (sr [
tq 4 (.mv (kq 3))] []
.ret)
 .skip)))))
 .skip))))))))))
(sr [
tq 4 (.mv (kq 0))] []
.ret))))))⟩
def z5k:CF:=⟨[.cell 4 (some 4)],
  (sr [
tq 2 (.box zaa (.t 0)),
tq 3 (.box zad (.t 1)),
tq 4 (.alloc zaa [.z (.int .i64 0),.own ⟨false,zb1,8,96⟩,.own ⟨false,za9,2,24⟩,.own ⟨true,za0,5,48⟩])] [0,1]
(sr [
fa 8 3 3,
ld 9 8,
tq 10 (.idxAddr 1 (.t 9) (kq 0)),
ld 11 10,
fa 12 0 2,
⟨none,none,.store 1 (.t 12) (.t 11)⟩] [8,9,10,11,12]
(.seq (sr [
fa 13 1 3,
ld 14 13] [13]
(.block 0 (.seq (sr [
tq 16 (.bin .eql (.t 14) (.k (.d (.str [101,110,116,101,114])))),
mq 15 16] [16]
(.cond (.t 15) .skip
 (sr [
tq 17 (.bin .eql (.t 14) (.k (.d (.str [114,117,108,101])))),
mq 15 17] [17]
(.cond (.t 15) .skip
 (rg [
tq 18 (.bin .eql (.t 14) (.k (.d (.str [102,111,108,108,111,119])))),
mq 15 18] [18])))))
(.cond (.t 15) (.seq (.reg true [
fa 19 2 3,
ld 20 19,
tq 21 (.idxAddr 1 (.t 20) (kq 0)),
ld 22 21,
fa 23 1 3,
ld 24 23,
fa 25 2 3,
ld 26 25,
tq 27 (.idxAddr 1 (.t 26) (kq 1)),
ld 28 27,
fa 29 3 3,
ld 30 29,
tq 31 (.idxAddr 1 (.t 30) (kq 0)),
ld 32 31,
fa 33 3 3,
ld 34 33,
tq 35 (.idxAddr 1 (.t 34) (kq 1)),
ld 36 35,
fa 37 3 3,
ld 38 37,
tq 39 (.idxAddr 1 (.t 38) (kq 2)),
ld 40 39,
fa 41 3 3,
ld 42 41,
tq 43 (.idxAddr 1 (.t 42) (kq 3)),
ld 44 43,
tq 45 (.build [.z (.str []),.z (.str []),.z (.str []),.z (.str []),.z (.int .i64 0),.z (.int .i64 0),.z (.int .i64 0),.z (.int .i64 0)] [(0,1,.t 22),(1,1,.t 24),(2,1,.t 28),(4,1,.t 32),(5,1,.t 36),(6,1,.t 40),(7,1,.t 44)]),
tq 5 (.alloc zb1 [.z (.str []),.z (.str []),.z (.str []),.z (.str []),.z (.int .i64 0),.z (.int .i64 0),.z (.int .i64 0),.z (.int .i64 0)]),
⟨none,none,.store 8 (.t 5) (.t 45)⟩] [19,20,21,22,23,24,25,26,27,28,29,30,31,32,33,34,35,36,37,38,39,40,41,42,43,44,45])
(.seq (sr [
fa 46 1 3,
ld 47 46,
tq 48 (.bin .eql (.t 47) (.k (.d (.str [102,111,108,108,111,119]))))] [46,47]
(.cond (.t 48) (rg [
fa 49 2 3,
ld 50 49,
tq 51 (.idxAddr 1 (.t 50) (kq 2)),
ld 52 51,
fa 53 3 5,
⟨none,none,.store 1 (.t 53) (.t 52)⟩] [3,49,50,51,52,53])
 .skip))
(.regC [
tq 54 (.mkRow ⟨false,zb1,8,96⟩ 0 []),
fa 55 1 2,
ld 56 55,
tq 57 (.append ⟨false,zb1,8,96⟩ (.t 54) (.t 56)),
lq 58 8 5,
tq 59 (.mkListD 8 1 [.t 58]),
tq 60 (.append ⟨false,zb1,8,96⟩ (.t 57) (.t 59)),
fa 61 1 2,
⟨none,none,.store 1 (.t 61) (.t 60)⟩] [5,54,55,56,57,58,59,60,61] [(5,57)])))
 (sr [
tq 63 (.bin .eql (.t 14) (.k (.d (.str [114,101,118,101,114,115,101])))),
mq 62 63] [63]
(.cond (.t 62) (.regC [
tq 64 (.mkRow ⟨false,za9,2,24⟩ 0 []),
fa 65 2 2,
ld 66 65,
tq 67 (.append ⟨false,za9,2,24⟩ (.t 64) (.t 66)),
fa 68 2 3,
ld 69 68,
tq 70 (.idxAddr 1 (.t 69) (kq 0)),
ld 71 70,
fa 72 3 3,
ld 73 72,
tq 74 (.idxAddr 1 (.t 73) (kq 0)),
ld 75 74,
tq 76 (.build [.z (.str []),.z (.int .i64 0)] [(0,1,.t 71),(1,1,.t 75)]),
tq 77 (.mkListD 2 1 [.t 76]),
tq 78 (.append ⟨false,za9,2,24⟩ (.t 67) (.t 77)),
fa 79 2 2,
⟨none,none,.store 1 (.t 79) (.t 78)⟩] [3,64,65,66,67,68,69,70,71,72,73,74,75,76,77,78,79] [(3,67),(68,67),(69,67),(70,67),(72,67),(73,67),(74,67)])
 (sr [
tq 81 (.bin .eql (.t 14) (.k (.d (.str [99,111,109,112,108,97,105,110])))),
mq 80 81] [81]
(.cond (.t 80) (.regC [
tq 82 (.mkRow ⟨true,za0,5,48⟩ 0 []),
fa 83 3 2,
ld 84 83,
tq 85 (.append ⟨true,za0,5,48⟩ (.t 82) (.t 84)),
fa 86 2 3,
ld 87 86,
tq 88 (.idxAddr 1 (.t 87) (kq 0)),
ld 89 88,
fa 90 2 3,
ld 91 90,
tq 92 (.idxAddr 1 (.t 91) (kq 1)),
ld 93 92,
fa 94 3 3,
ld 95 94,
tq 96 (.idxAddr 1 (.t 95) (kq 0)),
ld 97 96,
tq 98 (.build [.z (.str []),.z (.str []),.z (.int .i64 0),.z (.bool false),.z (.bool false)] [(0,1,.t 89),(1,1,.t 93),(2,1,.t 97)]),
tq 99 (.mkListD 5 1 [.t 98]),
tq 100 (.append ⟨true,za0,5,48⟩ (.t 85) (.t 99)),
fa 101 3 2,
⟨none,none,.store 1 (.t 101) (.t 100)⟩] [3,82,83,84,85,86,87,88,89,90,91,92,93,94,95,96,97,98,99,100,101] [(3,85),(86,85),(87,85),(88,85),(90,85),(91,85),(92,85),(94,85),(95,85),(96,85)])
 (sr [
tq 103 (.bin .eql (.t 14) (.k (.d (.str [100,101,99,105,100,101])))),
mq 102 103] [14,103]
(.cond (.t 102) (.seq (.reg true [
lq 104 4 2,
fa 105 2 3,
ld 106 105,
tq 107 (.idxAddr 1 (.t 106) (kq 0)),
ld 108 107,
tq 109 (.call true true (.k (.fn zcz [] [])) [.t 104,.t 108]),
mq 6 109] [104,105,106,107,108,109])
(sr [
fa 110 3 2,
ld 111 110,
mq 112 6,
tq 113 (.idxAddr 5 (.t 111) (.t 112)),
lq 114 5 113,
tq 7 (.alloc za0 [.z (.str []),.z (.str []),.z (.int .i64 0),.z (.bool false),.z (.bool false)]),
⟨none,none,.store 5 (.t 7) (.t 114)⟩] [110,111,112,113,114]
(.seq (.reg true [
fa 115 3 3,
ld 116 115,
tq 117 (.idxAddrD 1 (.t 116) (kq 1)),
tq 118 (.loadD none (.t 117)),
tq 119 (.bin .eql (.t 118) (kq 1)),
fa 120 3 7,
⟨none,none,.storeR 1 (.t 120) (.k (.d (.bool true))) [3]⟩,
fa 121 4 7,
⟨none,none,.store 1 (.t 121) (.t 119)⟩] [115,116,117,118,119,120,121])
(sr [
tq 122 (.mkRow ⟨true,za0,5,48⟩ 0 []),
fa 123 3 2,
ld 124 123,
tq 125 (.append ⟨true,za0,5,48⟩ (.t 122) (.t 124)),
fa 126 3 2,
⟨none,none,.store 1 (.t 126) (.t 125)⟩] [122,123,124,125,126]
(sr [
fa 127 3 2,
ld 128 127,
mq 129 6,
lq 130 5 7,
tq 131 (.idxAddr 5 (.t 128) (.t 129)),
⟨none,none,.store 5 (.t 131) (.t 130)⟩] [6,127,128,129,130,131]
(sr [
fa 132 4 7,
ld 133 132] [132]
(.cond (.t 133) (.regC [
tq 134 (.mkRow ⟨false,za9,2,24⟩ 0 []),
fa 135 2 2,
ld 136 135,
tq 137 (.append ⟨false,za9,2,24⟩ (.t 134) (.t 136)),
fa 138 1 7,
ld 139 138,
fa 140 3 3,
ld 141 140,
tq 142 (.idxAddr 1 (.t 141) (kq 0)),
ld 143 142,
tq 144 (.build [.z (.str []),.z (.int .i64 0)] [(0,1,.t 139),(1,1,.t 143)]),
tq 145 (.mkListD 2 1 [.t 144]),
tq 146 (.append ⟨false,za9,2,24⟩ (.t 137) (.t 145)),
fa 147 2 2,
⟨none,none,.store 1 (.t 147) (.t 146)⟩] [3,7,134,135,136,137,138,139,140,141,142,143,144,145,146,147] [(7,137),(138,137),(3,137),(140,137),(141,137),(142,137)])
 .skip)))))))
 .skip))))))))))
(sr [
lq 148 4 2,
⟨none,none,.store 4 (.t 4) (.t 148)⟩] [2,148]
.ret))))⟩
def zyt:C:=
  (sr [
tq 8 (.bin .lss (.t 7) (.t 6))] []
(.seq (.cond (.t 8) .skip
 (.exit 0))
(.seq (.block 1 (sr [
tq 9 (.idxAddr 1 (.t 5) (.t 7)),
ld 10 9,
mq 4 10] [9,10]
(sr [
mq 11 4,
tq 12 (.bin .neq (.t 11) (kq 0))] [11]
(.cond (.t 12) (sr [
mq 13 4,
mq 2 13] [4,13]
.ret)
 .skip))))
(rg [
tq 14 (.bin .add (.t 7) (kq 1)),
mq 7 14] [14]))))
def z2p:CF:=⟨[.tmp 2],
  (sr [
tq 2 (.mv (kq 0))] [2]
(.seq (sr [
mq 5 0,
tq 6 (.len .slc (.t 5)),
tq 7 (.mv (kq 0))] [0]
(.block 0 (.loop [5,6,7] zyt)))
(sr [
tq 2 (.mv (kq 0))] []
.ret)))⟩
def z5i:CF:=⟨[.tmp 4],
  (sr [
tq 4 (.mv (kq 0))] [4]
(.seq (sr [
mq 5 0] [0]
(.cond (.t 5) (sr [
mq 6 1,
mq 4 6] [1,6]
.ret)
 .skip))
(sr [
tq 4 (.mv (kq 0))] []
.ret)))⟩
def z5l:CF:=⟨[.tmp 4,.tmp 5,.tmp 6],
  (sr [
tq 4 (.mv (.k (.d (.str [])))),
tq 5 (.mv (.k (.d (.str [])))),
tq 6 (.mv (.k (.d (.bool false))))] [4,5,6]
(sr [
mq 7 0,
mq 8 1,
tq 9 (cl ziq [.t 7,.t 8]),
xq 10 9 0,
xq 11 9 1,
xq 12 9 2,
mq 4 10,
mq 5 11,
mq 6 12] [0,1,7,8,9,10,11,12]
.ret))⟩
def zv5:CF:=⟨[.tmp 0],
  (sr [
tq 0 (.mv (.k (.d (.nilm))))] [0]
(sr [
tq 1 (.mkMap),
tq 2 (.build [.z (.int .i64 0),.z (.int .i64 0),.z (.nilf)] [(0,1,kq 4),(1,1,kq 2),(2,1,.k (.fn zmh [] []))]),
⟨none,none,.mapSet .str (.t 1) (.k (.d (.str [115,108,111,116]))) (.t 2)⟩,
tq 3 (.build [.z (.int .i64 0),.z (.int .i64 0),.z (.nilf)] [(0,1,kq 3),(1,1,kq 2),(2,1,.k (.fn zmi [] []))]),
⟨none,none,.mapSet .str (.t 1) (.k (.d (.str [100,97,121]))) (.t 3)⟩,
tq 4 (.build [.z (.int .i64 0),.z (.int .i64 0),.z (.nilf)] [(0,1,kq 2),(1,1,kq 1),(2,1,.k (.fn zmj [] []))]),
⟨none,none,.mapSet .str (.t 1) (.k (.d (.str [99,111,117,110,116,115]))) (.t 4)⟩,
tq 5 (.build [.z (.int .i64 0),.z (.int .i64 0),.z (.nilf)] [(0,1,kq 2),(1,1,kq 0),(2,1,.k (.fn zmk [] []))]),
⟨none,none,.mapSet .str (.t 1) (.k (.d (.str [114,101,115,116,115]))) (.t 5)⟩,
tq 6 (.build [.z (.int .i64 0),.z (.int .i64 0),.z (.nilf)] [(0,1,kq 1),(1,1,kq 0),(2,1,.k (.fn zml [] []))]),
⟨none,none,.mapSet .str (.t 1) (.k (.d (.str [111,112,101,110]))) (.t 6)⟩,
mq 7 1,
mq 0 7] [1,2,3,4,5,6,7]
.ret))⟩
def zrt:C:=
  (sr [
tq 36 (.bin .lss (.t 35) (.t 34))] []
(.seq (.cond (.t 36) .skip
 (.exit 0))
(.seq (.block 1 (sr [
tq 37 (.idxAddr 1 (.t 33) (.t 35)),
ld 38 37,
mq 11 38] [37,38]
(sr [
mq 40 11,
tq 41 (cl zl7 [.t 40]),
mq 39 41,
xq 42 39 0,
xq 43 39 1,
mq 12 42,
mq 13 43] [11,39,40,41,42,43]
(.seq (sr [
mq 44 13,
tq 45 (.un .not (.t 44))] [13,44]
(.cond (.t 45) (sr [
tq 6 (.mv (.k (.d (.str [])))),
tq 7 (.mv (kq 25))] []
.ret)
 .skip))
(rg [
mq 46 9,
mq 47 12,
tq 48 (.mkList 1 1 [.t 47]),
tq 49 (.append ⟨false,za6,1,8⟩ (.t 46) (.t 48)),
mq 9 49] [12,46,47,48,49])))))
(rg [
tq 50 (.bin .add (.t 35) (kq 1)),
mq 35 50] [50]))))
def zts:CF:=⟨[.tmp 6,.tmp 7],
  (sr [
tq 4 (.box zo0 (.t 1)),
tq 6 (.mv (.k (.d (.str [])))),
tq 7 (.mv (kq 0))] [1,6,7]
(sr [
mq 16 2,
tq 17 (cl n_strings_Split [.t 16,.k (.d (.str [32]))]),
mq 8 17] [2,16,17]
(.seq (sr [
mq 18 8,
tq 19 (.len .slc (.t 18)),
fa 20 0 4,
ld 21 20,
tq 22 (.bin .neq (.t 19) (.t 21)),
mq 23 22,
gq 24 23 false (.mv (.t 8)),
gq 25 23 false (cl zdd [.t 24,.k (.d (.str []))]),
tq 26 (.pick (.t 23) (.k (.d (.bool true))) (.t 25))] [18,19,20,21,22,23,24,25]
(.cond (.t 26) (sr [
tq 6 (.mv (.k (.d (.str [])))),
tq 7 (.mv (kq 25))] []
.ret)
 .skip))
(sr [
tq 9 (.ownNil ⟨false,za6,1,8⟩)] []
(.seq (sr [
mq 27 8,
mq 28 8,
tq 29 (.len .slc (.t 28)),
fa 30 1 4,
ld 31 30,
tq 32 (.bin .sub (.t 29) (.t 31)),
tq 33 (.slice 1 (.t 27) (some (.t 32)) none none),
tq 34 (.len .slc (.t 33)),
tq 35 (.mv (kq 0))] [27,28,29,30,31,32]
(.block 0 (.loop [0,4,8,9,33,34,35] zrt)))
(.seq (.reg true [
fa 52 2 4,
ld 53 52,
mq 54 0,
tq 55 (.nilCheck (.t 54)),
fa 56 0 55,
fa 57 1 56,
mq 58 8,
mq 59 9,
tq 60 (.callU true (.t 53) [.t 57,.t 58,.t 59]),
mq 51 60,
xq 61 51 0,
xq 62 51 1,
mq 14 61,
mq 15 62] [0,4,8,9,51,52,53,54,55,56,57,58,59,60,61,62])
(.seq (sr [
mq 63 15,
tq 64 (.bin .neq (.t 63) (kq 0))] [63]
(.cond (.t 64) (sr [
mq 65 15,
tq 6 (.mv (.k (.d (.str [])))),
mq 7 65] [15,65]
.ret)
 .skip))
(.seq (sr [
mq 66 14,
tq 67 (.len .slc (.t 66)),
tq 68 (.bin .eql (.t 67) (kq 0))] [66,67]
(.cond (.t 68) (sr [
tq 6 (.mv (.k (.d (.str [110,111,110,101])))),
tq 7 (.mv (kq 0))] []
.ret)
 .skip))
(sr [
mq 69 14,
tq 70 (cl n_strings_Join [.t 69,.k (.d (.str [32]))]),
mq 6 70,
tq 7 (.mv (kq 0))] [14,69,70]
.ret)))))))))⟩
def z2q:CF:=⟨[.tmp 0],
  (sr [
tq 0 (.mv (.k (.d (.nilm))))] [0]
(sr [
tq 1 (.mkMap),
tq 2 (.build [.z (.int .i64 0),.z (.int .i64 0),.z (.nilf),.z (.nilf)] [(0,1,kq 2),(1,1,kq 4),(2,1,.k (.fn zaq [] [])),(3,1,.k (.fn zar [] []))]),
⟨none,none,.mapSet .str (.t 1) (.k (.d (.str [101,110,116,101,114]))) (.t 2)⟩,
tq 3 (.build [.z (.int .i64 0),.z (.int .i64 0),.z (.nilf),.z (.nilf)] [(0,1,kq 2),(1,1,kq 4),(2,1,.k (.fn zaq [] [])),(3,1,.k (.fn zar [] []))]),
⟨none,none,.mapSet .str (.t 1) (.k (.d (.str [114,117,108,101]))) (.t 3)⟩,
tq 4 (.build [.z (.int .i64 0),.z (.int .i64 0),.z (.nilf),.z (.nilf)] [(0,1,kq 3),(1,1,kq 4),(2,1,.k (.fn zaq [] [])),(3,1,.k (.fn zar [] []))]),
⟨none,none,.mapSet .str (.t 1) (.k (.d (.str [102,111,108,108,111,119]))) (.t 4)⟩,
tq 5 (.build [.z (.int .i64 0),.z (.int .i64 0),.z (.nilf),.z (.nilf)] [(0,1,kq 1),(1,1,kq 1),(2,1,.k (.fn za4 [] [])),(3,1,.k (.fn zjh [] []))]),
⟨none,none,.mapSet .str (.t 1) (.k (.d (.str [114,101,118,101,114,115,101]))) (.t 5)⟩,
tq 6 (.build [.z (.int .i64 0),.z (.int .i64 0),.z (.nilf),.z (.nilf)] [(0,1,kq 2),(1,1,kq 1),(2,1,.k (.fn zaw [] [])),(3,1,.k (.fn zcf [] []))]),
⟨none,none,.mapSet .str (.t 1) (.k (.d (.str [99,111,109,112,108,97,105,110]))) (.t 6)⟩,
tq 7 (.build [.z (.int .i64 0),.z (.int .i64 0),.z (.nilf),.z (.nilf)] [(0,1,kq 1),(1,1,kq 2),(2,1,.k (.fn zaz [] [])),(3,1,.k (.fn zby [] []))]),
⟨none,none,.mapSet .str (.t 1) (.k (.d (.str [100,101,99,105,100,101]))) (.t 7)⟩,
mq 8 1,
mq 0 8] [1,2,3,4,5,6,7,8]
.ret))⟩
def zyu:C:=
  (sr [
tq 50 (.bin .lss (.t 49) (.t 48))] []
(.seq (.cond (.t 50) .skip
 (.exit 0))
(.seq (.block 1 (.reg true [
fa 51 2 7,
ld 52 51,
mq 53 6,
tq 54 (.callR true (.t 53) [] [7]),
tq 55 (.mkList 1 1 [.t 54]),
tq 56 (.append ⟨false,zab,1,16⟩ (.t 52) (.t 55)),
fa 57 2 7,
⟨none,none,.store 1 (.t 57) (.t 56)⟩] [51,52,53,54,55,56,57]))
(rg [
tq 58 (.bin .add (.t 49) (kq 1)),
mq 49 58] [58]))))
def zyv:C:=
  (sr [
tq 62 (.bin .lss (.t 61) (.t 60))] []
(.seq (.cond (.t 62) .skip
 (.exit 2))
(.seq (.block 3 (sr [
mq 64 6,
tq 65 (.call true true (.t 64) []),
tq 66 (cl zl7 [.t 65]),
mq 63 66,
xq 67 63 0,
xq 68 63 1,
mq 10 67,
mq 11 68] [63,64,65,66,67,68]
(.seq (sr [
mq 69 11,
tq 70 (.un .not (.t 69))] [11,69]
(.cond (.t 70) (sr [
tq 71 (.build [.z (.int .i64 0),.z (.str []),.own ⟨false,zab,1,16⟩,.own ⟨false,za6,1,8⟩,.z (.str [])] []),
⟨none,none,.store 5 (.t 2) (.t 71)⟩,
tq 3 (.mv (.k (.d (.bool false))))] [71]
.ret)
 .skip))
(rg [
fa 72 3 7,
ld 73 72,
mq 74 10,
tq 75 (.mkList 1 1 [.t 74]),
tq 76 (.append ⟨false,za6,1,8⟩ (.t 73) (.t 75)),
fa 77 3 7,
⟨none,none,.store 1 (.t 77) (.t 76)⟩] [10,72,73,74,75,76,77]))))
(rg [
tq 78 (.bin .add (.t 61) (kq 1)),
mq 61 78] [78]))))
def z2s:CF:=⟨[.cell 2 (some 5),.tmp 3],
  (sr [
tq 2 (.alloc zad [.z (.int .i64 0),.z (.str []),.own ⟨false,zab,1,16⟩,.own ⟨false,za6,1,8⟩,.z (.str [])]),
tq 3 (.mv (.k (.d (.bool false))))] [3]
(sr [
mq 12 0,
tq 13 (cl n_strings_Split [.t 12,.k (.d (.str [32]))]),
mq 4 13] [0,12,13]
(sr [
mq 14 4,
tq 15 (.build [.z (.list 0 [])] [(0,1,.t 14)]),
tq 16 (.box zzl (.t 15)),
mq 5 16] [14,15,16]
(sr [
mq 17 5,
tq 18 (.mkFunc zmm [.t 17] []),
mq 6 18] [5,17,18]
(sr [
mq 19 6,
tq 20 (.call true true (.t 19) []),
tq 21 (.build [.z (.int .i64 0),.z (.str []),.own ⟨false,zab,1,16⟩,.own ⟨false,za6,1,8⟩,.z (.str [])] [(1,1,.t 20)]),
tq 7 (.alloc zad [.z (.int .i64 0),.z (.str []),.own ⟨false,zab,1,16⟩,.own ⟨false,za6,1,8⟩,.z (.str [])]),
⟨none,none,.store 5 (.t 7) (.t 21)⟩] [19,20,21]
(.seq (.reg true [
tq 23 (.callN (.k (.fn zfz [] [])) []),
fa 24 1 7,
ld 25 24,
tq 26 (.lookup .str (.agg [.int .i64 0,.int .i64 0,.nilf,.nilf]) true (.t 23) (.t 25)),
mq 22 26,
xq 27 22 0,
xq 28 22 1,
tq 8 (.alloc zps [.z (.int .i64 0),.z (.int .i64 0),.z (.nilf),.z (.nilf)]),
⟨none,none,.store 4 (.t 8) (.t 27)⟩,
mq 9 28] [22,23,24,25,26,27,28])
(.seq (sr [
mq 29 9,
tq 30 (.un .not (.t 29)),
mq 31 30,
gq 32 31 false (.mv (.t 4)),
gq 33 31 false (.len .slc (.t 32)),
gq 34 31 false (.fieldAddr 0 (.t 8)),
gq 35 31 false (.load none (.t 34)),
gq 36 31 false (.bin .add (kq 1) (.t 35)),
gq 37 31 false (.fieldAddr 1 (.t 8)),
gq 38 31 false (.load none (.t 37)),
gq 39 31 false (.bin .add (.t 36) (.t 38)),
gq 40 31 false (.bin .neq (.t 33) (.t 39)),
tq 41 (.pick (.t 31) (.k (.d (.bool true))) (.t 40)),
mq 42 41,
gq 43 42 false (.mv (.t 4)),
gq 44 42 false (cl zdd [.t 43,.k (.d (.str []))]),
tq 45 (.pick (.t 42) (.k (.d (.bool true))) (.t 44))] [4,9,29,30,31,32,33,34,35,36,37,38,39,40,41,42,43,44]
(.cond (.t 45) (sr [
tq 46 (.build [.z (.int .i64 0),.z (.str []),.own ⟨false,zab,1,16⟩,.own ⟨false,za6,1,8⟩,.z (.str [])] []),
⟨none,none,.store 5 (.t 2) (.t 46)⟩,
tq 3 (.mv (.k (.d (.bool false))))] [46]
.ret)
 .skip))
(.seq (sr [
fa 47 0 8,
ld 48 47,
tq 49 (.mv (kq 0))] [47]
(.block 0 (.loop [2,6,7,8,48,49] zyu)))
(.seq (sr [
fa 59 1 8,
ld 60 59,
tq 61 (.mv (kq 0))] [8,59]
(.block 2 (.loop [2,6,7,60,61] zyv)))
(sr [
lq 79 5 7,
⟨none,none,.store 5 (.t 2) (.t 79)⟩,
tq 3 (.mv (.k (.d (.bool true))))] [7,79]
.ret))))))))))⟩
def zuu:CF:=⟨[.tmp 2],
  (sr [
tq 1 (.box zad (.t 0)),
tq 2 (.mv (kq 0))] [0,2]
(.seq (.reg true [
tq 8 (.callN (.k (.fn zfz [] [])) []),
fa 9 1 1,
ld 10 9,
tq 11 (.lookup .str (.agg [.int .i64 0,.int .i64 0,.nilf,.nilf]) true (.t 8) (.t 10)),
mq 7 11,
xq 12 7 0,
xq 13 7 1,
tq 3 (.alloc zps [.z (.int .i64 0),.z (.int .i64 0),.z (.nilf),.z (.nilf)]),
⟨none,none,.store 4 (.t 3) (.t 12)⟩,
mq 4 13] [7,8,9,10,11,12,13])
(sr [
fa 14 2 1,
ld 15 14,
tq 16 (cl zcv [.t 15,.k (.fn zfk [] [])]),
mq 5 16] [14,15,16]
(sr [
fa 17 3 1,
ld 18 17,
tq 19 (cl zdn [.t 18,.k (.fn zfl [] [])]),
mq 6 19] [17,18,19]
(.seq (.reg true [
fa 20 0 1,
ld 21 20,
tq 22 (cl zh8 [.t 21,kq 1,kq 1000]),
mq 23 4,
tq 24 (.un .not (.t 23)),
tq 25 (cl zal [.t 24,kq 13]),
fa 26 2 1,
ld 27 26,
tq 28 (.len .slc (.t 27)),
fa 29 0 3,
ld 30 29,
tq 31 (.bin .neq (.t 28) (.t 30)),
mq 32 31,
gq 33 32 false (.fieldAddr 3 (.t 1)),
gq 34 32 false (.load none (.t 33)),
gq 35 32 false (.len .slc (.t 34)),
gq 36 32 false (.fieldAddr 1 (.t 3)),
gq 37 32 false (.load none (.t 36)),
gq 38 32 false (.bin .neq (.t 35) (.t 37)),
tq 39 (.pick (.t 32) (.k (.d (.bool true))) (.t 38)),
tq 40 (cl zal [.t 39,kq 2]),
mq 41 5,
tq 42 (cl zal [.t 41,kq 8]),
mq 43 6,
tq 44 (cl zal [.t 43,kq 3]),
fa 45 4 1,
ld 46 45,
tq 47 (.bin .neq (.t 46) (.k (.d (.str [])))),
tq 48 (cl zal [.t 47,kq 1]),
tq 49 (.mkList 1 6 [.t 22,.t 25,.t 40,.t 42,.t 44,.t 48]),
tq 50 (cl za3 [.t 49]),
mq 2 50] [1,3,4,5,6,20,21,22,23,24,25,26,27,28,29,30,31,32,33,34,35,36,37,38,39,40,41,42,43,44,45,46,47,48,49,50])
.ret)))))⟩
def zp1:CF:=⟨[.tmp 4],
  (sr [
tq 3 (.box zad (.t 1)),
tq 4 (.mv (kq 0))] [1,4]
(sr [
mq 7 0,
tq 8 (.nilCheck (.t 7)),
fa 9 1 8,
mq 5 9] [7,8,9]
(.seq (.seq (.reg true [
fa 10 0 3,
ld 11 10,
mq 12 0,
tq 13 (.nilCheck (.t 12)),
fa 14 0 13,
ld 15 14,
tq 16 (.len .slc (.t 15)),
tq 17 (.bin .add (.t 16) (kq 1)),
tq 18 (.bin .neq (.t 11) (.t 17)),
tq 19 (cl zal [.t 18,kq 11]),
fa 20 3 3,
ld 21 20,
tq 22 (.idxAddr 1 (.t 21) (kq 0)),
ld 23 22,
mq 24 5,
tq 25 (.nilCheck (.t 24)),
fa 26 0 25,
ld 27 26,
tq 28 (.bin .lss (.t 23) (.t 27)),
tq 29 (cl zal [.t 28,kq 19]),
fa 30 3 3,
ld 31 30,
tq 32 (.idxAddr 1 (.t 31) (kq 0)),
ld 33 32,
tq 34 (.bin .gtr (.t 33) (kq 99999)),
tq 35 (cl zal [.t 34,kq 3]),
tq 36 (.mkList 1 3 [.t 19,.t 29,.t 35]),
tq 37 (cl za3 [.t 36]),
mq 6 37] [0,10,11,12,13,14,15,16,17,18,19,20,21,22,23,24,25,26,27,28,29,30,31,32,33,34,35,36,37])
(sr [
mq 38 6,
tq 39 (.bin .neq (.t 38) (kq 0))] [38]
(.cond (.t 39) (sr [
mq 40 6,
mq 4 40] [6,40]
.ret)
 .skip)))
(.seq (.reg true [
tq 41 (.call false false (.k (.fn zfz [] [])) []),
fa 42 1 3,
ld 43 42,
tq 44 (.lookup .str (.agg [.int .i64 0,.int .i64 0,.nilf,.nilf]) false (.t 41) (.t 43)),
tq 45 (.field 2 none (.t 44)),
mq 46 5,
lq 47 5 3,
tq 48 (.callQ (.t 45) [.t 46,.t 47]),
mq 4 48] [3,5,41,42,43,44,45,46,47,48])
.ret))))⟩
def ztt:CF:=⟨[],
  (sr [
tq 3 (.box zad (.t 1))] [1]
(.seq (.reg true [
fa 4 2 3,
ld 5 4,
tq 6 (cl zdw [.t 5]),
fa 7 3 3,
ld 8 7,
tq 9 (cl zgz [.t 8]),
fa 10 2 3,
⟨none,none,.store 1 (.t 10) (.t 6)⟩,
fa 11 3 3,
⟨none,none,.store 1 (.t 11) (.t 9)⟩] [4,5,6,7,8,9,10,11])
(.seq (.reg true [
mq 12 0,
mq 13 0,
tq 14 (.nilCheck (.t 13)),
fa 15 0 14,
ld 16 15,
lq 17 5 3,
tq 18 (.mkList 5 1 [.t 17]),
tq 19 (.append ⟨false,zad,5,88⟩ (.t 16) (.t 18)),
tq 20 (.nilCheck (.t 12)),
fa 21 0 20,
⟨none,none,.store 1 (.t 21) (.t 19)⟩] [12,13,14,15,16,17,18,19,20,21])
(sr [
mq 22 0,
fa 23 3 3,
ld 24 23,
tq 25 (.idxAddr 1 (.t 24) (kq 0)),
ld 26 25,
tq 27 (.nilCheck (.t 22)),
fa 28 1 27,
fa 29 0 28,
⟨none,none,.store 1 (.t 29) (.t 26)⟩] [22,23,24,25,26,27,28,29]
(.reg true [
tq 30 (.call false false (.k (.fn zfz [] [])) []),
fa 31 1 3,
ld 32 31,
tq 33 (.lookup .str (.agg [.int .i64 0,.int .i64 0,.nilf,.nilf]) false (.t 30) (.t 32)),
tq 34 (.field 3 none (.t 33)),
mq 35 0,
tq 36 (.nilCheck (.t 35)),
fa 37 1 36,
lq 38 5 3,
tq 39 (.call true true (.t 34) [.t 37,.t 38])] [0,3,30,31,32,33,34,35,36,37,38,39])))))⟩
def zw8:C:=
  (sr [
tq 17 (.bin .lss (.t 16) (.t 15))] []
(.seq (.cond (.t 17) .skip
 (.exit 0))
(.seq (.block 1 (sr [
mq 18 16,
tq 19 (.idxAddr 5 (.t 14) (.t 16)),
lq 20 5 19,
tq 7 (.alloc zad [.z (.int .i64 0),.z (.str []),.z (.list 0 []),.z (.list 0 []),.z (.str [])]),
mq 6 18,
⟨none,none,.store 5 (.t 7) (.t 20)⟩] [18,19,20]
(sr [
lq 21 5 7,
tq 22 (cl zet [.t 21]),
mq 8 22] [21,22]
(.seq (sr [
mq 23 8,
tq 24 (.bin .eql (.t 23) (kq 0))] [23]
(.cond (.t 24) (rg [
mq 25 5,
lq 26 5 7,
tq 27 (.callQ (.k (.fn zam [] [])) [.t 25,.t 26]),
mq 8 27] [25,26,27])
 .skip))
(.seq (sr [
mq 28 8,
tq 29 (.bin .neq (.t 28) (kq 0))] [28]
(.cond (.t 29) (sr [
mq 30 6,
tq 31 (.bin .add (.t 30) (kq 1)),
mq 32 8,
tq 2 (.mv (.k (.d (.nilp)))),
mq 3 31,
mq 4 32] [6,8,30,31,32]
.ret)
 .skip))
(rg [
mq 33 5,
lq 34 5 7,
tq 35 (.call true true (.k (.fn zan [] [])) [.t 33,.t 34])] [7,33,34,35]))))))
(rg [
tq 36 (.bin .add (.t 16) (kq 1)),
mq 16 36] [36]))))
def z0r:CF:=⟨[.tmp 2,.tmp 3,.tmp 4],
  (sr [
tq 2 (.mv (.k (.d (.nilp)))),
tq 3 (.mv (kq 0)),
tq 4 (.mv (kq 0))] [2,3,4]
(.seq (sr [
mq 9 0,
tq 10 (.len .slc (.t 9)),
tq 11 (.bin .gtr (.t 10) (kq 1000))] [9,10]
(.cond (.t 11) (sr [
tq 2 (.mv (.k (.d (.nilp)))),
tq 3 (.mv (kq 0)),
tq 4 (.mv (kq 5))] []
.ret)
 .skip))
(sr [
tq 12 (.build [.own ⟨false,zad,5,88⟩,.z (.int .i64 0),.own ⟨false,zac,8,96⟩,.own ⟨false,zbl,2,24⟩,.own ⟨true,zai,5,48⟩] []),
tq 13 (.box zci (.t 12)),
mq 5 13] [12,13]
(.seq (sr [
mq 14 0,
tq 15 (.len .slc (.t 14)),
tq 16 (.mv (kq 0))] [0]
(.block 0 (.loop [5,14,15,16] zw8)))
(sr [
mq 37 5,
mq 2 37,
tq 3 (.mv (kq 0)),
tq 4 (.mv (kq 0))] [5,37]
.ret)))))⟩
def z7g:CF:=⟨[.tmp 2],
  (sr [
tq 2 (.mv (.k (.d (.str []))))] [2]
(.seq (sr [
mq 3 0,
tq 4 (.bin .lss (.t 3) (kq 10))] [3]
(.cond (.t 4) (sr [
mq 5 0,
tq 6 (cl zq5 [.t 5]),
mq 2 6] [0,5,6]
.ret)
 .skip))
(sr [
mq 7 0,
tq 8 (.bin .quo (.t 7) (kq 10)),
tq 9 (cl zsu [.t 8]),
mq 10 0,
tq 11 (.bin .rem (.t 10) (kq 10)),
tq 12 (cl zq5 [.t 11]),
tq 13 (.bin .add (.t 9) (.t 12)),
mq 2 13] [0,7,8,9,10,11,12,13]
.ret)))⟩
def zv6:CF:=⟨[.tmp 6],
  (sr [
tq 6 (.mv (kq 0))] [6]
(.seq (sr [
mq 7 0,
mq 8 1,
tq 9 (.bin .lss (.t 7) (.t 8)),
mq 10 9,
gq 11 10 false (.mv (.t 0)),
gq 12 10 false (.mv (.t 2)),
gq 13 10 false (.bin .gtr (.t 11) (.t 12)),
tq 14 (.pick (.t 10) (.k (.d (.bool true))) (.t 13))] [0,1,2,7,8,9,10,11,12,13]
(.cond (.t 14) (sr [
tq 6 (.mv (kq 3))] []
.ret)
 .skip))
(sr [
tq 6 (.mv (kq 0))] []
.ret)))⟩
def zw9:C:=
  (.seq (sr [
mq 6 5,
mq 7 0,
tq 8 (.len .slc (.t 7)),
tq 9 (.bin .lss (.t 6) (.t 8))] [6,7,8]
(.cond (.t 9) .skip
 (.exit 0)))
(.seq (.block 1 (sr [
mq 12 0,
mq 13 5,
tq 14 (.idxAddr 1 (.t 12) (.t 13)),
ld 15 14,
mq 16 1,
tq 17 (.bin .eql (.t 15) (.t 16))] [12,13,14,15,16]
(.cond (.t 17) (sr [
tq 4 (.mv (.k (.d (.bool true))))] []
.ret)
 .skip)))
(rg [
mq 10 5,
tq 11 (.bin .add (.t 10) (kq 1)),
mq 5 11] [10,11])))
def z0t:CF:=⟨[.tmp 4],
  (sr [
tq 4 (.mv (.k (.d (.bool false))))] [4]
(.seq (sr [
tq 5 (.mv (kq 0))] []
(.block 0 (.loop [0,1,5] zw9)))
(sr [
tq 4 (.mv (.k (.d (.bool false))))] []
.ret)))⟩
def z97:CF:=⟨[.tmp 4],
  (sr [
tq 2 (.box za8 (.t 0)),
tq 4 (.mv (.k (.d (.bool false))))] [0,4]
(.seq (.reg true [
mq 5 1,
fa 6 0 2,
ld 7 6,
tq 8 (.bin .geq (.t 5) (.t 7)),
mq 9 8,
gq 10 9 true (.mv (.t 1)),
gq 11 9 true (.fieldAddr 1 (.t 2)),
gq 12 9 true (.load none (.t 11)),
gq 13 9 true (.bin .leq (.t 10) (.t 12)),
tq 14 (.pick (.t 9) (.t 13) (.k (.d (.bool false)))),
mq 15 14,
gq 16 15 true (.fieldAddr 2 (.t 2)),
gq 17 15 true (.load none (.t 16)),
gq 18 15 true (.mv (.t 1)),
gq 19 15 true (cl zn1 [.t 18]),
gq 20 15 true (cl zpm [.t 17,.t 19]),
tq 21 (.pick (.t 15) (.t 20) (.k (.d (.bool false)))),
mq 4 21] [1,2,5,6,7,8,9,10,11,12,13,14,15,16,17,18,19,20,21])
.ret))⟩
def z2o:CF:=⟨[.tmp 4,.tmp 5],
  (sr [
tq 4 (.mv (.k (.d (.nilp)))),
tq 5 (.mv (kq 0))] [4,5]
(sr [
mq 10 0,
tq 11 (.call false false (.k (.fn zgi [] [])) [.t 10]),
mq 9 11,
xq 12 9 0,
xq 13 9 1,
xq 14 9 2,
mq 6 12,
mq 7 13,
mq 8 14] [0,7,9,10,11,12,13,14]
(.seq (sr [
mq 15 8,
mq 16 1,
tq 17 (cl za3 [.t 16]),
tq 18 (.mkList 1 2 [.t 15,.t 17]),
tq 19 (cl za3 [.t 18]),
mq 8 19] [1,15,16,17,18,19]
(sr [
mq 20 8,
tq 21 (.bin .neq (.t 20) (kq 0))] [20]
(.cond (.t 21) (sr [
mq 22 8,
tq 4 (.mv (.k (.d (.nilp)))),
mq 5 22] [8,22]
.ret)
 .skip)))
(sr [
mq 23 6,
tq 24 (.nilCheck (.t 23)),
fa 25 1 24,
mq 4 25,
tq 5 (.mv (kq 0))] [6,23,24,25]
.ret))))⟩
def zxt:CF:=⟨[.tmp 2],
  (sr [
tq 2 (.mv (kq 0))] [2]
(sr [
mq 3 0,
tq 4 (cl zh8 [.t 3,kq 0,kq 99999]),
mq 2 4] [0,3,4]
.ret))⟩
def zo7:C:=
  (sr [
tq 21 (.bin .lss (.t 20) (.t 19))] []
(.seq (.cond (.t 21) .skip
 (.exit 0))
(.seq (.block 1 (sr [
tq 22 (.idxAddr 8 (.t 18) (.t 20)),
lq 23 8 22,
tq 9 (.alloc zac [.z (.str []),.z (.str []),.z (.str []),.z (.str []),.z (.int .i64 0),.z (.int .i64 0),.z (.int .i64 0),.z (.int .i64 0)]),
⟨none,none,.store 8 (.t 9) (.t 23)⟩] [22,23]
(rg [
mq 24 7,
fa 25 2 9,
ld 26 25,
⟨none,none,.mapSet .str (.t 24) (.t 26) (.k (.d (.bool true)))⟩] [9,24,25,26])))
(rg [
tq 27 (.bin .add (.t 20) (kq 1)),
mq 20 27] [27]))))
def zo8:C:=
  (sr [
tq 33 (.bin .lss (.t 32) (.t 31))] []
(.seq (.cond (.t 33) .skip
 (.exit 2))
(.seq (.block 3 (sr [
tq 34 (.idxAddr 1 (.t 30) (.t 32)),
ld 35 34,
mq 12 35] [34,35]
(sr [
mq 36 12,
mq 37 0,
mq 38 12,
mq 39 1,
mq 40 2,
tq 41 (.callQ (.k (.fn zbg [] [])) [.t 37,.t 38,.t 39,.t 40]),
tq 42 (.build [.z (.str []),.z (.int .i64 0)] [(0,1,.t 36),(1,1,.t 41)]),
tq 13 (.alloc zb4 [.z (.str []),.z (.int .i64 0)]),
⟨none,none,.store 2 (.t 13) (.t 42)⟩] [36,37,38,39,40,41,42]
(sr [
lq 43 2 13,
mq 44 12,
tq 45 (.build [.z (.str []),.z (.int .i64 0)] [(0,1,.t 44),(1,1,kq 1440)]),
tq 46 (.eqv (some [.str,.int]) true (.t 43) (.t 45))] [12,43,44,45]
(.cond (.t 46) (rg [
mq 47 10,
lq 48 2 13,
tq 49 (.mkList 2 1 [.t 48]),
tq 50 (.append ⟨false,zb4,2,24⟩ (.t 47) (.t 49)),
mq 10 50] [13,47,48,49,50])
 .skip)))))
(rg [
tq 51 (.bin .add (.t 32) (kq 1)),
mq 32 51] [51]))))
def zqv:CF:=⟨[.tmp 6],
  (sr [
tq 6 (.ownNil ⟨false,zb4,2,24⟩)] [6]
(sr [
tq 14 (.mkMap),
mq 7 14] [14]
(.seq (sr [
mq 15 0,
tq 16 (.nilCheck (.t 15)),
fa 17 1 16,
ld 18 17,
tq 19 (.len .slc (.t 18)),
tq 20 (.mv (kq 0))] [15,16,17]
(.block 0 (.loop [0,1,2,7,18,19,20] zo7)))
(sr [
tq 10 (.ownNil ⟨false,zb4,2,24⟩)] []
(.seq (sr [
mq 28 7,
tq 29 (.call true false (.k (.fn zbm [] [])) [.t 28]),
tq 30 (.call true true (.k (.fn zey [] [])) [.t 29]),
tq 31 (.len .slc (.t 30)),
tq 32 (.mv (kq 0))] [7,28,29]
(.block 2 (.loop [0,1,2,10,30,31,32] zo8)))
(sr [
mq 52 10,
mq 6 52] [10,52]
.ret))))))⟩
def z2r:CF:=⟨[.tmp 2],
  (sr [
tq 2 (.mv (kq 0))] [2]
(sr [
mq 3 0,
tq 4 (cl zc0 [.t 3]),
tq 5 (.un .not (.t 4)),
tq 6 (cl zal [.t 5,kq 8]),
mq 2 6] [0,3,4,5,6]
.ret))⟩
def zin:C:=
  (rg [
tq 10 (.alloc zac [.z (.str []),.z (.str []),.z (.str []),.z (.str []),.z (.int .i64 0),.z (.int .i64 0),.z (.int .i64 0),.z (.int .i64 0)]),
⟨none,none,.store 8 (.t 10) (.t 17)⟩] [17])
def zio:C:=
  (.block 1 (sr [
fa 18 2 10,
ld 19 18,
ld 20 5,
tq 21 (.bin .eql (.t 19) (.t 20)),
mq 22 21,
gq 23 22 true (.fieldAddr 5 (.t 10)),
gq 24 22 true (.load none (.t 23)),
gq 25 22 true (.load none (.t 7)),
gq 26 22 true (.bin .leq (.t 24) (.t 25)),
tq 27 (.pick (.t 22) (.t 26) (.k (.d (.bool false)))),
mq 28 27,
gq 29 28 true (.load none (.t 7)),
gq 30 28 true (.fieldAddr 6 (.t 10)),
gq 31 28 true (.load none (.t 30)),
gq 32 28 true (.bin .leq (.t 29) (.t 31)),
tq 33 (.pick (.t 28) (.t 32) (.k (.d (.bool false)))),
mq 34 33,
gq 35 34 true (.load none (.t 4)),
gq 36 34 true (.load (some 8) (.t 10)),
gq 37 34 true (.load none (.t 6)),
gq 38 34 true (.callQ (.k (.fn zbv [] [])) [.t 35,.t 36,.t 37]),
tq 39 (.pick (.t 34) (.t 38) (.k (.d (.bool false))))] [4,5,6,7,18,19,20,21,22,23,24,25,26,27,28,29,30,31,32,33,34,35,36,37,38]
(.cond (.t 39) (sr [
fa 40 7 10,
ld 41 40,
⟨none,none,.store 1 (.t 8) (.t 41)⟩] [10,40,41]
.ret)
 .skip)))
def zpz:CF:=⟨[.cell 8 none],
  (sr [
tq 4 (.box zbs (.t 0)),
tq 5 (.box zab (.t 1)),
tq 6 (.box za6 (.t 2)),
tq 7 (.box za6 (.t 3)),
tq 8 (.alloc za6 [.z (.int .i64 0)])] [0,1,2,3]
(.seq (sr [
ld 11 4,
tq 12 (.nilCheck (.t 11)),
fa 13 1 12,
ld 14 13,
tq 15 (.call false false (.k (.fn zau [] [])) [.t 14])] [11,12,13,14]
(.block 0 (.rangeFn 43 (.t 15) [16,17] zin zio)))
(sr [
⟨none,none,.store 1 (.t 8) (kq 1440)⟩] []
.ret)))⟩
def zrv:CF:=⟨[.tmp 2],
  (sr [
tq 1 (.box za8 (.t 0)),
tq 2 (.mv (kq 0))] [0,2]
(.seq (.seq (.reg true [
fa 4 0 1,
ld 5 4,
tq 6 (cl zer [.t 5]),
fa 7 1 1,
ld 8 7,
tq 9 (cl zer [.t 8]),
tq 10 (.mkList 1 2 [.t 6,.t 9]),
tq 11 (cl zdv [.t 10]),
mq 3 11] [4,5,6,7,8,9,10,11])
(sr [
mq 12 3,
tq 13 (.bin .neq (.t 12) (kq 0))] [12]
(.cond (.t 13) (sr [
mq 14 3,
mq 2 14] [3,14]
.ret)
 .skip)))
(.seq (.reg true [
fa 15 1 1,
ld 16 15,
fa 17 0 1,
ld 18 17,
tq 19 (.bin .lss (.t 16) (.t 18)),
tq 20 (cl zh6 [.t 19,kq 11]),
fa 21 1 1,
ld 22 21,
fa 23 0 1,
ld 24 23,
tq 25 (.bin .sub (.t 22) (.t 24)),
tq 26 (.bin .gtr (.t 25) (kq 400)),
tq 27 (cl zh6 [.t 26,kq 4]),
fa 28 2 1,
ld 29 28,
tq 30 (cl zij [.t 29,kq 1,kq 127]),
tq 31 (.mkList 1 3 [.t 20,.t 27,.t 30]),
tq 32 (cl zdv [.t 31]),
mq 2 32] [1,15,16,17,18,19,20,21,22,23,24,25,26,27,28,29,30,31,32])
.ret)))⟩
def zxi:CF:=⟨[.tmp 2,.tmp 3],
  (sr [
tq 1 (.box za8 (.t 0)),
tq 2 (.mv (.k (.d (.list 0 [])))),
tq 3 (.mv (kq 0))] [0,2,3]
(.seq (sr [
lq 5 3 1,
tq 6 (cl zb5 [.t 5]),
mq 4 6] [5,6]
(sr [
mq 7 4,
tq 8 (.bin .neq (.t 7) (kq 0))] [7]
(.cond (.t 8) (sr [
mq 9 4,
tq 2 (.mv (.k (.d (.list 0 [])))),
mq 3 9] [4,9]
.ret)
 .skip)))
(sr [
lq 10 3 1,
tq 11 (.call false false (.k (.fn zk4 [] [])) [.t 10]),
tq 12 (.call true true (.k (.fn zgh [] [])) [.t 11,.k (.fn zgy [] [])]),
mq 2 12,
tq 3 (.mv (kq 0))] [1,10,11,12]
.ret)))⟩
def zuk:C:=
  (sr [
tq 11 (.bin .lss (.t 10) (.t 9))] []
(.seq (.cond (.t 11) .skip
 (.exit 0))
(.seq (.block 1 (sr [
tq 12 (.idxAddr 1 (.t 8) (.t 10)),
ld 13 12,
mq 7 13] [12,13]
(sr [
mq 14 1,
mq 15 7,
tq 16 (.call true true (.t 14) [.t 15])] [14,15]
(.cond (.t 16) (rg [
mq 17 5,
mq 18 7,
tq 19 (.mkList 1 1 [.t 18]),
tq 20 (.append ⟨false,za6,1,8⟩ (.t 17) (.t 19)),
mq 5 20] [7,17,18,19,20])
 .skip))))
(rg [
tq 21 (.bin .add (.t 10) (kq 1)),
mq 10 21] [21]))))
def zxu:CF:=⟨[.tmp 4],
  (sr [
tq 4 (.ownNil ⟨false,za6,1,8⟩)] [4]
(sr [
tq 5 (.ownNil ⟨false,za6,1,8⟩)] []
(.seq (sr [
mq 8 0,
tq 9 (.len .slc (.t 8)),
tq 10 (.mv (kq 0))] [0]
(.block 0 (.loop [1,5,8,9,10] zuk)))
(sr [
mq 22 5,
mq 4 22] [5,22]
.ret))))⟩
def zry:CF:=⟨[.tmp 6],
  (sr [
tq 6 (.mv (.k (.d (.bool false))))] [6]
(.seq (.reg true [
ld 7 1,
ld 8 2,
ld 9 3,
mq 10 0,
tq 11 (.callQ (.k (.fn zbg [] [])) [.t 7,.t 8,.t 9,.t 10]),
ld 12 1,
ld 13 2,
ld 14 4,
mq 15 0,
tq 16 (.callQ (.k (.fn zbg [] [])) [.t 12,.t 13,.t 14,.t 15]),
tq 17 (.bin .neq (.t 11) (.t 16)),
mq 6 17] [0,1,2,3,4,7,8,9,10,11,12,13,14,15,16,17])
.ret))⟩
def zvq:C:=
  (sr [
tq 8 (.bin .lss (.t 7) (.t 6))] []
(.seq (.cond (.t 8) .skip
 (.exit 0))
(.seq (.block 1 (sr [
tq 9 (.idxAddr 1 (.t 5) (.t 7)),
ld 10 9,
mq 4 10] [9,10]
(sr [
mq 11 4,
tq 12 (.bin .neq (.t 11) (kq 0))] [11]
(.cond (.t 12) (sr [
mq 13 4,
mq 2 13] [4,13]
.ret)
 .skip))))
(rg [
tq 14 (.bin .add (.t 7) (kq 1)),
mq 7 14] [14]))))
def zy3:CF:=⟨[.tmp 2],
  (sr [
tq 2 (.mv (kq 0))] [2]
(.seq (sr [
mq 5 0,
tq 6 (.len .slc (.t 5)),
tq 7 (.mv (kq 0))] [0]
(.block 0 (.loop [5,6,7] zvq)))
(sr [
tq 2 (.mv (kq 0))] []
.ret)))⟩
def zpv:C:=
  (sr [
tq 12 (.bin .lss (.t 11) (.t 10))] []
(.seq (.cond (.t 12) .skip
 (.exit 0))
(.seq (.block 1 (sr [
mq 13 11,
tq 14 (.idxAddr 11 (.t 9) (.t 11)),
lq 15 11 14,
tq 4 (.alloc zch [.z (.str []),.z (.str []),.z (.str []),.z (.int .i64 0),.z (.int .i64 0),.z (.int .i64 0),.z (.int .i64 0),.z (.int .i64 0),.z (.int .i64 0),.z (.int .i64 0),.z (.int .i64 0)]),
mq 3 13,
⟨none,none,.store 11 (.t 4) (.t 15)⟩] [13,14,15]
(.seq (.reg true [
lq 16 11 4,
tq 17 (cl zhi [.t 16]),
mq 18 0,
mq 19 3,
tq 20 (.slice 11 (.t 18) none (some (.t 19)) none),
fa 21 0 4,
ld 22 21,
tq 23 (cl zrm [.t 20,.t 22]),
tq 24 (.bin .geq (.t 23) (kq 0)),
tq 25 (cl zc5 [.t 24,kq 9]),
tq 26 (.mkList 1 2 [.t 17,.t 25]),
tq 27 (cl zfa [.t 26]),
mq 5 27] [3,4,16,17,18,19,20,21,22,23,24,25,26,27])
(sr [
mq 28 5,
tq 29 (.bin .neq (.t 28) (kq 0))] [28]
(.cond (.t 29) (sr [
mq 30 5,
mq 2 30] [5,30]
.ret)
 .skip)))))
(rg [
tq 31 (.bin .add (.t 11) (kq 1)),
mq 11 31] [31]))))
def zrw:CF:=⟨[.tmp 2],
  (sr [
tq 2 (.mv (kq 0))] [2]
(.seq (sr [
mq 6 0,
tq 7 (.len .slc (.t 6)),
tq 8 (.bin .gtr (.t 7) (kq 32))] [6,7]
(.cond (.t 8) (sr [
tq 2 (.mv (kq 5))] []
.ret)
 .skip))
(.seq (sr [
mq 9 0,
tq 10 (.len .slc (.t 9)),
tq 11 (.mv (kq 0))] []
(.block 0 (.loop [0,9,10,11] zpv)))
(sr [
tq 2 (.mv (kq 0))] []
.ret))))⟩
def zpt:C:=
  (sr [
tq 16 (.bin .lss (.t 15) (.t 14))] []
(.seq (.cond (.t 16) .skip
 (.exit 0))
(.seq (.block 1 (sr [
mq 17 15,
tq 18 (.idxAddr 18 (.t 13) (.t 15)),
lq 19 18 18,
tq 4 (.alloc zbk [.z (.str []),.z (.str []),.z (.str []),.z (.str []),.z (.str []),.z (.str []),.z (.int .i64 0),.z (.int .i64 0),.z (.int .i64 0),.z (.int .i64 0),.z (.int .i64 0),.z (.int .i64 0),.z (.int .i64 0),.z (.int .i64 0),.z (.int .i64 0),.z (.int .i64 0),.z (.int .i64 0),.z (.int .i64 0)]),
mq 3 17,
⟨none,none,.store 18 (.t 4) (.t 19)⟩] [17,18,19]
(.seq (.reg true [
lq 20 18 4,
tq 21 (cl zlp [.t 20]),
mq 22 0,
mq 23 3,
tq 24 (.slice 18 (.t 22) none (some (.t 23)) none),
fa 25 0 4,
fa 26 0 25,
ld 27 26,
tq 28 (cl zl6 [.t 24,.t 27]),
tq 29 (.bin .geq (.t 28) (kq 0)),
tq 30 (cl zeq [.t 29,kq 9]),
tq 31 (.mkList 1 2 [.t 21,.t 30]),
tq 32 (cl zg9 [.t 31]),
mq 5 32] [3,4,20,21,22,23,24,25,26,27,28,29,30,31,32])
(sr [
mq 33 5,
tq 34 (.bin .neq (.t 33) (kq 0))] [33]
(.cond (.t 34) (sr [
mq 35 5,
mq 2 35] [5,35]
.ret)
 .skip)))))
(rg [
tq 36 (.bin .add (.t 15) (kq 1)),
mq 15 36] [36]))))
def zpu:C:=
  (sr [
tq 40 (.bin .lss (.t 39) (.t 38))] []
(.seq (.cond (.t 40) .skip
 (.exit 2))
(.seq (.block 3 (sr [
mq 41 39,
tq 42 (.idxAddr 18 (.t 37) (.t 39)),
lq 43 18 42,
tq 7 (.alloc zbk [.z (.str []),.z (.str []),.z (.str []),.z (.str []),.z (.str []),.z (.str []),.z (.int .i64 0),.z (.int .i64 0),.z (.int .i64 0),.z (.int .i64 0),.z (.int .i64 0),.z (.int .i64 0),.z (.int .i64 0),.z (.int .i64 0),.z (.int .i64 0),.z (.int .i64 0),.z (.int .i64 0),.z (.int .i64 0)]),
mq 6 41,
⟨none,none,.store 18 (.t 7) (.t 43)⟩] [41,42,43]
(.seq (sr [
fa 44 0 7,
fa 45 5 44,
ld 46 45,
tq 47 (.bin .eql (.t 46) (.k (.d (.str []))))] [44,45,46]
(.cond (.t 47) (.exit 3)
 .skip))
(sr [
mq 48 0,
fa 49 0 7,
fa 50 5 49,
ld 51 50,
tq 52 (cl zl6 [.t 48,.t 51]),
mq 8 52] [48,49,50,51,52]
(.seq (sr [
mq 53 8,
tq 54 (.bin .lss (.t 53) (kq 0))] [53]
(.cond (.t 54) (sr [
tq 2 (.mv (kq 10))] []
.ret)
 .skip))
(sr [
mq 55 0,
mq 56 8,
tq 57 (.idxAddr 18 (.t 55) (.t 56)),
fa 58 0 57,
lq 59 13 58,
tq 9 (.alloc zea [.z (.str []),.z (.str []),.z (.str []),.z (.str []),.z (.str []),.z (.str []),.z (.int .i64 0),.z (.int .i64 0),.z (.int .i64 0),.z (.int .i64 0),.z (.int .i64 0),.z (.int .i64 0),.z (.int .i64 0)]),
⟨none,none,.store 13 (.t 9) (.t 59)⟩] [55,56,57,58,59]
(sr [
mq 60 8,
mq 61 6,
tq 62 (.bin .eql (.t 60) (.t 61)),
mq 63 62,
gq 64 63 false (.fieldAddr 5 (.t 9)),
gq 65 63 false (.load none (.t 64)),
gq 66 63 false (.fieldAddr 0 (.t 7)),
gq 67 63 false (.fieldAddr 0 (.t 66)),
gq 68 63 false (.load none (.t 67)),
gq 69 63 false (.bin .neq (.t 65) (.t 68)),
tq 70 (.pick (.t 63) (.k (.d (.bool true))) (.t 69)),
mq 71 70,
gq 72 71 false (.fieldAddr 2 (.t 9)),
gq 73 71 false (.load none (.t 72)),
gq 74 71 false (.fieldAddr 0 (.t 7)),
gq 75 71 false (.fieldAddr 2 (.t 74)),
gq 76 71 false (.load none (.t 75)),
gq 77 71 false (.bin .eql (.t 73) (.t 76)),
tq 78 (.pick (.t 71) (.k (.d (.bool true))) (.t 77)),
mq 79 78,
gq 80 79 false (.fieldAddr 6 (.t 9)),
gq 81 79 false (.load (some 3) (.t 80)),
gq 82 79 false (.fieldAddr 0 (.t 7)),
gq 83 79 false (.fieldAddr 6 (.t 82)),
gq 84 79 false (.load (some 3) (.t 83)),
gq 85 79 false (.eqv (some [.int,.int,.int]) true (.t 81) (.t 84)),
tq 86 (.pick (.t 79) (.k (.d (.bool true))) (.t 85))] [6,7,8,9,60,61,62,63,64,65,66,67,68,69,70,71,72,73,74,75,76,77,78,79,80,81,82,83,84,85]
(.cond (.t 86) (sr [
tq 2 (.mv (kq 32))] []
.ret)
 .skip))))))))
(rg [
tq 87 (.bin .add (.t 39) (kq 1)),
mq 39 87] [87]))))
def zru:CF:=⟨[.tmp 2],
  (sr [
tq 2 (.mv (kq 0))] [2]
(.seq (sr [
mq 10 0,
tq 11 (.len .slc (.t 10)),
tq 12 (.bin .gtr (.t 11) (kq 64))] [10,11]
(.cond (.t 12) (sr [
tq 2 (.mv (kq 5))] []
.ret)
 .skip))
(.seq (sr [
mq 13 0,
tq 14 (.len .slc (.t 13)),
tq 15 (.mv (kq 0))] []
(.block 0 (.loop [0,13,14,15] zpt)))
(.seq (sr [
mq 37 0,
tq 38 (.len .slc (.t 37)),
tq 39 (.mv (kq 0))] []
(.block 2 (.loop [0,37,38,39] zpu)))
(sr [
tq 2 (.mv (kq 0))] []
.ret)))))⟩
def zvz:CF:=⟨[.tmp 2],
  (sr [
tq 2 (.ownNil ⟨true,zcp,3,32⟩)] [2]
(sr [
mq 3 0,
tq 4 (.call true false (.k (.fn zct [] [])) [.t 3,.k (.fn zmd [] [])]),
mq 2 4] [0,3,4]
.ret))⟩
def zuo:CF:=⟨[.tmp 2],
  (sr [
tq 2 (.mv (.k (.d (.nilp))))] [2]
(sr [
mq 3 0,
tq 4 (.mkMap),
tq 5 (.mkMap),
tq 6 (.build [.z (.list 0 []),.z (.nilm),.z (.nilm)] [(0,1,.t 3),(1,1,.t 4),(2,1,.t 5)]),
tq 7 (.box zyh (.t 6)),
mq 2 7] [0,3,4,5,6,7]
.ret))⟩
def zna:C:=
  (sr [
tq 17 (.bin .lss (.t 16) (.t 15))] []
(.seq (.cond (.t 17) .skip
 (.exit 0))
(.seq (.block 1 (sr [
tq 18 (.idxAddr 7 (.t 14) (.t 16)),
lq 19 7 18,
tq 6 (.alloc zbx [.z (.int .i64 0),.z (.str []),.z (.str []),.z (.int .i64 0),.z (.int .i64 0),.z (.int .i64 0),.z (.str [])]),
⟨none,none,.store 7 (.t 6) (.t 19)⟩] [18,19]
(rg [
mq 20 0,
lq 21 7 6,
tq 22 (.call true true (.k (.fn zf8 [] [])) [.t 20,.t 21,kq 1])] [6,20,21,22])))
(rg [
tq 23 (.bin .add (.t 16) (kq 1)),
mq 16 23] [23]))))
def znb:C:=
  (sr [
tq 35 (.bin .lss (.t 34) (.t 33))] []
(.seq (.cond (.t 35) .skip
 (.exit 4))
(.seq (.block 5 (sr [
tq 36 (.idxAddr 2 (.t 32) (.t 34)),
lq 37 2 36,
tq 11 (.alloc zbc [.z (.int .i64 0),.z (.int .i64 0)]),
⟨none,none,.store 2 (.t 11) (.t 37)⟩] [36,37]
(.seq (.reg true [
mq 38 0,
tq 39 (.nilCheck (.t 38)),
fa 40 1 39,
ld 41 40,
lq 42 2 11,
tq 43 (.lookup (.rc [false,false]) (.int .i64 0) false (.t 41) (.t 42)),
mq 44 0,
tq 45 (.nilCheck (.t 44)),
fa 46 0 45,
ld 47 46,
fa 48 0 11,
ld 49 48,
tq 50 (.idxAddr 11 (.t 47) (.t 49)),
fa 51 10 50,
ld 52 51,
tq 53 (.bin .gtr (.t 43) (.t 52))] [38,39,40,41,42,43,44,45,46,47,48,49,50,51,52])
(.cond (.t 53) (rg [
mq 54 7,
lq 55 2 11,
tq 56 (.mkList 2 1 [.t 55]),
tq 57 (.append ⟨true,zbc,2,16⟩ (.t 54) (.t 56)),
mq 7 57] [11,54,55,56,57])
 .skip))))
(rg [
tq 58 (.bin .add (.t 34) (kq 1)),
mq 34 58] [58]))))
def znc:C:=
  (sr [
tq 27 (.bin .lss (.t 26) (.t 25))] []
(.seq (.cond (.t 27) .skip
 (.exit 2))
(.seq (.block 3 (sr [
tq 28 (.idxAddr 7 (.t 24) (.t 26)),
lq 29 7 28,
tq 9 (.alloc zbx [.z (.int .i64 0),.z (.str []),.z (.str []),.z (.int .i64 0),.z (.int .i64 0),.z (.int .i64 0),.z (.str [])]),
⟨none,none,.store 7 (.t 9) (.t 29)⟩] [28,29]
(sr [
mq 30 0,
lq 31 7 9,
tq 32 (.call true true (.k (.fn zgw [] [])) [.t 30,.t 31]),
tq 33 (.len .slc (.t 32)),
tq 34 (.mv (kq 0))] [9,30,31]
(.block 4 (.loop [0,1,7,24,25,26,32,33,34] znb)))))
(rg [
tq 59 (.bin .add (.t 26) (kq 1)),
mq 26 59] [59]))))
def znd:C:=
  (sr [
tq 63 (.bin .lss (.t 62) (.t 61))] []
(.seq (.cond (.t 63) .skip
 (.exit 6))
(.seq (.block 7 (sr [
tq 64 (.idxAddr 7 (.t 60) (.t 62)),
lq 65 7 64,
tq 13 (.alloc zbx [.z (.int .i64 0),.z (.str []),.z (.str []),.z (.int .i64 0),.z (.int .i64 0),.z (.int .i64 0),.z (.str [])]),
⟨none,none,.store 7 (.t 13) (.t 65)⟩] [64,65]
(rg [
mq 66 0,
lq 67 7 13,
tq 68 (.call true true (.k (.fn zf8 [] [])) [.t 66,.t 67,kq (-1)])] [13,66,67,68])))
(rg [
tq 69 (.bin .add (.t 62) (kq 1)),
mq 62 69] [69]))))
def zo9:CF:=⟨[.tmp 4],
  (sr [
tq 4 (.ownNil ⟨true,zbc,2,16⟩)] [4]
(.seq (sr [
mq 14 1,
tq 15 (.len .slc (.t 14)),
tq 16 (.mv (kq 0))] []
(.block 0 (.loop [0,1,14,15,16] zna)))
(sr [
tq 7 (.ownNil ⟨true,zbc,2,16⟩)] []
(.seq (sr [
mq 24 1,
tq 25 (.len .slc (.t 24)),
tq 26 (.mv (kq 0))] []
(.block 2 (.loop [0,1,7,24,25,26] znc)))
(.seq (sr [
mq 60 1,
tq 61 (.len .slc (.t 60)),
tq 62 (.mv (kq 0))] [1]
(.block 6 (.loop [0,7,60,61,62] znd)))
(sr [
mq 70 7,
tq 71 (.call true true (.k (.fn zce [] [])) [.t 70,.k (.fn zh5 [] [])])] [70,71]
(sr [
mq 72 7,
tq 73 (.call true false (.k (.fn zck [] [])) [.t 72]),
mq 4 73] [7,72,73]
.ret)))))))⟩
def zy5:CF:=⟨[.tmp 2],
  (sr [
tq 2 (.mv (.k (.d (.nilf))))] [2]
(sr [
mq 4 0,
tq 5 (cl zp7 [.t 4]),
tq 3 (.alloc z64 [.z (.list 0 [])]),
⟨none,none,.store 1 (.t 3) (.t 5)⟩] [0,4,5]
(sr [
tq 6 (.mkFunc zop [] [.t 3]),
mq 2 6] [3,6]
.ret)))⟩
def zo4:C:=
  (sr [
tq 42 (.bin .lss (.t 41) (.t 40))] []
(.seq (.cond (.t 42) .skip
 (.exit 2))
(.seq (.block 3 (sr [
tq 43 (.idxAddr 1 (.t 39) (.t 41)),
ld 44 43,
mq 10 44] [43,44]
(sr [
mq 45 8,
mq 46 10,
tq 47 (.build [.z (.int .i64 0),.z (.int .i64 0)] [(0,1,.t 45),(1,1,.t 46)]),
tq 11 (.alloc zas [.z (.int .i64 0),.z (.int .i64 0)]),
⟨none,none,.store 2 (.t 11) (.t 47)⟩] [10,45,46,47]
(sr [
lq 48 2 2,
ld 49 3,
lq 50 2 11,
tq 51 (cl zkf [.t 48,.t 49,.t 50])] [48,49,50]
(.cond (.t 51) (rg [
mq 52 6,
lq 53 2 11,
tq 54 (.mkList 2 1 [.t 53]),
tq 55 (.append ⟨true,zas,2,16⟩ (.t 52) (.t 54)),
mq 6 55] [11,52,53,54,55])
 .skip)))))
(rg [
tq 56 (.bin .add (.t 41) (kq 1)),
mq 41 56] [56]))))
def zo5:C:=
  (sr [
tq 31 (.bin .lss (.t 30) (.t 29))] []
(.seq (.cond (.t 31) .skip
 (.exit 0))
(.seq (.block 1 (sr [
tq 32 (.idxAddr 1 (.t 28) (.t 30)),
ld 33 32,
mq 8 33] [32,33]
(sr [
ld 34 3,
tq 35 (.idxAddrA 2 1 (.t 2) (kq 1)),
ld 36 35,
tq 37 (.idxAddr 18 (.t 34) (.t 36)),
lq 38 18 37,
tq 39 (cl zde [.t 38]),
tq 40 (.len .slc (.t 39)),
tq 41 (.mv (kq 0))] [34,35,36,37,38]
(.block 2 (.loop [2,3,5,6,8,28,29,30,39,40,41] zo4)))))
(rg [
tq 57 (.bin .add (.t 30) (kq 1)),
mq 30 57] [57]))))
def zqp:CF:=⟨[.tmp 4],
  (sr [
tq 2 (.box zdy (.t 0)),
tq 3 (.box zk9 (.t 1)),
tq 4 (.ownNil ⟨true,zas,2,16⟩)] [0,1,4]
(.seq (sr [
tq 12 (.idxAddrA 2 1 (.t 2) (kq 1)),
ld 13 12,
tq 14 (.bin .lss (.t 13) (kq 0))] [12,13]
(.cond (.t 14) (sr [
ld 15 3,
tq 16 (.idxAddrA 2 1 (.t 2) (kq 0)),
ld 17 16,
tq 18 (.idxAddr 18 (.t 15) (.t 17)),
lq 19 18 18,
tq 20 (cl zde [.t 19]),
tq 21 (.call true false (.k (.fn zd4 [] [])) [.t 20,.k (.fn zi7 [] [])]),
mq 4 21] [2,3,15,16,17,18,19,20,21]
.ret)
 .skip))
(sr [
tq 22 (.mkFunc zi8 [] [.t 3,.t 2]),
tq 5 (.alloc zn6 [.z (.nilf)]),
⟨none,none,.store 1 (.t 5) (.t 22)⟩] [22]
(sr [
tq 6 (.ownNil ⟨true,zas,2,16⟩)] []
(.seq (sr [
ld 23 3,
tq 24 (.idxAddrA 2 1 (.t 2) (kq 0)),
ld 25 24,
tq 26 (.idxAddr 18 (.t 23) (.t 25)),
lq 27 18 26,
tq 28 (cl zde [.t 27]),
tq 29 (.len .slc (.t 28)),
tq 30 (.mv (kq 0))] [23,24,25,26,27]
(.block 0 (.loop [2,3,5,6,28,29,30] zo5)))
(sr [
mq 58 6,
tq 59 (.mkFunc zi9 [] [.t 5]),
tq 60 (.call true true (.k (.fn zb2 [] [])) [.t 58,.t 59])] [5,58,59,60]
(sr [
mq 61 6,
mq 4 61] [6,61]
.ret)))))))⟩
def znf:C:=
  (sr [
mq 8 12] [12]
(rg [
mq 9 13] [13]))
def zng:C:=
  (.block 1 (.reg true [
ld 14 7,
ld 15 4,
mq 16 9,
tq 17 (.idxAddr 18 (.t 15) (.t 16)),
lq 18 18 17,
mq 19 8,
tq 20 (.idxAddrA 2 1 (.t 5) (.t 19)),
ld 21 20,
tq 22 (cl zol [.t 18,.t 21]),
tq 23 (.append ⟨false,zbx,7,80⟩ (.t 14) (.t 22)),
⟨none,none,.store 1 (.t 7) (.t 23)⟩] [4,5,7,8,9,14,15,16,17,18,19,20,21,22,23]))
def zpb:CF:=⟨[.tmp 6],
  (sr [
tq 3 (.box zdy (.t 0)),
tq 4 (.box zk9 (.t 1)),
tq 5 (.box zas (.t 2)),
tq 6 (.ownNil ⟨false,zbx,7,80⟩)] [0,1,2]
(sr [
tq 7 (.alloc zzj [.own ⟨false,zbx,7,80⟩])] []
(.seq (sr [
lq 10 2 3,
tq 11 (.call false false (.k (.fn zgx [] [])) [.t 10])] [3,10]
(.block 0 (.rangeFn 26 (.t 11) [12,13] znf zng)))
(sr [
ld 24 7,
mq 6 24] [7,24]
.ret))))⟩
def zr8:C:=
  (sr [
mq 6 10] [10]
(rg [
mq 7 11] [11]))
def zr9:C:=
  (.block 1 (.reg true [
ld 12 4,
mq 13 7,
ld 14 4,
mq 15 7,
mq 16 6,
tq 17 (.idxAddrA 2 1 (.t 5) (.t 16)),
ld 18 17,
tq 19 (.idxAddr 3 (.t 12) (.t 13)),
fa 20 1 19,
⟨none,none,.storeR 1 (.t 20) (.t 18) [4]⟩,
tq 21 (.idxAddr 3 (.t 14) (.t 15)),
fa 22 2 21,
⟨none,none,.store 1 (.t 22) (.k (.d (.bool true)))⟩] [4,5,6,7,12,13,14,15,16,17,18,19,20,21,22]))
def zup:CF:=⟨[],
  (sr [
tq 3 (.box zdy (.t 0)),
tq 4 (.box zn5 (.t 1)),
tq 5 (.box zas (.t 2))] [0,1,2]
(sr [
lq 8 2 3,
tq 9 (.call false false (.k (.fn zgx [] [])) [.t 8])] [3,8]
(.block 0 (.rangeFn 24 (.t 9) [10,11] zr8 zr9))))⟩
def zql:C:=
  (sr [
tq 18 (.bin .lss (.t 17) (.t 16))] []
(.seq (.cond (.t 18) .skip
 (.exit 0))
(.seq (.block 1 (sr [
tq 19 (.idxAddr 7 (.t 15) (.t 17)),
lq 20 7 19,
tq 11 (.alloc zbx [.z (.int .i64 0),.z (.str []),.z (.str []),.z (.int .i64 0),.z (.int .i64 0),.z (.int .i64 0),.z (.str [])]),
⟨none,none,.store 7 (.t 11) (.t 20)⟩] [19,20]
(rg [
mq 21 0,
lq 22 7 11,
mq 23 4,
tq 24 (.call true true (.k (.fn zf8 [] [])) [.t 21,.t 22,.t 23])] [11,21,22,23,24])))
(rg [
tq 25 (.bin .add (.t 17) (kq 1)),
mq 17 25] [25]))))
def zsf:CF:=⟨[],
  (sr [
tq 7 (.box zdy (.t 2)),
tq 8 (.box zas (.t 3))] [2,3]
(sr [
lq 12 2 7,
mq 13 1,
lq 14 2 8,
tq 15 (cl zfy [.t 12,.t 13,.t 14]),
tq 16 (.len .slc (.t 15)),
tq 17 (.mv (kq 0))] [1,7,8,12,13,14]
(.block 0 (.loop [0,4,15,16,17] zql))))⟩
def z0w:CF:=⟨[.tmp 6],
  (sr [
tq 6 (.mv (.k (.d (.bool false))))] [6]
(sr [
mq 7 0,
mq 8 1,
tq 9 (.bin .lss (.t 7) (.t 8)),
mq 10 9,
gq 11 10 false (.mv (.t 0)),
gq 12 10 false (.mv (.t 2)),
gq 13 10 false (.bin .gtr (.t 11) (.t 12)),
tq 14 (.pick (.t 10) (.k (.d (.bool true))) (.t 13)),
mq 6 14] [0,1,2,7,8,9,10,11,12,13,14]
.ret))⟩
def z7h:CF:=⟨[.cell 2 (some 3)],
  (sr [
tq 2 (.alloc zkx [.z (.int .i64 0),.z (.int .i64 0),.z (.bool false)])] []
(.seq (sr [
mq 3 0] [0]
(.block 0 (.seq (sr [
tq 5 (.bin .eql (.t 3) (.k (.d (.str [101,110,116,101,114])))),
mq 4 5] [5]
(.cond (.t 4) .skip
 (rg [
tq 6 (.bin .eql (.t 3) (.k (.d (.str [114,117,108,101])))),
mq 4 6] [6])))
(.cond (.t 4) (sr [
tq 7 (.build [.z (.int .i64 0),.z (.int .i64 0),.z (.bool false)] [(0,1,kq 2),(1,1,kq 4),(2,1,.k (.d (.bool true)))]),
⟨none,none,.store 3 (.t 2) (.t 7)⟩] [7]
.ret)
 (sr [
tq 9 (.bin .eql (.t 3) (.k (.d (.str [102,111,108,108,111,119])))),
mq 8 9] [9]
(.cond (.t 8) (sr [
tq 10 (.build [.z (.int .i64 0),.z (.int .i64 0),.z (.bool false)] [(0,1,kq 3),(1,1,kq 4),(2,1,.k (.d (.bool true)))]),
⟨none,none,.store 3 (.t 2) (.t 10)⟩] [10]
.ret)
 (sr [
tq 12 (.bin .eql (.t 3) (.k (.d (.str [114,101,118,101,114,115,101])))),
mq 11 12] [12]
(.cond (.t 11) (sr [
tq 13 (.build [.z (.int .i64 0),.z (.int .i64 0),.z (.bool false)] [(0,1,kq 1),(1,1,kq 1),(2,1,.k (.d (.bool true)))]),
⟨none,none,.store 3 (.t 2) (.t 13)⟩] [13]
.ret)
 (sr [
tq 15 (.bin .eql (.t 3) (.k (.d (.str [99,111,109,112,108,97,105,110])))),
mq 14 15] [15]
(.cond (.t 14) (sr [
tq 16 (.build [.z (.int .i64 0),.z (.int .i64 0),.z (.bool false)] [(0,1,kq 2),(1,1,kq 1),(2,1,.k (.d (.bool true)))]),
⟨none,none,.store 3 (.t 2) (.t 16)⟩] [16]
.ret)
 (sr [
tq 18 (.bin .eql (.t 3) (.k (.d (.str [100,101,99,105,100,101])))),
mq 17 18] [3,18]
(.cond (.t 17) (sr [
tq 19 (.build [.z (.int .i64 0),.z (.int .i64 0),.z (.bool false)] [(0,1,kq 1),(1,1,kq 2),(2,1,.k (.d (.bool true)))]),
⟨none,none,.store 3 (.t 2) (.t 19)⟩] [19]
.ret)
 .skip))))))))))))
(sr [
tq 20 (.build [.z (.int .i64 0),.z (.int .i64 0),.z (.bool false)] []),
⟨none,none,.store 3 (.t 2) (.t 20)⟩] [20]
.ret)))⟩
def zyy:C:=
  (.seq (sr [
mq 14 3,
mq 15 0,
tq 16 (.len .str (.t 15)),
tq 17 (.bin .lss (.t 14) (.t 16))] [14,15,16]
(.cond (.t 17) .skip
 (.exit 0)))
(.seq (.block 1 (sr [
mq 20 0,
mq 21 3,
tq 22 (.idxS (.t 20) (.t 21)),
mq 4 22] [20,21,22]
(sr [
mq 23 4,
tq 24 (.bin .geq (.t 23) (.k (.d (.int .u8 97)))),
mq 25 24,
gq 26 25 true (.mv (.t 4)),
gq 27 25 true (.bin .leq (.t 26) (.k (.d (.int .u8 122)))),
tq 28 (.pick (.t 25) (.t 27) (.k (.d (.bool false)))),
mq 29 28,
gq 30 29 false (.mv (.t 4)),
gq 31 29 false (.bin .geq (.t 30) (.k (.d (.int .u8 65)))),
gq 32 29 false (.mv (.t 31)),
gq 33 32 true (.mv (.t 4)),
gq 34 32 true (.bin .leq (.t 33) (.k (.d (.int .u8 90)))),
gq 35 29 false (.pick (.t 32) (.t 34) (.k (.d (.bool false)))),
tq 36 (.pick (.t 29) (.k (.d (.bool true))) (.t 35)),
mq 5 36] [23,24,25,26,27,28,29,30,31,32,33,34,35,36]
(sr [
mq 37 5,
tq 38 (.un .not (.t 37)),
mq 39 38,
gq 40 39 true (.mv (.t 3)),
gq 41 39 true (.bin .eql (.t 40) (kq 0)),
gq 42 39 true (.mv (.t 41)),
gq 43 42 false (.mv (.t 4)),
gq 44 42 false (.bin .neq (.t 43) (.k (.d (.int .u8 95)))),
gq 45 42 false (.mv (.t 44)),
gq 46 45 true (.mv (.t 4)),
gq 47 45 true (.bin .lss (.t 46) (.k (.d (.int .u8 48)))),
gq 48 45 true (.mv (.t 47)),
gq 49 48 false (.mv (.t 4)),
gq 50 48 false (.bin .gtr (.t 49) (.k (.d (.int .u8 57)))),
gq 51 45 true (.pick (.t 48) (.k (.d (.bool true))) (.t 50)),
gq 52 42 false (.pick (.t 45) (.t 51) (.k (.d (.bool false)))),
gq 53 39 true (.pick (.t 42) (.k (.d (.bool true))) (.t 52)),
tq 54 (.pick (.t 39) (.t 53) (.k (.d (.bool false))))] [4,5,37,38,39,40,41,42,43,44,45,46,47,48,49,50,51,52,53]
(.cond (.t 54) (sr [
tq 2 (.mv (.k (.d (.bool false))))] []
.ret)
 .skip)))))
(rg [
mq 18 3,
tq 19 (.bin .add (.t 18) (kq 1)),
mq 3 19] [18,19])))
def z2v:CF:=⟨[.tmp 2],
  (sr [
tq 2 (.mv (.k (.d (.bool false))))] [2]
(.seq (sr [
mq 6 0,
tq 7 (.len .str (.t 6)),
tq 8 (.bin .eql (.t 7) (kq 0)),
mq 9 8,
gq 10 9 false (.mv (.t 0)),
gq 11 9 false (.len .str (.t 10)),
gq 12 9 false (.bin .gtr (.t 11) (kq 24)),
tq 13 (.pick (.t 9) (.k (.d (.bool true))) (.t 12))] [6,7,8,9,10,11,12]
(.cond (.t 13) (sr [
tq 2 (.mv (.k (.d (.bool false))))] []
.ret)
 .skip))
(.seq (sr [
tq 3 (.mv (kq 0))] []
(.block 0 (.loop [0,3] zyy)))
(sr [
tq 2 (.mv (.k (.d (.bool true))))] []
.ret))))⟩
def zt0:CF:=⟨[.tmp 4],
  (sr [
tq 2 (.box zaa (.t 0)),
tq 3 (.box zad (.t 1)),
tq 4 (.mv (kq 0))] [0,1,4]
(.seq (.seq (.reg true [
lq 6 4 2,
fa 7 2 3,
ld 8 7,
tq 9 (.idxAddr 1 (.t 8) (kq 0)),
ld 10 9,
tq 11 (cl zdm [.t 6,.t 10]),
tq 12 (.bin .geq (.t 11) (kq 0))] [6,7,8,9,10,11])
(.cond (.t 12) (sr [
tq 4 (.mv (kq 9))] []
.ret)
 .skip))
(.seq (sr [
fa 13 1 2,
ld 14 13,
tq 15 (.len .slc (.t 14)),
tq 16 (.bin .geq (.t 15) (kq 256))] [13,14,15]
(.cond (.t 16) (sr [
tq 4 (.mv (kq 5))] []
.ret)
 .skip))
(.seq (sr [
fa 17 1 3,
ld 18 17,
tq 19 (.bin .eql (.t 18) (.k (.d (.str [102,111,108,108,111,119]))))] [17,18]
(.cond (.t 19) (.seq (.reg true [
lq 20 4 2,
fa 21 2 3,
ld 22 21,
tq 23 (.idxAddr 1 (.t 22) (kq 2)),
ld 24 23,
tq 25 (cl zdm [.t 20,.t 24]),
mq 5 25] [20,21,22,23,24,25])
(.seq (sr [
mq 26 5,
tq 27 (.bin .lss (.t 26) (kq 0))] [26]
(.cond (.t 27) (sr [
tq 4 (.mv (kq 10))] []
.ret)
 .skip))
(.seq (.reg true [
lq 28 4 2,
mq 29 5,
fa 30 3 3,
ld 31 30,
tq 32 (.idxAddr 1 (.t 31) (kq 0)),
ld 33 32,
tq 34 (cl zhc [.t 28,.t 29,.t 33]),
tq 35 (.un .not (.t 34))] [2,5,28,29,30,31,32,33,34])
(.cond (.t 35) (sr [
tq 4 (.mv (kq 20))] []
.ret)
 .skip))))
 .skip))
(.seq (sr [
fa 36 3 3,
ld 37 36,
tq 38 (.idxAddr 1 (.t 37) (kq 1)),
ld 39 38,
tq 40 (.bin .gtr (.t 39) (kq 99999)),
mq 41 40,
gq 42 41 false (.fieldAddr 3 (.t 3)),
gq 43 41 false (.load none (.t 42)),
gq 44 41 false (.idxAddr 1 (.t 43) (kq 2)),
gq 45 41 false (.load none (.t 44)),
gq 46 41 false (.bin .gtr (.t 45) (kq 99999)),
tq 47 (.pick (.t 41) (.k (.d (.bool true))) (.t 46)),
mq 48 47,
gq 49 48 false (.fieldAddr 3 (.t 3)),
gq 50 48 false (.load none (.t 49)),
gq 51 48 false (.idxAddr 1 (.t 50) (kq 3)),
gq 52 48 false (.load none (.t 51)),
gq 53 48 false (.bin .gtr (.t 52) (kq 1440)),
tq 54 (.pick (.t 48) (.k (.d (.bool true))) (.t 53))] [36,37,38,39,40,41,42,43,44,45,46,47,48,49,50,51,52,53]
(.cond (.t 54) (sr [
tq 4 (.mv (kq 3))] []
.ret)
 .skip))
(.seq (.seq (.reg true [
fa 55 3 3,
ld 56 55,
tq 57 (.idxAddr 1 (.t 56) (kq 2)),
ld 58 57,
fa 59 3 3,
ld 60 59,
tq 61 (.idxAddr 1 (.t 60) (kq 1)),
ld 62 61,
tq 63 (.bin .lss (.t 58) (.t 62))] [3,55,56,57,58,59,60,61,62])
(.cond (.t 63) (sr [
tq 4 (.mv (kq 11))] []
.ret)
 .skip))
(sr [
tq 4 (.mv (kq 0))] []
.ret)))))))⟩
def z2w:CF:=⟨[.tmp 6],
  (sr [
tq 3 (.box zaa (.t 0)),
tq 6 (.mv (.k (.d (.bool false))))] [0,6]
(sr [
fa 8 1 3,
ld 9 8,
mq 10 1,
tq 11 (.idxAddr 8 (.t 9) (.t 10)),
lq 12 8 11,
tq 7 (.alloc zb1 [.z (.str []),.z (.str []),.z (.str []),.z (.str []),.z (.int .i64 0),.z (.int .i64 0),.z (.int .i64 0),.z (.int .i64 0)]),
⟨none,none,.store 8 (.t 7) (.t 12)⟩] [1,8,9,10,11,12]
(.seq (sr [
fa 13 4 7,
ld 14 13,
mq 15 2,
tq 16 (.bin .gtr (.t 14) (.t 15)),
mq 17 16,
gq 18 17 false (.load (some 4) (.t 3)),
gq 19 17 false (.fieldAddr 0 (.t 7)),
gq 20 17 false (.load none (.t 19)),
gq 21 17 false (.mv (.t 2)),
gq 22 17 false (cl zn2 [.t 18,.t 20,.t 21]),
tq 23 (.pick (.t 17) (.k (.d (.bool true))) (.t 22))] [13,14,15,16,17,18,19,20,21,22]
(.cond (.t 23) (sr [
tq 6 (.mv (.k (.d (.bool false))))] []
.ret)
 .skip))
(.seq (.reg true [
fa 24 3 7,
ld 25 24,
tq 26 (.bin .eql (.t 25) (.k (.d (.str [])))),
mq 27 26,
gq 28 27 false (.load (some 4) (.t 3)),
gq 29 27 false (.load (some 4) (.t 3)),
gq 30 27 false (.fieldAddr 3 (.t 7)),
gq 31 27 false (.load none (.t 30)),
gq 32 27 false (cl zdm [.t 29,.t 31]),
gq 33 27 false (.mv (.t 2)),
gq 34 27 false (cl zhc [.t 28,.t 32,.t 33]),
tq 35 (.pick (.t 27) (.k (.d (.bool true))) (.t 34)),
mq 6 35] [2,3,7,24,25,26,27,28,29,30,31,32,33,34,35])
.ret))))⟩
def zsb:C:=
  (.seq (sr [
mq 6 5,
fa 7 3 2,
ld 8 7,
tq 9 (.len .slc (.t 8)),
tq 10 (.bin .lss (.t 6) (.t 9))] [6,7,8,9]
(.cond (.t 10) .skip
 (.exit 0)))
(.seq (.block 1 (sr [
fa 13 3 2,
ld 14 13,
mq 15 5,
tq 16 (.idxAddr 5 (.t 14) (.t 15)),
fa 17 0 16,
ld 18 17,
mq 19 1,
tq 20 (.bin .eql (.t 18) (.t 19))] [13,14,15,16,17,18,19]
(.cond (.t 20) (sr [
mq 21 5,
mq 4 21] [5,21]
.ret)
 .skip)))
(rg [
mq 11 5,
tq 12 (.bin .add (.t 11) (kq 1)),
mq 5 12] [11,12])))
def zux:CF:=⟨[.tmp 4],
  (sr [
tq 2 (.box zaa (.t 0)),
tq 4 (.mv (kq 0))] [0,4]
(.seq (sr [
tq 5 (.mv (kq 0))] []
(.block 0 (.loop [1,2,5] zsb)))
(sr [
tq 4 (.mv (kq (-1)))] []
.ret)))⟩
def zoa:CF:=⟨[.tmp 4,.tmp 5,.tmp 6],
  (sr [
tq 4 (.mv (.k (.d (.str [])))),
tq 5 (.mv (.k (.d (.str [])))),
tq 6 (.mv (.k (.d (.bool false))))] [4,5,6]
(.seq (sr [
mq 8 0,
mq 9 1,
tq 10 (cl zhl [.t 8,.t 9]),
mq 7 10] [8,9,10]
(sr [
mq 11 7,
tq 12 (.bin .geq (.t 11) (kq 0))] [11]
(.cond (.t 12) (.seq (.reg true [
mq 13 0,
mq 14 7,
tq 15 (.sliceS (.t 13) none (some (.t 14))),
mq 16 0,
mq 17 7,
mq 18 1,
tq 19 (.len .str (.t 18)),
tq 20 (.bin .add (.t 17) (.t 19)),
tq 21 (.sliceS (.t 16) (some (.t 20)) none),
mq 4 15,
mq 5 21,
tq 6 (.mv (.k (.d (.bool true))))] [0,1,7,13,14,15,16,17,18,19,20,21])
.ret)
 .skip)))
(sr [
mq 22 0,
mq 4 22,
tq 5 (.mv (.k (.d (.str [])))),
tq 6 (.mv (.k (.d (.bool false))))] [0,22]
.ret)))⟩
def ztu:CF:=⟨[.tmp 6,.tmp 7],
  (sr [
tq 6 (.mv (.k (.d (.list 0 [])))),
tq 7 (.mv (kq 0))] [6,7]
(.seq (.seq (.reg true [
mq 10 1,
tq 11 (.idxAddr 1 (.t 10) (kq 1)),
ld 12 11,
tq 13 (cl zf0 [.t 12]),
mq 14 2,
tq 15 (.idxAddr 1 (.t 14) (kq 0)),
ld 16 15,
tq 17 (cl zba [.t 16]),
mq 18 2,
tq 19 (.idxAddr 1 (.t 18) (kq 1)),
ld 20 19,
tq 21 (cl zba [.t 20]),
tq 22 (.mkList 1 3 [.t 13,.t 17,.t 21]),
tq 23 (cl za3 [.t 22]),
mq 8 23] [10,11,12,13,14,15,16,17,18,19,20,21,22,23])
(sr [
mq 24 8,
tq 25 (.bin .neq (.t 24) (kq 0))] [24]
(.cond (.t 25) (sr [
mq 26 8,
tq 6 (.mv (.k (.d (.list 0 [])))),
mq 7 26] [8,26]
.ret)
 .skip)))
(.seq (.seq (.reg true [
mq 27 0,
mq 28 1,
tq 29 (.idxAddr 1 (.t 28) (kq 1)),
ld 30 29,
mq 31 2,
tq 32 (.idxAddr 1 (.t 31) (kq 0)),
ld 33 32,
mq 34 2,
tq 35 (.idxAddr 1 (.t 34) (kq 1)),
ld 36 35,
tq 37 (.callQ (.k (.fn zbg [] [])) [.t 27,.t 30,.t 33,.t 36]),
mq 9 37] [0,1,2,27,28,29,30,31,32,33,34,35,36,37])
(sr [
mq 38 9,
tq 39 (.bin .neq (.t 38) (kq 1440))] [38]
(.cond (.t 39) (sr [
mq 40 9,
tq 41 (cl n_strconv_Itoa [.t 40]),
tq 42 (.mkList 1 1 [.t 41]),
mq 6 42,
tq 7 (.mv (kq 0))] [9,40,41,42]
.ret)
 .skip)))
(sr [
tq 6 (.mv (.k (.d (.list 0 [])))),
tq 7 (.mv (kq 0))] []
.ret))))⟩
def ztv:CF:=⟨[.tmp 6,.tmp 7],
  (sr [
tq 6 (.mv (.k (.d (.list 0 [])))),
tq 7 (.mv (kq 0))] [6,7]
(.seq (.seq (.reg true [
mq 9 2,
tq 10 (.idxAddr 1 (.t 9) (kq 0)),
ld 11 10,
tq 12 (cl zba [.t 11]),
mq 13 2,
tq 14 (.idxAddr 1 (.t 13) (kq 1)),
ld 15 14,
tq 16 (cl zba [.t 15]),
tq 17 (.mkList 1 2 [.t 12,.t 16]),
tq 18 (cl za3 [.t 17]),
mq 8 18] [9,10,11,12,13,14,15,16,17,18])
(sr [
mq 19 8,
tq 20 (.bin .neq (.t 19) (kq 0))] [19]
(.cond (.t 20) (sr [
mq 21 8,
tq 6 (.mv (.k (.d (.list 0 [])))),
mq 7 21] [8,21]
.ret)
 .skip)))
(.seq (.reg true [
mq 22 0,
mq 23 2,
tq 24 (.idxAddr 1 (.t 23) (kq 0)),
ld 25 24,
mq 26 2,
tq 27 (.idxAddr 1 (.t 26) (kq 1)),
ld 28 27,
tq 29 (.callU true (.k (.fn zc6 [] [])) [.t 22,.t 25,.t 28]),
tq 30 (.call true true (.k (.fn ze2 [] [])) [.t 29,.k (.fn zkt [] [])]),
mq 6 30,
tq 7 (.mv (kq 0))] [0,2,22,23,24,25,26,27,28,29,30])
.ret)))⟩
def zi2:C:=
  (sr [
tq 11 (.bin .lss (.t 10) (.t 9))] []
(.seq (.cond (.t 11) .skip
 (.exit 0))
(.seq (.block 1 (sr [
tq 12 (.idxAddr 2 (.t 8) (.t 10)),
lq 13 2 12,
tq 7 (.alloc zb4 [.z (.str []),.z (.int .i64 0)]),
⟨none,none,.store 2 (.t 7) (.t 13)⟩] [12,13]
(rg [
mq 14 5,
mq 15 1,
lq 16 2 7,
tq 17 (.call true true (.t 15) [.t 16]),
tq 18 (.mkList 1 1 [.t 17]),
tq 19 (.append ⟨false,zab,1,16⟩ (.t 14) (.t 18)),
mq 5 19] [7,14,15,16,17,18,19])))
(rg [
tq 20 (.bin .add (.t 10) (kq 1)),
mq 10 20] [20]))))
def zj0:CF:=⟨[.tmp 4],
  (sr [
tq 4 (.ownNil ⟨false,zab,1,16⟩)] [4]
(sr [
tq 5 (.ownNil ⟨false,zab,1,16⟩)] []
(.seq (sr [
mq 8 0,
tq 9 (.len .slc (.t 8)),
tq 10 (.mv (kq 0))] [0]
(.block 0 (.loop [1,5,8,9,10] zi2)))
(sr [
mq 21 5,
mq 4 21] [5,21]
.ret))))⟩
def zr0:CF:=⟨[.tmp 2],
  (sr [
tq 1 (.box zb4 (.t 0)),
tq 2 (.mv (.k (.d (.str []))))] [0,2]
(.seq (.reg true [
fa 3 0 1,
ld 4 3,
tq 5 (.bin .add (.t 4) (.k (.d (.str [32])))),
fa 6 1 1,
ld 7 6,
tq 8 (cl n_strconv_Itoa [.t 7]),
tq 9 (.bin .add (.t 5) (.t 8)),
mq 2 9] [1,3,4,5,6,7,8,9])
.ret))⟩
def ztw:CF:=⟨[.tmp 6,.tmp 7],
  (sr [
tq 6 (.mv (.k (.d (.list 0 [])))),
tq 7 (.mv (kq 0))] [6,7]
(.seq (sr [
mq 9 2,
tq 10 (.idxAddr 1 (.t 9) (kq 0)),
ld 11 10,
tq 12 (cl zba [.t 11]),
mq 8 12] [9,10,11,12]
(sr [
mq 13 8,
tq 14 (.bin .neq (.t 13) (kq 0))] [13]
(.cond (.t 14) (sr [
mq 15 8,
tq 6 (.mv (.k (.d (.list 0 [])))),
mq 7 15] [8,15]
.ret)
 .skip)))
(sr [
mq 16 0,
mq 17 2,
tq 18 (.idxAddr 1 (.t 17) (kq 0)),
ld 19 18,
tq 20 (.callU true (.k (.fn zir [] [])) [.t 16,.t 19]),
mq 6 20,
tq 7 (.mv (kq 0))] [0,2,16,17,18,19,20]
.ret)))⟩
def zob:CF:=⟨[.tmp 4],
  (sr [
tq 2 (.box zbs (.t 0)),
tq 3 (.box za6 (.t 1)),
tq 4 (.mv (.k (.d (.list 0 []))))] [0,1,4]
(sr [
ld 5 2,
tq 6 (.nilCheck (.t 5)),
fa 7 1 6,
ld 8 7,
tq 9 (.mkFunc zhm [] [.t 2,.t 3]),
tq 10 (.call true true (.k (.fn ze9 [] [])) [.t 8,.t 9]),
tq 11 (.call true true (.k (.fn zcy [] [])) [.t 10,.k (.fn zq4 [] [])]),
mq 4 11] [2,3,5,6,7,8,9,10,11]
.ret))⟩
def ztx:CF:=⟨[.tmp 6,.tmp 7],
  (sr [
tq 6 (.mv (.k (.d (.list 0 [])))),
tq 7 (.mv (kq 0))] [6,7]
(.seq (sr [
mq 9 1,
tq 10 (.idxAddr 1 (.t 9) (kq 1)),
ld 11 10,
tq 12 (cl zf0 [.t 11]),
mq 8 12] [9,10,11,12]
(sr [
mq 13 8,
tq 14 (.bin .neq (.t 13) (kq 0))] [13]
(.cond (.t 14) (sr [
mq 15 8,
tq 6 (.mv (.k (.d (.list 0 [])))),
mq 7 15] [8,15]
.ret)
 .skip)))
(sr [
mq 16 0,
mq 17 1,
tq 18 (.idxAddr 1 (.t 17) (kq 1)),
ld 19 18,
tq 20 (.callU true (.k (.fn zjb [] [])) [.t 16,.t 19]),
xq 21 20 0,
xq 22 20 1,
mq 6 21,
mq 7 22] [0,1,16,17,18,19,20,21,22]
.ret)))⟩
def zph:CF:=⟨[.tmp 4,.tmp 5],
  (sr [
tq 2 (.box zbs (.t 0)),
tq 3 (.box zab (.t 1)),
tq 4 (.mv (.k (.d (.list 0 [])))),
tq 5 (.mv (kq 0))] [0,1,4,5]
(.seq (sr [
ld 7 2,
ld 8 3,
tq 9 (.callQ (.k (.fn zbn [] [])) [.t 7,.t 8]),
tq 10 (.nilEq 0 false (.t 9))] [7,8,9]
(.cond (.t 10) (sr [
tq 4 (.mv (.k (.d (.list 0 [])))),
tq 5 (.mv (kq 10))] []
.ret)
 .skip))
(sr [
tq 11 (.mkFunc zh7 [] [.t 2,.t 3]),
mq 6 11] [3,11]
(sr [
ld 12 2,
tq 13 (.nilCheck (.t 12)),
fa 14 1 13,
ld 15 14,
mq 16 6,
tq 17 (.call true true (.k (.fn ze9 [] [])) [.t 15,.t 16]),
tq 18 (.call true true (.k (.fn zcy [] [])) [.t 17,.k (.fn zq4 [] [])]),
mq 4 18,
tq 5 (.mv (kq 0))] [2,6,12,13,14,15,16,17,18]
.ret))))⟩
def zty:CF:=⟨[.tmp 6,.tmp 7],
  (sr [
tq 6 (.mv (.k (.d (.list 0 [])))),
tq 7 (.mv (kq 0))] [6,7]
(sr [
mq 9 0,
tq 10 (.nilCheck (.t 9)),
fa 11 3 10,
ld 12 11,
tq 13 (.call true true (.k (.fn zgn [] [])) [.t 12,.k (.fn zku [] [])]),
mq 8 13] [0,9,10,11,12,13]
(sr [
mq 14 8,
tq 15 (.call true true (.k (.fn zdl [] [])) [.t 14,.k (.fn zkv [] [])]),
mq 6 15,
tq 7 (.mv (kq 0))] [8,14,15]
.ret)))⟩
def zkm:C:=
  (sr [
tq 11 (.bin .lss (.t 10) (.t 9))] []
(.seq (.cond (.t 11) .skip
 (.exit 0))
(.seq (.block 1 (sr [
tq 12 (.idxAddr 5 (.t 8) (.t 10)),
lq 13 5 12,
tq 7 (.alloc zai [.z (.str []),.z (.str []),.z (.int .i64 0),.z (.bool false),.z (.bool false)]),
⟨none,none,.store 5 (.t 7) (.t 13)⟩] [12,13]
(sr [
mq 14 1,
lq 15 5 7,
tq 16 (.call true true (.t 14) [.t 15])] [14,15]
(.cond (.t 16) (rg [
mq 17 5,
lq 18 5 7,
tq 19 (.mkList 5 1 [.t 18]),
tq 20 (.append ⟨false,zai,5,48⟩ (.t 17) (.t 19)),
mq 5 20] [7,17,18,19,20])
 .skip))))
(rg [
tq 21 (.bin .add (.t 10) (kq 1)),
mq 10 21] [21]))))
def zli:CF:=⟨[.tmp 4],
  (sr [
tq 4 (.ownNil ⟨false,zai,5,48⟩)] [4]
(sr [
tq 5 (.ownNil ⟨false,zai,5,48⟩)] []
(.seq (sr [
mq 8 0,
tq 9 (.len .slc (.t 8)),
tq 10 (.mv (kq 0))] [0]
(.block 0 (.loop [1,5,8,9,10] zkm)))
(sr [
mq 22 5,
mq 4 22] [5,22]
.ret))))⟩
def zr1:CF:=⟨[.tmp 2],
  (sr [
tq 1 (.box zai (.t 0)),
tq 2 (.mv (.k (.d (.bool false))))] [0,2]
(sr [
fa 3 3 1,
ld 4 3,
tq 5 (.un .not (.t 4)),
mq 2 5] [1,3,4,5]
.ret))⟩
def zhd:C:=
  (sr [
tq 11 (.bin .lss (.t 10) (.t 9))] []
(.seq (.cond (.t 11) .skip
 (.exit 0))
(.seq (.block 1 (sr [
tq 12 (.idxAddr 5 (.t 8) (.t 10)),
lq 13 5 12,
tq 7 (.alloc zai [.z (.str []),.z (.str []),.z (.int .i64 0),.z (.bool false),.z (.bool false)]),
⟨none,none,.store 5 (.t 7) (.t 13)⟩] [12,13]
(rg [
mq 14 5,
mq 15 1,
lq 16 5 7,
tq 17 (.call true true (.t 15) [.t 16]),
tq 18 (.mkList 1 1 [.t 17]),
tq 19 (.append ⟨false,zab,1,16⟩ (.t 14) (.t 18)),
mq 5 19] [7,14,15,16,17,18,19])))
(rg [
tq 20 (.bin .add (.t 10) (kq 1)),
mq 10 20] [20]))))
def zh1:CF:=⟨[.tmp 4],
  (sr [
tq 4 (.ownNil ⟨false,zab,1,16⟩)] [4]
(sr [
tq 5 (.ownNil ⟨false,zab,1,16⟩)] []
(.seq (sr [
mq 8 0,
tq 9 (.len .slc (.t 8)),
tq 10 (.mv (kq 0))] [0]
(.block 0 (.loop [1,5,8,9,10] zhd)))
(sr [
mq 21 5,
mq 4 21] [5,21]
.ret))))⟩
def zr2:CF:=⟨[.tmp 2],
  (sr [
tq 1 (.box zai (.t 0)),
tq 2 (.mv (.k (.d (.str []))))] [0,2]
(sr [
fa 3 0 1,
ld 4 3,
mq 2 4] [1,3,4]
.ret))⟩
def zkn:CF:=⟨[.tmp 4],
  (sr [
tq 4 (.mv (.k (.d (.bool false))))] [4]
(sr [
mq 5 0,
mq 6 1,
tq 7 (cl zhb [.t 5,.t 6]),
tq 8 (.bin .geq (.t 7) (kq 0)),
mq 4 8] [0,1,5,6,7,8]
.ret))⟩
def zza:CF:=⟨[.tmp 2,.tmp 3],
  (sr [
tq 2 (.mv (kq 0)),
tq 3 (.mv (.k (.d (.bool false))))] [2,3]
(sr [
mq 7 0,
tq 8 (.call false false (.k (.fn n_strconv_Atoi [] [])) [.t 7]),
mq 6 8,
xq 9 6 0,
xq 10 6 1,
mq 4 9,
mq 5 10] [6,7,8,9,10]
(sr [
mq 11 4,
mq 12 5,
tq 13 (.nilEq 1 false (.t 12)),
mq 14 13,
gq 15 14 true (.mv (.t 0)),
gq 16 14 true (.len .str (.t 15)),
gq 17 14 true (.bin .leq (.t 16) (kq 9)),
tq 18 (.pick (.t 14) (.t 17) (.k (.d (.bool false)))),
mq 19 18,
gq 20 19 true (.mv (.t 4)),
gq 21 19 true (.bin .geq (.t 20) (kq 0)),
tq 22 (.pick (.t 19) (.t 21) (.k (.d (.bool false)))),
mq 23 22,
gq 24 23 true (.mv (.t 4)),
gq 25 23 true (cl n_strconv_Itoa [.t 24]),
gq 26 23 true (.mv (.t 0)),
gq 27 23 true (.bin .eql (.t 25) (.t 26)),
tq 28 (.pick (.t 23) (.t 27) (.k (.d (.bool false)))),
mq 2 11,
mq 3 28] [0,4,5,11,12,13,14,15,16,17,18,19,20,21,22,23,24,25,26,27,28]
.ret)))⟩
def znj:CF:=⟨[.tmp 4],
  (sr [
tq 3 (.box zad (.t 1)),
tq 4 (.mv (kq 0))] [1,4]
(.seq (.reg true [
fa 11 3 3,
ld 12 11,
tq 13 (.idxAddr 1 (.t 12) (kq 0)),
ld 14 13,
fa 15 3 3,
ld 16 15,
tq 17 (.idxAddr 1 (.t 16) (kq 1)),
ld 18 17,
fa 19 3 3,
ld 20 19,
tq 21 (.idxAddr 1 (.t 20) (kq 2)),
ld 22 21,
fa 23 3 3,
ld 24 23,
tq 25 (.idxAddr 1 (.t 24) (kq 3)),
ld 26 25,
mq 5 14,
mq 6 18,
mq 7 22,
mq 8 26] [11,12,13,14,15,16,17,18,19,20,21,22,23,24,25,26])
(.seq (.seq (.reg true [
mq 27 0,
fa 28 2 3,
ld 29 28,
tq 30 (.idxAddr 1 (.t 29) (kq 0)),
ld 31 30,
tq 32 (.callQ (.k (.fn zbn [] [])) [.t 27,.t 31]),
tq 33 (.nilEq 0 true (.t 32)),
tq 34 (cl zal [.t 33,kq 9]),
mq 35 0,
tq 36 (.nilCheck (.t 35)),
fa 37 1 36,
ld 38 37,
tq 39 (.len .slc (.t 38)),
tq 40 (.bin .geq (.t 39) (kq 256)),
tq 41 (cl zal [.t 40,kq 5]),
tq 42 (.mkList 1 2 [.t 34,.t 41]),
tq 43 (cl za3 [.t 42]),
mq 9 43] [27,28,29,30,31,32,33,34,35,36,37,38,39,40,41,42,43])
(sr [
mq 44 9,
tq 45 (.bin .neq (.t 44) (kq 0))] [44]
(.cond (.t 45) (sr [
mq 46 9,
mq 4 46] [9,46]
.ret)
 .skip)))
(.seq (sr [
fa 47 1 3,
ld 48 47,
tq 49 (.bin .eql (.t 48) (.k (.d (.str [102,111,108,108,111,119]))))] [47,48]
(.cond (.t 49) (sr [
mq 50 0,
fa 51 2 3,
ld 52 51,
tq 53 (.idxAddr 1 (.t 52) (kq 2)),
ld 54 53,
mq 55 5,
tq 56 (.callQ (.k (.fn zcr [] [])) [.t 50,.t 54,.t 55]),
mq 10 56] [0,3,5,50,51,52,53,54,55,56]
(sr [
mq 57 10,
tq 58 (.bin .neq (.t 57) (kq 0))] [57]
(.cond (.t 58) (sr [
mq 59 10,
mq 4 59] [10,59]
.ret)
 .skip)))
 .skip))
(sr [
mq 60 6,
tq 61 (.bin .gtr (.t 60) (kq 99999)),
mq 62 61,
gq 63 62 false (.mv (.t 7)),
gq 64 62 false (.bin .gtr (.t 63) (kq 99999)),
tq 65 (.pick (.t 62) (.k (.d (.bool true))) (.t 64)),
mq 66 65,
gq 67 66 false (.mv (.t 8)),
gq 68 66 false (.bin .gtr (.t 67) (kq 1440)),
tq 69 (.pick (.t 66) (.k (.d (.bool true))) (.t 68)),
tq 70 (cl zal [.t 69,kq 3]),
mq 71 7,
mq 72 6,
tq 73 (.bin .lss (.t 71) (.t 72)),
tq 74 (cl zal [.t 73,kq 11]),
tq 75 (.mkList 1 2 [.t 70,.t 74]),
tq 76 (cl za3 [.t 75]),
mq 4 76] [6,7,8,60,61,62,63,64,65,66,67,68,69,70,71,72,73,74,75,76]
.ret)))))⟩
def znl:CF:=⟨[],
  (sr [
tq 3 (.box zad (.t 1))] [1]
(.seq (.reg true [
fa 5 2 3,
ld 6 5,
tq 7 (.idxAddr 1 (.t 6) (kq 0)),
ld 8 7,
fa 9 1 3,
ld 10 9,
fa 11 2 3,
ld 12 11,
tq 13 (.idxAddr 1 (.t 12) (kq 1)),
ld 14 13,
fa 15 3 3,
ld 16 15,
tq 17 (.idxAddr 1 (.t 16) (kq 0)),
ld 18 17,
fa 19 3 3,
ld 20 19,
tq 21 (.idxAddr 1 (.t 20) (kq 1)),
ld 22 21,
fa 23 3 3,
ld 24 23,
tq 25 (.idxAddr 1 (.t 24) (kq 2)),
ld 26 25,
fa 27 3 3,
ld 28 27,
tq 29 (.idxAddr 1 (.t 28) (kq 3)),
ld 30 29,
tq 31 (.build [.z (.str []),.z (.str []),.z (.str []),.z (.str []),.z (.int .i64 0),.z (.int .i64 0),.z (.int .i64 0),.z (.int .i64 0)] [(0,1,.t 8),(1,1,.t 10),(2,1,.t 14),(4,1,.t 18),(5,1,.t 22),(6,1,.t 26),(7,1,.t 30)]),
tq 4 (.alloc zac [.z (.str []),.z (.str []),.z (.str []),.z (.str []),.z (.int .i64 0),.z (.int .i64 0),.z (.int .i64 0),.z (.int .i64 0)]),
⟨none,none,.store 8 (.t 4) (.t 31)⟩] [5,6,7,8,9,10,11,12,13,14,15,16,17,18,19,20,21,22,23,24,25,26,27,28,29,30,31])
(.seq (sr [
fa 32 1 3,
ld 33 32,
tq 34 (.bin .eql (.t 33) (.k (.d (.str [102,111,108,108,111,119]))))] [32,33]
(.cond (.t 34) (rg [
fa 35 2 3,
ld 36 35,
tq 37 (.idxAddr 1 (.t 36) (kq 2)),
ld 38 37,
fa 39 3 4,
⟨none,none,.store 1 (.t 39) (.t 38)⟩] [3,35,36,37,38,39])
 .skip))
(.reg true [
mq 40 0,
mq 41 0,
tq 42 (.nilCheck (.t 41)),
fa 43 1 42,
ld 44 43,
lq 45 8 4,
tq 46 (.mkList 8 1 [.t 45]),
tq 47 (.append ⟨false,zac,8,96⟩ (.t 44) (.t 46)),
tq 48 (.nilCheck (.t 40)),
fa 49 1 48,
⟨none,none,.store 1 (.t 49) (.t 47)⟩] [0,4,40,41,42,43,44,45,46,47,48,49]))))⟩
def zly:CF:=⟨[.tmp 4],
  (sr [
tq 3 (.box zad (.t 1)),
tq 4 (.mv (kq 0))] [1,4]
(sr [
mq 6 0,
fa 7 2 3,
ld 8 7,
tq 9 (.idxAddr 1 (.t 8) (kq 0)),
ld 10 9,
tq 11 (.callQ (.k (.fn zbn [] [])) [.t 6,.t 10]),
mq 5 11] [6,7,8,9,10,11]
(.seq (sr [
mq 12 5,
tq 13 (.nilEq 0 false (.t 12))] [12]
(.cond (.t 13) (sr [
tq 4 (.mv (kq 10))] []
.ret)
 .skip))
(.seq (.reg true [
mq 14 5,
tq 15 (.nilCheck (.t 14)),
fa 16 1 15,
ld 17 16,
tq 18 (.bin .neq (.t 17) (.k (.d (.str [114,117,108,101])))),
tq 19 (cl zal [.t 18,kq 13]),
mq 20 0,
mq 21 5,
tq 22 (.nilCheck (.t 21)),
fa 23 0 22,
ld 24 23,
fa 25 3 3,
ld 26 25,
tq 27 (.idxAddr 1 (.t 26) (kq 0)),
ld 28 27,
tq 29 (.callQ (.k (.fn zcr [] [])) [.t 20,.t 24,.t 28]),
tq 30 (.mkList 1 2 [.t 19,.t 29]),
tq 31 (cl za3 [.t 30]),
mq 4 31] [0,3,5,14,15,16,17,18,19,20,21,22,23,24,25,26,27,28,29,30,31])
.ret))))⟩
def zzb:CF:=⟨[],
  (sr [
tq 3 (.box zad (.t 1))] [1]
(.reg true [
mq 4 0,
fa 5 2 3,
ld 6 5,
tq 7 (.idxAddr 1 (.t 6) (kq 0)),
ld 8 7,
fa 9 3 3,
ld 10 9,
tq 11 (.idxAddr 1 (.t 10) (kq 0)),
ld 12 11,
tq 13 (.call true true (.k (.fn zb9 [] [])) [.t 4,.t 8,.t 12])] [0,3,4,5,6,7,8,9,10,11,12,13]))⟩
def zp0:CF:=⟨[],
  (rg [
mq 6 0,
mq 7 0,
tq 8 (.nilCheck (.t 7)),
fa 9 2 8,
ld 10 9,
mq 11 1,
mq 12 2,
tq 13 (.build [.z (.str []),.z (.int .i64 0)] [(0,1,.t 11),(1,1,.t 12)]),
tq 14 (.mkList 2 1 [.t 13]),
tq 15 (.append ⟨false,zbl,2,24⟩ (.t 10) (.t 14)),
tq 16 (.nilCheck (.t 6)),
fa 17 2 16,
⟨none,none,.store 1 (.t 17) (.t 15)⟩] [0,1,2,6,7,8,9,10,11,12,13,14,15,16,17])⟩
def zk0:CF:=⟨[.tmp 4],
  (sr [
tq 3 (.box zad (.t 1)),
tq 4 (.mv (kq 0))] [1,4]
(.seq (.reg true [
mq 5 0,
fa 6 2 3,
ld 7 6,
tq 8 (.idxAddr 1 (.t 7) (kq 0)),
ld 9 8,
tq 10 (.callQ (.k (.fn zbu [] [])) [.t 5,.t 9]),
tq 11 (.nilEq 0 true (.t 10)),
tq 12 (cl zal [.t 11,kq 9]),
mq 13 0,
tq 14 (.nilCheck (.t 13)),
fa 15 3 14,
ld 16 15,
tq 17 (.len .slc (.t 16)),
tq 18 (.bin .geq (.t 17) (kq 64)),
tq 19 (cl zal [.t 18,kq 5]),
mq 20 0,
fa 21 2 3,
ld 22 21,
tq 23 (.idxAddr 1 (.t 22) (kq 1)),
ld 24 23,
fa 25 3 3,
ld 26 25,
tq 27 (.idxAddr 1 (.t 26) (kq 0)),
ld 28 27,
tq 29 (.callQ (.k (.fn zcr [] [])) [.t 20,.t 24,.t 28]),
tq 30 (.mkList 1 3 [.t 12,.t 19,.t 29]),
tq 31 (cl za3 [.t 30]),
mq 4 31] [0,3,5,6,7,8,9,10,11,12,13,14,15,16,17,18,19,20,21,22,23,24,25,26,27,28,29,30,31])
.ret))⟩
def zk1:CF:=⟨[],
  (sr [
tq 3 (.box zad (.t 1))] [1]
(.reg true [
mq 4 0,
mq 5 0,
tq 6 (.nilCheck (.t 5)),
fa 7 3 6,
ld 8 7,
fa 9 2 3,
ld 10 9,
tq 11 (.idxAddr 1 (.t 10) (kq 0)),
ld 12 11,
fa 13 2 3,
ld 14 13,
tq 15 (.idxAddr 1 (.t 14) (kq 1)),
ld 16 15,
fa 17 3 3,
ld 18 17,
tq 19 (.idxAddr 1 (.t 18) (kq 0)),
ld 20 19,
tq 21 (.build [.z (.str []),.z (.str []),.z (.int .i64 0),.z (.bool false),.z (.bool false)] [(0,1,.t 12),(1,1,.t 16),(2,1,.t 20)]),
tq 22 (.mkList 5 1 [.t 21]),
tq 23 (.append ⟨false,zai,5,48⟩ (.t 8) (.t 22)),
tq 24 (.nilCheck (.t 4)),
fa 25 3 24,
⟨none,none,.store 1 (.t 25) (.t 23)⟩] [0,3,4,5,6,7,8,9,10,11,12,13,14,15,16,17,18,19,20,21,22,23,24,25]))⟩
def zlg:CF:=⟨[.tmp 4],
  (sr [
tq 3 (.box zad (.t 1)),
tq 4 (.mv (kq 0))] [1,4]
(sr [
mq 6 0,
fa 7 2 3,
ld 8 7,
tq 9 (.idxAddr 1 (.t 8) (kq 0)),
ld 10 9,
tq 11 (.callQ (.k (.fn zbu [] [])) [.t 6,.t 10]),
mq 5 11] [0,6,7,8,9,10,11]
(.seq (sr [
mq 12 5,
tq 13 (.nilEq 0 false (.t 12))] [12]
(.cond (.t 13) (sr [
tq 4 (.mv (kq 10))] []
.ret)
 .skip))
(.seq (.reg true [
mq 14 5,
tq 15 (.nilCheck (.t 14)),
fa 16 3 15,
ld 17 16,
tq 18 (cl zal [.t 17,kq 20]),
fa 19 3 3,
ld 20 19,
tq 21 (.idxAddr 1 (.t 20) (kq 1)),
ld 22 21,
tq 23 (.bin .gtr (.t 22) (kq 1)),
tq 24 (cl zal [.t 23,kq 3]),
tq 25 (.mkList 1 2 [.t 18,.t 24]),
tq 26 (cl za3 [.t 25]),
mq 4 26] [3,5,14,15,16,17,18,19,20,21,22,23,24,25,26])
.ret))))⟩
def zlh:CF:=⟨[],
  (sr [
tq 3 (.box zad (.t 1))] [1]
(sr [
mq 5 0,
fa 6 2 3,
ld 7 6,
tq 8 (.idxAddr 1 (.t 7) (kq 0)),
ld 9 8,
tq 10 (.callQ (.k (.fn zbu [] [])) [.t 5,.t 9]),
mq 4 10] [5,6,7,8,9,10]
(sr [
mq 11 4,
mq 12 4,
fa 13 3 3,
ld 14 13,
tq 15 (.idxAddr 1 (.t 14) (kq 1)),
ld 16 15,
tq 17 (.bin .eql (.t 16) (kq 1)),
tq 18 (.nilCheck (.t 11)),
fa 19 3 18,
⟨none,none,.store 1 (.t 19) (.k (.d (.bool true)))⟩,
tq 20 (.nilCheck (.t 12)),
fa 21 4 20,
⟨none,none,.store 1 (.t 21) (.t 17)⟩] [11,12,13,14,15,16,17,18,19,20,21]
(sr [
mq 22 4,
tq 23 (.nilCheck (.t 22)),
fa 24 4 23,
ld 25 24] [22,23,24]
(.cond (.t 25) (.reg true [
mq 26 0,
mq 27 4,
tq 28 (.nilCheck (.t 27)),
fa 29 1 28,
ld 30 29,
fa 31 3 3,
ld 32 31,
tq 33 (.idxAddr 1 (.t 32) (kq 0)),
ld 34 33,
tq 35 (.call true true (.k (.fn zb9 [] [])) [.t 26,.t 30,.t 34])] [0,3,4,26,27,28,29,30,31,32,33,34,35])
 .skip)))))⟩
def ztz:CF:=⟨[.tmp 2],
  (sr [
tq 2 (.mv (.k (.d (.str []))))] [2]
(.seq (sr [
mq 4 0,
tq 5 (.nilCheck (.t 4)),
fa 6 0 5,
ld 7 6,
tq 8 (.len .slc (.t 7)),
tq 9 (.bin .eql (.t 8) (kq 0))] [4,5,6,7,8]
(.cond (.t 9) (sr [
tq 2 (.mv (.k (.d (.str []))))] []
.ret)
 .skip))
(sr [
mq 10 0,
tq 11 (.nilCheck (.t 10)),
fa 12 0 11,
ld 13 12,
tq 14 (.idxAddr 1 (.t 13) (kq 0)),
ld 15 14,
mq 3 15] [10,11,12,13,14,15]
(sr [
mq 16 0,
mq 17 0,
tq 18 (.nilCheck (.t 17)),
fa 19 0 18,
ld 20 19,
tq 21 (.slice 1 (.t 20) (some (kq 1)) none none),
tq 22 (.nilCheck (.t 16)),
fa 23 0 22,
⟨none,none,.store 1 (.t 23) (.t 21)⟩] [0,16,17,18,19,20,21,22,23]
(sr [
mq 24 3,
mq 2 24] [3,24]
.ret)))))⟩
def zi3:CF:=⟨[.tmp 4],
  (sr [
tq 4 (.mv (.k (.d (.bool false))))] [4]
(sr [
mq 5 0,
mq 6 1,
tq 7 (cl zc7 [.t 5,.t 6]),
tq 8 (.bin .geq (.t 7) (kq 0)),
mq 4 8] [0,1,5,6,7,8]
.ret))⟩
def zsg:CF:=⟨[.tmp 2],
  (sr [
tq 2 (.mv (.k (.d (.bool false))))] [2]
(sr [
mq 3 0,
tq 4 (cl zf0 [.t 3]),
tq 5 (.bin .neq (.t 4) (kq 0)),
mq 2 5] [0,3,4,5]
.ret))⟩
def zlj:CF:=⟨[.tmp 4],
  (sr [
tq 4 (.mv (.k (.d (.bool false))))] [4]
(sr [
mq 5 0,
mq 6 1,
tq 7 (cl zev [.t 5,.t 6]),
tq 8 (.bin .geq (.t 7) (kq 0)),
mq 4 8] [0,1,5,6,7,8]
.ret))⟩
def zsh:CF:=⟨[.tmp 2],
  (sr [
tq 2 (.mv (.k (.d (.bool false))))] [2]
(sr [
mq 3 0,
tq 4 (cl zh8 [.t 3,kq 0,kq 999999999]),
tq 5 (.bin .neq (.t 4) (kq 0)),
mq 2 5] [0,3,4,5]
.ret))⟩
def z0s:CF:=⟨[.tmp 6],
  (sr [
tq 6 (.mv (kq 0))] [6]
(sr [
mq 7 0,
mq 8 1,
tq 9 (.bin .lss (.t 7) (.t 8)),
mq 10 9,
gq 11 10 false (.mv (.t 0)),
gq 12 10 false (.mv (.t 2)),
gq 13 10 false (.bin .gtr (.t 11) (.t 12)),
tq 14 (.pick (.t 10) (.k (.d (.bool true))) (.t 13)),
tq 15 (cl zal [.t 14,kq 3]),
mq 6 15] [0,1,2,7,8,9,10,11,12,13,14,15]
.ret))⟩
def zl1:CF:=⟨[.tmp 2],
  (sr [
tq 2 (.ownNil ⟨false,zab,1,16⟩)] [2]
(.seq (sr [
mq 3 0,
tq 4 (.nilEq 2 false (.t 3))] [3]
(.cond (.t 4) (sr [
tq 2 (.ownNil ⟨false,zab,1,16⟩)] []
.ret)
 .skip))
(sr [
tq 5 (.mkRow ⟨false,zab,1,16⟩ 0 []),
mq 6 0,
tq 7 (.append ⟨false,zab,1,16⟩ (.t 5) (.t 6)),
mq 2 7] [0,5,6,7]
.ret)))⟩
def zqw:CF:=⟨[.tmp 2],
  (sr [
tq 2 (.ownNil ⟨false,za6,1,8⟩)] [2]
(.seq (sr [
mq 3 0,
tq 4 (.nilEq 2 false (.t 3))] [3]
(.cond (.t 4) (sr [
tq 2 (.ownNil ⟨false,za6,1,8⟩)] []
.ret)
 .skip))
(sr [
tq 5 (.mkRow ⟨false,za6,1,8⟩ 0 []),
mq 6 0,
tq 7 (.append ⟨false,za6,1,8⟩ (.t 5) (.t 6)),
mq 2 7] [0,5,6,7]
.ret)))⟩
def z5j:CF:=⟨[.tmp 2],
  (sr [
tq 2 (.mv (.k (.d (.str []))))] [2]
(sr [
mq 3 0,
mq 4 0,
tq 5 (.bin .add (.t 4) (kq 1)),
tq 6 (.sliceS (.k (.d (.str [48,49,50,51,52,53,54,55,56,57]))) (some (.t 3)) (some (.t 5))),
mq 2 6] [0,3,4,5,6]
.ret))⟩
def zyx:C:=
  (.seq (sr [
mq 6 5,
mq 7 1,
tq 8 (.bin .lss (.t 6) (.t 7))] [6,7]
(.cond (.t 8) .skip
 (.exit 0)))
(.seq (.block 1 (rg [
mq 11 0,
tq 12 (.bin .quo (.t 11) (kq 2)),
mq 0 12] [11,12]))
(rg [
mq 9 5,
tq 10 (.bin .add (.t 9) (kq 1)),
mq 5 10] [9,10])))
def z2u:CF:=⟨[.tmp 4],
  (sr [
tq 4 (.mv (.k (.d (.bool false))))] [4]
(.seq (sr [
tq 5 (.mv (kq 0))] []
(.block 0 (.loop [0,1,5] zyx)))
(sr [
mq 13 0,
tq 14 (.bin .rem (.t 13) (kq 2)),
tq 15 (.bin .eql (.t 14) (kq 1)),
mq 4 15] [0,13,14,15]
.ret)))⟩
def z0u:CF:=⟨[.tmp 2],
  (sr [
tq 2 (.mv (kq 0))] [2]
(sr [
mq 3 0,
tq 4 (.bin .add (.t 3) (kq 5)),
tq 5 (.bin .rem (.t 4) (kq 7)),
mq 2 5] [0,3,4,5]
.ret))⟩
def zr3:CF:=⟨[.tmp 2],
  (sr [
tq 2 (.ownNil ⟨true,zab,1,16⟩)] [2]
(sr [
mq 4 0,
tq 5 (.call true false (.k (.fn zd8 [] [])) [.t 4]),
mq 3 5] [0,4,5]
(sr [
mq 6 3,
tq 7 (.callB true (.k (.fn n_slices_Sort_Lstring_string [] [])) [.t 6] 6)] [6,7]
(sr [
mq 8 3,
mq 2 8] [3,8]
.ret))))⟩
def zh0:CF:=⟨[.tmp 2],
  (sr [
tq 1 (.box zda (.t 0)),
tq 2 (.mv (.k (.d (.nilf))))] [0,2]
(sr [
tq 3 (.mkFunc zag [] [.t 1]),
mq 2 3] [1,3]
.ret))⟩
def zuj:C:=
  (sr [
tq 16 (.nextS (.t 15)),
xq 17 16 0] []
(.seq (.cond (.t 17) .skip
 (.exit 0))
(.block 1 (sr [
xq 18 16 1,
xq 19 16 2,
mq 3 18,
mq 4 19] [16,18,19]
(sr [
mq 20 4,
tq 21 (.bin .geq (.t 20) (.k (.d (.int .i32 65)))),
mq 22 21,
gq 23 22 true (.mv (.t 4)),
gq 24 22 true (.bin .leq (.t 23) (.k (.d (.int .i32 90)))),
tq 25 (.pick (.t 22) (.t 24) (.k (.d (.bool false)))),
mq 26 25,
gq 27 26 false (.mv (.t 4)),
gq 28 26 false (.bin .geq (.t 27) (.k (.d (.int .i32 97)))),
gq 29 26 false (.mv (.t 28)),
gq 30 29 true (.mv (.t 4)),
gq 31 29 true (.bin .leq (.t 30) (.k (.d (.int .i32 122)))),
gq 32 26 false (.pick (.t 29) (.t 31) (.k (.d (.bool false)))),
tq 33 (.pick (.t 26) (.k (.d (.bool true))) (.t 32)),
mq 5 33] [20,21,22,23,24,25,26,27,28,29,30,31,32,33]
(sr [
mq 34 5,
tq 35 (.un .not (.t 34)),
mq 36 35,
gq 37 36 true (.mv (.t 3)),
gq 38 36 true (.bin .eql (.t 37) (kq 0)),
gq 39 36 true (.mv (.t 38)),
gq 40 39 false (.mv (.t 4)),
gq 41 39 false (.bin .neq (.t 40) (.k (.d (.int .i32 95)))),
gq 42 39 false (.mv (.t 41)),
gq 43 42 true (.mv (.t 4)),
gq 44 42 true (.bin .lss (.t 43) (.k (.d (.int .i32 48)))),
gq 45 42 true (.mv (.t 44)),
gq 46 45 false (.mv (.t 4)),
gq 47 45 false (.bin .gtr (.t 46) (.k (.d (.int .i32 57)))),
gq 48 42 true (.pick (.t 45) (.k (.d (.bool true))) (.t 47)),
gq 49 39 false (.pick (.t 42) (.t 48) (.k (.d (.bool false)))),
gq 50 36 true (.pick (.t 39) (.k (.d (.bool true))) (.t 49)),
tq 51 (.pick (.t 36) (.t 50) (.k (.d (.bool false))))] [3,4,5,34,35,36,37,38,39,40,41,42,43,44,45,46,47,48,49,50]
(.cond (.t 51) (sr [
tq 2 (.mv (.k (.d (.bool false))))] []
.ret)
 .skip)))))))
def zxj:CF:=⟨[.tmp 2],
  (sr [
tq 2 (.mv (.k (.d (.bool false))))] [2]
(.seq (sr [
mq 6 0,
tq 7 (.len .str (.t 6)),
tq 8 (.bin .eql (.t 7) (kq 0)),
mq 9 8,
gq 10 9 false (.mv (.t 0)),
gq 11 9 false (.len .str (.t 10)),
gq 12 9 false (.bin .gtr (.t 11) (kq 24)),
tq 13 (.pick (.t 9) (.k (.d (.bool true))) (.t 12))] [6,7,8,9,10,11,12]
(.cond (.t 13) (sr [
tq 2 (.mv (.k (.d (.bool false))))] []
.ret)
 .skip))
(.seq (sr [
mq 14 0,
tq 15 (.rangeS (.t 14))] [0,14]
(.block 0 (.loop [15] zuj)))
(sr [
tq 2 (.mv (.k (.d (.bool true))))] []
.ret))))⟩
def zgk:CF:=⟨[.tmp 2],
  (sr [
tq 1 (.box zjj (.t 0)),
tq 2 (.mv (.k (.d (.nilf))))] [0,2]
(sr [
tq 3 (.mkFunc zak [] [.t 1]),
mq 2 3] [1,3]
.ret))⟩
def zpy:CF:=⟨[.tmp 6],
  (sr [
tq 3 (.box zbs (.t 0)),
tq 4 (.box zac (.t 1)),
tq 5 (.box za6 (.t 2)),
tq 6 (.mv (.k (.d (.bool false))))] [0,1,2,6]
(sr [
ld 8 3,
lq 9 8 4,
tq 10 (.call true true (.k (.fn zd7 [] [])) [.t 8,.t 9]),
tq 11 (.mkFunc zcj [] [.t 3,.t 5]),
tq 12 (.call true true (.k (.fn zav [] [])) [.t 10,.t 11]),
mq 7 12] [3,8,9,10,11,12]
(sr [
fa 13 4 4,
ld 14 13,
ld 15 5,
tq 16 (.bin .leq (.t 14) (.t 15)),
mq 17 16,
gq 18 17 true (.mv (.t 7)),
gq 19 17 true (.un .not (.t 18)),
tq 20 (.pick (.t 17) (.t 19) (.k (.d (.bool false)))),
mq 6 20] [4,5,7,13,14,15,16,17,18,19,20]
.ret)))⟩
def zvr:C:=
  (sr [
tq 8 (.bin .lss (.t 7) (.t 6))] []
(.seq (.cond (.t 8) .skip
 (.exit 0))
(.seq (.block 1 (sr [
tq 9 (.idxAddr 1 (.t 5) (.t 7)),
ld 10 9,
mq 4 10] [9,10]
(sr [
mq 11 4,
tq 12 (.bin .neq (.t 11) (kq 0))] [11]
(.cond (.t 12) (sr [
mq 13 4,
mq 2 13] [4,13]
.ret)
 .skip))))
(rg [
tq 14 (.bin .add (.t 7) (kq 1)),
mq 7 14] [14]))))
def zy6:CF:=⟨[.tmp 2],
  (sr [
tq 2 (.mv (kq 0))] [2]
(.seq (sr [
mq 5 0,
tq 6 (.len .slc (.t 5)),
tq 7 (.mv (kq 0))] [0]
(.block 0 (.loop [5,6,7] zvr)))
(sr [
tq 2 (.mv (kq 0))] []
.ret)))⟩
def zur:CF:=⟨[.tmp 2],
  (sr [
tq 2 (.mv (kq 0))] [2]
(sr [
mq 3 0,
tq 4 (cl zij [.t 3,kq 0,kq 99999]),
mq 2 4] [0,3,4]
.ret))⟩
def z0l:CF:=⟨[.tmp 4],
  (sr [
tq 4 (.mv (kq 0))] [4]
(.seq (sr [
mq 5 0] [0]
(.cond (.t 5) (sr [
mq 6 1,
mq 4 6] [1,6]
.ret)
 .skip))
(sr [
tq 4 (.mv (kq 0))] []
.ret)))⟩
def zxm:CF:=⟨[.tmp 6],
  (sr [
tq 6 (.mv (kq 0))] [6]
(sr [
mq 7 0,
mq 8 1,
tq 9 (.bin .lss (.t 7) (.t 8)),
mq 10 9,
gq 11 10 false (.mv (.t 0)),
gq 12 10 false (.mv (.t 2)),
gq 13 10 false (.bin .gtr (.t 11) (.t 12)),
tq 14 (.pick (.t 10) (.k (.d (.bool true))) (.t 13)),
tq 15 (cl zh6 [.t 14,kq 3]),
mq 6 15] [0,1,2,7,8,9,10,11,12,13,14,15]
.ret))⟩
def zn7:C:=
  (rg [
mq 6 8] [8])
def zn8:C:=
  (.block 1 (sr [
ld 9 3,
mq 10 6,
tq 11 (.call true true (.t 9) [.t 10])] [3,9,10]
(.cond (.t 11) (rg [
ld 12 5,
mq 13 6,
tq 14 (.mkList 1 1 [.t 13]),
tq 15 (.append ⟨false,za6,1,8⟩ (.t 12) (.t 14)),
⟨none,none,.store 1 (.t 5) (.t 15)⟩] [5,6,12,13,14,15])
 .skip)))
def zpx:CF:=⟨[.tmp 4],
  (sr [
tq 3 (.box zrp (.t 1)),
tq 4 (.ownNil ⟨false,za6,1,8⟩)] [1]
(sr [
tq 5 (.alloc z64 [.own ⟨false,za6,1,8⟩])] []
(.seq (sr [
mq 7 0] [0]
(.block 0 (.rangeFn 18 (.t 7) [8] zn7 zn8)))
(sr [
ld 16 5,
mq 4 16] [5,16]
.ret))))⟩
def zxk:CF:=⟨[.tmp 2],
  (sr [
tq 1 (.box za8 (.t 0)),
tq 2 (.mv (.k (.d (.nilf))))] [0,2]
(sr [
tq 3 (.mkFunc zes [] [.t 1]),
mq 2 3] [1,3]
.ret))⟩
def zuq:CF:=⟨[.tmp 2],
  (sr [
tq 2 (.mv (.k (.d (.bool false))))] [2]
(sr [
tq 2 (.mv (.k (.d (.bool true))))] []
.ret))⟩
def zvs:C:=
  (sr [
tq 8 (.bin .lss (.t 7) (.t 6))] []
(.seq (.cond (.t 8) .skip
 (.exit 0))
(.seq (.block 1 (sr [
tq 9 (.idxAddr 1 (.t 5) (.t 7)),
ld 10 9,
mq 4 10] [9,10]
(sr [
mq 11 4,
tq 12 (.bin .neq (.t 11) (kq 0))] [11]
(.cond (.t 12) (sr [
mq 13 4,
mq 2 13] [4,13]
.ret)
 .skip))))
(rg [
tq 14 (.bin .add (.t 7) (kq 1)),
mq 7 14] [14]))))
def zy7:CF:=⟨[.tmp 2],
  (sr [
tq 2 (.mv (kq 0))] [2]
(.seq (sr [
mq 5 0,
tq 6 (.len .slc (.t 5)),
tq 7 (.mv (kq 0))] [0]
(.block 0 (.loop [5,6,7] zvs)))
(sr [
tq 2 (.mv (kq 0))] []
.ret)))⟩
def zrx:CF:=⟨[.tmp 2],
  (sr [
tq 1 (.box zch (.t 0)),
tq 2 (.mv (kq 0))] [0,2]
(.seq (.reg true [
tq 6 (.callN (.k (.fn zrl [] [])) []),
fa 7 1 1,
ld 8 7,
tq 9 (.lookup .str (.agg [.nilf]) true (.t 6) (.t 8)),
mq 5 9,
xq 10 5 0,
xq 11 5 1,
tq 3 (.alloc zzk [.z (.nilf)]),
⟨none,none,.store 1 (.t 3) (.t 10)⟩,
mq 4 11] [3,5,6,7,8,9,10,11])
(.seq (.reg true [
fa 12 0 1,
ld 13 12,
tq 14 (cl zc0 [.t 13]),
tq 15 (.un .not (.t 14)),
tq 16 (cl zc5 [.t 15,kq 8]),
mq 17 4,
tq 18 (.un .not (.t 17)),
tq 19 (cl zc5 [.t 18,kq 13]),
fa 20 2 1,
ld 21 20,
tq 22 (cl zjq [.t 21]),
fa 23 3 1,
ld 24 23,
tq 25 (cl zbt [.t 24,kq 1,kq 1440]),
fa 26 4 1,
ld 27 26,
tq 28 (cl zbt [.t 27,kq 1,kq 1440]),
fa 29 5 1,
ld 30 29,
tq 31 (cl zbt [.t 30,kq 0,kq 1439]),
fa 32 6 1,
ld 33 32,
tq 34 (cl zbt [.t 33,kq 0,kq 1439]),
fa 35 5 1,
ld 36 35,
fa 37 6 1,
ld 38 37,
tq 39 (.bin .gtr (.t 36) (.t 38)),
tq 40 (cl zc5 [.t 39,kq 11]),
fa 41 7 1,
lq 42 3 41,
tq 43 (cl zb5 [.t 42]),
fa 44 10 1,
ld 45 44,
tq 46 (cl zbt [.t 45,kq 0,kq 999999999]),
tq 47 (.mkList 1 10 [.t 16,.t 19,.t 22,.t 25,.t 28,.t 31,.t 34,.t 40,.t 43,.t 46]),
tq 48 (cl zfa [.t 47]),
mq 2 48] [1,4,12,13,14,15,16,17,18,19,20,21,22,23,24,25,26,27,28,29,30,31,32,33,34,35,36,37,38,39,40,41,42,43,44,45,46,47,48])
.ret)))⟩
def z0n:CF:=⟨[.tmp 4],
  (sr [
tq 4 (.mv (kq 0))] [4]
(.seq (sr [
mq 5 0] [0]
(.cond (.t 5) (sr [
mq 6 1,
mq 4 6] [1,6]
.ret)
 .skip))
(sr [
tq 4 (.mv (kq 0))] []
.ret)))⟩
def zy9:CF:=⟨[.tmp 4],
  (sr [
tq 3 (.box zab (.t 1)),
tq 4 (.mv (kq 0))] [1,4]
(sr [
mq 5 0,
tq 6 (.mkFunc zos [] [.t 3]),
tq 7 (.call true true (.k (.fn zcl [] [])) [.t 5,.t 6]),
mq 4 7] [0,3,5,6,7]
.ret))⟩
def zse:CF:=⟨[.tmp 2],
  (sr [
tq 1 (.box zbk (.t 0)),
tq 2 (.mv (kq 0))] [0,2]
(sr [
fa 7 0 1,
lq 8 13 7,
tq 3 (.alloc zea [.z (.str []),.z (.str []),.z (.str []),.z (.str []),.z (.str []),.z (.str []),.z (.int .i64 0),.z (.int .i64 0),.z (.int .i64 0),.z (.int .i64 0),.z (.int .i64 0),.z (.int .i64 0),.z (.int .i64 0)]),
⟨none,none,.store 13 (.t 3) (.t 8)⟩] [7,8]
(sr [
lq 10 13 3,
tq 11 (cl zi1 [.t 10]),
mq 9 11,
xq 12 9 0,
xq 13 9 1,
mq 4 12,
mq 5 13] [4,9,10,11,12,13]
(sr [
tq 6 (.mv (.k (.fn zkd [] [])))] []
(.seq (.reg true [
mq 14 5,
fa 15 1 3,
ld 16 15,
tq 17 (cl zc0 [.t 16]),
tq 18 (.un .not (.t 17)),
mq 19 18,
gq 20 19 false (.mv (.t 6)),
gq 21 19 false (.fieldAddr 4 (.t 3)),
gq 22 19 false (.load none (.t 21)),
gq 23 19 false (.callR true (.t 20) [.t 22] [1,3]),
tq 24 (.pick (.t 19) (.k (.d (.bool true))) (.t 23)),
mq 25 24,
gq 26 25 false (.mv (.t 6)),
gq 27 25 false (.fieldAddr 5 (.t 3)),
gq 28 25 false (.load none (.t 27)),
gq 29 25 false (.callR true (.t 26) [.t 28] [1,3]),
tq 30 (.pick (.t 25) (.k (.d (.bool true))) (.t 29)),
tq 31 (cl zeq [.t 30,kq 8]),
fa 32 13 1,
ld 33 32,
tq 34 (cl zee [.t 33,kq 0,kq 1439]),
fa 35 14 1,
ld 36 35,
tq 37 (cl zee [.t 36,kq 0,kq 1439]),
fa 38 13 1,
ld 39 38,
fa 40 9 3,
ld 41 40,
tq 42 (.bin .gtr (.t 39) (.t 41)),
mq 43 42,
gq 44 43 false (.fieldAddr 14 (.t 1)),
gq 45 43 false (.load none (.t 44)),
gq 46 43 false (.fieldAddr 9 (.t 3)),
gq 47 43 false (.load none (.t 46)),
gq 48 43 false (.bin .lss (.t 45) (.t 47)),
tq 49 (.pick (.t 43) (.k (.d (.bool true))) (.t 48)),
tq 50 (cl zeq [.t 49,kq 11]),
fa 51 15 1,
ld 52 51,
tq 53 (cl zee [.t 52,kq 1,kq 120]),
tq 54 (.mkList 1 6 [.t 14,.t 31,.t 34,.t 37,.t 50,.t 53]),
tq 55 (cl zg9 [.t 54]),
mq 5 55] [6,14,15,16,17,18,19,20,21,22,23,24,25,26,27,28,29,30,31,32,33,34,35,36,37,38,39,40,41,42,43,44,45,46,47,48,49,50,51,52,53,54,55])
(.seq (sr [
mq 56 5,
tq 57 (.bin .neq (.t 56) (kq 0))] [56]
(.cond (.t 57) (sr [
mq 58 5,
mq 2 58] [5,58]
.ret)
 .skip))
(.seq (.reg true [
fa 59 9 3,
ld 60 59,
fa 61 13 1,
ld 62 61,
tq 63 (.bin .sub (.t 60) (.t 62)),
fa 64 15 1,
ld 65 64,
tq 66 (.bin .quo (.t 63) (.t 65)),
fa 67 14 1,
ld 68 67,
fa 69 9 3,
ld 70 69,
tq 71 (.bin .sub (.t 68) (.t 70)),
fa 72 15 1,
ld 73 72,
tq 74 (.bin .quo (.t 71) (.t 73)),
tq 75 (.bin .add (.t 66) (.t 74)),
tq 76 (.bin .add (.t 75) (kq 1)),
tq 77 (.bin .gtr (.t 76) (kq 96)),
tq 78 (cl zeq [.t 77,kq 22]),
fa 79 16 1,
ld 80 79,
tq 81 (cl zee [.t 80,kq 0,kq 1440]),
fa 82 17 1,
ld 83 82,
tq 84 (cl zee [.t 83,kq 0,kq 1440]),
fa 85 16 1,
ld 86 85,
fa 87 17 1,
ld 88 87,
tq 89 (.bin .gtr (.t 86) (.t 88)),
tq 90 (cl zeq [.t 89,kq 11]),
tq 91 (.mkList 1 4 [.t 78,.t 81,.t 84,.t 90]),
tq 92 (cl zg9 [.t 91]),
mq 2 92] [1,3,59,60,61,62,63,64,65,66,67,68,69,70,71,72,73,74,75,76,77,78,79,80,81,82,83,84,85,86,87,88,89,90,91,92])
.ret)))))))⟩
def z0k:CF:=⟨[.tmp 4],
  (sr [
tq 4 (.mv (kq 0))] [4]
(.seq (sr [
mq 5 0] [0]
(.cond (.t 5) (sr [
mq 6 1,
mq 4 6] [1,6]
.ret)
 .skip))
(sr [
tq 4 (.mv (kq 0))] []
.ret)))⟩
def zy4:CF:=⟨[.tmp 4],
  (sr [
tq 3 (.box zab (.t 1)),
tq 4 (.mv (kq 0))] [1,4]
(sr [
mq 5 0,
tq 6 (.mkFunc zon [] [.t 3]),
tq 7 (.call true true (.k (.fn zcw [] [])) [.t 5,.t 6]),
mq 4 7] [0,3,5,6,7]
.ret))⟩
def ze3:C:=
  (sr [
tq 11 (.bin .lss (.t 10) (.t 9))] []
(.seq (.cond (.t 11) .skip
 (.exit 0))
(.seq (.block 1 (sr [
tq 12 (.idxAddr 18 (.t 8) (.t 10)),
lq 13 18 12,
tq 7 (.alloc zbk [.z (.str []),.z (.str []),.z (.str []),.z (.str []),.z (.str []),.z (.str []),.z (.int .i64 0),.z (.int .i64 0),.z (.int .i64 0),.z (.int .i64 0),.z (.int .i64 0),.z (.int .i64 0),.z (.int .i64 0),.z (.int .i64 0),.z (.int .i64 0),.z (.int .i64 0),.z (.int .i64 0),.z (.int .i64 0)]),
⟨none,none,.store 18 (.t 7) (.t 13)⟩] [12,13]
(rg [
mq 14 5,
mq 15 1,
lq 16 18 7,
tq 17 (.call true true (.t 15) [.t 16]),
tq 18 (.mkList 3 1 [.t 17]),
tq 19 (.append ⟨true,zcp,3,32⟩ (.t 14) (.t 18)),
mq 5 19] [7,14,15,16,17,18,19])))
(rg [
tq 20 (.bin .add (.t 10) (kq 1)),
mq 10 20] [20]))))
def zfv:CF:=⟨[.tmp 4],
  (sr [
tq 4 (.ownNil ⟨true,zcp,3,32⟩)] [4]
(sr [
tq 5 (.ownNil ⟨true,zcp,3,32⟩)] []
(.seq (sr [
mq 8 0,
tq 9 (.len .slc (.t 8)),
tq 10 (.mv (kq 0))] [0]
(.block 0 (.loop [1,5,8,9,10] ze3)))
(sr [
mq 21 5,
mq 4 21] [5,21]
.ret))))⟩
def ztm:CF:=⟨[.cell 2 (some 3)],
  (sr [
tq 1 (.box zbk (.t 0)),
tq 2 (.alloc zcp [.z (.str []),.z (.int .i64 0),.z (.bool false)])] [0]
(sr [
fa 3 0 1,
fa 4 0 3,
ld 5 4,
tq 6 (.build [.z (.str []),.z (.int .i64 0),.z (.bool false)] [(0,1,.t 5)]),
⟨none,none,.store 3 (.t 2) (.t 6)⟩] [1,3,4,5,6]
.ret))⟩
def zrr:C:=
  (sr [
tq 13 (.bin .lss (.t 12) (.t 11))] []
(.seq (.cond (.t 13) .skip
 (.exit 0))
(.seq (.block 1 (sr [
tq 14 (.idxAddr 2 (.t 10) (.t 12)),
lq 15 2 14,
tq 7 (.alloc zbc [.z (.int .i64 0),.z (.int .i64 0)]),
⟨none,none,.store 2 (.t 7) (.t 15)⟩] [14,15]
(rg [
mq 16 0,
tq 17 (.nilCheck (.t 16)),
fa 18 1 17,
ld 19 18,
lq 20 2 7,
tq 21 (.lookup (.rc [false,false]) (.int .i64 0) false (.t 19) (.t 20)),
mq 22 2,
tq 23 (.bin .add (.t 21) (.t 22)),
⟨none,none,.mapSet (.rc [false,false]) (.t 19) (.t 20) (.t 23)⟩] [7,16,17,18,19,20,21,22,23,24,25])))
(rg [
tq 26 (.bin .add (.t 12) (kq 1)),
mq 12 26] [26]))))
def ztl:CF:=⟨[],
  (sr [
tq 4 (.box zbx (.t 1))] [1]
(sr [
mq 8 0,
lq 9 7 4,
tq 10 (.call true true (.k (.fn zgw [] [])) [.t 8,.t 9]),
tq 11 (.len .slc (.t 10)),
tq 12 (.mv (kq 0))] [4,8,9]
(.block 0 (.loop [0,2,10,11,12] zrr))))⟩
def zo1:C:=
  (sr [
tq 69 (.bin .lss (.t 68) (.t 67))] []
(.seq (.cond (.t 69) .skip
 (.exit 4))
(.seq (.block 5 (sr [
tq 70 (.idxAddr 1 (.t 66) (.t 68)),
ld 71 70,
mq 14 71] [70,71]
(sr [
mq 72 14,
fa 73 0 3,
ld 74 73,
tq 75 (.bin .leq (.t 72) (.t 74)),
mq 76 75,
gq 77 76 true (.fieldAddr 0 (.t 3)),
gq 78 76 true (.load none (.t 77)),
gq 79 76 true (.mv (.t 14)),
gq 80 76 true (.fieldAddr 3 (.t 7)),
gq 81 76 true (.load none (.t 80)),
gq 82 76 true (.bin .add (.t 79) (.t 81)),
gq 83 76 true (.bin .lss (.t 78) (.t 82)),
tq 84 (.pick (.t 76) (.t 83) (.k (.d (.bool false))))] [72,73,74,75,76,77,78,79,80,81,82,83]
(.cond (.t 84) (rg [
mq 85 5,
mq 86 6,
mq 87 14,
tq 88 (.build [.z (.int .i64 0),.z (.int .i64 0)] [(0,1,.t 86),(1,1,.t 87)]),
tq 89 (.mkList 2 1 [.t 88]),
tq 90 (.append ⟨false,zbc,2,16⟩ (.t 85) (.t 89)),
mq 5 90] [14,85,86,87,88,89,90])
 .skip))))
(rg [
tq 91 (.bin .add (.t 68) (kq 1)),
mq 68 91] [91]))))
def zo2:C:=
  (sr [
tq 38 (.bin .lss (.t 37) (kq 2))] []
(.seq (.cond (.t 38) .skip
 (.exit 2))
(.seq (.block 3 (sr [
tq 39 (.idxA 2 1 none (.t 36) (.t 37)),
mq 9 39] [39]
(sr [
mq 40 6,
mq 41 9,
tq 42 (.build [.z (.int .i64 0),.z (.int .i64 0)] [(0,1,.t 40),(1,1,.t 41)]),
tq 10 (.alloc zbc [.z (.int .i64 0),.z (.int .i64 0)]),
⟨none,none,.store 2 (.t 10) (.t 42)⟩] [40,41,42]
(.seq (.reg true [
mq 44 0,
tq 45 (.nilCheck (.t 44)),
fa 46 2 45,
ld 47 46,
lq 48 2 10,
tq 49 (.lookup (.rc [false,false]) (.list 0 []) true (.t 47) (.t 48)),
mq 43 49,
xq 50 43 0,
xq 51 43 1,
mq 11 50,
mq 12 51] [43,44,45,46,47,48,49,50,51])
(.seq (sr [
mq 52 12,
tq 53 (.un .not (.t 52))] [12,52]
(.cond (.t 53) (sr [
lq 55 11 7,
mq 56 9,
tq 57 (cl zp8 [.t 55,.t 56]),
mq 54 57,
xq 58 54 0,
xq 59 54 1,
mq 11 58] [9,54,55,56,57,58,59]
(.reg true [
mq 60 0,
tq 61 (.nilCheck (.t 60)),
fa 62 2 61,
ld 63 62,
lq 64 2 10,
mq 65 11,
⟨none,none,.mapSet (.rc [false,false]) (.t 63) (.t 64) (.t 65)⟩] [10,60,61,62,63,64,65]))
 .skip))
(sr [
mq 66 11,
tq 67 (.len .slc (.t 66)),
tq 68 (.mv (kq 0))] [11]
(.block 4 (.loop [0,3,5,6,7,18,19,20,36,37,66,67,68] zo1))))))))
(rg [
tq 92 (.bin .add (.t 37) (kq 1)),
mq 37 92] [92]))))
def zo3:C:=
  (sr [
tq 21 (.bin .lss (.t 20) (.t 19))] []
(.seq (.cond (.t 21) .skip
 (.exit 0))
(.seq (.block 1 (sr [
mq 22 20,
tq 23 (.idxAddr 11 (.t 18) (.t 20)),
lq 24 11 23,
tq 7 (.alloc zch [.z (.str []),.z (.str []),.z (.str []),.z (.int .i64 0),.z (.int .i64 0),.z (.int .i64 0),.z (.int .i64 0),.z (.int .i64 0),.z (.int .i64 0),.z (.int .i64 0),.z (.int .i64 0)]),
mq 6 22,
⟨none,none,.store 11 (.t 7) (.t 24)⟩] [22,23,24]
(.seq (sr [
lq 25 11 7,
lq 26 7 3,
tq 27 (cl zom [.t 25,.t 26]),
tq 28 (.un .not (.t 27))] [25,26,27]
(.cond (.t 28) (.exit 1)
 .skip))
(sr [
fa 29 0 3,
ld 30 29,
tq 31 (.bin .quo (.t 30) (kq 1440)),
tq 32 (.bin .sub (.t 31) (kq 1)),
fa 33 0 3,
ld 34 33,
tq 35 (.bin .quo (.t 34) (kq 1440)),
tq 36 (.build [.z (.int .i64 0),.z (.int .i64 0)] [(0,1,.t 32),(1,1,.t 35)]),
tq 37 (.mv (kq 0))] [29,30,31,32,33,34,35]
(.block 2 (.loop [0,3,5,6,7,18,19,20,36,37] zo2))))))
(rg [
tq 93 (.bin .add (.t 20) (kq 1)),
mq 20 93] [93]))))
def zqn:CF:=⟨[.tmp 4],
  (sr [
tq 3 (.box zbx (.t 1)),
tq 4 (.ownNil ⟨false,zbc,2,16⟩)] [1,4]
(sr [
tq 5 (.ownNil ⟨false,zbc,2,16⟩)] []
(.seq (sr [
mq 15 0,
tq 16 (.nilCheck (.t 15)),
fa 17 0 16,
ld 18 17,
tq 19 (.len .slc (.t 18)),
tq 20 (.mv (kq 0))] [15,16,17]
(.block 0 (.loop [0,3,5,18,19,20] zo3)))
(sr [
mq 94 5,
mq 4 94] [5,94]
.ret))))⟩
def ze0:CF:=⟨[],
  (sr [
mq 5 0,
tq 6 (.len .slc (.t 5)),
mq 4 6] [5,6]
(rg [
mq 7 0,
mq 8 4,
mq 9 4,
tq 10 (.conv .u64 (.t 9)),
tq 11 (cl znz [.t 10]),
mq 12 1,
tq 13 (.call true true (.k (.fn zbo [] [])) [.t 7,kq 0,.t 8,.t 11,.t 12])] [0,1,4,7,8,9,10,11,12,13]))⟩
def zni:CF:=⟨[.tmp 4],
  (sr [
tq 2 (.box zbc (.t 0)),
tq 3 (.box zbc (.t 1)),
tq 4 (.mv (kq 0))] [0,1,4]
(.seq (.reg true [
fa 5 0 2,
ld 6 5,
fa 7 0 3,
ld 8 7,
tq 9 (cl zef [.t 6,.t 8]),
fa 10 1 2,
ld 11 10,
fa 12 1 3,
ld 13 12,
tq 14 (cl zef [.t 11,.t 13]),
tq 15 (.mkList 1 2 [.t 9,.t 14]),
tq 16 (cl zss [.t 15]),
mq 4 16] [2,3,5,6,7,8,9,10,11,12,13,14,15,16])
.ret))⟩
def z2k:C:=
  (sr [
tq 9 (.bin .lss (.t 8) (.t 7))] []
(.seq (.cond (.t 9) .skip
 (.exit 0))
(.seq (.block 1 (sr [
tq 10 (.idxAddr 1 (.t 6) (.t 8)),
ld 11 10,
mq 5 11] [10,11]
(sr [
mq 12 5,
mq 13 3,
tq 14 (.bin .neq (.t 12) (.t 13))] [12,13]
(.cond (.t 14) (sr [
mq 15 5,
mq 2 15] [5,15]
.ret)
 .skip))))
(rg [
tq 16 (.bin .add (.t 8) (kq 1)),
mq 8 16] [16]))))
def z7e:CF:=⟨[.tmp 2],
  (sr [
tq 2 (.mv (kq 0))] [2]
(sr [
tq 3 (.mv (kq 0))] []
(.seq (sr [
mq 6 0,
tq 7 (.len .slc (.t 6)),
tq 8 (.mv (kq 0))] [0]
(.block 0 (.loop [3,6,7,8] z2k)))
(sr [
mq 17 3,
mq 2 17] [3,17]
.ret))))⟩
def zxq:CF:=⟨[.tmp 4],
  (sr [
tq 4 (.mv (kq 0))] [4]
(sr [
mq 7 0,
tq 8 (cl zny [.t 7]),
mq 5 8] [7,8]
(sr [
mq 9 1,
tq 10 (cl zny [.t 9]),
mq 6 10] [9,10]
(.seq (sr [
mq 11 5] [5]
(.cond (.t 11) (.seq (sr [
mq 12 6] [6]
(.cond (.t 12) (sr [
tq 4 (.mv (kq 0))] []
.ret)
 .skip))
(sr [
tq 4 (.mv (kq (-1)))] []
.ret))
 .skip))
(.seq (sr [
mq 13 6] [6]
(.cond (.t 13) (sr [
tq 4 (.mv (kq 1))] []
.ret)
 .skip))
(.seq (sr [
mq 14 0,
mq 15 1,
tq 16 (.bin .lss (.t 14) (.t 15))] [14,15]
(.cond (.t 16) (sr [
tq 4 (.mv (kq (-1)))] []
.ret)
 .skip))
(.seq (sr [
mq 17 0,
mq 18 1,
tq 19 (.bin .gtr (.t 17) (.t 18))] [0,1,17,18]
(.cond (.t 19) (sr [
tq 4 (.mv (kq 1))] []
.ret)
 .skip))
(sr [
tq 4 (.mv (kq 0))] []
.ret))))))))⟩
def zek:C:=
  (.seq (sr [
mq 29 5,
mq 30 4,
tq 31 (.len .slc (.t 30)),
tq 32 (.bin .lss (.t 29) (.t 31))] [29,30,31]
(.cond (.t 32) .skip
 (.exit 2)))
(.seq (.block 3 (.seq (.reg true [
mq 35 4,
mq 36 5,
tq 37 (.idxAddr 2 (.t 35) (.t 36)),
lq 38 2 37,
mq 39 4,
mq 40 5,
tq 41 (.bin .sub (.t 40) (kq 1)),
tq 42 (.idxAddr 2 (.t 39) (.t 41)),
lq 43 2 42,
tq 44 (.eqv (some [.int,.int]) true (.t 38) (.t 43))] [35,36,37,38,39,40,41,42,43])
(.cond (.t 44) (sr [
mq 45 0,
mq 46 3,
mq 47 4,
mq 48 5,
tq 49 (.idxAddr 2 (.t 47) (.t 48)),
lq 50 2 49,
tq 51 (.idxAddr 2 (.t 45) (.t 46)),
⟨none,none,.store 2 (.t 51) (.t 50)⟩] [45,46,47,48,49,50,51]
(rg [
mq 52 3,
tq 53 (.bin .add (.t 52) (kq 1)),
mq 3 53] [52,53]))
 .skip)))
(rg [
mq 33 5,
tq 34 (.bin .add (.t 33) (kq 1)),
mq 5 34] [33,34])))
def zel:C:=
  (.seq (sr [
mq 10 3,
mq 11 0,
tq 12 (.len .slc (.t 11)),
tq 13 (.bin .lss (.t 10) (.t 12))] [10,11,12]
(.cond (.t 13) .skip
 (.exit 0)))
(.seq (.block 1 (.seq (.reg true [
mq 16 0,
mq 17 3,
tq 18 (.idxAddr 2 (.t 16) (.t 17)),
lq 19 2 18,
mq 20 0,
mq 21 3,
tq 22 (.bin .sub (.t 21) (kq 1)),
tq 23 (.idxAddr 2 (.t 20) (.t 22)),
lq 24 2 23,
tq 25 (.eqv (some [.int,.int]) false (.t 19) (.t 24))] [16,17,18,19,20,21,22,23,24])
(.cond (.t 25) (sr [
mq 26 0,
mq 27 3,
tq 28 (.slice 2 (.t 26) (some (.t 27)) none none),
mq 4 28] [26,27,28]
(.seq (sr [
tq 5 (.mv (kq 1))] []
(.block 2 (.loop [0,3,4,5] zek)))
(sr [
mq 54 0,
mq 55 3,
tq 56 (.slice 2 (.t 54) (some (.t 55)) none none),
⟨none,none,.clear [.int .i64 0,.int .i64 0] (.t 56)⟩] [54,55,56]
(sr [
mq 57 0,
mq 58 3,
tq 59 (.slice 2 (.t 57) none (some (.t 58)) none),
mq 2 59] [0,3,57,58,59]
.ret))))
 .skip)))
(rg [
mq 14 3,
tq 15 (.bin .add (.t 14) (kq 1)),
mq 3 15] [14,15])))
def ze6:CF:=⟨[.tmp 2],
  (sr [
tq 2 (.ownNil ⟨true,zbc,2,16⟩)] [2]
(.seq (sr [
mq 6 0,
tq 7 (.len .slc (.t 6)),
tq 8 (.bin .lss (.t 7) (kq 2))] [6,7]
(.cond (.t 8) (sr [
mq 9 0,
mq 2 9] [0,9]
.ret)
 .skip))
(.seq (sr [
tq 3 (.mv (kq 1))] []
(.block 0 (.loop [0,3] zel)))
(sr [
mq 60 0,
mq 2 60] [0,60]
.ret))))⟩
def zui:C:=
  (sr [
tq 10 (.bin .lss (.t 9) (.t 8))] []
(.seq (.cond (.t 10) .skip
 (.exit 0))
(.seq (.block 1 (sr [
mq 11 9,
tq 12 (.idxAddr 18 (.t 7) (.t 9)),
lq 13 18 12,
tq 5 (.alloc zbk [.z (.str []),.z (.str []),.z (.str []),.z (.str []),.z (.str []),.z (.str []),.z (.int .i64 0),.z (.int .i64 0),.z (.int .i64 0),.z (.int .i64 0),.z (.int .i64 0),.z (.int .i64 0),.z (.int .i64 0),.z (.int .i64 0),.z (.int .i64 0),.z (.int .i64 0),.z (.int .i64 0),.z (.int .i64 0)]),
mq 4 11,
⟨none,none,.store 18 (.t 5) (.t 13)⟩] [11,12,13]
(rg [
ld 14 3,
fa 15 0 5,
fa 16 0 15,
ld 17 16,
mq 18 4,
⟨none,none,.mapSet .str (.t 14) (.t 17) (.t 18)⟩] [4,5,14,15,16,17,18])))
(rg [
tq 19 (.bin .add (.t 9) (kq 1)),
mq 9 19] [19]))))
def zxg:CF:=⟨[.tmp 2],
  (sr [
tq 2 (.mv (.k (.d (.list 0 []))))] [2]
(sr [
tq 6 (.mkMap),
tq 3 (.alloc zyi [.z (.nilm)]),
⟨none,none,.store 1 (.t 3) (.t 6)⟩] [6]
(.seq (sr [
mq 7 0,
tq 8 (.len .slc (.t 7)),
tq 9 (.mv (kq 0))] []
(.block 0 (.loop [0,3,7,8,9] zui)))
(sr [
mq 20 0,
tq 21 (.mkFunc znv [] [.t 3]),
tq 22 (.call true true (.k (.fn zep [] [])) [.t 20,.t 21]),
mq 2 22] [0,3,20,21,22]
.ret))))⟩
def zti:C:=
  (sr [
tq 8 (.bin .lss (.t 7) (.t 6))] []
(.seq (.cond (.t 8) .skip
 (.exit 0))
(.seq (.block 1 (sr [
mq 9 7,
tq 10 (.idxAddr 1 (.t 5) (.t 7)),
ld 11 10,
mq 3 9,
mq 4 11] [9,10,11]
(sr [
mq 12 4,
tq 13 (.bin .lss (.t 12) (kq 0)),
mq 14 13,
gq 15 14 false (.mv (.t 3)),
gq 16 14 false (.mv (.t 4)),
gq 17 14 false (.bin .lss (.t 15) (.t 16)),
tq 18 (.pick (.t 14) (.k (.d (.bool true))) (.t 17)),
mq 19 18,
gq 20 19 true (.mv (.t 0)),
gq 21 19 true (.mv (.t 3)),
gq 22 19 true (.mv (.t 4)),
gq 23 19 true (.build [.z (.int .i64 0),.z (.int .i64 0)] [(0,1,.t 21),(1,1,.t 22)]),
gq 24 19 true (.call true true (.t 20) [.t 23]),
gq 25 19 true (.un .not (.t 24)),
tq 26 (.pick (.t 19) (.t 25) (.k (.d (.bool false))))] [3,4,12,13,14,15,16,17,18,19,20,21,22,23,24,25]
(.cond (.t 26) .ret
 .skip))))
(rg [
tq 27 (.bin .add (.t 7) (kq 1)),
mq 7 27] [27]))))
def zv0:CF:=⟨[],
  (sr [
ld 5 1,
tq 6 (.len .slc (.t 5)),
tq 7 (.mv (kq 0))] [1]
(.block 0 (.loop [0,5,6,7] zti)))⟩
def zhz:C:=
  (sr [
tq 11 (.bin .lss (.t 10) (.t 9))] []
(.seq (.cond (.t 11) .skip
 (.exit 0))
(.seq (.block 1 (sr [
tq 12 (.idxAddr 1 (.t 8) (.t 10)),
ld 13 12,
mq 7 13] [12,13]
(rg [
mq 14 5,
mq 15 1,
mq 16 7,
tq 17 (.call true true (.t 15) [.t 16]),
tq 18 (.mkList 2 1 [.t 17]),
tq 19 (.append ⟨true,zas,2,16⟩ (.t 14) (.t 18)),
mq 5 19] [7,14,15,16,17,18,19])))
(rg [
tq 20 (.bin .add (.t 10) (kq 1)),
mq 10 20] [20]))))
def ziv:CF:=⟨[.tmp 4],
  (sr [
tq 4 (.ownNil ⟨true,zas,2,16⟩)] [4]
(sr [
tq 5 (.ownNil ⟨true,zas,2,16⟩)] []
(.seq (sr [
mq 8 0,
tq 9 (.len .slc (.t 8)),
tq 10 (.mv (kq 0))] [0]
(.block 0 (.loop [1,5,8,9,10] zhz)))
(sr [
mq 21 5,
mq 4 21] [5,21]
.ret))))⟩
def zmo:C:=
  (sr [
tq 26 (.bin .lss (.t 25) (.t 24))] []
(.seq (.cond (.t 26) .skip
 (.exit 0))
(.seq (.block 1 (sr [
mq 27 25,
mq 5 27] [27]
(.reg true [
mq 28 4,
ld 29 3,
ld 30 3,
fa 31 13 1,
ld 32 31,
tq 33 (.bin .sub (.t 30) (.t 32)),
fa 34 15 1,
ld 35 34,
tq 36 (.bin .quo (.t 33) (.t 35)),
fa 37 15 1,
ld 38 37,
tq 39 (.bin .mul (.t 36) (.t 38)),
tq 40 (.bin .sub (.t 29) (.t 39)),
mq 41 5,
fa 42 15 1,
ld 43 42,
tq 44 (.bin .mul (.t 41) (.t 43)),
tq 45 (.bin .add (.t 40) (.t 44)),
tq 46 (.mkList 1 1 [.t 45]),
tq 47 (.append ⟨true,za6,1,8⟩ (.t 28) (.t 46)),
mq 4 47] [5,28,29,30,31,32,33,34,35,36,37,38,39,40,41,42,43,44,45,46,47])))
(rg [
tq 48 (.bin .add (.t 25) (kq 1)),
mq 25 48] [48]))))
def zn9:CF:=⟨[.tmp 2],
  (sr [
tq 1 (.box zbk (.t 0)),
tq 2 (.ownNil ⟨true,za6,1,8⟩)] [0,2]
(sr [
fa 6 0 1,
fa 7 9 6,
ld 8 7,
tq 3 (.alloc za6 [.z (.int .i64 0)]),
⟨none,none,.store 1 (.t 3) (.t 8)⟩] [6,7,8]
(sr [
tq 4 (.ownNil ⟨true,za6,1,8⟩)] []
(.seq (.seq (.reg true [
ld 9 3,
fa 10 13 1,
ld 11 10,
tq 12 (.bin .sub (.t 9) (.t 11)),
fa 13 15 1,
ld 14 13,
tq 15 (.bin .quo (.t 12) (.t 14)),
fa 16 14 1,
ld 17 16,
ld 18 3,
tq 19 (.bin .sub (.t 17) (.t 18)),
fa 20 15 1,
ld 21 20,
tq 22 (.bin .quo (.t 19) (.t 21)),
tq 23 (.bin .add (.t 15) (.t 22)),
tq 24 (.bin .add (.t 23) (kq 1)),
tq 25 (.mv (kq 0))] [9,10,11,12,13,14,15,16,17,18,19,20,21,22,23])
(.block 0 (.loop [1,3,4,24,25] zmo)))
(sr [
mq 49 4,
tq 50 (.mkFunc zhj [] [.t 3]),
tq 51 (.call true true (.k (.fn zis [] [])) [.t 49,.t 50])] [3,49,50,51]
(sr [
mq 52 4,
mq 2 52] [4,52]
.ret))))))⟩
def zpc:CF:=⟨[.cell 2 (some 2)],
  (sr [
tq 2 (.alloc zas [.z (.int .i64 0),.z (.int .i64 0)])] []
(sr [
mq 3 0,
tq 4 (.build [.z (.int .i64 0),.z (.int .i64 0)] [(0,1,.t 3),(1,1,kq (-1))]),
⟨none,none,.store 2 (.t 2) (.t 4)⟩] [0,3,4]
.ret))⟩
def zpd:CF:=⟨[.tmp 4],
  (sr [
tq 3 (.box zas (.t 0)),
tq 4 (.mv (kq 0))] [0,4]
(.seq (.reg true [
tq 5 (.idxAddrA 2 1 (.t 3) (kq 0)),
ld 6 5,
ld 7 1,
tq 8 (.idxAddrA 2 1 (.t 2) (kq 0)),
ld 9 8,
tq 10 (.idxAddr 18 (.t 7) (.t 9)),
fa 11 0 10,
fa 12 9 11,
ld 13 12,
tq 14 (.bin .sub (.t 6) (.t 13)),
tq 15 (cl zi4 [.t 14]),
tq 16 (.idxAddrA 2 1 (.t 3) (kq 1)),
ld 17 16,
ld 18 1,
tq 19 (.idxAddrA 2 1 (.t 2) (kq 1)),
ld 20 19,
tq 21 (.idxAddr 18 (.t 18) (.t 20)),
fa 22 0 21,
fa 23 9 22,
ld 24 23,
tq 25 (.bin .sub (.t 17) (.t 24)),
tq 26 (cl zi4 [.t 25]),
tq 27 (.bin .add (.t 15) (.t 26)),
mq 4 27] [1,2,3,5,6,7,8,9,10,11,12,13,14,15,16,17,18,19,20,21,22,23,24,25,26,27])
.ret))⟩
def z2l:CF:=⟨[.tmp 2],
  (sr [
tq 2 (.mv (kq 0))] [2]
(sr [
mq 3 0,
mq 4 0,
tq 5 (.un .neg (.t 4)),
tq 6 (.minmax true [.t 3,.t 5]),
mq 2 6] [0,3,4,5,6]
.ret))⟩
def zqq:CF:=⟨[.tmp 6],
  (sr [
tq 3 (.box zdy (.t 0)),
tq 5 (.box zas (.t 2)),
tq 6 (.mv (.k (.d (.bool false))))] [0,2,6]
(.seq (sr [
tq 10 (.idxAddrA 2 1 (.t 3) (kq 1)),
ld 11 10,
tq 12 (.bin .lss (.t 11) (kq 0))] [10,11]
(.cond (.t 12) (sr [
tq 6 (.mv (.k (.d (.bool true))))] []
.ret)
 .skip))
(sr [
tq 7 (.mv (kq 0))] []
(.seq (sr [
mq 13 1,
tq 14 (.idxAddrA 2 1 (.t 3) (kq 0)),
ld 15 14,
tq 16 (.idxAddr 18 (.t 13) (.t 15)),
fa 17 0 16,
fa 18 2 17,
ld 19 18,
tq 20 (.bin .eql (.t 19) (.k (.d (.str [68]))))] [13,14,15,16,17,18,19]
(.cond (.t 20) (rg [
tq 7 (.mv (kq 1))] [])
 .skip))
(.seq (.reg true [
mq 21 7,
tq 22 (.bin .sub (kq 1) (.t 21)),
tq 23 (.idxAddrA 2 1 (.t 5) (.t 22)),
ld 24 23,
mq 25 7,
tq 26 (.idxAddrA 2 1 (.t 5) (.t 25)),
ld 27 26,
tq 28 (.bin .sub (.t 24) (.t 27)),
mq 8 28] [5,21,22,23,24,25,26,27,28])
(sr [
mq 29 1,
mq 30 7,
tq 31 (.idxAddrA 2 1 (.t 3) (.t 30)),
ld 32 31,
tq 33 (.idxAddr 18 (.t 29) (.t 32)),
lq 34 18 33,
tq 9 (.alloc zbk [.z (.str []),.z (.str []),.z (.str []),.z (.str []),.z (.str []),.z (.str []),.z (.int .i64 0),.z (.int .i64 0),.z (.int .i64 0),.z (.int .i64 0),.z (.int .i64 0),.z (.int .i64 0),.z (.int .i64 0),.z (.int .i64 0),.z (.int .i64 0),.z (.int .i64 0),.z (.int .i64 0),.z (.int .i64 0)]),
⟨none,none,.store 18 (.t 9) (.t 34)⟩] [1,3,7,29,30,31,32,33,34]
(sr [
mq 35 8,
fa 36 16 9,
ld 37 36,
tq 38 (.bin .geq (.t 35) (.t 37)),
mq 39 38,
gq 40 39 true (.mv (.t 8)),
gq 41 39 true (.fieldAddr 17 (.t 9)),
gq 42 39 true (.load none (.t 41)),
gq 43 39 true (.bin .leq (.t 40) (.t 42)),
tq 44 (.pick (.t 39) (.t 43) (.k (.d (.bool false)))),
mq 6 44] [8,9,35,36,37,38,39,40,41,42,43,44]
.ret)))))))⟩
def zdp:CF:=⟨[],
  (rg [
mq 4 0,
mq 5 0,
tq 6 (.len .slc (.t 5)),
mq 7 1,
tq 8 (.call true true (.k (.fn zds [] [])) [.t 4,.t 6,.t 7])] [0,1,4,5,6,7,8])⟩
def zpe:CF:=⟨[.tmp 5],
  (sr [
tq 3 (.box zas (.t 0)),
tq 4 (.box zas (.t 1)),
tq 5 (.mv (kq 0))] [0,1,5]
(.seq (.reg true [
ld 6 2,
lq 7 2 3,
tq 8 (.callR true (.t 6) [.t 7] [2,4]),
ld 9 2,
lq 10 2 4,
tq 11 (.call true true (.t 9) [.t 10]),
tq 12 (cl zef [.t 8,.t 11]),
mq 5 12] [2,3,4,6,7,8,9,10,11,12])
.ret))⟩
def zqo:CF:=⟨[.tmp 2],
  (sr [
tq 1 (.box zdy (.t 0)),
tq 2 (.mv (.k (.d (.nilf))))] [0,2]
(sr [
tq 3 (.mkFunc zi6 [] [.t 1]),
mq 2 3] [1,3]
.ret))⟩
def zvw:CF:=⟨[.tmp 4],
  (sr [
tq 2 (.box zbk (.t 0)),
tq 4 (.mv (.k (.d (.list 0 []))))] [0,4]
(sr [
fa 8 0 2,
lq 9 13 8,
tq 5 (.alloc zea [.z (.str []),.z (.str []),.z (.str []),.z (.str []),.z (.str []),.z (.str []),.z (.int .i64 0),.z (.int .i64 0),.z (.int .i64 0),.z (.int .i64 0),.z (.int .i64 0),.z (.int .i64 0),.z (.int .i64 0)]),
⟨none,none,.store 13 (.t 5) (.t 9)⟩] [2,8,9]
(sr [
mq 10 1,
fa 11 9 5,
⟨none,none,.store 1 (.t 11) (.t 10)⟩] [1,10,11]
(sr [
lq 13 13 5,
tq 14 (cl zi1 [.t 13]),
mq 12 14,
xq 15 12 0,
xq 16 12 1,
mq 6 15,
mq 7 16] [5,7,12,13,14,15,16]
(sr [
mq 17 6,
mq 4 17] [6,17]
.ret)))))⟩
def zxb:C:=
  (.seq (sr [
mq 8 7,
fa 9 2 3,
ld 10 9,
tq 11 (.len .slc (.t 10)),
tq 12 (.bin .lss (.t 8) (.t 11))] [8,9,10,11]
(.cond (.t 12) .skip
 (.exit 0)))
(.seq (.block 1 (sr [
fa 15 2 3,
ld 16 15,
mq 17 7,
tq 18 (.idxAddr 2 (.t 16) (.t 17)),
fa 19 0 18,
ld 20 19,
mq 21 1,
tq 22 (.bin .eql (.t 20) (.t 21)),
mq 23 22,
gq 24 23 true (.fieldAddr 2 (.t 3)),
gq 25 23 true (.load none (.t 24)),
gq 26 23 true (.mv (.t 7)),
gq 27 23 true (.idxAddr 2 (.t 25) (.t 26)),
gq 28 23 true (.fieldAddr 1 (.t 27)),
gq 29 23 true (.load none (.t 28)),
gq 30 23 true (.mv (.t 2)),
gq 31 23 true (.bin .leq (.t 29) (.t 30)),
tq 32 (.pick (.t 23) (.t 31) (.k (.d (.bool false))))] [15,16,17,18,19,20,21,22,23,24,25,26,27,28,29,30,31]
(.cond (.t 32) (sr [
tq 6 (.mv (.k (.d (.bool true))))] []
.ret)
 .skip)))
(rg [
mq 13 7,
tq 14 (.bin .add (.t 13) (kq 1)),
mq 7 14] [13,14])))
def z0y:CF:=⟨[.tmp 6],
  (sr [
tq 3 (.box zaa (.t 0)),
tq 6 (.mv (.k (.d (.bool false))))] [0,6]
(.seq (sr [
tq 7 (.mv (kq 0))] []
(.block 0 (.loop [1,2,3,7] zxb)))
(sr [
tq 6 (.mv (.k (.d (.bool false))))] []
.ret)))⟩
def zld:C:=
  (.seq (sr [
mq 57 8,
mq 58 9,
tq 59 (.bin .lss (.t 57) (.t 58))] [57,58]
(.cond (.t 59) .skip
 (.exit 1)))
(.block 2 (.seq (sr [
mq 60 0,
mq 61 8,
tq 62 (.idxS (.t 60) (.t 61)),
mq 63 6,
tq 64 (.bin .neq (.t 62) (.t 63))] [60,61,62,63]
(.cond (.t 64) (sr [
mq 65 0,
mq 66 8,
tq 67 (.bin .add (.t 66) (kq 1)),
mq 68 9,
tq 69 (.sliceS (.t 65) (some (.t 67)) (some (.t 68))),
mq 70 6,
tq 71 (cl n_internal_stringslite_IndexByte [.t 69,.t 70]),
mq 11 71] [65,66,67,68,69,70,71]
(.seq (sr [
mq 72 11,
tq 73 (.bin .lss (.t 72) (kq 0))] [72]
(.cond (.t 73) (sr [
tq 4 (.mv (kq (-1)))] []
.ret)
 .skip))
(rg [
mq 74 8,
mq 75 11,
tq 76 (.bin .add (.t 75) (kq 1)),
tq 77 (.bin .add (.t 74) (.t 76)),
mq 8 77] [11,74,75,76,77])))
 .skip))
(.seq (sr [
mq 78 0,
mq 79 8,
tq 80 (.bin .add (.t 79) (kq 1)),
tq 81 (.idxS (.t 78) (.t 80)),
mq 82 7,
tq 83 (.bin .eql (.t 81) (.t 82)),
mq 84 83,
gq 85 84 true (.mv (.t 0)),
gq 86 84 true (.mv (.t 8)),
gq 87 84 true (.mv (.t 8)),
gq 88 84 true (.mv (.t 5)),
gq 89 84 true (.bin .add (.t 87) (.t 88)),
gq 90 84 true (.sliceS (.t 85) (some (.t 86)) (some (.t 89))),
gq 91 84 true (.mv (.t 1)),
gq 92 84 true (.bin .eql (.t 90) (.t 91)),
tq 93 (.pick (.t 84) (.t 92) (.k (.d (.bool false))))] [78,79,80,81,82,83,84,85,86,87,88,89,90,91,92]
(.cond (.t 93) (sr [
mq 94 8,
mq 4 94] [8,94]
.ret)
 .skip))
(sr [
mq 95 8,
tq 96 (.bin .add (.t 95) (kq 1)),
mq 8 96] [95,96]
(sr [
mq 97 10,
tq 98 (.bin .add (.t 97) (kq 1)),
mq 10 98] [97,98]
(sr [
mq 99 5,
tq 100 (.bad),
tq 101 (.bin .leq (.t 99) (.t 100)),
mq 102 101,
gq 103 102 true (.mv (.t 10)),
gq 104 102 true (.mv (.t 8)),
gq 105 102 true (cl zof [.t 104]),
gq 106 102 true (.bin .gtr (.t 103) (.t 105)),
tq 107 (.pick (.t 102) (.t 106) (.k (.d (.bool false))))] [99,100,101,102,103,104,105,106]
(.cond (.t 107) (sr [
mq 108 0,
mq 109 8,
tq 110 (.sliceS (.t 108) (some (.t 109)) none),
mq 111 1,
tq 112 (cl zgm [.t 110,.t 111]),
mq 12 112] [0,1,108,109,110,111,112]
(.seq (sr [
mq 113 12,
tq 114 (.bin .geq (.t 113) (kq 0))] [113]
(.cond (.t 114) (sr [
mq 115 12,
mq 116 8,
tq 117 (.bin .add (.t 115) (.t 116)),
mq 4 117] [8,12,115,116,117]
.ret)
 .skip))
(sr [
tq 4 (.mv (kq (-1)))] []
.ret)))
 (sr [
mq 118 5,
tq 119 (.bad),
tq 120 (.bin .gtr (.t 118) (.t 119)),
mq 121 120,
gq 122 121 true (.mv (.t 10)),
gq 123 121 true (.mv (.t 8)),
gq 124 121 true (.bin .shr (.t 123) (.k (.d (.int .u64 4)))),
gq 125 121 true (.bin .add (kq 4) (.t 124)),
gq 126 121 true (.bin .geq (.t 122) (.t 125)),
tq 127 (.pick (.t 121) (.t 126) (.k (.d (.bool false)))),
mq 128 127,
gq 129 128 true (.mv (.t 8)),
gq 130 128 true (.mv (.t 9)),
gq 131 128 true (.bin .lss (.t 129) (.t 130)),
tq 132 (.pick (.t 128) (.t 131) (.k (.d (.bool false))))] [118,119,120,121,122,123,124,125,126,127,128,129,130,131]
(.cond (.t 132) (sr [
mq 133 0,
mq 134 8,
tq 135 (.sliceS (.t 133) (some (.t 134)) none),
mq 136 1,
tq 137 (cl zhx [.t 135,.t 136]),
mq 13 137] [0,1,133,134,135,136,137]
(.seq (sr [
mq 138 13,
tq 139 (.bin .lss (.t 138) (kq 0))] [138]
(.cond (.t 139) (sr [
tq 4 (.mv (kq (-1)))] []
.ret)
 .skip))
(sr [
mq 140 8,
mq 141 13,
tq 142 (.bin .add (.t 140) (.t 141)),
mq 4 142] [8,13,140,141,142]
.ret)))
 .skip))))))))))
def zmr:CF:=⟨[.tmp 4],
  (sr [
tq 4 (.mv (kq 0))] [4]
(sr [
mq 14 1,
tq 15 (.len .str (.t 14)),
mq 5 15] [14,15]
(.seq (.block 0 (sr [
mq 17 5,
tq 18 (.bin .eql (.t 17) (kq 0)),
mq 19 18,
gq 20 19 false (.mv (.t 1)),
gq 21 19 false (.mv (.t 0)),
gq 22 19 false (.bin .eql (.t 20) (.t 21)),
tq 23 (.pick (.t 19) (.k (.d (.bool true))) (.t 22)),
mq 16 23] [17,18,19,20,21,22,23]
(.cond (.t 16) (sr [
tq 4 (.mv (kq 0))] []
.ret)
 (sr [
mq 25 5,
tq 26 (.bin .eql (.t 25) (kq 1)),
mq 24 26] [25,26]
(.cond (.t 24) (sr [
mq 27 0,
mq 28 1,
tq 29 (.idxS (.t 28) (kq 0)),
tq 30 (cl n_internal_stringslite_IndexByte [.t 27,.t 29]),
mq 4 30] [0,1,27,28,29,30]
.ret)
 (sr [
mq 32 5,
mq 33 0,
tq 34 (.len .str (.t 33)),
tq 35 (.bin .geq (.t 32) (.t 34)),
mq 31 35] [32,33,34,35]
(.cond (.t 31) (sr [
tq 4 (.mv (kq (-1)))] []
.ret)
 (sr [
mq 37 5,
tq 38 (.bad),
tq 39 (.bin .leq (.t 37) (.t 38)),
mq 40 39,
gq 41 40 true (.mv (.t 0)),
gq 42 40 true (.len .str (.t 41)),
gq 43 40 true (.bin .leq (.t 42) (kq 64)),
tq 44 (.pick (.t 40) (.t 43) (.k (.d (.bool false)))),
mq 36 44] [37,38,39,40,41,42,43,44]
(.cond (.t 36) (sr [
mq 45 0,
mq 46 1,
tq 47 (cl zgm [.t 45,.t 46]),
mq 4 47] [0,1,45,46,47]
.ret)
 .skip)))))))))
(sr [
mq 48 1,
tq 49 (.idxS (.t 48) (kq 0)),
mq 6 49] [48,49]
(sr [
mq 50 1,
tq 51 (.idxS (.t 50) (kq 1)),
mq 7 51] [50,51]
(sr [
tq 8 (.mv (kq 0))] []
(sr [
mq 52 0,
tq 53 (.len .str (.t 52)),
mq 54 5,
tq 55 (.bin .sub (.t 53) (.t 54)),
tq 56 (.bin .add (.t 55) (kq 1)),
mq 9 56] [52,53,54,55,56]
(sr [
tq 10 (.mv (kq 0))] []
(.seq (.block 1 (.loop [0,1,5,6,7,8,9,10] zld))
(sr [
tq 4 (.mv (kq (-1)))] []
.ret))))))))))⟩
def ziu:C:=
  (sr [
tq 11 (.bin .lss (.t 10) (.t 9))] []
(.seq (.cond (.t 11) .skip
 (.exit 0))
(.seq (.block 1 (sr [
tq 12 (.idxAddr 8 (.t 8) (.t 10)),
lq 13 8 12,
tq 7 (.alloc zac [.z (.str []),.z (.str []),.z (.str []),.z (.str []),.z (.int .i64 0),.z (.int .i64 0),.z (.int .i64 0),.z (.int .i64 0)]),
⟨none,none,.store 8 (.t 7) (.t 13)⟩] [12,13]
(rg [
mq 14 5,
mq 15 1,
lq 16 8 7,
tq 17 (.call true true (.t 15) [.t 16]),
tq 18 (.mkList 1 1 [.t 17]),
tq 19 (.append ⟨false,zab,1,16⟩ (.t 14) (.t 18)),
mq 5 19] [7,14,15,16,17,18,19])))
(rg [
tq 20 (.bin .add (.t 10) (kq 1)),
mq 10 20] [20]))))
def zjo:CF:=⟨[.tmp 4],
  (sr [
tq 4 (.ownNil ⟨false,zab,1,16⟩)] [4]
(sr [
tq 5 (.ownNil ⟨false,zab,1,16⟩)] []
(.seq (sr [
mq 8 0,
tq 9 (.len .slc (.t 8)),
tq 10 (.mv (kq 0))] [0]
(.block 0 (.loop [1,5,8,9,10] ziu)))
(sr [
mq 21 5,
mq 4 21] [5,21]
.ret))))⟩
def zmp:C:=
  (sr [
tq 11 (.bin .lss (.t 10) (.t 9))] []
(.seq (.cond (.t 11) .skip
 (.exit 0))
(.seq (.block 1 (sr [
tq 12 (.idxAddr 8 (.t 8) (.t 10)),
lq 13 8 12,
tq 7 (.alloc zac [.z (.str []),.z (.str []),.z (.str []),.z (.str []),.z (.int .i64 0),.z (.int .i64 0),.z (.int .i64 0),.z (.int .i64 0)]),
⟨none,none,.store 8 (.t 7) (.t 13)⟩] [12,13]
(sr [
mq 14 1,
lq 15 8 7,
tq 16 (.call true true (.t 14) [.t 15])] [14,15]
(.cond (.t 16) (rg [
mq 17 5,
lq 18 8 7,
tq 19 (.mkList 8 1 [.t 18]),
tq 20 (.append ⟨false,zac,8,96⟩ (.t 17) (.t 19)),
mq 5 20] [7,17,18,19,20])
 .skip))))
(rg [
tq 21 (.bin .add (.t 10) (kq 1)),
mq 10 21] [21]))))
def zod:CF:=⟨[.tmp 4],
  (sr [
tq 4 (.ownNil ⟨false,zac,8,96⟩)] [4]
(sr [
tq 5 (.ownNil ⟨false,zac,8,96⟩)] []
(.seq (sr [
mq 8 0,
tq 9 (.len .slc (.t 8)),
tq 10 (.mv (kq 0))] [0]
(.block 0 (.loop [1,5,8,9,10] zmp)))
(sr [
mq 22 5,
mq 4 22] [5,22]
.ret))))⟩
def zms:CF:=⟨[.tmp 4],
  (sr [
tq 3 (.box zac (.t 0)),
tq 4 (.mv (.k (.d (.bool false))))] [0,4]
(sr [
ld 5 1,
lq 6 8 3,
ld 7 2,
tq 8 (.callQ (.k (.fn zbv [] [])) [.t 5,.t 6,.t 7]),
mq 4 8] [1,2,3,5,6,7,8]
.ret))⟩
def z5h:CF:=⟨[.tmp 2],
  (sr [
tq 1 (.box zac (.t 0)),
tq 2 (.mv (.k (.d (.str []))))] [0,2]
(sr [
fa 3 0 1,
ld 4 3,
mq 2 4] [1,3,4]
.ret))⟩
def zqu:CF:=⟨[.tmp 4],
  (sr [
tq 3 (.box zab (.t 1)),
tq 4 (.mv (.k (.d (.nilp))))] [1,4]
(.seq (sr [
mq 6 0,
tq 7 (.nilCheck (.t 6)),
fa 8 1 7,
ld 9 8,
tq 10 (.mkFunc zcu [] [.t 3]),
tq 11 (.call true true (.k (.fn zat [] [])) [.t 9,.t 10]),
mq 5 11] [3,6,7,8,9,10,11]
(sr [
mq 12 5,
tq 13 (.bin .geq (.t 12) (kq 0))] [12]
(.cond (.t 13) (sr [
mq 14 0,
tq 15 (.nilCheck (.t 14)),
fa 16 1 15,
ld 17 16,
mq 18 5,
tq 19 (.idxAddr 8 (.t 17) (.t 18)),
mq 4 19] [0,5,14,15,16,17,18,19]
.ret)
 .skip)))
(sr [
tq 4 (.mv (.k (.d (.nilp))))] []
.ret)))⟩
def znm:CF:=⟨[.tmp 4],
  (sr [
tq 3 (.box zac (.t 0)),
tq 4 (.mv (.k (.d (.bool false))))] [0,4]
(sr [
ld 5 1,
lq 6 8 3,
tq 7 (.call true true (.k (.fn zd7 [] [])) [.t 5,.t 6]),
tq 8 (.slice 8 (.t 7) (some (kq 1)) none none),
tq 9 (.mkFunc zha [] [.t 2]),
tq 10 (.call true true (.k (.fn zav [] [])) [.t 8,.t 9]),
mq 4 10] [1,2,3,5,6,7,8,9,10]
.ret))⟩
def zfi:CF:=⟨[.tmp 4],
  (sr [
tq 4 (.mv (.k (.d (.bool false))))] [4]
(sr [
mq 5 0,
mq 6 1,
tq 7 (.call true true (.k (.fn zat [] [])) [.t 5,.t 6]),
tq 8 (.bin .geq (.t 7) (kq 0)),
mq 4 8] [0,1,5,6,7,8]
.ret))⟩
def zo6:C:=
  (.block 1 (sr [
mq 9 0,
mq 10 5,
mq 11 5,
tq 12 (.len .slc (.t 11)),
tq 13 (.bin .sub (.t 12) (kq 1)),
tq 14 (.idxAddr 8 (.t 10) (.t 13)),
fa 15 3 14,
ld 16 15,
tq 17 (.callQ (.k (.fn zbn [] [])) [.t 9,.t 16]),
mq 6 17] [9,10,11,12,13,14,15,16,17]
(.seq (sr [
mq 18 6,
tq 19 (.nilEq 0 false (.t 18))] [18]
(.cond (.t 19) (.exit 0)
 .skip))
(rg [
mq 20 5,
mq 21 6,
tq 22 (.nilCheck (.t 21)),
lq 23 8 22,
tq 24 (.mkList 8 1 [.t 23]),
tq 25 (.append ⟨false,zac,8,96⟩ (.t 20) (.t 24)),
mq 5 25] [6,20,21,22,23,24,25]))))
def zqt:CF:=⟨[.tmp 4],
  (sr [
tq 3 (.box zac (.t 1)),
tq 4 (.ownNil ⟨false,zac,8,96⟩)] [1,4]
(.scope (sr [
lq 7 8 3,
tq 8 (.mkRow ⟨false,zac,8,96⟩ 1 [.t 7]),
mq 5 8] [3,7,8]
(.seq .label
(.seq (.block 0 (.loop [0,5] zo6))
(sr [
mq 26 5,
mq 4 26] [5,26]
.ret))))))⟩
def zl0:CF:=⟨[.tmp 3],
  (sr [
tq 2 (.box zac (.t 0)),
tq 3 (.mv (.k (.d (.bool false))))] [0,3]
(sr [
fa 4 0 2,
ld 5 4,
ld 6 1,
tq 7 (.bin .eql (.t 5) (.t 6)),
mq 3 7] [1,2,4,5,6,7]
.ret))⟩
def zkz:C:=
  (sr [
tq 9 (.bin .lss (.t 8) (.t 7))] []
(.seq (.cond (.t 9) .skip
 (.exit 0))
(.seq (.block 1 (sr [
mq 10 8,
mq 5 10] [10]
(sr [
mq 11 1,
mq 12 0,
mq 13 5,
tq 14 (.idxAddr 1 (.t 12) (.t 13)),
ld 15 14,
tq 16 (.bin .eql (.t 11) (.t 15))] [11,12,13,14,15]
(.cond (.t 16) (sr [
mq 17 5,
mq 4 17] [5,17]
.ret)
 .skip))))
(rg [
tq 18 (.bin .add (.t 8) (kq 1)),
mq 8 18] [18]))))
def zl2:CF:=⟨[.tmp 4],
  (sr [
tq 4 (.mv (kq 0))] [4]
(.seq (sr [
mq 6 0,
tq 7 (.len .slc (.t 6)),
tq 8 (.mv (kq 0))] [6]
(.block 0 (.loop [0,1,7,8] zkz)))
(sr [
tq 4 (.mv (kq (-1)))] []
.ret)))⟩
def zrz:CF:=⟨[.tmp 6],
  (sr [
tq 6 (.mv (kq 0))] [6]
(sr [
mq 8 0,
mq 9 1,
tq 10 (.callQ (.k (.fn zbn [] [])) [.t 8,.t 9]),
mq 7 10] [1,8,9,10]
(.seq (sr [
mq 11 7,
tq 12 (.nilEq 0 false (.t 11))] [11]
(.cond (.t 12) (sr [
tq 6 (.mv (kq 10))] []
.ret)
 .skip))
(sr [
mq 13 0,
mq 14 7,
tq 15 (.nilCheck (.t 14)),
lq 16 8 15,
mq 17 2,
tq 18 (.callQ (.k (.fn zbv [] [])) [.t 13,.t 16,.t 17]),
tq 19 (.un .not (.t 18)),
tq 20 (cl zal [.t 19,kq 20]),
mq 6 20] [0,2,7,13,14,15,16,17,18,19,20]
.ret))))⟩
def znk:CF:=⟨[.tmp 4],
  (sr [
tq 3 (.box zab (.t 1)),
tq 4 (.mv (.k (.d (.nilp))))] [1,4]
(.seq (sr [
mq 6 0,
tq 7 (.nilCheck (.t 6)),
fa 8 3 7,
ld 9 8,
tq 10 (.mkFunc zb3 [] [.t 3]),
tq 11 (.call true true (.k (.fn za7 [] [])) [.t 9,.t 10]),
mq 5 11] [3,6,7,8,9,10,11]
(sr [
mq 12 5,
tq 13 (.bin .geq (.t 12) (kq 0))] [12]
(.cond (.t 13) (sr [
mq 14 0,
tq 15 (.nilCheck (.t 14)),
fa 16 3 15,
ld 17 16,
mq 18 5,
tq 19 (.idxAddr 5 (.t 17) (.t 18)),
mq 4 19] [0,5,14,15,16,17,18,19]
.ret)
 .skip)))
(sr [
tq 4 (.mv (.k (.d (.nilp))))] []
.ret)))⟩
def zjk:C:=
  (sr [
tq 9 (.bin .lss (.t 8) (.t 7))] []
(.seq (.cond (.t 9) .skip
 (.exit 0))
(.seq (.block 1 (sr [
mq 10 8,
mq 5 10] [10]
(sr [
mq 11 1,
mq 12 0,
mq 13 5,
tq 14 (.idxAddr 1 (.t 12) (.t 13)),
ld 15 14,
tq 16 (.call false true (.t 11) [.t 15])] [11,12,13,14,15]
(.cond (.t 16) (sr [
mq 17 5,
mq 4 17] [5,17]
.ret)
 .skip))))
(rg [
tq 18 (.bin .add (.t 8) (kq 1)),
mq 8 18] [18]))))
def zj6:CF:=⟨[.tmp 4],
  (sr [
tq 4 (.mv (kq 0))] [4]
(.seq (sr [
mq 6 0,
tq 7 (.len .slc (.t 6)),
tq 8 (.mv (kq 0))] [6]
(.block 0 (.loop [0,1,7,8] zjk)))
(sr [
tq 4 (.mv (kq (-1)))] []
.ret)))⟩
def zlw:C:=
  (sr [
tq 9 (.bin .lss (.t 8) (.t 7))] []
(.seq (.cond (.t 9) .skip
 (.exit 0))
(.seq (.block 1 (sr [
mq 10 8,
mq 5 10] [10]
(sr [
mq 11 1,
mq 12 0,
mq 13 5,
tq 14 (.idxAddr 1 (.t 12) (.t 13)),
ld 15 14,
tq 16 (.call false true (.t 11) [.t 15])] [11,12,13,14,15]
(.cond (.t 16) (sr [
mq 17 5,
mq 4 17] [5,17]
.ret)
 .skip))))
(rg [
tq 18 (.bin .add (.t 8) (kq 1)),
mq 8 18] [18]))))
def zno:CF:=⟨[.tmp 4],
  (sr [
tq 4 (.mv (kq 0))] [4]
(.seq (sr [
mq 6 0,
tq 7 (.len .slc (.t 6)),
tq 8 (.mv (kq 0))] [6]
(.block 0 (.loop [0,1,7,8] zlw)))
(sr [
tq 4 (.mv (kq (-1)))] []
.ret)))⟩
def zqx:CF:=⟨[.tmp 2],
  (sr [
tq 2 (.ownNil ⟨true,zab,1,16⟩)] [2]
(sr [
mq 3 0,
tq 4 (.call true false (.k (.fn zb7 [] [])) [.k (.d .nil),.t 3]),
mq 2 4] [0,3,4]
.ret))⟩
def zbz:C:=
  (sr [
mq 10 0,
mq 11 3,
tq 12 (.call true true (.t 10) [.t 11]),
tq 13 (.un .not (.t 12))] [3,10,11,12]
(.cond (.t 13) .ret
 .skip))
def zhf:CF:=⟨[],
  (.rangeM [ld 4 1] 5 (.t 4) 0 1 8 [0,5] [xq 9 8 0,
mq 3 9] [8,9] zbz)⟩
def zfc:C:=
  (.seq (sr [
mq 7 3,
tq 8 (.bin .geq (.t 7) (kq 0))] [7]
(.cond (.t 8) .skip
 (.exit 0)))
(.seq (.block 1 (sr [
mq 11 0,
mq 12 3,
ld 13 1,
mq 14 3,
tq 15 (.idxAddr 8 (.t 13) (.t 14)),
lq 16 8 15,
tq 17 (.call true true (.t 11) [.t 12,.t 16]),
tq 18 (.un .not (.t 17))] [11,12,13,14,15,16,17]
(.cond (.t 18) .ret
 .skip)))
(rg [
mq 9 3,
tq 10 (.bin .sub (.t 9) (kq 1)),
mq 3 10] [9,10])))
def zf5:CF:=⟨[],
  (sr [
ld 4 1,
tq 5 (.len .slc (.t 4)),
tq 6 (.bin .sub (.t 5) (kq 1)),
mq 3 6] [4,5,6]
(.block 0 (.loop [0,1,3] zfc)))⟩
def zoc:CF:=⟨[.tmp 4],
  (sr [
tq 3 (.box zac (.t 0)),
tq 4 (.mv (.k (.d (.bool false))))] [0,4]
(sr [
ld 5 1,
tq 6 (.nilCheck (.t 5)),
fa 7 2 6,
ld 8 7,
tq 9 (.mkFunc zbp [] [.t 3,.t 2]),
tq 10 (.call true true (.k (.fn zbb [] [])) [.t 8,.t 9]),
mq 4 10] [1,2,3,5,6,7,8,9,10]
.ret))⟩
def zec:CF:=⟨[.tmp 4],
  (sr [
tq 4 (.mv (.k (.d (.bool false))))] [4]
(sr [
mq 5 0,
mq 6 1,
tq 7 (.call true true (.k (.fn zbi [] [])) [.t 5,.t 6]),
tq 8 (.bin .geq (.t 7) (kq 0)),
mq 4 8] [0,1,5,6,7,8]
.ret))⟩
def zmt:CF:=⟨[.tmp 4],
  (sr [
tq 3 (.box zbl (.t 0)),
tq 4 (.mv (.k (.d (.bool false))))] [0,4]
(sr [
fa 5 0 3,
ld 6 5,
fa 7 0 1,
ld 8 7,
tq 9 (.bin .eql (.t 6) (.t 8)),
mq 10 9,
gq 11 10 true (.fieldAddr 1 (.t 3)),
gq 12 10 true (.load none (.t 11)),
gq 13 10 true (.load none (.t 2)),
gq 14 10 true (.bin .leq (.t 12) (.t 13)),
tq 15 (.pick (.t 10) (.t 14) (.k (.d (.bool false)))),
mq 4 15] [1,2,3,5,6,7,8,9,10,11,12,13,14,15]
.ret))⟩
def zsa:C:=
  (.seq (sr [
mq 6 3,
fa 7 1 1,
ld 8 7,
tq 9 (.bin .leq (.t 6) (.t 8))] [6,7,8]
(.cond (.t 9) .skip
 (.exit 0)))
(.seq (.block 1 (.seq (.reg true [
fa 12 2 1,
ld 13 12,
mq 14 3,
tq 15 (cl zhk [.t 14]),
tq 16 (cl zii [.t 13,.t 15]),
mq 17 16,
gq 18 17 true (.mv (.t 0)),
gq 19 17 true (.mv (.t 3)),
gq 20 17 true (.call true true (.t 18) [.t 19]),
gq 21 17 true (.un .not (.t 20)),
tq 22 (.pick (.t 17) (.t 21) (.k (.d (.bool false))))] [12,13,14,15,16,17,18,19,20,21])
(.cond (.t 22) .ret
 .skip)))
(rg [
mq 10 3,
tq 11 (.bin .add (.t 10) (kq 1)),
mq 3 11] [10,11])))
def zus:CF:=⟨[],
  (sr [
fa 4 0 1,
ld 5 4,
mq 3 5] [4,5]
(.block 0 (.loop [0,1,3] zsa)))⟩
def zxl:CF:=⟨[.tmp 4],
  (sr [
tq 4 (.mv (.k (.d (.bool false))))] [4]
(sr [
mq 5 0,
mq 6 1,
tq 7 (.bin .shr (.t 5) (.t 6)),
tq 8 (.bin .and (.t 7) (kq 1)),
tq 9 (.bin .eql (.t 8) (kq 1)),
mq 4 9] [0,1,5,6,7,8,9]
.ret))⟩
def zv1:CF:=⟨[.tmp 2],
  (sr [
tq 2 (.mv (kq 0))] [2]
(sr [
mq 3 0,
tq 4 (.bin .add (.t 3) (kq 5)),
tq 5 (.bin .rem (.t 4) (kq 7)),
mq 2 5] [0,3,4,5]
.ret))⟩
def zy8:CF:=⟨[.tmp 0],
  (sr [
tq 0 (.mv (.k (.d (.nilm))))] [0]
(sr [
tq 1 (.mv (.k (.fn zoq [] [])))] []
(sr [
tq 2 (.mkMap),
mq 3 1,
tq 4 (.call true false (.t 3) [.k (.d (.str [65]))]),
tq 5 (.build [.z (.nilf)] [(0,1,.t 4)]),
⟨none,none,.mapSet .str (.t 2) (.k (.d (.str [65]))) (.t 5)⟩,
mq 6 1,
tq 7 (.call true false (.t 6) [.k (.d (.str [68]))]),
tq 8 (.build [.z (.nilf)] [(0,1,.t 7)]),
⟨none,none,.mapSet .str (.t 2) (.k (.d (.str [68]))) (.t 8)⟩,
tq 9 (.build [.z (.nilf)] [(0,1,.k (.fn zor [] []))]),
⟨none,none,.mapSet .str (.t 2) (.k (.d (.str [84]))) (.t 9)⟩,
mq 10 2,
mq 0 10] [1,2,3,4,5,6,7,8,9,10]
.ret)))⟩
def zut:CF:=⟨[.tmp 2],
  (sr [
tq 2 (.mv (kq 0))] [2]
(sr [
mq 3 0,
tq 4 (.bin .neq (.t 3) (.k (.d (.str [])))),
mq 5 4,
gq 6 5 true (.mv (.t 0)),
gq 7 5 true (cl zc0 [.t 6]),
gq 8 5 true (.un .not (.t 7)),
tq 9 (.pick (.t 5) (.t 8) (.k (.d (.bool false)))),
tq 10 (cl zc5 [.t 9,kq 8]),
mq 2 10] [0,3,4,5,6,7,8,9,10]
.ret))⟩
def zxp:CF:=⟨[.tmp 6],
  (sr [
tq 6 (.mv (kq 0))] [6]
(sr [
mq 7 0,
mq 8 1,
tq 9 (.bin .lss (.t 7) (.t 8)),
mq 10 9,
gq 11 10 false (.mv (.t 0)),
gq 12 10 false (.mv (.t 2)),
gq 13 10 false (.bin .gtr (.t 11) (.t 12)),
tq 14 (.pick (.t 10) (.k (.d (.bool true))) (.t 13)),
tq 15 (cl zc5 [.t 14,kq 3]),
mq 6 15] [0,1,2,7,8,9,10,11,12,13,14,15]
.ret))⟩
def zem:C:=
  (sr [
tq 9 (.bin .lss (.t 8) (.t 7))] []
(.seq (.cond (.t 9) .skip
 (.exit 0))
(.seq (.block 1 (sr [
mq 10 8,
mq 5 10] [10]
(sr [
mq 11 1,
mq 12 0,
mq 13 5,
tq 14 (.idxAddr 11 (.t 12) (.t 13)),
lq 15 11 14,
tq 16 (.call true true (.t 11) [.t 15])] [11,12,13,14,15]
(.cond (.t 16) (sr [
mq 17 5,
mq 4 17] [5,17]
.ret)
 .skip))))
(rg [
tq 18 (.bin .add (.t 8) (kq 1)),
mq 8 18] [18]))))
def ze7:CF:=⟨[.tmp 4],
  (sr [
tq 4 (.mv (kq 0))] [4]
(.seq (sr [
mq 6 0,
tq 7 (.len .slc (.t 6)),
tq 8 (.mv (kq 0))] [6]
(.block 0 (.loop [0,1,7,8] zem)))
(sr [
tq 4 (.mv (kq (-1)))] []
.ret)))⟩
def zv4:CF:=⟨[.tmp 3],
  (sr [
tq 2 (.box zch (.t 0)),
tq 3 (.mv (.k (.d (.bool false))))] [0,3]
(sr [
fa 4 0 2,
ld 5 4,
ld 6 1,
tq 7 (.bin .eql (.t 5) (.t 6)),
mq 3 7] [1,2,4,5,6,7]
.ret))⟩
def zto:CF:=⟨[.tmp 2,.tmp 3],
  (sr [
tq 1 (.box zea (.t 0)),
tq 2 (.mv (.k (.d (.list 0 [])))),
tq 3 (.mv (kq 0))] [0,2,3]
(.seq (sr [
lq 5 13 1,
tq 6 (cl zkh [.t 5]),
mq 4 6] [5,6]
(sr [
mq 7 4,
tq 8 (.bin .neq (.t 7) (kq 0))] [7]
(.cond (.t 8) (sr [
mq 9 4,
tq 2 (.mv (.k (.d (.list 0 [])))),
mq 3 9] [4,9]
.ret)
 .skip)))
(sr [
lq 10 13 1,
tq 11 (cl zmf [.t 10]),
mq 2 11,
tq 3 (.mv (kq 0))] [1,10,11]
.ret)))⟩
def zqm:CF:=⟨[.tmp 2],
  (sr [
tq 2 (.mv (.k (.d (.bool false))))] [2]
(sr [
mq 3 0,
tq 4 (.bin .neq (.t 3) (.k (.d (.str [])))),
mq 5 4,
gq 6 5 true (.mv (.t 0)),
gq 7 5 true (cl zc0 [.t 6]),
gq 8 5 true (.un .not (.t 7)),
tq 9 (.pick (.t 5) (.t 8) (.k (.d (.bool false)))),
mq 2 9] [0,3,4,5,6,7,8,9]
.ret))⟩
def zxh:CF:=⟨[.tmp 6],
  (sr [
tq 6 (.mv (kq 0))] [6]
(sr [
mq 7 0,
mq 8 1,
tq 9 (.bin .lss (.t 7) (.t 8)),
mq 10 9,
gq 11 10 false (.mv (.t 0)),
gq 12 10 false (.mv (.t 2)),
gq 13 10 false (.bin .gtr (.t 11) (.t 12)),
tq 14 (.pick (.t 10) (.k (.d (.bool true))) (.t 13)),
tq 15 (cl zeq [.t 14,kq 3]),
mq 6 15] [0,1,2,7,8,9,10,11,12,13,14,15]
.ret))⟩
def ze4:C:=
  (sr [
tq 9 (.bin .lss (.t 8) (.t 7))] []
(.seq (.cond (.t 9) .skip
 (.exit 0))
(.seq (.block 1 (sr [
mq 10 8,
mq 5 10] [10]
(sr [
mq 11 1,
mq 12 0,
mq 13 5,
tq 14 (.idxAddr 18 (.t 12) (.t 13)),
lq 15 18 14,
tq 16 (.call true true (.t 11) [.t 15])] [11,12,13,14,15]
(.cond (.t 16) (sr [
mq 17 5,
mq 4 17] [5,17]
.ret)
 .skip))))
(rg [
tq 18 (.bin .add (.t 8) (kq 1)),
mq 8 18] [18]))))
def zfw:CF:=⟨[.tmp 4],
  (sr [
tq 4 (.mv (kq 0))] [4]
(.seq (sr [
mq 6 0,
tq 7 (.len .slc (.t 6)),
tq 8 (.mv (kq 0))] [6]
(.block 0 (.loop [0,1,7,8] ze4)))
(sr [
tq 4 (.mv (kq (-1)))] []
.ret)))⟩
def zvy:CF:=⟨[.tmp 3],
  (sr [
tq 2 (.box zbk (.t 0)),
tq 3 (.mv (.k (.d (.bool false))))] [0,3]
(sr [
fa 4 0 2,
fa 5 0 4,
ld 6 5,
ld 7 1,
tq 8 (.bin .eql (.t 6) (.t 7)),
mq 3 8] [1,2,4,5,6,7,8]
.ret))⟩
def zvx:CF:=⟨[.tmp 4],
  (sr [
tq 2 (.box zch (.t 0)),
tq 3 (.box zbx (.t 1)),
tq 4 (.mv (.k (.d (.bool false))))] [0,1,4]
(sr [
fa 5 1 2,
ld 6 5,
tq 7 (.bin .eql (.t 6) (.k (.d (.str [84])))),
mq 8 7,
gq 9 8 false (.fieldAddr 1 (.t 2)),
gq 10 8 false (.load none (.t 9)),
gq 11 8 false (.fieldAddr 1 (.t 3)),
gq 12 8 false (.load none (.t 11)),
gq 13 8 false (.bin .eql (.t 10) (.t 12)),
tq 14 (.pick (.t 8) (.k (.d (.bool true))) (.t 13)),
mq 15 14,
gq 16 15 true (.fieldAddr 2 (.t 2)),
gq 17 15 true (.load none (.t 16)),
gq 18 15 true (.bin .eql (.t 17) (.k (.d (.str [])))),
gq 19 15 true (.mv (.t 18)),
gq 20 19 false (.fieldAddr 2 (.t 2)),
gq 21 19 false (.load none (.t 20)),
gq 22 19 false (.fieldAddr 2 (.t 3)),
gq 23 19 false (.load none (.t 22)),
gq 24 19 false (.bin .eql (.t 21) (.t 23)),
gq 25 15 true (.pick (.t 19) (.k (.d (.bool true))) (.t 24)),
tq 26 (.pick (.t 15) (.t 25) (.k (.d (.bool false)))),
mq 4 26] [2,3,5,6,7,8,9,10,11,12,13,14,15,16,17,18,19,20,21,22,23,24,25,26]
.ret))⟩
def zxn:CF:=⟨[.tmp 4,.tmp 5],
  (sr [
tq 2 (.box zch (.t 0)),
tq 4 (.mv (.k (.d (.list 0 [])))),
tq 5 (.mv (kq 0))] [0,4,5]
(.seq (sr [
lq 7 11 2,
tq 8 (cl zhi [.t 7]),
mq 9 1,
tq 10 (cl zbt [.t 9,kq 0,kq 99999]),
tq 11 (.mkList 1 2 [.t 8,.t 10]),
tq 12 (cl zfa [.t 11]),
mq 6 12] [7,8,9,10,11,12]
(sr [
mq 13 6,
tq 14 (.bin .neq (.t 13) (kq 0))] [13]
(.cond (.t 14) (sr [
mq 15 6,
tq 4 (.mv (.k (.d (.list 0 [])))),
mq 5 15] [6,15]
.ret)
 .skip)))
(.seq (sr [
lq 16 11 2,
mq 17 1,
tq 18 (cl zi0 [.t 16,.t 17]),
tq 19 (.un .not (.t 18))] [16,17,18]
(.cond (.t 19) (sr [
tq 4 (.mv (.k (.d (.list 0 [])))),
tq 5 (.mv (kq 30))] []
.ret)
 .skip))
(sr [
lq 20 11 2,
mq 21 1,
tq 22 (.call false false (.k (.fn zkg [] [])) [.t 20,.t 21]),
tq 23 (.call true true (.k (.fn zmn [] [])) [.t 22]),
mq 4 23,
tq 5 (.mv (kq 0))] [1,2,20,21,22,23]
.ret))))⟩
def zhe:C:=
  (.block 1 (sr [
mq 21 2,
mq 22 1,
tq 23 (.bin .sub (.t 21) (.t 22)),
mq 12 23] [21,22,23]
(.seq (sr [
mq 24 12,
tq 25 (.bin .leq (.t 24) (kq 12))] [24]
(.cond (.t 25) (sr [
mq 26 0,
mq 27 1,
mq 28 2,
mq 29 4,
tq 30 (.call true true (.k (.fn zc2 [] [])) [.t 26,.t 27,.t 28,.t 29])] [0,1,2,4,26,27,28,29,30]
.ret)
 .skip))
(.seq (sr [
mq 31 3,
tq 32 (.bin .eql (.t 31) (kq 0))] [31]
(.cond (.t 32) (sr [
mq 33 0,
mq 34 1,
mq 35 2,
mq 36 4,
tq 37 (.call true true (.k (.fn zdj [] [])) [.t 33,.t 34,.t 35,.t 36])] [0,1,2,4,33,34,35,36,37]
.ret)
 .skip))
(.seq (sr [
mq 38 10,
tq 39 (.un .not (.t 38))] [38]
(.cond (.t 39) (sr [
mq 40 0,
mq 41 1,
mq 42 2,
mq 43 4,
tq 44 (.call true true (.k (.fn zc1 [] [])) [.t 40,.t 41,.t 42,.t 43])] [40,41,42,43,44]
(rg [
mq 45 3,
tq 46 (.bin .sub (.t 45) (kq 1)),
mq 3 46] [45,46]))
 .skip))
(sr [
mq 48 0,
mq 49 1,
mq 50 2,
mq 51 4,
tq 52 (.call true true (.k (.fn zc8 [] [])) [.t 48,.t 49,.t 50,.t 51]),
mq 47 52,
xq 53 47 0,
xq 54 47 1,
mq 13 53,
mq 14 54] [47,48,49,50,51,52,53,54]
(.seq (sr [
mq 55 14,
tq 56 (.bin .eql (.t 55) (kq 2))] [55]
(.cond (.t 56) (sr [
mq 57 0,
mq 58 1,
mq 59 2,
mq 60 4,
tq 61 (.call true true (.k (.fn zc3 [] [])) [.t 57,.t 58,.t 59,.t 60])] [57,58,59,60,61]
(sr [
mq 62 2,
tq 63 (.bin .sub (.t 62) (kq 1)),
mq 64 13,
mq 65 1,
tq 66 (.bin .sub (.t 64) (.t 65)),
tq 67 (.bin .sub (.t 63) (.t 66)),
mq 13 67] [62,63,64,65,66,67]
(rg [
tq 14 (.mv (kq 1))] [])))
 .skip))
(.seq (sr [
mq 68 10,
mq 69 68,
gq 70 69 true (.mv (.t 11)),
tq 71 (.pick (.t 69) (.t 70) (.k (.d (.bool false)))),
mq 72 71,
gq 73 72 true (.mv (.t 14)),
gq 74 72 true (.bin .eql (.t 73) (kq 1)),
tq 75 (.pick (.t 72) (.t 74) (.k (.d (.bool false))))] [14,68,69,70,71,72,73,74]
(.cond (.t 75) (sr [
mq 76 0,
mq 77 1,
mq 78 2,
mq 79 4,
tq 80 (.call true true (.k (.fn zca [] [])) [.t 76,.t 77,.t 78,.t 79])] [76,77,78,79]
(.cond (.t 80) .ret
 .skip))
 .skip))
(.seq (.seq (.reg true [
mq 81 1,
tq 82 (.bin .gtr (.t 81) (kq 0)),
mq 83 82,
gq 84 83 true (.mv (.t 4)),
gq 85 83 true (.mv (.t 0)),
gq 86 83 true (.mv (.t 1)),
gq 87 83 true (.bin .sub (.t 86) (kq 1)),
gq 88 83 true (.idxAddr 2 (.t 85) (.t 87)),
gq 89 83 true (.load (some 2) (.t 88)),
gq 90 83 true (.mv (.t 0)),
gq 91 83 true (.mv (.t 13)),
gq 92 83 true (.idxAddr 2 (.t 90) (.t 91)),
gq 93 83 true (.load (some 2) (.t 92)),
gq 94 83 true (.call true true (.t 84) [.t 89,.t 93]),
gq 95 83 true (.bin .lss (.t 94) (kq 0)),
gq 96 83 true (.un .not (.t 95)),
tq 97 (.pick (.t 83) (.t 96) (.k (.d (.bool false))))] [81,82,83,84,85,86,87,88,89,90,91,92,93,94,95,96])
(.cond (.t 97) (sr [
mq 98 0,
mq 99 1,
mq 100 2,
mq 101 13,
mq 102 4,
tq 103 (.call true true (.k (.fn zcx [] [])) [.t 98,.t 99,.t 100,.t 101,.t 102]),
mq 15 103] [1,13,98,99,100,101,102,103]
(sr [
mq 104 15,
mq 1 104] [15,104]
(.exit 1)))
 .skip))
(sr [
mq 106 0,
mq 107 1,
mq 108 2,
mq 109 13,
mq 110 4,
tq 111 (.call true true (.k (.fn zdg [] [])) [.t 106,.t 107,.t 108,.t 109,.t 110]),
mq 105 111,
xq 112 105 0,
xq 113 105 1,
mq 16 112,
mq 17 113] [13,105,106,107,108,109,110,111,112,113]
(sr [
mq 114 17,
mq 11 114] [17,114]
(sr [
mq 115 16,
mq 116 1,
tq 117 (.bin .sub (.t 115) (.t 116)),
mq 118 2,
mq 119 16,
tq 120 (.bin .sub (.t 118) (.t 119)),
mq 18 117,
mq 19 120] [115,116,117,118,119,120]
(sr [
mq 121 12,
tq 122 (.bin .quo (.t 121) (kq 8)),
mq 20 122] [12,121,122]
(sr [
mq 123 18,
mq 124 19,
tq 125 (.bin .lss (.t 123) (.t 124))] [123,124]
(.cond (.t 125) (sr [
mq 126 18,
mq 127 20,
tq 128 (.bin .geq (.t 126) (.t 127)),
mq 10 128] [18,20,126,127,128]
(sr [
mq 129 0,
mq 130 1,
mq 131 16,
mq 132 3,
mq 133 4,
tq 134 (.call true true (.k (.fn zbo [] [])) [.t 129,.t 130,.t 131,.t 132,.t 133])] [1,129,130,131,132,133,134]
(rg [
mq 135 16,
tq 136 (.bin .add (.t 135) (kq 1)),
mq 1 136] [16,135,136])))
 (sr [
mq 137 19,
mq 138 20,
tq 139 (.bin .geq (.t 137) (.t 138)),
mq 10 139] [19,20,137,138,139]
(sr [
mq 140 0,
mq 141 16,
tq 142 (.bin .add (.t 141) (kq 1)),
mq 143 2,
mq 144 3,
mq 145 4,
tq 146 (.call true true (.k (.fn zbo [] [])) [.t 140,.t 142,.t 143,.t 144,.t 145])] [2,140,141,142,143,144,145,146]
(rg [
mq 147 16,
mq 2 147] [16,147]))))))))))))))))))
def zh2:CF:=⟨[],
  (sr [
tq 10 (.mv (.k (.d (.bool true))))] []
(sr [
tq 11 (.mv (.k (.d (.bool true))))] []
(.block 0 (.loop [0,1,2,3,4,10,11] zhe))))⟩
def z0p:CF:=⟨[.tmp 2],
  (sr [
tq 2 (.mv (kq 0))] [2]
(.seq (.cond (.k (.d (.bool false))) (sr [
mq 3 0,
tq 4 (.conv .u32 (.t 3)),
tq 5 (cl zqa [.t 4]),
mq 2 5] [0,3,4,5]
.ret)
 .skip)
(sr [
mq 6 0,
tq 7 (cl zqb [.t 6]),
mq 2 7] [0,6,7]
.ret)))⟩
def z0o:CF:=⟨[.tmp 2],
  (sr [
tq 2 (.mv (.k (.d (.bool false))))] [2]
(sr [
mq 3 0,
mq 4 0,
tq 5 (.bin .neq (.t 3) (.t 4)),
mq 2 5] [0,3,4,5]
.ret))⟩
def zit:C:=
  (sr [
tq 11 (.bin .lss (.t 10) (.t 9))] []
(.seq (.cond (.t 11) .skip
 (.exit 0))
(.seq (.block 1 (sr [
tq 12 (.idxAddr 18 (.t 8) (.t 10)),
lq 13 18 12,
tq 7 (.alloc zbk [.z (.str []),.z (.str []),.z (.str []),.z (.str []),.z (.str []),.z (.str []),.z (.int .i64 0),.z (.int .i64 0),.z (.int .i64 0),.z (.int .i64 0),.z (.int .i64 0),.z (.int .i64 0),.z (.int .i64 0),.z (.int .i64 0),.z (.int .i64 0),.z (.int .i64 0),.z (.int .i64 0),.z (.int .i64 0)]),
⟨none,none,.store 18 (.t 7) (.t 13)⟩] [12,13]
(rg [
mq 14 5,
mq 15 1,
lq 16 18 7,
tq 17 (.call true true (.t 15) [.t 16]),
tq 18 (.mkList 1 1 [.t 17]),
tq 19 (.append ⟨false,za6,1,8⟩ (.t 14) (.t 18)),
mq 5 19] [7,14,15,16,17,18,19])))
(rg [
tq 20 (.bin .add (.t 10) (kq 1)),
mq 10 20] [20]))))
def zjn:CF:=⟨[.tmp 4],
  (sr [
tq 4 (.ownNil ⟨false,za6,1,8⟩)] [4]
(sr [
tq 5 (.ownNil ⟨false,za6,1,8⟩)] []
(.seq (sr [
mq 8 0,
tq 9 (.len .slc (.t 8)),
tq 10 (.mv (kq 0))] [0]
(.block 0 (.loop [1,5,8,9,10] zit)))
(sr [
mq 21 5,
mq 4 21] [5,21]
.ret))))⟩
def zun:CF:=⟨[.tmp 3],
  (sr [
tq 2 (.box zbk (.t 0)),
tq 3 (.mv (kq 0))] [0,3]
(.seq (sr [
fa 4 0 2,
fa 5 5 4,
ld 6 5,
tq 7 (.bin .eql (.t 6) (.k (.d (.str []))))] [4,5,6]
(.cond (.t 7) (sr [
tq 3 (.mv (kq (-1)))] []
.ret)
 .skip))
(sr [
ld 8 1,
fa 9 0 2,
fa 10 5 9,
ld 11 10,
tq 12 (.lookup .str (.int .i64 0) false (.t 8) (.t 11)),
mq 3 12] [1,2,8,9,10,11,12]
.ret)))⟩
def zoe:CF:=⟨[],
  (sr [
mq 5 0,
tq 6 (.len .slc (.t 5)),
mq 4 6] [5,6]
(rg [
mq 7 0,
mq 8 4,
mq 9 4,
tq 10 (.conv .u64 (.t 9)),
tq 11 (cl znz [.t 10]),
mq 12 1,
tq 13 (.call true true (.k (.fn zc9 [] [])) [.t 7,kq 0,.t 8,.t 11,.t 12])] [0,1,4,7,8,9,10,11,12,13]))⟩
def zmq:CF:=⟨[.tmp 5],
  (sr [
tq 5 (.mv (kq 0))] [5]
(.seq (.reg true [
mq 6 0,
ld 7 2,
tq 8 (.bin .sub (.t 6) (.t 7)),
tq 9 (cl zi4 [.t 8]),
mq 10 1,
ld 11 2,
tq 12 (.bin .sub (.t 10) (.t 11)),
tq 13 (cl zi4 [.t 12]),
tq 14 (cl zef [.t 9,.t 13]),
mq 15 0,
mq 16 1,
tq 17 (cl zef [.t 15,.t 16]),
tq 18 (.mkList 1 2 [.t 14,.t 17]),
tq 19 (cl zss [.t 18]),
mq 5 19] [0,1,2,6,7,8,9,10,11,12,13,14,15,16,17,18,19])
.ret))⟩
def zhr:C:=
  (.seq (sr [
mq 11 8,
mq 12 1,
tq 13 (.bin .leq (.t 11) (.t 12))] [11,12]
(.cond (.t 13) .skip
 (.exit 0)))
(.block 1 (sr [
mq 14 0,
mq 15 7,
mq 16 8,
mq 17 2,
tq 18 (.call true true (.k (.fn zbw [] [])) [.t 14,.t 15,.t 16,.t 17])] [7,14,15,16,17,18]
(sr [
mq 19 8,
mq 7 19] [19]
(rg [
mq 20 8,
mq 21 6,
tq 22 (.bin .add (.t 20) (.t 21)),
mq 8 22] [20,21,22])))))
def zhs:C:=
  (.seq (sr [
mq 33 8,
mq 34 1,
tq 35 (.bin .leq (.t 33) (.t 34))] [33,34]
(.cond (.t 35) .skip
 (.exit 4)))
(.block 5 (sr [
mq 36 0,
mq 37 7,
mq 38 7,
mq 39 6,
tq 40 (.bin .add (.t 38) (.t 39)),
mq 41 8,
mq 42 2,
tq 43 (.call true true (.k (.fn zax [] [])) [.t 36,.t 37,.t 40,.t 41,.t 42])] [7,36,37,38,39,40,41,42,43]
(sr [
mq 44 8,
mq 7 44] [44]
(rg [
mq 45 8,
mq 46 6,
tq 47 (.bin .mul (kq 2) (.t 46)),
tq 48 (.bin .add (.t 45) (.t 47)),
mq 8 48] [45,46,47,48])))))
def zht:C:=
  (.seq (sr [
mq 28 6,
mq 29 1,
tq 30 (.bin .lss (.t 28) (.t 29))] [28,29]
(.cond (.t 30) .skip
 (.exit 2)))
(.block 3 (sr [
mq 31 6,
tq 32 (.bin .mul (kq 2) (.t 31)),
tq 7 (.mv (kq 0)),
mq 8 32] [31,32]
(.seq (.block 4 (.loop [0,1,2,6,7,8] zhs))
(.seq (sr [
mq 49 7,
mq 50 6,
tq 51 (.bin .add (.t 49) (.t 50)),
mq 9 51] [49,50,51]
(sr [
mq 52 9,
mq 53 1,
tq 54 (.bin .lss (.t 52) (.t 53))] [52,53]
(.cond (.t 54) (rg [
mq 55 0,
mq 56 7,
mq 57 9,
mq 58 1,
mq 59 2,
tq 60 (.call true true (.k (.fn zax [] [])) [.t 55,.t 56,.t 57,.t 58,.t 59])] [7,9,55,56,57,58,59,60])
 .skip)))
(rg [
mq 61 6,
tq 62 (.bin .mul (.t 61) (kq 2)),
mq 6 62] [61,62]))))))
def zif:CF:=⟨[],
  (sr [
tq 6 (.mv (kq 20))] []
(sr [
mq 10 6,
tq 7 (.mv (kq 0)),
mq 8 10] [10]
(.seq (.block 0 (.loop [0,1,2,6,7,8] zhr))
(sr [
mq 23 0,
mq 24 7,
mq 25 1,
mq 26 2,
tq 27 (.call true true (.k (.fn zbw [] [])) [.t 23,.t 24,.t 25,.t 26])] [7,23,24,25,26,27]
(.block 2 (.loop [0,1,2,6] zht))))))⟩
def zne:C:=
  (sr [
tq 7 (.bin .lss (.t 6) (kq 2))] []
(.seq (.cond (.t 7) .skip
 (.exit 0))
(.seq (.block 1 (sr [
mq 8 6,
tq 9 (.idxA 2 1 none (.t 5) (.t 6)),
mq 3 8,
mq 4 9] [8,9]
(sr [
mq 10 4,
tq 11 (.bin .geq (.t 10) (kq 0)),
mq 12 11,
gq 13 12 true (.mv (.t 0)),
gq 14 12 true (.mv (.t 3)),
gq 15 12 true (.mv (.t 4)),
gq 16 12 true (.call true true (.t 13) [.t 14,.t 15]),
gq 17 12 true (.un .not (.t 16)),
tq 18 (.pick (.t 12) (.t 17) (.k (.d (.bool false))))] [3,4,10,11,12,13,14,15,16,17]
(.cond (.t 18) .ret
 .skip))))
(rg [
tq 19 (.bin .add (.t 6) (kq 1)),
mq 6 19] [19]))))
def zpa:CF:=⟨[],
  (sr [
lq 5 2 1,
tq 6 (.mv (kq 0))] [1]
(.block 0 (.loop [0,5,6] zne)))⟩
def zfp:C:=
  (sr [
tq 9 (.bin .lss (.t 8) (.t 7))] []
(.seq (.cond (.t 9) .skip
 (.exit 0))
(.seq (.block 1 (sr [
mq 10 8,
mq 5 10] [10]
(sr [
mq 11 1,
mq 12 0,
mq 13 5,
tq 14 (.idxAddr 8 (.t 12) (.t 13)),
lq 15 8 14,
tq 16 (.call true true (.t 11) [.t 15])] [11,12,13,14,15]
(.cond (.t 16) (sr [
mq 17 5,
mq 4 17] [5,17]
.ret)
 .skip))))
(rg [
tq 18 (.bin .add (.t 8) (kq 1)),
mq 8 18] [18]))))
def zgc:CF:=⟨[.tmp 4],
  (sr [
tq 4 (.mv (kq 0))] [4]
(.seq (sr [
mq 6 0,
tq 7 (.len .slc (.t 6)),
tq 8 (.mv (kq 0))] [6]
(.block 0 (.loop [0,1,7,8] zfp)))
(sr [
tq 4 (.mv (kq (-1)))] []
.ret)))⟩
def zpg:CF:=⟨[.tmp 3],
  (sr [
tq 2 (.box zac (.t 0)),
tq 3 (.mv (.k (.d (.bool false))))] [0,3]
(sr [
fa 4 0 2,
ld 5 4,
ld 6 1,
tq 7 (.bin .eql (.t 5) (.t 6)),
mq 3 7] [1,2,4,5,6,7]
.ret))⟩
def zdt:C:=
  (sr [
tq 9 (.bin .lss (.t 8) (.t 7))] []
(.seq (.cond (.t 9) .skip
 (.exit 0))
(.seq (.block 1 (sr [
mq 10 8,
mq 5 10] [10]
(sr [
mq 11 1,
mq 12 0,
mq 13 5,
tq 14 (.idxAddr 5 (.t 12) (.t 13)),
lq 15 5 14,
tq 16 (.call true true (.t 11) [.t 15])] [11,12,13,14,15]
(.cond (.t 16) (sr [
mq 17 5,
mq 4 17] [5,17]
.ret)
 .skip))))
(rg [
tq 18 (.bin .add (.t 8) (kq 1)),
mq 8 18] [18]))))
def zd5:CF:=⟨[.tmp 4],
  (sr [
tq 4 (.mv (kq 0))] [4]
(.seq (sr [
mq 6 0,
tq 7 (.len .slc (.t 6)),
tq 8 (.mv (kq 0))] [6]
(.block 0 (.loop [0,1,7,8] zdt)))
(sr [
tq 4 (.mv (kq (-1)))] []
.ret)))⟩
def zlz:CF:=⟨[.tmp 3],
  (sr [
tq 2 (.box zai (.t 0)),
tq 3 (.mv (.k (.d (.bool false))))] [0,3]
(sr [
fa 4 0 2,
ld 5 4,
ld 6 1,
tq 7 (.bin .eql (.t 5) (.t 6)),
mq 3 7] [1,2,4,5,6,7]
.ret))⟩
def zei:C:=
  (rg [
mq 5 7] [7])
def zej:C:=
  (.block 1 (rg [
ld 8 2,
mq 9 5,
tq 10 (.mkList 1 1 [.t 9]),
tq 11 (.append ⟨true,zab,1,16⟩ (.t 8) (.t 10)),
⟨none,none,.store 1 (.t 2) (.t 11)⟩] [2,5,8,9,10,11]))
def zj5:CF:=⟨[.tmp 4],
  (sr [
tq 2 (.box zqh (.t 0)),
tq 4 (.ownNil ⟨true,zab,1,16⟩)] [0]
(.seq (sr [
mq 6 1] [1]
(.block 0 (.rangeFn 14 (.t 6) [7] zei zej)))
(sr [
ld 12 2,
mq 4 12] [2,12]
.ret)))⟩
def zen:C:=
  (sr [
tq 9 (.bin .lss (.t 8) (.t 7))] []
(.seq (.cond (.t 9) .skip
 (.exit 0))
(.seq (.block 1 (sr [
mq 10 8,
mq 5 10] [10]
(sr [
mq 11 1,
mq 12 0,
mq 13 5,
tq 14 (.idxAddr 2 (.t 12) (.t 13)),
lq 15 2 14,
tq 16 (.call true true (.t 11) [.t 15])] [11,12,13,14,15]
(.cond (.t 16) (sr [
mq 17 5,
mq 4 17] [5,17]
.ret)
 .skip))))
(rg [
tq 18 (.bin .add (.t 8) (kq 1)),
mq 8 18] [18]))))
def ze8:CF:=⟨[.tmp 4],
  (sr [
tq 4 (.mv (kq 0))] [4]
(.seq (sr [
mq 6 0,
tq 7 (.len .slc (.t 6)),
tq 8 (.mv (kq 0))] [6]
(.block 0 (.loop [0,1,7,8] zen)))
(sr [
tq 4 (.mv (kq (-1)))] []
.ret)))⟩
def zv2:CF:=⟨[.tmp 2],
  (sr [
tq 1 (.box zab (.t 0)),
tq 2 (.mv (.k (.d (.nilf))))] [0,2]
(sr [
tq 3 (.mkFunc zme [] [.t 1]),
mq 2 3] [1,3]
.ret))⟩
def ztp:CF:=⟨[.tmp 3],
  (sr [
tq 3 (.mv (.k (.d (.bool false))))] [3]
(sr [
mq 4 0,
ld 5 1,
tq 6 (.bin .eql (.t 4) (.t 5)),
mq 3 6] [0,1,4,5,6]
.ret))⟩
def zv3:CF:=⟨[.tmp 2],
  (sr [
tq 2 (.mv (.k (.d (.bool false))))] [2]
(sr [
tq 2 (.mv (.k (.d (.bool true))))] []
.ret))⟩
def zqs:CF:=⟨[.tmp 2],
  (sr [
tq 1 (.box zea (.t 0)),
tq 2 (.mv (kq 0))] [0,2]
(.seq (.reg true [
fa 3 0 1,
ld 4 3,
tq 5 (cl zc0 [.t 4]),
tq 6 (.un .not (.t 5)),
tq 7 (cl zc5 [.t 6,kq 8]),
fa 8 2 1,
ld 9 8,
tq 10 (cl zp9 [.t 9]),
fa 11 3 1,
ld 12 11,
tq 13 (cl zjq [.t 12]),
fa 14 6 1,
lq 15 3 14,
tq 16 (cl zb5 [.t 15]),
fa 17 9 1,
ld 18 17,
tq 19 (cl zbt [.t 18,kq 0,kq 1439]),
fa 20 10 1,
ld 21 20,
fa 22 11 1,
ld 23 22,
fa 24 12 1,
ld 25 24,
tq 26 (cl zsr [.t 21,.t 23,.t 25]),
tq 27 (.mkList 1 6 [.t 7,.t 10,.t 13,.t 16,.t 19,.t 26]),
tq 28 (cl zfa [.t 27]),
mq 2 28] [1,3,4,5,6,7,8,9,10,11,12,13,14,15,16,17,18,19,20,21,22,23,24,25,26,27,28])
.ret))⟩
def zrs:C:=
  (sr [
tq 17 (.bin .lss (.t 16) (.t 15))] []
(.seq (.cond (.t 17) .skip
 (.exit 0))
(.seq (.block 1 (sr [
tq 18 (.idxAddr 1 (.t 14) (.t 16)),
ld 19 18,
mq 7 19] [18,19]
(rg [
mq 20 5,
mq 21 7,
tq 22 (.bin .mul (kq 1440) (.t 21)),
fa 23 9 1,
ld 24 23,
tq 25 (.bin .add (.t 22) (.t 24)),
fa 26 2 1,
ld 27 26,
fa 28 3 1,
ld 29 28,
fa 30 10 1,
ld 31 30,
fa 32 11 1,
ld 33 32,
fa 34 12 1,
ld 35 34,
fa 36 0 1,
ld 37 36,
tq 38 (.build [.z (.int .i64 0),.z (.str []),.z (.str []),.z (.int .i64 0),.z (.int .i64 0),.z (.int .i64 0),.z (.str [])] [(0,1,.t 25),(1,1,.t 27),(2,1,.t 29),(3,1,.t 31),(4,1,.t 33),(5,1,.t 35),(6,1,.t 37)]),
tq 39 (.mkList 7 1 [.t 38]),
tq 40 (.append ⟨false,zbx,7,80⟩ (.t 20) (.t 39)),
mq 5 40] [7,20,21,22,23,24,25,26,27,28,29,30,31,32,33,34,35,36,37,38,39,40])))
(rg [
tq 41 (.bin .add (.t 16) (kq 1)),
mq 16 41] [41]))))
def ztq:CF:=⟨[.tmp 2],
  (sr [
tq 1 (.box zea (.t 0)),
tq 2 (.ownNil ⟨false,zbx,7,80⟩)] [0,2]
(sr [
fa 9 6 1,
lq 10 3 9,
tq 11 (cl zih [.t 10]),
mq 8 11,
xq 12 8 0,
xq 13 8 1,
mq 3 12,
mq 4 13] [4,8,9,10,11,12,13]
(sr [
tq 5 (.ownNil ⟨false,zbx,7,80⟩)] []
(.seq (sr [
mq 14 3,
tq 15 (.len .slc (.t 14)),
tq 16 (.mv (kq 0))] [3]
(.block 0 (.loop [1,5,14,15,16] zrs)))
(sr [
mq 42 5,
mq 2 42] [5,42]
.ret)))))⟩
def ztn:CF:=⟨[.tmp 4],
  (sr [
tq 2 (.box zch (.t 0)),
tq 4 (.mv (.k (.d (.bool false))))] [0,4]
(sr [
fa 8 7 2,
lq 9 3 8,
mq 10 1,
tq 11 (cl zt9 [.t 9,.t 10]),
mq 7 11,
xq 12 7 0,
xq 13 7 1,
mq 5 12,
mq 6 13] [1,2,7,8,9,10,11,12,13]
(sr [
mq 14 6,
tq 15 (.bin .eql (.t 14) (kq 0)),
mq 16 15,
gq 17 16 true (.mv (.t 5)),
tq 18 (.pick (.t 16) (.t 17) (.k (.d (.bool false)))),
mq 4 18] [5,6,14,15,16,17,18]
.ret)))⟩
def zt1:CF:=⟨[.tmp 2],
  (sr [
tq 2 (.mv (.k (.d (.list 0 []))))] [2]
(sr [
mq 3 0,
tq 4 (.call true true (.k (.fn zia [] [])) [.k (.d .nil),.t 3]),
mq 2 4] [0,3,4]
.ret))⟩
def zqr:CF:=⟨[.tmp 4],
  (sr [
tq 2 (.box zch (.t 0)),
tq 3 (.box za6 (.t 1)),
tq 4 (.mv (.k (.d (.nilf))))] [0,1,4]
(sr [
tq 5 (.mkFunc zja [] [.t 3,.t 2]),
mq 4 5] [2,3,5]
.ret))⟩
def zft:C:=
  (.seq (.seq (.reg true [
mq 18 9,
mq 19 1,
tq 20 (.bin .gtr (.t 18) (.t 19)),
mq 21 20,
gq 22 21 true (.mv (.t 3)),
gq 23 21 true (.mv (.t 0)),
gq 24 21 true (.mv (.t 9)),
gq 25 21 true (.idxAddr 2 (.t 23) (.t 24)),
gq 26 21 true (.load (some 2) (.t 25)),
gq 27 21 true (.mv (.t 0)),
gq 28 21 true (.mv (.t 9)),
gq 29 21 true (.bin .sub (.t 28) (kq 1)),
gq 30 21 true (.idxAddr 2 (.t 27) (.t 29)),
gq 31 21 true (.load (some 2) (.t 30)),
gq 32 21 true (.call true true (.t 22) [.t 26,.t 31]),
gq 33 21 true (.bin .lss (.t 32) (kq 0)),
tq 34 (.pick (.t 21) (.t 33) (.k (.d (.bool false))))] [18,19,20,21,22,23,24,25,26,27,28,29,30,31,32,33])
(.cond (.t 34) .skip
 (.exit 2)))
(.seq (.block 3 (.reg true [
mq 37 0,
mq 38 9,
mq 39 0,
mq 40 9,
tq 41 (.bin .sub (.t 40) (kq 1)),
mq 42 0,
mq 43 9,
tq 44 (.bin .sub (.t 43) (kq 1)),
tq 45 (.idxAddr 2 (.t 42) (.t 44)),
lq 46 2 45,
mq 47 0,
mq 48 9,
tq 49 (.idxAddr 2 (.t 47) (.t 48)),
lq 50 2 49,
tq 51 (.idxAddr 2 (.t 37) (.t 38)),
⟨none,none,.store 2 (.t 51) (.t 46)⟩,
tq 52 (.idxAddr 2 (.t 39) (.t 41)),
⟨none,none,.store 2 (.t 52) (.t 50)⟩] [37,38,39,40,41,42,43,44,45,46,47,48,49,50,51,52]))
(rg [
mq 35 9,
tq 36 (.bin .sub (.t 35) (kq 1)),
mq 9 36] [35,36])))
def zfu:C:=
  (.seq (sr [
mq 12 8,
mq 13 2,
tq 14 (.bin .lss (.t 12) (.t 13))] [12,13]
(.cond (.t 14) .skip
 (.exit 0)))
(.seq (.block 1 (sr [
mq 17 8,
mq 9 17] [17]
(.block 2 (.loop [0,1,2,3,8,9] zft))))
(rg [
mq 15 8,
tq 16 (.bin .add (.t 15) (kq 1)),
mq 8 16] [15,16])))
def zgf:CF:=⟨[],
  (sr [
mq 10 1,
tq 11 (.bin .add (.t 10) (kq 1)),
mq 8 11] [10,11]
(.block 0 (.loop [0,1,2,3,8] zfu)))⟩
def zg1:C:=
  (.seq (sr [
mq 20 11,
tq 21 (.bin .geq (.t 20) (kq 0))] [20]
(.cond (.t 21) .skip
 (.exit 0)))
(.seq (.block 1 (rg [
mq 24 0,
mq 25 11,
mq 26 10,
mq 27 8,
mq 28 3,
tq 29 (.call true true (.k (.fn zb8 [] [])) [.t 24,.t 25,.t 26,.t 27,.t 28])] [24,25,26,27,28,29]))
(rg [
mq 22 11,
tq 23 (.bin .sub (.t 22) (kq 1)),
mq 11 23] [22,23])))
def zg2:C:=
  (.seq (sr [
mq 32 12,
tq 33 (.bin .geq (.t 32) (kq 0))] [32]
(.cond (.t 33) .skip
 (.exit 2)))
(.seq (.block 3 (.seq (.reg true [
mq 36 0,
mq 37 8,
mq 38 0,
mq 39 8,
mq 40 12,
tq 41 (.bin .add (.t 39) (.t 40)),
mq 42 0,
mq 43 8,
mq 44 12,
tq 45 (.bin .add (.t 43) (.t 44)),
tq 46 (.idxAddr 2 (.t 42) (.t 45)),
lq 47 2 46,
mq 48 0,
mq 49 8,
tq 50 (.idxAddr 2 (.t 48) (.t 49)),
lq 51 2 50,
tq 52 (.idxAddr 2 (.t 36) (.t 37)),
⟨none,none,.store 2 (.t 52) (.t 47)⟩,
tq 53 (.idxAddr 2 (.t 38) (.t 41)),
⟨none,none,.store 2 (.t 53) (.t 51)⟩] [36,37,38,39,40,41,42,43,44,45,46,47,48,49,50,51,52,53])
(rg [
mq 54 0,
mq 55 9,
mq 56 12,
mq 57 8,
mq 58 3,
tq 59 (.call true true (.k (.fn zb8 [] [])) [.t 54,.t 55,.t 56,.t 57,.t 58])] [54,55,56,57,58,59])))
(rg [
mq 34 12,
tq 35 (.bin .sub (.t 34) (kq 1)),
mq 12 35] [34,35])))
def zhu:CF:=⟨[],
  (sr [
mq 13 1,
mq 8 13] [13]
(sr [
tq 9 (.mv (kq 0))] []
(sr [
mq 14 2,
mq 15 1,
tq 16 (.bin .sub (.t 14) (.t 15)),
mq 10 16] [1,2,14,15,16]
(.seq (sr [
mq 17 10,
tq 18 (.bin .sub (.t 17) (kq 1)),
tq 19 (.bin .quo (.t 18) (kq 2)),
mq 11 19] [17,18,19]
(.block 0 (.loop [0,3,8,9,10,11] zg1)))
(sr [
mq 30 10,
tq 31 (.bin .sub (.t 30) (kq 1)),
mq 12 31] [10,30,31]
(.block 2 (.loop [0,3,8,9,12] zg2)))))))⟩
def zfq:C:=
  (.seq (sr [
mq 28 11,
mq 29 1,
mq 30 8,
tq 31 (.bin .quo (.t 30) (kq 4)),
tq 32 (.bin .mul (.t 31) (kq 2)),
tq 33 (.bin .add (.t 29) (.t 32)),
tq 34 (.bin .add (.t 33) (kq 1)),
tq 35 (.bin .leq (.t 28) (.t 34))] [28,29,30,31,32,33,34]
(.cond (.t 35) .skip
 (.exit 0)))
(.seq (.block 1 (sr [
tq 38 (.call true true (.k (.fn zr5 [] [])) [.t 9]),
mq 39 10,
tq 40 (.bin .sub (.t 39) (.k (.d (.int .u64 1)))),
tq 41 (.bin .and (.t 38) (.t 40)),
tq 42 (.conv .i64 (.t 41)),
mq 12 42] [38,39,40,41,42]
(.seq (sr [
mq 43 12,
mq 44 8,
tq 45 (.bin .geq (.t 43) (.t 44))] [43,44]
(.cond (.t 45) (rg [
mq 46 12,
mq 47 8,
tq 48 (.bin .sub (.t 46) (.t 47)),
mq 12 48] [46,47,48])
 .skip))
(.reg true [
mq 49 0,
mq 50 11,
mq 51 0,
mq 52 1,
mq 53 12,
tq 54 (.bin .add (.t 52) (.t 53)),
mq 55 0,
mq 56 1,
mq 57 12,
tq 58 (.bin .add (.t 56) (.t 57)),
tq 59 (.idxAddr 2 (.t 55) (.t 58)),
lq 60 2 59,
mq 61 0,
mq 62 11,
tq 63 (.idxAddr 2 (.t 61) (.t 62)),
lq 64 2 63,
tq 65 (.idxAddr 2 (.t 49) (.t 50)),
⟨none,none,.store 2 (.t 65) (.t 60)⟩,
tq 66 (.idxAddr 2 (.t 51) (.t 54)),
⟨none,none,.store 2 (.t 66) (.t 64)⟩] [12,49,50,51,52,53,54,55,56,57,58,59,60,61,62,63,64,65,66]))))
(rg [
mq 36 11,
tq 37 (.bin .add (.t 36) (kq 1)),
mq 11 37] [36,37])))
def zgd:CF:=⟨[],
  (sr [
mq 13 2,
mq 14 1,
tq 15 (.bin .sub (.t 13) (.t 14)),
mq 8 15] [2,13,14,15]
(sr [
mq 16 8,
tq 17 (.bin .geq (.t 16) (kq 8))] [16]
(.cond (.t 17) (sr [
mq 18 8,
tq 19 (.conv .u64 (.t 18)),
tq 9 (.alloc zw6 [.z (.int .u64 0)]),
⟨none,none,.store 1 (.t 9) (.t 19)⟩] [18,19]
(sr [
mq 20 8,
tq 21 (cl zq6 [.t 20]),
mq 10 21] [20,21]
(sr [
mq 22 1,
mq 23 8,
tq 24 (.bin .quo (.t 23) (kq 4)),
tq 25 (.bin .mul (.t 24) (kq 2)),
tq 26 (.bin .add (.t 22) (.t 25)),
tq 27 (.bin .sub (.t 26) (kq 1)),
mq 11 27] [22,23,24,25,26,27]
(.block 0 (.loop [0,1,8,9,10,11] zfq)))))
 .skip)))⟩
def zgu:CF:=⟨[.tmp 8,.tmp 9],
  (sr [
tq 8 (.mv (kq 0)),
tq 9 (.mv (kq 0))] [8,9]
(sr [
mq 15 2,
mq 16 1,
tq 17 (.bin .sub (.t 15) (.t 16)),
mq 10 17] [2,15,16,17]
(sr [
tq 11 (.alloc za6 [.z (.int .i64 0)])] []
(sr [
mq 18 1,
mq 19 10,
tq 20 (.bin .quo (.t 19) (kq 4)),
tq 21 (.bin .mul (.t 20) (kq 1)),
tq 22 (.bin .add (.t 18) (.t 21)),
mq 12 22] [18,19,20,21,22]
(sr [
mq 23 1,
mq 24 10,
tq 25 (.bin .quo (.t 24) (kq 4)),
tq 26 (.bin .mul (.t 25) (kq 2)),
tq 27 (.bin .add (.t 23) (.t 26)),
mq 13 27] [23,24,25,26,27]
(sr [
mq 28 1,
mq 29 10,
tq 30 (.bin .quo (.t 29) (kq 4)),
tq 31 (.bin .mul (.t 30) (kq 3)),
tq 32 (.bin .add (.t 28) (.t 31)),
mq 14 32] [1,28,29,30,31,32]
(.seq (sr [
mq 33 10,
tq 34 (.bin .geq (.t 33) (kq 8))] [33]
(.cond (.t 34) (.seq (sr [
mq 35 10,
tq 36 (.bin .geq (.t 35) (kq 50))] [10,35]
(.cond (.t 36) (sr [
mq 37 0,
mq 38 12,
mq 39 3,
tq 40 (.call true true (.k (.fn za1 [] [])) [.t 37,.t 38,.t 11,.t 39]),
mq 12 40] [37,38,39,40]
(sr [
mq 41 0,
mq 42 13,
mq 43 3,
tq 44 (.call true true (.k (.fn za1 [] [])) [.t 41,.t 42,.t 11,.t 43]),
mq 13 44] [41,42,43,44]
(rg [
mq 45 0,
mq 46 14,
mq 47 3,
tq 48 (.call true true (.k (.fn za1 [] [])) [.t 45,.t 46,.t 11,.t 47]),
mq 14 48] [45,46,47,48])))
 .skip))
(rg [
mq 49 0,
mq 50 12,
mq 51 13,
mq 52 14,
mq 53 3,
tq 54 (.call true true (.k (.fn zcg [] [])) [.t 49,.t 50,.t 51,.t 52,.t 11,.t 53]),
mq 13 54] [0,3,12,14,49,50,51,52,53,54]))
 .skip))
(sr [
ld 55 11] [11]
(.block 0 (sr [
tq 58 (.bin .eql (.t 55) (kq 0)),
mq 57 58] [58]
(.cond (.t 57) (sr [
mq 59 13,
mq 8 59,
tq 9 (.mv (kq 1))] [13,59]
.ret)
 (sr [
tq 61 (.bin .eql (.t 55) (kq 12)),
mq 60 61] [55,61]
(.cond (.t 60) (sr [
mq 62 13,
mq 8 62,
tq 9 (.mv (kq 2))] [13,62]
.ret)
 (sr [
mq 56 13,
mq 8 56,
tq 9 (.mv (kq 0))] [13,56]
.ret))))))))))))))⟩
def zf4:C:=
  (.seq (sr [
mq 13 8,
mq 14 9,
tq 15 (.bin .lss (.t 13) (.t 14))] [13,14]
(.cond (.t 15) .skip
 (.exit 0)))
(.block 1 (.seq (.reg true [
mq 16 0,
mq 17 8,
mq 18 0,
mq 19 9,
mq 20 0,
mq 21 9,
tq 22 (.idxAddr 2 (.t 20) (.t 21)),
lq 23 2 22,
mq 24 0,
mq 25 8,
tq 26 (.idxAddr 2 (.t 24) (.t 25)),
lq 27 2 26,
tq 28 (.idxAddr 2 (.t 16) (.t 17)),
⟨none,none,.store 2 (.t 28) (.t 23)⟩,
tq 29 (.idxAddr 2 (.t 18) (.t 19)),
⟨none,none,.store 2 (.t 29) (.t 27)⟩] [16,17,18,19,20,21,22,23,24,25,26,27,28,29])
(sr [
mq 30 8,
tq 31 (.bin .add (.t 30) (kq 1)),
mq 8 31] [30,31]
(rg [
mq 32 9,
tq 33 (.bin .sub (.t 32) (kq 1)),
mq 9 33] [32,33])))))
def zgl:CF:=⟨[],
  (sr [
mq 10 1,
mq 8 10] [1,10]
(sr [
mq 11 2,
tq 12 (.bin .sub (.t 11) (kq 1)),
mq 9 12] [2,11,12]
(.block 0 (.loop [0,8,9] zf4))))⟩
def zdz:C:=
  (.seq (.seq (.reg true [
mq 19 9,
mq 20 2,
tq 21 (.bin .lss (.t 19) (.t 20)),
mq 22 21,
gq 23 22 true (.mv (.t 3)),
gq 24 22 true (.mv (.t 0)),
gq 25 22 true (.mv (.t 9)),
gq 26 22 true (.idxAddr 2 (.t 24) (.t 25)),
gq 27 22 true (.load (some 2) (.t 26)),
gq 28 22 true (.mv (.t 0)),
gq 29 22 true (.mv (.t 9)),
gq 30 22 true (.bin .sub (.t 29) (kq 1)),
gq 31 22 true (.idxAddr 2 (.t 28) (.t 30)),
gq 32 22 true (.load (some 2) (.t 31)),
gq 33 22 true (.call true true (.t 23) [.t 27,.t 32]),
gq 34 22 true (.bin .lss (.t 33) (kq 0)),
gq 35 22 true (.un .not (.t 34)),
tq 36 (.pick (.t 22) (.t 35) (.k (.d (.bool false))))] [19,20,21,22,23,24,25,26,27,28,29,30,31,32,33,34,35])
(.cond (.t 36) .skip
 (.exit 2)))
(.block 3 (rg [
mq 37 9,
tq 38 (.bin .add (.t 37) (kq 1)),
mq 9 38] [37,38])))
def zd0:C:=
  (.seq (sr [
mq 68 11,
tq 69 (.bin .geq (.t 68) (kq 1))] [68]
(.cond (.t 69) .skip
 (.exit 4)))
(.seq (.block 5 (.seq (.seq (.reg true [
mq 72 3,
mq 73 0,
mq 74 11,
tq 75 (.idxAddr 2 (.t 73) (.t 74)),
lq 76 2 75,
mq 77 0,
mq 78 11,
tq 79 (.bin .sub (.t 78) (kq 1)),
tq 80 (.idxAddr 2 (.t 77) (.t 79)),
lq 81 2 80,
tq 82 (.call true true (.t 72) [.t 76,.t 81]),
tq 83 (.bin .lss (.t 82) (kq 0)),
tq 84 (.un .not (.t 83))] [72,73,74,75,76,77,78,79,80,81,82,83])
(.cond (.t 84) (.exit 4)
 .skip))
(.reg true [
mq 85 0,
mq 86 11,
mq 87 0,
mq 88 11,
tq 89 (.bin .sub (.t 88) (kq 1)),
mq 90 0,
mq 91 11,
tq 92 (.bin .sub (.t 91) (kq 1)),
tq 93 (.idxAddr 2 (.t 90) (.t 92)),
lq 94 2 93,
mq 95 0,
mq 96 11,
tq 97 (.idxAddr 2 (.t 95) (.t 96)),
lq 98 2 97,
tq 99 (.idxAddr 2 (.t 85) (.t 86)),
⟨none,none,.store 2 (.t 99) (.t 94)⟩,
tq 100 (.idxAddr 2 (.t 87) (.t 89)),
⟨none,none,.store 2 (.t 100) (.t 98)⟩] [85,86,87,88,89,90,91,92,93,94,95,96,97,98,99,100])))
(rg [
mq 70 11,
tq 71 (.bin .sub (.t 70) (kq 1)),
mq 11 71] [70,71])))
def zd1:C:=
  (.seq (sr [
mq 107 12,
mq 108 2,
tq 109 (.bin .lss (.t 107) (.t 108))] [107,108]
(.cond (.t 109) .skip
 (.exit 6)))
(.seq (.block 7 (.seq (.seq (.reg true [
mq 112 3,
mq 113 0,
mq 114 12,
tq 115 (.idxAddr 2 (.t 113) (.t 114)),
lq 116 2 115,
mq 117 0,
mq 118 12,
tq 119 (.bin .sub (.t 118) (kq 1)),
tq 120 (.idxAddr 2 (.t 117) (.t 119)),
lq 121 2 120,
tq 122 (.call true true (.t 112) [.t 116,.t 121]),
tq 123 (.bin .lss (.t 122) (kq 0)),
tq 124 (.un .not (.t 123))] [112,113,114,115,116,117,118,119,120,121,122,123])
(.cond (.t 124) (.exit 6)
 .skip))
(.reg true [
mq 125 0,
mq 126 12,
mq 127 0,
mq 128 12,
tq 129 (.bin .sub (.t 128) (kq 1)),
mq 130 0,
mq 131 12,
tq 132 (.bin .sub (.t 131) (kq 1)),
tq 133 (.idxAddr 2 (.t 130) (.t 132)),
lq 134 2 133,
mq 135 0,
mq 136 12,
tq 137 (.idxAddr 2 (.t 135) (.t 136)),
lq 138 2 137,
tq 139 (.idxAddr 2 (.t 125) (.t 126)),
⟨none,none,.store 2 (.t 139) (.t 134)⟩,
tq 140 (.idxAddr 2 (.t 127) (.t 129)),
⟨none,none,.store 2 (.t 140) (.t 138)⟩] [125,126,127,128,129,130,131,132,133,134,135,136,137,138,139,140])))
(rg [
mq 110 12,
tq 111 (.bin .add (.t 110) (kq 1)),
mq 12 111] [110,111])))
def zd2:C:=
  (.seq (sr [
mq 15 10,
tq 16 (.bin .lss (.t 15) (kq 5))] [15]
(.cond (.t 16) .skip
 (.exit 0)))
(.seq (.block 1 (.seq (.block 2 (.loop [0,1,2,3,9,10] zdz))
(.seq (sr [
mq 39 9,
mq 40 2,
tq 41 (.bin .eql (.t 39) (.t 40))] [39,40]
(.cond (.t 41) (sr [
tq 8 (.mv (.k (.d (.bool true))))] []
.ret)
 .skip))
(.seq (sr [
mq 42 2,
mq 43 1,
tq 44 (.bin .sub (.t 42) (.t 43)),
tq 45 (.bin .lss (.t 44) (kq 50))] [42,43,44]
(.cond (.t 45) (sr [
tq 8 (.mv (.k (.d (.bool false))))] []
.ret)
 .skip))
(.seq (.reg true [
mq 46 0,
mq 47 9,
mq 48 0,
mq 49 9,
tq 50 (.bin .sub (.t 49) (kq 1)),
mq 51 0,
mq 52 9,
tq 53 (.bin .sub (.t 52) (kq 1)),
tq 54 (.idxAddr 2 (.t 51) (.t 53)),
lq 55 2 54,
mq 56 0,
mq 57 9,
tq 58 (.idxAddr 2 (.t 56) (.t 57)),
lq 59 2 58,
tq 60 (.idxAddr 2 (.t 46) (.t 47)),
⟨none,none,.store 2 (.t 60) (.t 55)⟩,
tq 61 (.idxAddr 2 (.t 48) (.t 50)),
⟨none,none,.store 2 (.t 61) (.t 59)⟩] [46,47,48,49,50,51,52,53,54,55,56,57,58,59,60,61])
(.seq (sr [
mq 62 9,
mq 63 1,
tq 64 (.bin .sub (.t 62) (.t 63)),
tq 65 (.bin .geq (.t 64) (kq 2))] [62,63,64]
(.cond (.t 65) (sr [
mq 66 9,
tq 67 (.bin .sub (.t 66) (kq 1)),
mq 11 67] [66,67]
(.block 4 (.loop [0,1,2,3,9,10,11] zd0)))
 .skip))
(sr [
mq 101 2,
mq 102 9,
tq 103 (.bin .sub (.t 101) (.t 102)),
tq 104 (.bin .geq (.t 103) (kq 2))] [101,102,103]
(.cond (.t 104) (sr [
mq 105 9,
tq 106 (.bin .add (.t 105) (kq 1)),
mq 12 106] [105,106]
(.block 6 (.loop [0,1,2,3,9,10,12] zd1)))
 .skip))))))))
(rg [
mq 17 10,
tq 18 (.bin .add (.t 17) (kq 1)),
mq 10 18] [17,18])))
def zed:CF:=⟨[.tmp 8],
  (sr [
tq 8 (.mv (.k (.d (.bool false))))] [8]
(sr [
mq 13 1,
tq 14 (.bin .add (.t 13) (kq 1)),
mq 9 14] [13,14]
(.seq (sr [
tq 10 (.mv (kq 0))] []
(.block 0 (.loop [0,1,2,3,9,10] zd2)))
(sr [
tq 8 (.mv (.k (.d (.bool false))))] []
.ret))))⟩
def zfd:C:=
  (.seq (.seq (.reg true [
mq 31 11,
mq 32 12,
tq 33 (.bin .leq (.t 31) (.t 32)),
mq 34 33,
gq 35 34 true (.mv (.t 4)),
gq 36 34 true (.mv (.t 0)),
gq 37 34 true (.mv (.t 1)),
gq 38 34 true (.idxAddr 2 (.t 36) (.t 37)),
gq 39 34 true (.load (some 2) (.t 38)),
gq 40 34 true (.mv (.t 0)),
gq 41 34 true (.mv (.t 11)),
gq 42 34 true (.idxAddr 2 (.t 40) (.t 41)),
gq 43 34 true (.load (some 2) (.t 42)),
gq 44 34 true (.call true true (.t 35) [.t 39,.t 43]),
gq 45 34 true (.bin .lss (.t 44) (kq 0)),
gq 46 34 true (.un .not (.t 45)),
tq 47 (.pick (.t 34) (.t 46) (.k (.d (.bool false))))] [31,32,33,34,35,36,37,38,39,40,41,42,43,44,45,46])
(.cond (.t 47) .skip
 (.exit 2)))
(.block 3 (rg [
mq 48 11,
tq 49 (.bin .add (.t 48) (kq 1)),
mq 11 49] [48,49])))
def zfe:C:=
  (.seq (.seq (.reg true [
mq 50 11,
mq 51 12,
tq 52 (.bin .leq (.t 50) (.t 51)),
mq 53 52,
gq 54 53 true (.mv (.t 4)),
gq 55 53 true (.mv (.t 0)),
gq 56 53 true (.mv (.t 1)),
gq 57 53 true (.idxAddr 2 (.t 55) (.t 56)),
gq 58 53 true (.load (some 2) (.t 57)),
gq 59 53 true (.mv (.t 0)),
gq 60 53 true (.mv (.t 12)),
gq 61 53 true (.idxAddr 2 (.t 59) (.t 60)),
gq 62 53 true (.load (some 2) (.t 61)),
gq 63 53 true (.call true true (.t 54) [.t 58,.t 62]),
gq 64 53 true (.bin .lss (.t 63) (kq 0)),
tq 65 (.pick (.t 53) (.t 64) (.k (.d (.bool false))))] [50,51,52,53,54,55,56,57,58,59,60,61,62,63,64])
(.cond (.t 65) .skip
 (.exit 4)))
(.block 5 (rg [
mq 66 12,
tq 67 (.bin .sub (.t 66) (kq 1)),
mq 12 67] [66,67])))
def zff:C:=
  (.block 1 (.seq (.block 2 (.loop [0,1,4,11,12] zfd))
(.seq (.block 4 (.loop [0,1,4,11,12] zfe))
(.seq (sr [
mq 68 11,
mq 69 12,
tq 70 (.bin .gtr (.t 68) (.t 69))] [68,69]
(.cond (.t 70) (.exit 0)
 .skip))
(.seq (.reg true [
mq 71 0,
mq 72 11,
mq 73 0,
mq 74 12,
mq 75 0,
mq 76 12,
tq 77 (.idxAddr 2 (.t 75) (.t 76)),
lq 78 2 77,
mq 79 0,
mq 80 11,
tq 81 (.idxAddr 2 (.t 79) (.t 80)),
lq 82 2 81,
tq 83 (.idxAddr 2 (.t 71) (.t 72)),
⟨none,none,.store 2 (.t 83) (.t 78)⟩,
tq 84 (.idxAddr 2 (.t 73) (.t 74)),
⟨none,none,.store 2 (.t 84) (.t 82)⟩] [71,72,73,74,75,76,77,78,79,80,81,82,83,84])
(sr [
mq 85 11,
tq 86 (.bin .add (.t 85) (kq 1)),
mq 11 86] [85,86]
(rg [
mq 87 12,
tq 88 (.bin .sub (.t 87) (kq 1)),
mq 12 88] [87,88])))))))
def zf7:CF:=⟨[.tmp 10],
  (sr [
tq 10 (.mv (kq 0))] [10]
(.seq (.reg true [
mq 13 0,
mq 14 1,
mq 15 0,
mq 16 3,
mq 17 0,
mq 18 3,
tq 19 (.idxAddr 2 (.t 17) (.t 18)),
lq 20 2 19,
mq 21 0,
mq 22 1,
tq 23 (.idxAddr 2 (.t 21) (.t 22)),
lq 24 2 23,
tq 25 (.idxAddr 2 (.t 13) (.t 14)),
⟨none,none,.store 2 (.t 25) (.t 20)⟩,
tq 26 (.idxAddr 2 (.t 15) (.t 16)),
⟨none,none,.store 2 (.t 26) (.t 24)⟩] [3,13,14,15,16,17,18,19,20,21,22,23,24,25,26])
(sr [
mq 27 1,
tq 28 (.bin .add (.t 27) (kq 1)),
mq 29 2,
tq 30 (.bin .sub (.t 29) (kq 1)),
mq 11 28,
mq 12 30] [2,27,28,29,30]
(.seq (.block 0 (.loop [0,1,4,11,12] zff))
(sr [
mq 89 11,
mq 10 89] [11,89]
.ret)))))⟩
def zgo:C:=
  (.seq (.seq (.reg true [
mq 32 12,
mq 33 13,
tq 34 (.bin .leq (.t 32) (.t 33)),
mq 35 34,
gq 36 35 true (.mv (.t 4)),
gq 37 35 true (.mv (.t 0)),
gq 38 35 true (.mv (.t 12)),
gq 39 35 true (.idxAddr 2 (.t 37) (.t 38)),
gq 40 35 true (.load (some 2) (.t 39)),
gq 41 35 true (.mv (.t 0)),
gq 42 35 true (.mv (.t 1)),
gq 43 35 true (.idxAddr 2 (.t 41) (.t 42)),
gq 44 35 true (.load (some 2) (.t 43)),
gq 45 35 true (.call true true (.t 36) [.t 40,.t 44]),
gq 46 35 true (.bin .lss (.t 45) (kq 0)),
tq 47 (.pick (.t 35) (.t 46) (.k (.d (.bool false))))] [32,33,34,35,36,37,38,39,40,41,42,43,44,45,46])
(.cond (.t 47) .skip
 (.exit 0)))
(.block 1 (rg [
mq 48 12,
tq 49 (.bin .add (.t 48) (kq 1)),
mq 12 49] [48,49])))
def zgp:C:=
  (.seq (.seq (.reg true [
mq 50 12,
mq 51 13,
tq 52 (.bin .leq (.t 50) (.t 51)),
mq 53 52,
gq 54 53 true (.mv (.t 4)),
gq 55 53 true (.mv (.t 0)),
gq 56 53 true (.mv (.t 13)),
gq 57 53 true (.idxAddr 2 (.t 55) (.t 56)),
gq 58 53 true (.load (some 2) (.t 57)),
gq 59 53 true (.mv (.t 0)),
gq 60 53 true (.mv (.t 1)),
gq 61 53 true (.idxAddr 2 (.t 59) (.t 60)),
gq 62 53 true (.load (some 2) (.t 61)),
gq 63 53 true (.call true true (.t 54) [.t 58,.t 62]),
gq 64 53 true (.bin .lss (.t 63) (kq 0)),
gq 65 53 true (.un .not (.t 64)),
tq 66 (.pick (.t 53) (.t 65) (.k (.d (.bool false))))] [50,51,52,53,54,55,56,57,58,59,60,61,62,63,64,65])
(.cond (.t 66) .skip
 (.exit 2)))
(.block 3 (rg [
mq 67 13,
tq 68 (.bin .sub (.t 67) (kq 1)),
mq 13 68] [67,68])))
def zgq:C:=
  (.seq (.seq (.reg true [
mq 105 12,
mq 106 13,
tq 107 (.bin .leq (.t 105) (.t 106)),
mq 108 107,
gq 109 108 true (.mv (.t 4)),
gq 110 108 true (.mv (.t 0)),
gq 111 108 true (.mv (.t 12)),
gq 112 108 true (.idxAddr 2 (.t 110) (.t 111)),
gq 113 108 true (.load (some 2) (.t 112)),
gq 114 108 true (.mv (.t 0)),
gq 115 108 true (.mv (.t 1)),
gq 116 108 true (.idxAddr 2 (.t 114) (.t 115)),
gq 117 108 true (.load (some 2) (.t 116)),
gq 118 108 true (.call true true (.t 109) [.t 113,.t 117]),
gq 119 108 true (.bin .lss (.t 118) (kq 0)),
tq 120 (.pick (.t 108) (.t 119) (.k (.d (.bool false))))] [105,106,107,108,109,110,111,112,113,114,115,116,117,118,119])
(.cond (.t 120) .skip
 (.exit 6)))
(.block 7 (rg [
mq 121 12,
tq 122 (.bin .add (.t 121) (kq 1)),
mq 12 122] [121,122])))
def zgr:C:=
  (.seq (.seq (.reg true [
mq 123 12,
mq 124 13,
tq 125 (.bin .leq (.t 123) (.t 124)),
mq 126 125,
gq 127 126 true (.mv (.t 4)),
gq 128 126 true (.mv (.t 0)),
gq 129 126 true (.mv (.t 13)),
gq 130 126 true (.idxAddr 2 (.t 128) (.t 129)),
gq 131 126 true (.load (some 2) (.t 130)),
gq 132 126 true (.mv (.t 0)),
gq 133 126 true (.mv (.t 1)),
gq 134 126 true (.idxAddr 2 (.t 132) (.t 133)),
gq 135 126 true (.load (some 2) (.t 134)),
gq 136 126 true (.call true true (.t 127) [.t 131,.t 135]),
gq 137 126 true (.bin .lss (.t 136) (kq 0)),
gq 138 126 true (.un .not (.t 137)),
tq 139 (.pick (.t 126) (.t 138) (.k (.d (.bool false))))] [123,124,125,126,127,128,129,130,131,132,133,134,135,136,137,138])
(.cond (.t 139) .skip
 (.exit 8)))
(.block 9 (rg [
mq 140 13,
tq 141 (.bin .sub (.t 140) (kq 1)),
mq 13 141] [140,141])))
def zgs:C:=
  (.block 5 (.seq (.block 6 (.loop [0,1,4,12,13] zgq))
(.seq (.block 8 (.loop [0,1,4,12,13] zgr))
(.seq (sr [
mq 142 12,
mq 143 13,
tq 144 (.bin .gtr (.t 142) (.t 143))] [142,143]
(.cond (.t 144) (.exit 4)
 .skip))
(.seq (.reg true [
mq 145 0,
mq 146 12,
mq 147 0,
mq 148 13,
mq 149 0,
mq 150 13,
tq 151 (.idxAddr 2 (.t 149) (.t 150)),
lq 152 2 151,
mq 153 0,
mq 154 12,
tq 155 (.idxAddr 2 (.t 153) (.t 154)),
lq 156 2 155,
tq 157 (.idxAddr 2 (.t 145) (.t 146)),
⟨none,none,.store 2 (.t 157) (.t 152)⟩,
tq 158 (.idxAddr 2 (.t 147) (.t 148)),
⟨none,none,.store 2 (.t 158) (.t 156)⟩] [145,146,147,148,149,150,151,152,153,154,155,156,157,158])
(sr [
mq 159 12,
tq 160 (.bin .add (.t 159) (kq 1)),
mq 12 160] [159,160]
(rg [
mq 161 13,
tq 162 (.bin .sub (.t 161) (kq 1)),
mq 13 162] [161,162])))))))
def zhg:CF:=⟨[.tmp 10,.tmp 11],
  (sr [
tq 10 (.mv (kq 0)),
tq 11 (.mv (.k (.d (.bool false))))] [10,11]
(.seq (.reg true [
mq 14 0,
mq 15 1,
mq 16 0,
mq 17 3,
mq 18 0,
mq 19 3,
tq 20 (.idxAddr 2 (.t 18) (.t 19)),
lq 21 2 20,
mq 22 0,
mq 23 1,
tq 24 (.idxAddr 2 (.t 22) (.t 23)),
lq 25 2 24,
tq 26 (.idxAddr 2 (.t 14) (.t 15)),
⟨none,none,.store 2 (.t 26) (.t 21)⟩,
tq 27 (.idxAddr 2 (.t 16) (.t 17)),
⟨none,none,.store 2 (.t 27) (.t 25)⟩] [3,14,15,16,17,18,19,20,21,22,23,24,25,26,27])
(sr [
mq 28 1,
tq 29 (.bin .add (.t 28) (kq 1)),
mq 30 2,
tq 31 (.bin .sub (.t 30) (kq 1)),
mq 12 29,
mq 13 31] [2,28,29,30,31]
(.seq (.block 0 (.loop [0,1,4,12,13] zgo))
(.seq (.block 2 (.loop [0,1,4,12,13] zgp))
(.seq (sr [
mq 69 12,
mq 70 13,
tq 71 (.bin .gtr (.t 69) (.t 70))] [69,70]
(.cond (.t 71) (.seq (.reg true [
mq 72 0,
mq 73 13,
mq 74 0,
mq 75 1,
mq 76 0,
mq 77 1,
tq 78 (.idxAddr 2 (.t 76) (.t 77)),
lq 79 2 78,
mq 80 0,
mq 81 13,
tq 82 (.idxAddr 2 (.t 80) (.t 81)),
lq 83 2 82,
tq 84 (.idxAddr 2 (.t 72) (.t 73)),
⟨none,none,.store 2 (.t 84) (.t 79)⟩,
tq 85 (.idxAddr 2 (.t 74) (.t 75)),
⟨none,none,.store 2 (.t 85) (.t 83)⟩] [0,1,72,73,74,75,76,77,78,79,80,81,82,83,84,85])
(sr [
mq 86 13,
mq 10 86,
tq 11 (.mv (.k (.d (.bool true))))] [13,86]
.ret))
 .skip))
(.seq (.reg true [
mq 87 0,
mq 88 12,
mq 89 0,
mq 90 13,
mq 91 0,
mq 92 13,
tq 93 (.idxAddr 2 (.t 91) (.t 92)),
lq 94 2 93,
mq 95 0,
mq 96 12,
tq 97 (.idxAddr 2 (.t 95) (.t 96)),
lq 98 2 97,
tq 99 (.idxAddr 2 (.t 87) (.t 88)),
⟨none,none,.store 2 (.t 99) (.t 94)⟩,
tq 100 (.idxAddr 2 (.t 89) (.t 90)),
⟨none,none,.store 2 (.t 100) (.t 98)⟩] [87,88,89,90,91,92,93,94,95,96,97,98,99,100])
(sr [
mq 101 12,
tq 102 (.bin .add (.t 101) (kq 1)),
mq 12 102] [101,102]
(sr [
mq 103 13,
tq 104 (.bin .sub (.t 103) (kq 1)),
mq 13 104] [103,104]
(.seq (.block 4 (.loop [0,1,4,12,13] zgs))
(.seq (.reg true [
mq 163 0,
mq 164 13,
mq 165 0,
mq 166 1,
mq 167 0,
mq 168 1,
tq 169 (.idxAddr 2 (.t 167) (.t 168)),
lq 170 2 169,
mq 171 0,
mq 172 13,
tq 173 (.idxAddr 2 (.t 171) (.t 172)),
lq 174 2 173,
tq 175 (.idxAddr 2 (.t 163) (.t 164)),
⟨none,none,.store 2 (.t 175) (.t 170)⟩,
tq 176 (.idxAddr 2 (.t 165) (.t 166)),
⟨none,none,.store 2 (.t 176) (.t 174)⟩] [0,1,163,164,165,166,167,168,169,170,171,172,173,174,175,176])
(sr [
mq 177 13,
mq 10 177,
tq 11 (.mv (.k (.d (.bool false))))] [13,177]
.ret))))))))))))⟩
def zxr:CF:=⟨[.tmp 2],
  (sr [
tq 2 (.mv (kq 0))] []
(.seq (sr [
mq 3 0,
tq 4 (.bin .geq (.t 3) (.k (.d (.int .u32 65536))))] [3]
(.cond (.t 4) (sr [
mq 5 0,
tq 6 (.bin .shr (.t 5) (.k (.d (.int .u64 16)))),
mq 0 6] [5,6]
(rg [
tq 2 (.mv (kq 16))] []))
 .skip))
(.seq (sr [
mq 7 0,
tq 8 (.bin .geq (.t 7) (.k (.d (.int .u32 256))))] [7]
(.cond (.t 8) (sr [
mq 9 0,
tq 10 (.bin .shr (.t 9) (.k (.d (.int .u64 8)))),
mq 0 10] [9,10]
(rg [
mq 11 2,
tq 12 (.bin .add (.t 11) (kq 8)),
mq 2 12] [11,12]))
 .skip))
(sr [
mq 13 2,
mq 14 0,
tq 15 (.conv .u8 (.t 14)),
tq 16 (.idxS (.k (.d (.str [0,1,2,2,3,3,3,3,4,4,4,4,4,4,4,4,5,5,5,5,5,5,5,5,5,5,5,5,5,5,5,5,6,6,6,6,6,6,6,6,6,6,6,6,6,6,6,6,6,6,6,6,6,6,6,6,6,6,6,6,6,6,6,6,7,7,7,7,7,7,7,7,7,7,7,7,7,7,7,7,7,7,7,7,7,7,7,7,7,7,7,7,7,7,7,7,7,7,7,7,7,7,7,7,7,7,7,7,7,7,7,7,7,7,7,7,7,7,7,7,7,7,7,7,7,7,7,7,8,8,8,8,8,8,8,8,8,8,8,8,8,8,8,8,8,8,8,8,8,8,8,8,8,8,8,8,8,8,8,8,8,8,8,8,8,8,8,8,8,8,8,8,8,8,8,8,8,8,8,8,8,8,8,8,8,8,8,8,8,8,8,8,8,8,8,8,8,8,8,8,8,8,8,8,8,8,8,8,8,8,8,8,8,8,8,8,8,8,8,8,8,8,8,8,8,8,8,8,8,8,8,8,8,8,8,8,8,8,8,8,8,8,8,8,8,8,8,8,8,8,8,8,8,8,8,8]))) (.t 15)),
tq 17 (.conv .i64 (.t 16)),
tq 18 (.bin .add (.t 13) (.t 17)),
mq 2 18] [0,13,14,15,16,17,18]
.ret))))⟩
def zxs:CF:=⟨[.tmp 2],
  (sr [
tq 2 (.mv (kq 0))] []
(.seq (sr [
mq 3 0,
tq 4 (.bin .geq (.t 3) (.k (.d (.int .u64 4294967296))))] [3]
(.cond (.t 4) (sr [
mq 5 0,
tq 6 (.bin .shr (.t 5) (.k (.d (.int .u64 32)))),
mq 0 6] [5,6]
(rg [
tq 2 (.mv (kq 32))] []))
 .skip))
(.seq (sr [
mq 7 0,
tq 8 (.bin .geq (.t 7) (.k (.d (.int .u64 65536))))] [7]
(.cond (.t 8) (sr [
mq 9 0,
tq 10 (.bin .shr (.t 9) (.k (.d (.int .u64 16)))),
mq 0 10] [9,10]
(rg [
mq 11 2,
tq 12 (.bin .add (.t 11) (kq 16)),
mq 2 12] [11,12]))
 .skip))
(.seq (sr [
mq 13 0,
tq 14 (.bin .geq (.t 13) (.k (.d (.int .u64 256))))] [13]
(.cond (.t 14) (sr [
mq 15 0,
tq 16 (.bin .shr (.t 15) (.k (.d (.int .u64 8)))),
mq 0 16] [15,16]
(rg [
mq 17 2,
tq 18 (.bin .add (.t 17) (kq 8)),
mq 2 18] [17,18]))
 .skip))
(sr [
mq 19 2,
mq 20 0,
tq 21 (.conv .u8 (.t 20)),
tq 22 (.idxS (.k (.d (.str [0,1,2,2,3,3,3,3,4,4,4,4,4,4,4,4,5,5,5,5,5,5,5,5,5,5,5,5,5,5,5,5,6,6,6,6,6,6,6,6,6,6,6,6,6,6,6,6,6,6,6,6,6,6,6,6,6,6,6,6,6,6,6,6,7,7,7,7,7,7,7,7,7,7,7,7,7,7,7,7,7,7,7,7,7,7,7,7,7,7,7,7,7,7,7,7,7,7,7,7,7,7,7,7,7,7,7,7,7,7,7,7,7,7,7,7,7,7,7,7,7,7,7,7,7,7,7,7,8,8,8,8,8,8,8,8,8,8,8,8,8,8,8,8,8,8,8,8,8,8,8,8,8,8,8,8,8,8,8,8,8,8,8,8,8,8,8,8,8,8,8,8,8,8,8,8,8,8,8,8,8,8,8,8,8,8,8,8,8,8,8,8,8,8,8,8,8,8,8,8,8,8,8,8,8,8,8,8,8,8,8,8,8,8,8,8,8,8,8,8,8,8,8,8,8,8,8,8,8,8,8,8,8,8,8,8,8,8,8,8,8,8,8,8,8,8,8,8,8,8,8,8,8,8,8,8]))) (.t 21)),
tq 23 (.conv .i64 (.t 22)),
tq 24 (.bin .add (.t 19) (.t 23)),
mq 2 24] [0,19,20,21,22,23,24]
.ret)))))⟩
def zlx:C:=
  (.block 1 (sr [
mq 21 2,
mq 22 1,
tq 23 (.bin .sub (.t 21) (.t 22)),
mq 12 23] [21,22,23]
(.seq (sr [
mq 24 12,
tq 25 (.bin .leq (.t 24) (kq 12))] [24]
(.cond (.t 25) (sr [
mq 26 0,
mq 27 1,
mq 28 2,
mq 29 4,
tq 30 (.call true true (.k (.fn zfn [] [])) [.t 26,.t 27,.t 28,.t 29])] [0,1,2,4,26,27,28,29,30]
.ret)
 .skip))
(.seq (sr [
mq 31 3,
tq 32 (.bin .eql (.t 31) (kq 0))] [31]
(.cond (.t 32) (sr [
mq 33 0,
mq 34 1,
mq 35 2,
mq 36 4,
tq 37 (.call true true (.k (.fn zm1 [] [])) [.t 33,.t 34,.t 35,.t 36])] [0,1,2,4,33,34,35,36,37]
.ret)
 .skip))
(.seq (sr [
mq 38 10,
tq 39 (.un .not (.t 38))] [38]
(.cond (.t 39) (sr [
mq 40 0,
mq 41 1,
mq 42 2,
mq 43 4,
tq 44 (.call true true (.k (.fn zki [] [])) [.t 40,.t 41,.t 42,.t 43])] [40,41,42,43,44]
(rg [
mq 45 3,
tq 46 (.bin .sub (.t 45) (kq 1)),
mq 3 46] [45,46]))
 .skip))
(sr [
mq 48 0,
mq 49 1,
mq 50 2,
mq 51 4,
tq 52 (.call true true (.k (.fn zk6 [] [])) [.t 48,.t 49,.t 50,.t 51]),
mq 47 52,
xq 53 47 0,
xq 54 47 1,
mq 13 53,
mq 14 54] [47,48,49,50,51,52,53,54]
(.seq (sr [
mq 55 14,
tq 56 (.bin .eql (.t 55) (kq 2))] [55]
(.cond (.t 56) (sr [
mq 57 0,
mq 58 1,
mq 59 2,
mq 60 4,
tq 61 (.call true true (.k (.fn zkp [] [])) [.t 57,.t 58,.t 59,.t 60])] [57,58,59,60,61]
(sr [
mq 62 2,
tq 63 (.bin .sub (.t 62) (kq 1)),
mq 64 13,
mq 65 1,
tq 66 (.bin .sub (.t 64) (.t 65)),
tq 67 (.bin .sub (.t 63) (.t 66)),
mq 13 67] [62,63,64,65,66,67]
(rg [
tq 14 (.mv (kq 1))] [])))
 .skip))
(.seq (sr [
mq 68 10,
mq 69 68,
gq 70 69 true (.mv (.t 11)),
tq 71 (.pick (.t 69) (.t 70) (.k (.d (.bool false)))),
mq 72 71,
gq 73 72 true (.mv (.t 14)),
gq 74 72 true (.bin .eql (.t 73) (kq 1)),
tq 75 (.pick (.t 72) (.t 74) (.k (.d (.bool false))))] [14,68,69,70,71,72,73,74]
(.cond (.t 75) (sr [
mq 76 0,
mq 77 1,
mq 78 2,
mq 79 4,
tq 80 (.call true true (.k (.fn zhy [] [])) [.t 76,.t 77,.t 78,.t 79])] [76,77,78,79]
(.cond (.t 80) .ret
 .skip))
 .skip))
(.seq (.seq (.reg true [
mq 81 1,
tq 82 (.bin .gtr (.t 81) (kq 0)),
mq 83 82,
gq 84 83 true (.mv (.t 4)),
gq 85 83 true (.mv (.t 0)),
gq 86 83 true (.mv (.t 1)),
gq 87 83 true (.bin .sub (.t 86) (kq 1)),
gq 88 83 true (.idxAddr 1 (.t 85) (.t 87)),
gq 89 83 true (.load none (.t 88)),
gq 90 83 true (.mv (.t 0)),
gq 91 83 true (.mv (.t 13)),
gq 92 83 true (.idxAddr 1 (.t 90) (.t 91)),
gq 93 83 true (.load none (.t 92)),
gq 94 83 true (.call true true (.t 84) [.t 89,.t 93]),
gq 95 83 true (.bin .lss (.t 94) (kq 0)),
gq 96 83 true (.un .not (.t 95)),
tq 97 (.pick (.t 83) (.t 96) (.k (.d (.bool false))))] [81,82,83,84,85,86,87,88,89,90,91,92,93,94,95,96])
(.cond (.t 97) (sr [
mq 98 0,
mq 99 1,
mq 100 2,
mq 101 13,
mq 102 4,
tq 103 (.call true true (.k (.fn zj1 [] [])) [.t 98,.t 99,.t 100,.t 101,.t 102]),
mq 15 103] [1,13,98,99,100,101,102,103]
(sr [
mq 104 15,
mq 1 104] [15,104]
(.exit 1)))
 .skip))
(sr [
mq 106 0,
mq 107 1,
mq 108 2,
mq 109 13,
mq 110 4,
tq 111 (.call true true (.k (.fn zl8 [] [])) [.t 106,.t 107,.t 108,.t 109,.t 110]),
mq 105 111,
xq 112 105 0,
xq 113 105 1,
mq 16 112,
mq 17 113] [13,105,106,107,108,109,110,111,112,113]
(sr [
mq 114 17,
mq 11 114] [17,114]
(sr [
mq 115 16,
mq 116 1,
tq 117 (.bin .sub (.t 115) (.t 116)),
mq 118 2,
mq 119 16,
tq 120 (.bin .sub (.t 118) (.t 119)),
mq 18 117,
mq 19 120] [115,116,117,118,119,120]
(sr [
mq 121 12,
tq 122 (.bin .quo (.t 121) (kq 8)),
mq 20 122] [12,121,122]
(sr [
mq 123 18,
mq 124 19,
tq 125 (.bin .lss (.t 123) (.t 124))] [123,124]
(.cond (.t 125) (sr [
mq 126 18,
mq 127 20,
tq 128 (.bin .geq (.t 126) (.t 127)),
mq 10 128] [18,20,126,127,128]
(sr [
mq 129 0,
mq 130 1,
mq 131 16,
mq 132 3,
mq 133 4,
tq 134 (.call true true (.k (.fn zc9 [] [])) [.t 129,.t 130,.t 131,.t 132,.t 133])] [1,129,130,131,132,133,134]
(rg [
mq 135 16,
tq 136 (.bin .add (.t 135) (kq 1)),
mq 1 136] [16,135,136])))
 (sr [
mq 137 19,
mq 138 20,
tq 139 (.bin .geq (.t 137) (.t 138)),
mq 10 139] [19,20,137,138,139]
(sr [
mq 140 0,
mq 141 16,
tq 142 (.bin .add (.t 141) (kq 1)),
mq 143 2,
mq 144 3,
mq 145 4,
tq 146 (.call true true (.k (.fn zc9 [] [])) [.t 140,.t 142,.t 143,.t 144,.t 145])] [2,140,141,142,143,144,145,146]
(rg [
mq 147 16,
mq 2 147] [16,147]))))))))))))))))))
def znp:CF:=⟨[],
  (sr [
tq 10 (.mv (.k (.d (.bool true))))] []
(sr [
tq 11 (.mv (.k (.d (.bool true))))] []
(.block 0 (.loop [0,1,2,3,4,10,11] zlx))))⟩
def zfr:C:=
  (.seq (.seq (.reg true [
mq 18 9,
mq 19 1,
tq 20 (.bin .gtr (.t 18) (.t 19)),
mq 21 20,
gq 22 21 true (.mv (.t 3)),
gq 23 21 true (.mv (.t 0)),
gq 24 21 true (.mv (.t 9)),
gq 25 21 true (.idxAddr 2 (.t 23) (.t 24)),
gq 26 21 true (.load (some 2) (.t 25)),
gq 27 21 true (.mv (.t 0)),
gq 28 21 true (.mv (.t 9)),
gq 29 21 true (.bin .sub (.t 28) (kq 1)),
gq 30 21 true (.idxAddr 2 (.t 27) (.t 29)),
gq 31 21 true (.load (some 2) (.t 30)),
gq 32 21 true (.call true true (.t 22) [.t 26,.t 31]),
gq 33 21 true (.bin .lss (.t 32) (kq 0)),
tq 34 (.pick (.t 21) (.t 33) (.k (.d (.bool false))))] [18,19,20,21,22,23,24,25,26,27,28,29,30,31,32,33])
(.cond (.t 34) .skip
 (.exit 2)))
(.seq (.block 3 (.reg true [
mq 37 0,
mq 38 9,
mq 39 0,
mq 40 9,
tq 41 (.bin .sub (.t 40) (kq 1)),
mq 42 0,
mq 43 9,
tq 44 (.bin .sub (.t 43) (kq 1)),
tq 45 (.idxAddr 2 (.t 42) (.t 44)),
lq 46 2 45,
mq 47 0,
mq 48 9,
tq 49 (.idxAddr 2 (.t 47) (.t 48)),
lq 50 2 49,
tq 51 (.idxAddr 2 (.t 37) (.t 38)),
⟨none,none,.store 2 (.t 51) (.t 46)⟩,
tq 52 (.idxAddr 2 (.t 39) (.t 41)),
⟨none,none,.store 2 (.t 52) (.t 50)⟩] [37,38,39,40,41,42,43,44,45,46,47,48,49,50,51,52]))
(rg [
mq 35 9,
tq 36 (.bin .sub (.t 35) (kq 1)),
mq 9 36] [35,36])))
def zfs:C:=
  (.seq (sr [
mq 12 8,
mq 13 2,
tq 14 (.bin .lss (.t 12) (.t 13))] [12,13]
(.cond (.t 14) .skip
 (.exit 0)))
(.seq (.block 1 (sr [
mq 17 8,
mq 9 17] [17]
(.block 2 (.loop [0,1,2,3,8,9] zfr))))
(rg [
mq 15 8,
tq 16 (.bin .add (.t 15) (kq 1)),
mq 8 16] [15,16])))
def zge:CF:=⟨[],
  (sr [
mq 10 1,
tq 11 (.bin .add (.t 10) (kq 1)),
mq 8 11] [10,11]
(.block 0 (.loop [0,1,2,3,8] zfs)))⟩
def zg4:C:=
  (.seq (sr [
mq 31 10,
mq 32 11,
tq 33 (.bin .lss (.t 31) (.t 32))] [31,32]
(.cond (.t 33) .skip
 (.exit 0)))
(.block 1 (sr [
mq 34 10,
mq 35 11,
tq 36 (.bin .add (.t 34) (.t 35)),
tq 37 (.conv .u64 (.t 36)),
tq 38 (.bin .shr (.t 37) (.k (.d (.int .u64 1)))),
tq 39 (.conv .i64 (.t 38)),
mq 12 39] [34,35,36,37,38,39]
(.seq (.reg true [
mq 40 4,
mq 41 0,
mq 42 12,
tq 43 (.idxAddr 2 (.t 41) (.t 42)),
lq 44 2 43,
mq 45 0,
mq 46 1,
tq 47 (.idxAddr 2 (.t 45) (.t 46)),
lq 48 2 47,
tq 49 (.call true true (.t 40) [.t 44,.t 48]),
tq 50 (.bin .lss (.t 49) (kq 0))] [40,41,42,43,44,45,46,47,48,49])
(.cond (.t 50) (rg [
mq 51 12,
tq 52 (.bin .add (.t 51) (kq 1)),
mq 10 52] [12,51,52])
 (rg [
mq 53 12,
mq 11 53] [12,53]))))))
def zg5:C:=
  (.seq (sr [
mq 55 13,
mq 56 10,
tq 57 (.bin .sub (.t 56) (kq 1)),
tq 58 (.bin .lss (.t 55) (.t 57))] [55,56,57]
(.cond (.t 58) .skip
 (.exit 2)))
(.seq (.block 3 (.reg true [
mq 61 0,
mq 62 13,
mq 63 0,
mq 64 13,
tq 65 (.bin .add (.t 64) (kq 1)),
mq 66 0,
mq 67 13,
tq 68 (.bin .add (.t 67) (kq 1)),
tq 69 (.idxAddr 2 (.t 66) (.t 68)),
lq 70 2 69,
mq 71 0,
mq 72 13,
tq 73 (.idxAddr 2 (.t 71) (.t 72)),
lq 74 2 73,
tq 75 (.idxAddr 2 (.t 61) (.t 62)),
⟨none,none,.store 2 (.t 75) (.t 70)⟩,
tq 76 (.idxAddr 2 (.t 63) (.t 65)),
⟨none,none,.store 2 (.t 76) (.t 74)⟩] [61,62,63,64,65,66,67,68,69,70,71,72,73,74,75,76]))
(rg [
mq 59 13,
tq 60 (.bin .add (.t 59) (kq 1)),
mq 13 60] [59,60])))
def zg6:C:=
  (.seq (sr [
mq 83 14,
mq 84 15,
tq 85 (.bin .lss (.t 83) (.t 84))] [83,84]
(.cond (.t 85) .skip
 (.exit 4)))
(.block 5 (sr [
mq 86 14,
mq 87 15,
tq 88 (.bin .add (.t 86) (.t 87)),
tq 89 (.conv .u64 (.t 88)),
tq 90 (.bin .shr (.t 89) (.k (.d (.int .u64 1)))),
tq 91 (.conv .i64 (.t 90)),
mq 16 91] [86,87,88,89,90,91]
(.seq (.reg true [
mq 92 4,
mq 93 0,
mq 94 2,
tq 95 (.idxAddr 2 (.t 93) (.t 94)),
lq 96 2 95,
mq 97 0,
mq 98 16,
tq 99 (.idxAddr 2 (.t 97) (.t 98)),
lq 100 2 99,
tq 101 (.call true true (.t 92) [.t 96,.t 100]),
tq 102 (.bin .lss (.t 101) (kq 0)),
tq 103 (.un .not (.t 102))] [92,93,94,95,96,97,98,99,100,101,102])
(.cond (.t 103) (rg [
mq 104 16,
tq 105 (.bin .add (.t 104) (kq 1)),
mq 14 105] [16,104,105])
 (rg [
mq 106 16,
mq 15 106] [16,106]))))))
def zg7:C:=
  (.seq (sr [
mq 108 17,
mq 109 14,
tq 110 (.bin .gtr (.t 108) (.t 109))] [108,109]
(.cond (.t 110) .skip
 (.exit 6)))
(.seq (.block 7 (.reg true [
mq 113 0,
mq 114 17,
mq 115 0,
mq 116 17,
tq 117 (.bin .sub (.t 116) (kq 1)),
mq 118 0,
mq 119 17,
tq 120 (.bin .sub (.t 119) (kq 1)),
tq 121 (.idxAddr 2 (.t 118) (.t 120)),
lq 122 2 121,
mq 123 0,
mq 124 17,
tq 125 (.idxAddr 2 (.t 123) (.t 124)),
lq 126 2 125,
tq 127 (.idxAddr 2 (.t 113) (.t 114)),
⟨none,none,.store 2 (.t 127) (.t 122)⟩,
tq 128 (.idxAddr 2 (.t 115) (.t 117)),
⟨none,none,.store 2 (.t 128) (.t 126)⟩] [113,114,115,116,117,118,119,120,121,122,123,124,125,126,127,128]))
(rg [
mq 111 17,
tq 112 (.bin .sub (.t 111) (kq 1)),
mq 17 112] [111,112])))
def zg8:C:=
  (.seq (sr [
mq 149 20,
mq 150 21,
tq 151 (.bin .lss (.t 149) (.t 150))] [149,150]
(.cond (.t 151) .skip
 (.exit 8)))
(.block 9 (sr [
mq 152 20,
mq 153 21,
tq 154 (.bin .add (.t 152) (.t 153)),
tq 155 (.conv .u64 (.t 154)),
tq 156 (.bin .shr (.t 155) (.k (.d (.int .u64 1)))),
tq 157 (.conv .i64 (.t 156)),
mq 23 157] [152,153,154,155,156,157]
(.seq (.reg true [
mq 158 4,
mq 159 0,
mq 160 22,
mq 161 23,
tq 162 (.bin .sub (.t 160) (.t 161)),
tq 163 (.idxAddr 2 (.t 159) (.t 162)),
lq 164 2 163,
mq 165 0,
mq 166 23,
tq 167 (.idxAddr 2 (.t 165) (.t 166)),
lq 168 2 167,
tq 169 (.call true true (.t 158) [.t 164,.t 168]),
tq 170 (.bin .lss (.t 169) (kq 0)),
tq 171 (.un .not (.t 170))] [158,159,160,161,162,163,164,165,166,167,168,169,170])
(.cond (.t 171) (rg [
mq 172 23,
tq 173 (.bin .add (.t 172) (kq 1)),
mq 20 173] [23,172,173])
 (rg [
mq 174 23,
mq 21 174] [23,174]))))))
def zhw:CF:=⟨[],
  (.seq (sr [
mq 25 2,
mq 26 1,
tq 27 (.bin .sub (.t 25) (.t 26)),
tq 28 (.bin .eql (.t 27) (kq 1))] [25,26,27]
(.cond (.t 28) (sr [
mq 29 2,
mq 10 29] [2,29]
(sr [
mq 30 3,
mq 11 30] [3,30]
(.seq (.block 0 (.loop [0,1,4,10,11] zg4))
(.seq (sr [
mq 54 1,
mq 13 54] [1,54]
(.block 2 (.loop [0,10,13] zg5)))
.ret))))
 .skip))
(.seq (sr [
mq 77 3,
mq 78 2,
tq 79 (.bin .sub (.t 77) (.t 78)),
tq 80 (.bin .eql (.t 79) (kq 1))] [77,78,79]
(.cond (.t 80) (sr [
mq 81 1,
mq 14 81] [1,81]
(sr [
mq 82 2,
mq 15 82] [82]
(.seq (.block 4 (.loop [0,2,4,14,15] zg6))
(.seq (sr [
mq 107 2,
mq 17 107] [2,107]
(.block 6 (.loop [0,14,17] zg7)))
.ret))))
 .skip))
(sr [
mq 129 1,
mq 130 3,
tq 131 (.bin .add (.t 129) (.t 130)),
tq 132 (.conv .u64 (.t 131)),
tq 133 (.bin .shr (.t 132) (.k (.d (.int .u64 1)))),
tq 134 (.conv .i64 (.t 133)),
mq 18 134] [129,130,131,132,133,134]
(sr [
mq 135 18,
mq 136 2,
tq 137 (.bin .add (.t 135) (.t 136)),
mq 19 137] [135,136,137]
(sr [
tq 20 (.mv (kq 0)),
tq 21 (.mv (kq 0))] [20,21]
(.seq (sr [
mq 138 2,
mq 139 18,
tq 140 (.bin .gtr (.t 138) (.t 139))] [138,139]
(.cond (.t 140) (sr [
mq 141 19,
mq 142 3,
tq 143 (.bin .sub (.t 141) (.t 142)),
mq 20 143] [141,142,143]
(rg [
mq 144 18,
mq 21 144] [144]))
 (sr [
mq 145 1,
mq 20 145] [145]
(rg [
mq 146 2,
mq 21 146] [146]))))
(sr [
mq 147 19,
tq 148 (.bin .sub (.t 147) (kq 1)),
mq 22 148] [147,148]
(.seq (.block 8 (.loop [0,1,2,3,4,18,19,20,21,22] zg8))
(sr [
mq 175 19,
mq 176 20,
tq 177 (.bin .sub (.t 175) (.t 176)),
mq 24 177] [19,175,176,177]
(.seq (sr [
mq 178 20,
mq 179 2,
tq 180 (.bin .lss (.t 178) (.t 179)),
mq 181 180,
gq 182 181 true (.mv (.t 2)),
gq 183 181 true (.mv (.t 24)),
gq 184 181 true (.bin .lss (.t 182) (.t 183)),
tq 185 (.pick (.t 181) (.t 184) (.k (.d (.bool false))))] [178,179,180,181,182,183,184]
(.cond (.t 185) (rg [
mq 186 0,
mq 187 20,
mq 188 2,
mq 189 24,
mq 190 4,
tq 191 (.call true true (.k (.fn zdr [] [])) [.t 186,.t 187,.t 188,.t 189,.t 190])] [2,186,187,188,189,190,191])
 .skip))
(.seq (sr [
mq 192 1,
mq 193 20,
tq 194 (.bin .lss (.t 192) (.t 193)),
mq 195 194,
gq 196 195 true (.mv (.t 20)),
gq 197 195 true (.mv (.t 18)),
gq 198 195 true (.bin .lss (.t 196) (.t 197)),
tq 199 (.pick (.t 195) (.t 198) (.k (.d (.bool false))))] [192,193,194,195,196,197,198]
(.cond (.t 199) (rg [
mq 200 0,
mq 201 1,
mq 202 20,
mq 203 18,
mq 204 4,
tq 205 (.call true true (.k (.fn zax [] [])) [.t 200,.t 201,.t 202,.t 203,.t 204])] [1,20,200,201,202,203,204,205])
 .skip))
(sr [
mq 206 18,
mq 207 24,
tq 208 (.bin .lss (.t 206) (.t 207)),
mq 209 208,
gq 210 209 true (.mv (.t 24)),
gq 211 209 true (.mv (.t 3)),
gq 212 209 true (.bin .lss (.t 210) (.t 211)),
tq 213 (.pick (.t 209) (.t 212) (.k (.d (.bool false))))] [206,207,208,209,210,211,212]
(.cond (.t 213) (rg [
mq 214 0,
mq 215 18,
mq 216 24,
mq 217 3,
mq 218 4,
tq 219 (.call true true (.k (.fn zax [] [])) [.t 214,.t 215,.t 216,.t 217,.t 218])] [0,3,4,18,24,214,215,216,217,218,219])
 .skip)))))))))))))⟩
def zxo:CF:=⟨[.tmp 2],
  (sr [
tq 2 (.mv (kq 0))] [2]
(sr [
mq 3 0,
tq 4 (.bin .neq (.t 3) (.k (.d (.str [65])))),
mq 5 4,
gq 6 5 true (.mv (.t 0)),
gq 7 5 true (.bin .neq (.t 6) (.k (.d (.str [68])))),
tq 8 (.pick (.t 5) (.t 7) (.k (.d (.bool false)))),
tq 9 (cl zc5 [.t 8,kq 13]),
mq 2 9] [0,3,4,5,6,7,8,9]
.ret))⟩
def z0m:CF:=⟨[.tmp 6],
  (sr [
tq 6 (.mv (kq 0))] [6]
(sr [
mq 7 0,
tq 8 (cl zbt [.t 7,kq 0,kq 999]),
mq 9 1,
tq 10 (cl zbt [.t 9,kq 0,kq 9]),
mq 11 2,
tq 12 (cl zbt [.t 11,kq 0,kq 99]),
tq 13 (.mkList 1 3 [.t 8,.t 10,.t 12]),
tq 14 (cl zfa [.t 13]),
mq 6 14] [0,1,2,7,8,9,10,11,12,13,14]
.ret))⟩
def z2m:CF:=⟨[.tmp 4,.tmp 5],
  (sr [
tq 2 (.box za8 (.t 0)),
tq 4 (.mv (.k (.d (.bool false)))),
tq 5 (.mv (kq 0))] [0,4,5]
(.seq (sr [
lq 7 3 2,
tq 8 (cl zb5 [.t 7]),
mq 9 1,
tq 10 (cl zer [.t 9]),
tq 11 (.mkList 1 2 [.t 8,.t 10]),
tq 12 (cl zdv [.t 11]),
mq 6 12] [7,8,9,10,11,12]
(sr [
mq 13 6,
tq 14 (.bin .neq (.t 13) (kq 0))] [13]
(.cond (.t 14) (sr [
mq 15 6,
tq 4 (.mv (.k (.d (.bool false)))),
mq 5 15] [6,15]
.ret)
 .skip)))
(sr [
lq 16 3 2,
mq 17 1,
tq 18 (cl zua [.t 16,.t 17]),
mq 4 18,
tq 5 (.mv (kq 0))] [1,2,16,17,18]
.ret)))⟩
def zlu:C:=
  (rg [
mq 5 7] [7])
def zlv:C:=
  (.block 1 (rg [
ld 8 2,
mq 9 5,
tq 10 (.mkList 1 1 [.t 9]),
tq 11 (.append ⟨false,za6,1,8⟩ (.t 8) (.t 10)),
⟨none,none,.store 1 (.t 2) (.t 11)⟩] [2,5,8,9,10,11]))
def znn:CF:=⟨[.tmp 4],
  (sr [
tq 2 (.box z64 (.t 0)),
tq 4 (.ownNil ⟨false,za6,1,8⟩)] [0]
(.seq (sr [
mq 6 1] [1]
(.block 0 (.rangeFn 14 (.t 6) [7] zlu zlv)))
(sr [
ld 12 2,
mq 4 12] [2,12]
.ret)))⟩
def znh:C:=
  (sr [
tq 43 (.bin .lss (.t 42) (.t 41))] []
(.seq (.cond (.t 43) .skip
 (.exit 0))
(.seq (.block 1 (sr [
mq 44 42,
mq 5 44] [44]
(sr [
mq 45 0,
ld 46 1,
tq 47 (.bin .mul (kq 1440) (.t 46)),
fa 48 4 2,
ld 49 48,
mq 50 4,
mq 51 5,
tq 52 (.bin .add (.t 50) (.t 51)),
tq 53 (.bin .mul (.t 49) (.t 52)),
tq 54 (.bin .add (.t 47) (.t 53)),
tq 55 (.call true true (.t 45) [.t 54]),
tq 56 (.un .not (.t 55))] [5,45,46,47,48,49,50,51,52,53,54,55]
(.cond (.t 56) .ret
 .skip))))
(rg [
tq 57 (.bin .add (.t 42) (kq 1)),
mq 42 57] [57]))))
def zpf:CF:=⟨[],
  (.seq (sr [
ld 6 1,
fa 7 7 2,
fa 8 0 7,
ld 9 8,
tq 10 (.bin .lss (.t 6) (.t 9)),
mq 11 10,
gq 12 11 false (.load none (.t 1)),
gq 13 11 false (.fieldAddr 7 (.t 2)),
gq 14 11 false (.fieldAddr 1 (.t 13)),
gq 15 11 false (.load none (.t 14)),
gq 16 11 false (.bin .gtr (.t 12) (.t 15)),
tq 17 (.pick (.t 11) (.k (.d (.bool true))) (.t 16)),
mq 18 17,
gq 19 18 false (.load (some 11) (.t 2)),
gq 20 18 false (.load none (.t 1)),
gq 21 18 false (cl zi0 [.t 19,.t 20]),
gq 22 18 false (.un .not (.t 21)),
tq 23 (.pick (.t 18) (.k (.d (.bool true))) (.t 22))] [6,7,8,9,10,11,12,13,14,15,16,17,18,19,20,21,22]
(.cond (.t 23) .ret
 .skip))
(sr [
fa 24 5 2,
ld 25 24,
fa 26 4 2,
ld 27 26,
tq 28 (.bin .add (.t 25) (.t 27)),
tq 29 (.bin .sub (.t 28) (kq 1)),
fa 30 4 2,
ld 31 30,
tq 32 (.bin .quo (.t 29) (.t 31)),
mq 4 32] [24,25,26,27,28,29,30,31,32]
(sr [
fa 33 6 2,
ld 34 33,
fa 35 4 2,
ld 36 35,
tq 37 (.bin .quo (.t 34) (.t 36)),
mq 38 4,
tq 39 (.bin .sub (.t 37) (.t 38)),
tq 40 (.bin .add (.t 39) (kq 1)),
tq 41 (.minmax true [kq 0,.t 40]),
tq 42 (.mv (kq 0))] [33,34,35,36,37,38,39,40]
(.block 0 (.loop [0,1,2,4,41,42] znh)))))⟩
def zg3:C:=
  (.block 1 (sr [
mq 13 10,
tq 14 (.bin .mul (kq 2) (.t 13)),
tq 15 (.bin .add (.t 14) (kq 1)),
mq 11 15] [13,14,15]
(.seq (sr [
mq 16 11,
mq 17 2,
tq 18 (.bin .geq (.t 16) (.t 17))] [16,17]
(.cond (.t 18) (.exit 0)
 .skip))
(.seq (.seq (.reg true [
mq 19 11,
tq 20 (.bin .add (.t 19) (kq 1)),
mq 21 2,
tq 22 (.bin .lss (.t 20) (.t 21)),
mq 23 22,
gq 24 23 true (.mv (.t 4)),
gq 25 23 true (.mv (.t 0)),
gq 26 23 true (.mv (.t 3)),
gq 27 23 true (.mv (.t 11)),
gq 28 23 true (.bin .add (.t 26) (.t 27)),
gq 29 23 true (.idxAddr 2 (.t 25) (.t 28)),
gq 30 23 true (.load (some 2) (.t 29)),
gq 31 23 true (.mv (.t 0)),
gq 32 23 true (.mv (.t 3)),
gq 33 23 true (.mv (.t 11)),
gq 34 23 true (.bin .add (.t 32) (.t 33)),
gq 35 23 true (.bin .add (.t 34) (kq 1)),
gq 36 23 true (.idxAddr 2 (.t 31) (.t 35)),
gq 37 23 true (.load (some 2) (.t 36)),
gq 38 23 true (.call true true (.t 24) [.t 30,.t 37]),
gq 39 23 true (.bin .lss (.t 38) (kq 0)),
tq 40 (.pick (.t 23) (.t 39) (.k (.d (.bool false))))] [19,20,21,22,23,24,25,26,27,28,29,30,31,32,33,34,35,36,37,38,39])
(.cond (.t 40) (rg [
mq 41 11,
tq 42 (.bin .add (.t 41) (kq 1)),
mq 11 42] [41,42])
 .skip))
(.seq (.seq (.reg true [
mq 43 4,
mq 44 0,
mq 45 3,
mq 46 10,
tq 47 (.bin .add (.t 45) (.t 46)),
tq 48 (.idxAddr 2 (.t 44) (.t 47)),
lq 49 2 48,
mq 50 0,
mq 51 3,
mq 52 11,
tq 53 (.bin .add (.t 51) (.t 52)),
tq 54 (.idxAddr 2 (.t 50) (.t 53)),
lq 55 2 54,
tq 56 (.call true true (.t 43) [.t 49,.t 55]),
tq 57 (.bin .lss (.t 56) (kq 0)),
tq 58 (.un .not (.t 57))] [43,44,45,46,47,48,49,50,51,52,53,54,55,56,57])
(.cond (.t 58) .ret
 .skip))
(.seq (.reg true [
mq 59 0,
mq 60 3,
mq 61 10,
tq 62 (.bin .add (.t 60) (.t 61)),
mq 63 0,
mq 64 3,
mq 65 11,
tq 66 (.bin .add (.t 64) (.t 65)),
mq 67 0,
mq 68 3,
mq 69 11,
tq 70 (.bin .add (.t 68) (.t 69)),
tq 71 (.idxAddr 2 (.t 67) (.t 70)),
lq 72 2 71,
mq 73 0,
mq 74 3,
mq 75 10,
tq 76 (.bin .add (.t 74) (.t 75)),
tq 77 (.idxAddr 2 (.t 73) (.t 76)),
lq 78 2 77,
tq 79 (.idxAddr 2 (.t 59) (.t 62)),
⟨none,none,.store 2 (.t 79) (.t 72)⟩,
tq 80 (.idxAddr 2 (.t 63) (.t 66)),
⟨none,none,.store 2 (.t 80) (.t 78)⟩] [10,59,60,61,62,63,64,65,66,67,68,69,70,71,72,73,74,75,76,77,78,79,80])
(rg [
mq 81 11,
mq 10 81] [11,81])))))))
def zhv:CF:=⟨[],
  (sr [
mq 12 1,
mq 10 12] [1,12]
(.block 0 (.loop [0,2,3,4,10] zg3)))⟩
def zf6:CF:=⟨[.tmp 8],
  (sr [
tq 8 (.mv (kq 0))] [8]
(sr [
mq 9 0,
mq 10 1,
tq 11 (.bin .sub (.t 10) (kq 1)),
mq 12 1,
mq 13 1,
tq 14 (.bin .add (.t 13) (kq 1)),
mq 15 2,
mq 16 3,
tq 17 (.call true true (.k (.fn zcg [] [])) [.t 9,.t 11,.t 12,.t 14,.t 15,.t 16]),
mq 8 17] [0,1,2,3,9,10,11,12,13,14,15,16,17]
.ret))⟩
def zic:CF:=⟨[.tmp 12],
  (sr [
tq 12 (.mv (kq 0))] [12]
(sr [
mq 14 0,
mq 15 1,
mq 16 2,
mq 17 4,
mq 18 5,
tq 19 (.call true true (.k (.fn zbq [] [])) [.t 14,.t 15,.t 16,.t 17,.t 18]),
mq 13 19,
xq 20 13 0,
xq 21 13 1,
mq 1 20,
mq 2 21] [13,14,15,16,17,18,19,20,21]
(sr [
mq 23 0,
mq 24 2,
mq 25 3,
mq 26 4,
mq 27 5,
tq 28 (.call true true (.k (.fn zbq [] [])) [.t 23,.t 24,.t 25,.t 26,.t 27]),
mq 22 28,
xq 29 22 0,
xq 30 22 1,
mq 2 29,
mq 3 30] [3,22,23,24,25,26,27,28,29,30]
(sr [
mq 32 0,
mq 33 1,
mq 34 2,
mq 35 4,
mq 36 5,
tq 37 (.call true true (.k (.fn zbq [] [])) [.t 32,.t 33,.t 34,.t 35,.t 36]),
mq 31 37,
xq 38 31 0,
xq 39 31 1,
mq 1 38,
mq 2 39] [0,1,4,5,31,32,33,34,35,36,37,38,39]
(sr [
mq 40 2,
mq 12 40] [2,40]
.ret)))))⟩
def zjl:C:=
  (.seq (.seq (.reg true [
mq 18 9,
mq 19 1,
tq 20 (.bin .gtr (.t 18) (.t 19)),
mq 21 20,
gq 22 21 true (.mv (.t 3)),
gq 23 21 true (.mv (.t 0)),
gq 24 21 true (.mv (.t 9)),
gq 25 21 true (.idxAddr 1 (.t 23) (.t 24)),
gq 26 21 true (.load none (.t 25)),
gq 27 21 true (.mv (.t 0)),
gq 28 21 true (.mv (.t 9)),
gq 29 21 true (.bin .sub (.t 28) (kq 1)),
gq 30 21 true (.idxAddr 1 (.t 27) (.t 29)),
gq 31 21 true (.load none (.t 30)),
gq 32 21 true (.call true true (.t 22) [.t 26,.t 31]),
gq 33 21 true (.bin .lss (.t 32) (kq 0)),
tq 34 (.pick (.t 21) (.t 33) (.k (.d (.bool false))))] [18,19,20,21,22,23,24,25,26,27,28,29,30,31,32,33])
(.cond (.t 34) .skip
 (.exit 2)))
(.seq (.block 3 (.reg true [
mq 37 0,
mq 38 9,
mq 39 0,
mq 40 9,
tq 41 (.bin .sub (.t 40) (kq 1)),
mq 42 0,
mq 43 9,
tq 44 (.bin .sub (.t 43) (kq 1)),
tq 45 (.idxAddr 1 (.t 42) (.t 44)),
ld 46 45,
mq 47 0,
mq 48 9,
tq 49 (.idxAddr 1 (.t 47) (.t 48)),
ld 50 49,
tq 51 (.idxAddr 1 (.t 37) (.t 38)),
⟨none,none,.store 1 (.t 51) (.t 46)⟩,
tq 52 (.idxAddr 1 (.t 39) (.t 41)),
⟨none,none,.store 1 (.t 52) (.t 50)⟩] [37,38,39,40,41,42,43,44,45,46,47,48,49,50,51,52]))
(rg [
mq 35 9,
tq 36 (.bin .sub (.t 35) (kq 1)),
mq 9 36] [35,36])))
def zjm:C:=
  (.seq (sr [
mq 12 8,
mq 13 2,
tq 14 (.bin .lss (.t 12) (.t 13))] [12,13]
(.cond (.t 14) .skip
 (.exit 0)))
(.seq (.block 1 (sr [
mq 17 8,
mq 9 17] [17]
(.block 2 (.loop [0,1,2,3,8,9] zjl))))
(rg [
mq 15 8,
tq 16 (.bin .add (.t 15) (kq 1)),
mq 8 16] [15,16])))
def zj7:CF:=⟨[],
  (sr [
mq 10 1,
tq 11 (.bin .add (.t 10) (kq 1)),
mq 8 11] [10,11]
(.block 0 (.loop [0,1,2,3,8] zjm)))⟩
def zhq:C:=
  (.seq (sr [
mq 18 10,
mq 19 11,
tq 20 (.bin .neq (.t 18) (.t 19))] [18,19]
(.cond (.t 20) .skip
 (.exit 0)))
(.block 1 (sr [
mq 21 10,
mq 22 11,
tq 23 (.bin .gtr (.t 21) (.t 22))] [21,22]
(.cond (.t 23) (sr [
mq 24 0,
mq 25 2,
mq 26 10,
tq 27 (.bin .sub (.t 25) (.t 26)),
mq 28 2,
mq 29 11,
mq 30 4,
tq 31 (.call true true (.k (.fn zbf [] [])) [.t 24,.t 27,.t 28,.t 29,.t 30])] [24,25,26,27,28,29,30,31]
(rg [
mq 32 10,
mq 33 11,
tq 34 (.bin .sub (.t 32) (.t 33)),
mq 10 34] [32,33,34]))
 (sr [
mq 35 0,
mq 36 2,
mq 37 10,
tq 38 (.bin .sub (.t 36) (.t 37)),
mq 39 2,
mq 40 11,
tq 41 (.bin .add (.t 39) (.t 40)),
mq 42 10,
tq 43 (.bin .sub (.t 41) (.t 42)),
mq 44 10,
mq 45 4,
tq 46 (.call true true (.k (.fn zbf [] [])) [.t 35,.t 38,.t 43,.t 44,.t 45])] [35,36,37,38,39,40,41,42,43,44,45,46]
(rg [
mq 47 11,
mq 48 10,
tq 49 (.bin .sub (.t 47) (.t 48)),
mq 11 49] [47,48,49]))))))
def zie:CF:=⟨[],
  (sr [
mq 12 2,
mq 13 1,
tq 14 (.bin .sub (.t 12) (.t 13)),
mq 10 14] [1,12,13,14]
(sr [
mq 15 3,
mq 16 2,
tq 17 (.bin .sub (.t 15) (.t 16)),
mq 11 17] [3,15,16,17]
(.seq (.block 0 (.loop [0,2,4,10,11] zhq))
(rg [
mq 50 0,
mq 51 2,
mq 52 10,
tq 53 (.bin .sub (.t 51) (.t 52)),
mq 54 2,
mq 55 10,
mq 56 4,
tq 57 (.call true true (.k (.fn zbf [] [])) [.t 50,.t 53,.t 54,.t 55,.t 56])] [0,2,4,10,50,51,52,53,54,55,56,57]))))⟩
def z2n:CF:=⟨[.tmp 4],
  (sr [
tq 2 (.box za8 (.t 0)),
tq 4 (.mv (.k (.d (.bool false))))] [0,4]
(.seq (.reg true [
mq 5 1,
fa 6 0 2,
ld 7 6,
tq 8 (.bin .geq (.t 5) (.t 7)),
mq 9 8,
gq 10 9 true (.mv (.t 1)),
gq 11 9 true (.fieldAddr 1 (.t 2)),
gq 12 9 true (.load none (.t 11)),
gq 13 9 true (.bin .leq (.t 10) (.t 12)),
tq 14 (.pick (.t 9) (.t 13) (.k (.d (.bool false)))),
mq 15 14,
gq 16 15 true (.fieldAddr 2 (.t 2)),
gq 17 15 true (.load none (.t 16)),
gq 18 15 true (.mv (.t 1)),
gq 19 15 true (cl zhk [.t 18]),
gq 20 15 true (cl zii [.t 17,.t 19]),
tq 21 (.pick (.t 15) (.t 20) (.k (.d (.bool false)))),
mq 4 21] [1,2,5,6,7,8,9,10,11,12,13,14,15,16,17,18,19,20,21])
.ret))⟩
def zid:CF:=⟨[.tmp 10,.tmp 11],
  (sr [
tq 10 (.mv (kq 0)),
tq 11 (.mv (kq 0))] [10,11]
(.seq (.seq (.reg true [
mq 12 4,
mq 13 0,
mq 14 2,
tq 15 (.idxAddr 2 (.t 13) (.t 14)),
lq 16 2 15,
mq 17 0,
mq 18 1,
tq 19 (.idxAddr 2 (.t 17) (.t 18)),
lq 20 2 19,
tq 21 (.call true true (.t 12) [.t 16,.t 20]),
tq 22 (.bin .lss (.t 21) (kq 0))] [0,4,12,13,14,15,16,17,18,19,20,21])
(.cond (.t 22) (sr [
mq 23 3,
tq 24 (.nilCheck (.t 23)),
ld 25 24,
tq 26 (.bin .add (.t 25) (kq 1)),
tq 27 (.nilCheck (.t 23)),
⟨none,none,.store 1 (.t 27) (.t 26)⟩] [3,23,24,25,26,27]
(sr [
mq 28 2,
mq 29 1,
mq 10 28,
mq 11 29] [1,2,28,29]
.ret))
 .skip))
(sr [
mq 30 1,
mq 31 2,
mq 10 30,
mq 11 31] [1,2,30,31]
.ret)))⟩
def zgt:C:=
  (.seq (sr [
mq 11 10,
mq 12 3,
tq 13 (.bin .lss (.t 11) (.t 12))] [11,12]
(.cond (.t 13) .skip
 (.exit 0)))
(.seq (.block 1 (.reg true [
mq 16 0,
mq 17 1,
mq 18 10,
tq 19 (.bin .add (.t 17) (.t 18)),
mq 20 0,
mq 21 2,
mq 22 10,
tq 23 (.bin .add (.t 21) (.t 22)),
mq 24 0,
mq 25 2,
mq 26 10,
tq 27 (.bin .add (.t 25) (.t 26)),
tq 28 (.idxAddr 2 (.t 24) (.t 27)),
lq 29 2 28,
mq 30 0,
mq 31 1,
mq 32 10,
tq 33 (.bin .add (.t 31) (.t 32)),
tq 34 (.idxAddr 2 (.t 30) (.t 33)),
lq 35 2 34,
tq 36 (.idxAddr 2 (.t 16) (.t 19)),
⟨none,none,.store 2 (.t 36) (.t 29)⟩,
tq 37 (.idxAddr 2 (.t 20) (.t 23)),
⟨none,none,.store 2 (.t 37) (.t 35)⟩] [16,17,18,19,20,21,22,23,24,25,26,27,28,29,30,31,32,33,34,35,36,37]))
(rg [
mq 14 10,
tq 15 (.bin .add (.t 14) (kq 1)),
mq 10 15] [14,15])))
def zhh:CF:=⟨[],
  (sr [
tq 10 (.mv (kq 0))] []
(.block 0 (.loop [0,1,2,3,10] zgt)))⟩
end Go.Proofs.YtnabmkmhbncidabGreatDoor.Co
