/-
  The functions of the seat in the evaluator's syntax (printed by a program of mine; checked in a text that follows).
-/
import Derived.Test.YtkgcnknhkobmjaaGreatDoorEvE
namespace Go.Proofs.YtkgcnknhkobmjaaGreatDoor.Co
open Go.Evl
def zh6:Nat:=3
def zfp:Nat:=4
def zlh:Nat:=5
def zgo:Nat:=6
def zeh:Nat:=7
def zbu:Nat:=8
def zhr:Nat:=9
def zfo:Nat:=10
def zgy:Nat:=11
def ziv:Nat:=12
def ziu:Nat:=13
def zqc:Nat:=14
def zhh:Nat:=15
def zex:Nat:=16
def zmu:Nat:=17
def zjr:Nat:=18
def zij:Nat:=19
def zig:Nat:=20
def zhg:Nat:=21
def zc9:Nat:=22
def zgl:Nat:=23
def zc4:Nat:=24
def zgu:Nat:=25
def zgt:Nat:=26
def zev:Nat:=27
def ziq:Nat:=28
def zby:Nat:=29
def zla:Nat:=30
def zf4:Nat:=31
def zcm:Nat:=32
def zf5:Nat:=33
def zde:Nat:=34
def zax:Nat:=35
def zf9:Nat:=36
def zis:Nat:=37
def zmt:Nat:=38
def zc0:Nat:=39
def zb7:Nat:=40
def zbo:Nat:=41
def zdg:Nat:=42
def zjp:Nat:=43
def zaw:Nat:=44
def zec:Nat:=45
def zed:Nat:=46
def zgv:Nat:=47
def zav:Nat:=48
def zcx:Nat:=49
def zuw:Nat:=50
def zg1:Nat:=51
def zov:Nat:=52
def zkn:Nat:=53
def zmy:Nat:=54
def zqb:Nat:=55
def zh5:Nat:=56
def zyh:Nat:=57
def zju:Nat:=58
def zpm:Nat:=59
def zi5:Nat:=60
def zfm:Nat:=61
def zcb:Nat:=62
def zot:Nat:=63
def zbv:Nat:=64
def zek:Nat:=65
def zbe:Nat:=66
def zfb:Nat:=67
def zfd:Nat:=68
def zdx:Nat:=69
def zbw:Nat:=70
def zlb:Nat:=71
def zhd:Nat:=72
def zdf:Nat:=73
def zif:Nat:=74
def zbg:Nat:=75
def zfa:Nat:=76
def zb2:Nat:=77
def zbn:Nat:=78
def n_allocate_board_refusing_1:Nat:=80
def zi1:Nat:=81
def zbf:Nat:=82
def zas:Nat:=83
def zkh:Nat:=84
def zew:Nat:=85
def zci:Nat:=86
def zbd:Nat:=87
def zdc:Nat:=88
def zh8:Nat:=89
def ze6:Nat:=90
def zjj:Nat:=91
def zbr:Nat:=92
def zh9:Nat:=93
def zcz:Nat:=94
def zjh:Nat:=95
def zee:Nat:=96
def zjo:Nat:=97
def zgw:Nat:=98
def zc7:Nat:=99
def zit:Nat:=100
def zh4:Nat:=101
def zcw:Nat:=102
def zef:Nat:=103
def zdy:Nat:=104
def zjw:Nat:=105
def zeg:Nat:=106
def zuv:Nat:=107
def zii:Nat:=108
def zly:Nat:=109
def zcj:Nat:=110
def zbi:Nat:=111
def zjq:Nat:=112
def zmv:Nat:=113
def zka:Nat:=114
def zr6:Nat:=115
def zjv:Nat:=116
def zcf:Nat:=117
def zhx:Nat:=118
def zhw:Nat:=119
def zhi:Nat:=120
def zhy:Nat:=121
def zc6:Nat:=122
def zjx:Nat:=123
def zkb:Nat:=124
def zb3:Nat:=125
def zfn:Nat:=126
def zki:Nat:=127
def zf6:Nat:=128
def zgj:Nat:=131
def zb0:Nat:=132
def zf8:Nat:=133
def zor:Nat:=134
def zc1:Nat:=135
def zbh:Nat:=136
def zaz:Nat:=137
def zdm:Nat:=138
def zfc:Nat:=139
def zdw:Nat:=140
def zc8:Nat:=141
def za3:Nat:=142
def zeu:Nat:=143
def zji:Nat:=144
def zms:Nat:=146
def zhf:Nat:=147
def zcq:Nat:=148
def zf3:Nat:=149
def zdv:Nat:=150
def zdo:Nat:=151
def zbz:Nat:=152
def zgz:Nat:=153
def zlc:Nat:=154
def zir:Nat:=155
def zd3:Nat:=156
def zaq:Nat:=157
def za9:Nat:=158
def zih:Nat:=159
def zou:Nat:=160
def zmx:Nat:=161
def zbj:Nat:=162
def zfu:Nat:=163
def zqo:Nat:=164
def zjt:Nat:=165
def zda:Nat:=166
def zft:Nat:=167
def zi4:Nat:=168
def zb5:Nat:=169
def zhv:Nat:=170
def zkw:Nat:=171
def zpl:Nat:=172
def zlm:Nat:=173
def zr5:Nat:=174
def zb8:Nat:=175
def zia:Nat:=176
def zqp:Nat:=177
def zcy:Nat:=178
def zco:Nat:=179
def zea:Nat:=180
def zhe:Nat:=181
def zd2:Nat:=182
def zeb:Nat:=183
def zhq:Nat:=184
def zgx:Nat:=185
def zjk:Nat:=193
def zdt:Nat:=194
def zjl:Nat:=195
def zos:Nat:=196
def zf7:Nat:=197
def zh3:Nat:=198
def zpj:Nat:=207
def zpk:Nat:=208
def zbk:Nat:=209
def za2:Nat:=210
def zjn:Nat:=211
def zb6:Nat:=212
def znx:Nat:=213
def zj9:Nat:=214
def zcd:Nat:=215
def zjm:Nat:=216
def zc2:Nat:=217
def zjs:Nat:=225
def zlf:Nat:=226
def zkj:Nat:=233
def zmr:Nat:=234
def zdn:Nat:=240
def zce:Nat:=241
def zgk:Nat:=242
def zi2:Nat:=243
def zkx:Nat:=244
def zg0:Nat:=245
def zi3:Nat:=246
def zck:Nat:=247
def zhu:Nat:=248
def zc5:Nat:=249
def zld:Nat:=250
def zib:Nat:=254
def zle:Nat:=255
def zbb:Nat:=263
def zcr:Nat:=264
def zgm:Nat:=265
def zny:Nat:=267
def znz:Nat:=268
def zn0:Nat:=269
def zn1:Nat:=270
def zn2:Nat:=271
def zn3:Nat:=272
def zn4:Nat:=273
def zn5:Nat:=274
def zn6:Nat:=275
def zmw:Nat:=276
def ycy:Nat:=298
def z4i:Nat:=299
def ycz:Nat:=300
def n_slices_SortFunc_Lallocate_window_allocate_window:Nat:=79
def n_strconv_Itoa:Nat:=129
def n_strings_Repeat:Nat:=130
def n_strings_Builder_String:Nat:=192
def zlz:Nat:=218
def zjy:Nat:=219
def zkk:Nat:=220
def zj6:Nat:=221
def zha:Nat:=222
def zi8:Nat:=223
def zlg:Nat:=224
def n_strings_Builder_copyCheck:Nat:=231
def zbs:Nat:=3
def yms:Nat:=4
def ty_uint8:Nat:=5
def zbl:Nat:=9
def zdh:Nat:=22
def zei:Nat:=26
def zd4:Nat:=32
def zbp:Nat:=34
def zag:Nat:=36
def zau:Nat:=38
def zga:Nat:=40
def zar:Nat:=46
def zct:Nat:=48
def zab:Nat:=51
def zac:Nat:=55
def zaa:Nat:=63
def zgb:Nat:=66
def zaj:Nat:=67
def zyr:Nat:=73
def zbq:Nat:=78
def zat:Nat:=81
def zxf:Nat:=82
def zk2:Nat:=94
def zdp:Nat:=96
def zba:Nat:=101
def zak:Nat:=104
def zqr:Nat:=106
def za0:Nat:=117
def zix:Nat:=133
def zdi:Nat:=137
def zgn:Nat:=139
def zfs:Nat:=143
def zqs:Nat:=148
def zb1:Nat:=161
def zao:Nat:=163
def zad:Nat:=167
def zm6:Nat:=178
def zz5:Nat:=217
def zkm:Nat:=235
def ymr:Nat:=257
def ty_strings_Builder:Nat:=265
def zlk:Nat:=301
def zqw:C:=
  (sr [
tq 59 (.bin .lss (.t 58) (.t 57))] []
(.seq (.cond (.t 59) .skip
 (.exit 0))
(.seq (.block 1 (sr [
tq 60 (.idxAddr 13 (.t 56) (.t 58)),
lq 61 13 60,
tq 11 (.alloc zag [.z (.str []),.z (.str []),.z (.str []),.z (.str []),.z (.str []),.z (.str []),.z (.int .i64 0),.z (.int .i64 0),.z (.int .i64 0),.z (.int .i64 0),.z (.int .i64 0),.z (.int .i64 0),.z (.int .i64 0)]),
⟨none,none,.store 13 (.t 11) (.t 61)⟩] [60,61]
(rg [
mq 62 9,
lq 63 13 11,
tq 64 (cl zeh [.t 63]),
tq 65 (.mkList 18 1 [.t 64]),
tq 66 (.append ⟨true,zau,18,192⟩ (.t 62) (.t 65)),
mq 9 66] [11,62,63,64,65,66])))
(rg [
tq 67 (.bin .add (.t 58) (kq 1)),
mq 58 67] [67]))))
def zqx:C:=
  (sr [
tq 122 (.bin .lss (.t 121) (.t 120))] []
(.seq (.cond (.t 122) .skip
 (.exit 2))
(.seq (.block 3 (sr [
mq 123 121,
mq 20 123] [123]
(.seq (.seq (.reg true [
mq 124 20,
mq 125 14,
tq 126 (.bin .lss (.t 124) (.t 125)),
mq 127 126,
gq 128 127 true (.mv (.t 15)),
gq 129 127 true (.mv (.t 20)),
gq 130 127 true (.idxAddr 3 (.t 128) (.t 129)),
gq 131 127 true (.load (some 3) (.t 130)),
gq 132 127 true (.mv (.t 12)),
gq 133 127 true (.mv (.t 20)),
gq 134 127 true (.idxAddr 3 (.t 132) (.t 133)),
gq 135 127 true (.load (some 3) (.t 134)),
gq 136 127 true (.eqv (some [.str,.int,.bool]) true (.t 131) (.t 135)),
tq 137 (.pick (.t 127) (.t 136) (.k (.d (.bool false)))),
mq 138 137,
gq 139 138 false (.mv (.t 17)),
gq 140 138 false (.mv (.t 20)),
gq 141 138 false (.idxAddr 3 (.t 139) (.t 140)),
gq 142 138 false (.load (some 3) (.t 141)),
gq 143 138 false (.mv (.t 0)),
gq 144 138 false (.mv (.t 20)),
gq 145 138 false (.idxAddr 13 (.t 143) (.t 144)),
gq 146 138 false (.fieldAddr 0 (.t 145)),
gq 147 138 false (.load none (.t 146)),
gq 148 138 false (.mv (.t 0)),
gq 149 138 false (.mv (.t 20)),
gq 150 138 false (.idxAddr 13 (.t 148) (.t 149)),
gq 151 138 false (.fieldAddr 9 (.t 150)),
gq 152 138 false (.load none (.t 151)),
gq 153 138 false (.build [.z (.str []),.z (.int .i64 0),.z (.bool false)] [(0,1,.t 147),(1,1,.t 152),(2,1,.k (.d (.bool true)))]),
gq 154 138 false (.eqv (some [.str,.int,.bool]) true (.t 142) (.t 153)),
tq 155 (.pick (.t 138) (.k (.d (.bool true))) (.t 154))] [124,125,126,127,128,129,130,131,132,133,134,135,136,137,138,139,140,141,142,143,144,145,146,147,148,149,150,151,152,153,154])
(.cond (.t 155) (sr [
tq 6 (.mv (.k (.d (.bool false))))] []
.ret)
 .skip))
(.reg true [
mq 156 19,
mq 157 17,
mq 158 20,
tq 159 (.idxAddr 3 (.t 157) (.t 158)),
fa 160 0 159,
ld 161 160,
mq 162 17,
mq 163 20,
tq 164 (.idxAddr 3 (.t 162) (.t 163)),
fa 165 1 164,
ld 166 165,
tq 167 (.build [.z (.str []),.z (.bool false),.z (.int .i64 0)] [(0,1,.t 161),(1,1,.k (.d (.bool true))),(2,1,.t 166)]),
tq 168 (.mkList 3 1 [.t 167]),
tq 169 (.append ⟨false,zct,3,32⟩ (.t 156) (.t 168)),
mq 19 169] [20,156,157,158,159,160,161,162,163,164,165,166,167,168,169]))))
(rg [
tq 170 (.bin .add (.t 121) (kq 1)),
mq 121 170] [170]))))
def zqy:C:=
  (sr [
tq 193 (.bin .lss (.t 192) (.t 191))] []
(.seq (.cond (.t 193) .skip
 (.exit 4))
(.seq (.block 5 (sr [
mq 194 192,
tq 195 (.idxAddr 14 (.t 190) (.t 192)),
lq 196 14 195,
tq 24 (.alloc zac [.z (.str []),.z (.str []),.z (.str []),.z (.str []),.z (.str []),.z (.str []),.z (.str []),.z (.int .i64 0),.z (.int .i64 0),.z (.int .i64 0),.z (.int .i64 0),.z (.int .i64 0),.z (.int .i64 0),.z (.int .i64 0)]),
mq 23 194,
⟨none,none,.store 14 (.t 24) (.t 196)⟩] [194,195,196]
(.seq (.reg true [
fa 197 0 24,
ld 198 197,
tq 199 (.bin .neq (.t 198) (.k (.d (.str [75])))),
mq 200 199,
gq 201 200 false (.fieldAddr 1 (.t 24)),
gq 202 200 false (.load (some 13) (.t 201)),
gq 203 200 false (.mv (.t 0)),
gq 204 200 false (.mv (.t 23)),
gq 205 200 false (.idxAddr 13 (.t 203) (.t 204)),
gq 206 200 false (.load (some 13) (.t 205)),
gq 207 200 false (.eqv (some [.str,.str,.str,.str,.str,.str,.int,.int,.int,.int,.int,.int,.int]) true (.t 202) (.t 206)),
tq 208 (.pick (.t 200) (.k (.d (.bool true))) (.t 207))] [23,24,197,198,199,200,201,202,203,204,205,206,207])
(.cond (.t 208) (sr [
tq 6 (.mv (.k (.d (.bool false))))] []
.ret)
 .skip))))
(rg [
tq 209 (.bin .add (.t 192) (kq 1)),
mq 192 209] [209]))))
def zqz:C:=
  (sr [
tq 255 (.bin .lss (.t 254) (.t 253))] []
(.seq (.cond (.t 255) .skip
 (.exit 6))
(.seq (.block 7 (sr [
tq 256 (.idxAddr 13 (.t 252) (.t 254)),
lq 257 13 256,
tq 30 (.alloc zag [.z (.str []),.z (.str []),.z (.str []),.z (.str []),.z (.str []),.z (.str []),.z (.int .i64 0),.z (.int .i64 0),.z (.int .i64 0),.z (.int .i64 0),.z (.int .i64 0),.z (.int .i64 0),.z (.int .i64 0)]),
⟨none,none,.store 13 (.t 30) (.t 257)⟩] [256,257]
(rg [
fa 258 4 28,
ld 259 258,
lq 260 13 30,
tq 261 (.build [.z (.str []),.z (.str []),.z (.str []),.z (.str []),.z (.str []),.z (.str []),.z (.str []),.z (.int .i64 0),.z (.int .i64 0),.z (.int .i64 0),.z (.int .i64 0),.z (.int .i64 0),.z (.int .i64 0),.z (.int .i64 0)] [(0,1,.k (.d (.str [78]))),(1,13,.t 260)]),
tq 262 (.mkList 14 1 [.t 261]),
tq 263 (.append ⟨false,zac,14,168⟩ (.t 259) (.t 262)),
fa 264 4 28,
⟨none,none,.store 1 (.t 264) (.t 263)⟩] [30,258,259,260,261,262,263,264])))
(rg [
tq 265 (.bin .add (.t 254) (kq 1)),
mq 254 265] [265]))))
def zq0:C:=
  (sr [
tq 288 (.bin .lss (.t 287) (.t 286))] []
(.seq (.cond (.t 288) .skip
 (.exit 8))
(.seq (.block 9 (sr [
mq 289 287,
mq 35 289] [289]
(.seq (.seq (.reg true [
mq 290 32,
mq 291 35,
tq 292 (.idxAddr 15 (.t 290) (.t 291)),
fa 293 0 292,
lq 294 13 293,
mq 295 25,
mq 296 35,
tq 297 (.idxAddr 13 (.t 295) (.t 296)),
lq 298 13 297,
tq 299 (.eqv (some [.str,.str,.str,.str,.str,.str,.int,.int,.int,.int,.int,.int,.int]) true (.t 294) (.t 298))] [290,291,292,293,294,295,296,297,298])
(.cond (.t 299) (sr [
tq 6 (.mv (.k (.d (.bool false))))] []
.ret)
 .skip))
(rg [
mq 300 9,
mq 301 35,
mq 302 25,
mq 303 35,
tq 304 (.idxAddr 13 (.t 302) (.t 303)),
lq 305 13 304,
tq 306 (.idxAddr 18 (.t 300) (.t 301)),
fa 307 0 306,
⟨none,none,.store 13 (.t 307) (.t 305)⟩] [35,300,301,302,303,304,305,306,307]))))
(rg [
tq 308 (.bin .add (.t 287) (kq 1)),
mq 287 308] [308]))))
def ztj:CF:=⟨[.tmp 6],
  (sr [
tq 5 (.box zei (.t 2)),
tq 6 (.mv (.k (.d (.bool false))))] [2,6]
(sr [
mq 39 1,
tq 40 (cl zfp [.t 39]),
mq 38 40,
xq 41 38 0,
xq 42 38 1,
mq 7 41,
mq 8 42] [1,38,39,40,41,42]
(.seq (sr [
mq 43 8,
tq 44 (.un .not (.t 43)),
mq 45 44,
gq 46 45 false (.mv (.t 0)),
gq 47 45 false (cl zlh [.t 46]),
gq 48 45 false (.un .not (.t 47)),
tq 49 (.pick (.t 45) (.k (.d (.bool true))) (.t 48)),
mq 50 49,
gq 51 50 false (.mv (.t 0)),
gq 52 50 false (.len .slc (.t 51)),
gq 53 50 false (.bin .eql (.t 52) (kq 0)),
tq 54 (.pick (.t 50) (.k (.d (.bool true))) (.t 53))] [8,43,44,45,46,47,48,49,50,51,52,53]
(.cond (.t 54) (sr [
tq 55 (cl zgo []),
mq 6 55] [55]
.ret)
 .skip))
(sr [
tq 9 (.ownNil ⟨true,zau,18,192⟩)] []
(.seq (sr [
mq 56 0,
tq 57 (.len .slc (.t 56)),
tq 58 (.mv (kq 0))] []
(.block 0 (.loop [0,5,7,9,56,57,58] zqw)))
(sr [
mq 69 7,
mq 70 9,
tq 71 (.callZ (.k (.fn zbu [] [])) [.t 69,.t 70]),
mq 68 71,
xq 72 68 0,
xq 73 68 1,
mq 12 72,
mq 13 73] [68,69,70,71,72,73]
(sr [
fa 74 0 5,
ld 75 74,
tq 76 (.conv .i64 (.t 75)),
mq 77 0,
tq 78 (.len .slc (.t 77)),
tq 79 (.bin .rem (.t 76) (.t 78)),
mq 14 79] [5,74,75,76,77,78,79]
(sr [
mq 81 7,
mq 82 9,
mq 83 14,
tq 84 (.slice 18 (.t 82) none (some (.t 83)) none),
tq 85 (.callZ (.k (.fn zbu [] [])) [.t 81,.t 84]),
mq 80 85,
xq 86 80 0,
xq 87 80 1,
mq 15 86,
mq 16 87] [80,81,82,83,84,85,86,87]
(sr [
mq 89 9,
tq 90 (.callZ (.k (.fn zbu [] [])) [.k (.d (.list 0 [])),.t 89]),
mq 88 90,
xq 91 88 0,
xq 92 88 1,
mq 17 91,
mq 18 92] [88,89,90,91,92]
(.seq (sr [
mq 93 13,
mq 94 16,
tq 95 (.bin .add (.t 93) (.t 94)),
mq 96 18,
tq 97 (.bin .add (.t 95) (.t 96)),
tq 98 (.bin .neq (.t 97) (kq 0)),
mq 99 98,
gq 100 99 false (.mv (.t 12)),
gq 101 99 false (.len .slc (.t 100)),
gq 102 99 false (.mv (.t 0)),
gq 103 99 false (.len .slc (.t 102)),
gq 104 99 false (.bin .neq (.t 101) (.t 103)),
tq 105 (.pick (.t 99) (.k (.d (.bool true))) (.t 104)),
mq 106 105,
gq 107 106 false (.mv (.t 15)),
gq 108 106 false (.len .slc (.t 107)),
gq 109 106 false (.mv (.t 14)),
gq 110 106 false (.bin .neq (.t 108) (.t 109)),
tq 111 (.pick (.t 106) (.k (.d (.bool true))) (.t 110)),
mq 112 111,
gq 113 112 false (.mv (.t 17)),
gq 114 112 false (.len .slc (.t 113)),
gq 115 112 false (.mv (.t 0)),
gq 116 112 false (.len .slc (.t 115)),
gq 117 112 false (.bin .neq (.t 114) (.t 116)),
tq 118 (.pick (.t 112) (.k (.d (.bool true))) (.t 117))] [13,16,18,93,94,95,96,97,98,99,100,101,102,103,104,105,106,107,108,109,110,111,112,113,114,115,116,117]
(.cond (.t 118) (sr [
tq 6 (.mv (.k (.d (.bool false))))] []
.ret)
 .skip))
(sr [
tq 19 (.ownNil ⟨false,zct,3,32⟩)] []
(.seq (sr [
mq 119 0,
tq 120 (.len .slc (.t 119)),
tq 121 (.mv (kq 0))] [119]
(.block 2 (.loop [0,7,9,12,14,15,17,19,120,121] zqx)))
(sr [
tq 172 (.mkRow ⟨false,zag,13,152⟩ 0 []),
mq 173 0,
tq 174 (.append ⟨false,zag,13,152⟩ (.t 172) (.t 173)),
mq 175 19,
tq 176 (cl zhr [.k (.d (.str [104,101,114,101])),.k (.d (.str [83,50,48,51,48])),kq 9,.t 174,.t 175]),
mq 171 176,
xq 177 171 0,
xq 178 171 1,
tq 21 (.alloc zab [.z (.str []),.z (.str []),.z (.str []),.z (.int .i64 0),.z (.list 0 [])]),
⟨none,none,.store 5 (.t 21) (.t 177)⟩,
mq 22 178] [19,171,172,173,174,175,176,177,178]
(.seq (sr [
mq 179 22,
tq 180 (.bin .neq (.t 179) (kq 0)),
mq 181 180,
gq 182 181 false (.fieldAddr 4 (.t 21)),
gq 183 181 false (.load none (.t 182)),
gq 184 181 false (.len .slc (.t 183)),
gq 185 181 false (.mv (.t 0)),
gq 186 181 false (.len .slc (.t 185)),
gq 187 181 false (.bin .neq (.t 184) (.t 186)),
tq 188 (.pick (.t 181) (.k (.d (.bool true))) (.t 187))] [22,179,180,181,182,183,184,185,186,187]
(.cond (.t 188) (sr [
tq 6 (.mv (.k (.d (.bool false))))] []
.ret)
 .skip))
(.seq (sr [
fa 189 4 21,
ld 190 189,
tq 191 (.len .slc (.t 190)),
tq 192 (.mv (kq 0))] [21,189]
(.block 4 (.loop [0,7,9,12,14,190,191,192] zqy)))
(.seq (sr [
mq 210 12,
mq 211 14,
tq 212 (.idxAddr 3 (.t 210) (.t 211)),
fa 213 2 212,
ld 214 213,
tq 215 (.un .not (.t 214))] [210,211,212,213,214]
(.cond (.t 215) (sr [
tq 216 (cl zgo []),
mq 6 216] [216]
.ret)
 .skip))
(sr [
tq 217 (.mkRow ⟨true,zag,13,152⟩ 0 []),
mq 218 0,
tq 219 (.append ⟨true,zag,13,152⟩ (.t 217) (.t 218)),
mq 25 219] [217,218,219]
(sr [
mq 220 25,
mq 221 14,
mq 222 12,
mq 223 14,
tq 224 (.idxAddr 3 (.t 222) (.t 223)),
fa 225 1 224,
ld 226 225,
tq 227 (.idxAddr 13 (.t 220) (.t 221)),
fa 228 9 227,
⟨none,none,.store 1 (.t 228) (.t 226)⟩] [220,221,222,223,224,225,226,227,228]
(sr [
tq 230 (.mkRow ⟨false,zag,13,152⟩ 0 []),
mq 231 0,
tq 232 (.append ⟨false,zag,13,152⟩ (.t 230) (.t 231)),
tq 233 (.mkRow ⟨false,zag,13,152⟩ 0 []),
mq 234 25,
tq 235 (.append ⟨false,zag,13,152⟩ (.t 233) (.t 234)),
tq 236 (cl zfo [.t 232,.t 235]),
mq 229 236,
xq 237 229 0,
xq 238 229 1,
mq 26 237,
mq 27 238] [229,230,231,232,233,234,235,236,237,238]
(.seq (sr [
mq 239 27,
tq 240 (.bin .neq (.t 239) (kq 0)),
mq 241 240,
gq 242 241 false (.mv (.t 26)),
gq 243 241 false (.len .slc (.t 242)),
gq 244 241 false (.bin .neq (.t 243) (kq 2)),
gq 245 241 false (.mv (.t 244)),
gq 246 245 true (.mv (.t 26)),
gq 247 245 true (.len .slc (.t 246)),
gq 248 245 true (.bin .neq (.t 247) (kq 0)),
gq 249 241 false (.pick (.t 245) (.t 248) (.k (.d (.bool false)))),
tq 250 (.pick (.t 241) (.k (.d (.bool true))) (.t 249))] [27,239,240,241,242,243,244,245,246,247,248,249]
(.cond (.t 250) (sr [
tq 6 (.mv (.k (.d (.bool false))))] []
.ret)
 .skip))
(sr [
tq 251 (.build [.z (.str []),.z (.str []),.z (.str []),.z (.int .i64 0),.own ⟨false,zac,14,168⟩] [(0,1,.k (.d (.str [82,69,81]))),(1,1,.k (.d (.str [104,101,114,101]))),(2,1,.k (.d (.str [83,50,48,51,48]))),(3,1,kq 5)]),
tq 28 (.alloc zab [.z (.str []),.z (.str []),.z (.str []),.z (.int .i64 0),.own ⟨false,zac,14,168⟩]),
⟨none,none,.store 5 (.t 28) (.t 251)⟩] [251]
(.seq (sr [
mq 252 0,
tq 253 (.len .slc (.t 252)),
tq 254 (.mv (kq 0))] []
(.block 6 (.loop [0,7,9,12,14,25,26,28,252,253,254] zqz)))
(sr [
mq 266 26,
tq 267 (.build [.z (.str []),.z (.str []),.z (.str []),.z (.int .i64 0),.z (.list 0 [])] [(0,1,.k (.d (.str [82,69,81]))),(1,1,.k (.d (.str [104,101,114,101]))),(2,1,.k (.d (.str [83,50,48,51,48]))),(3,1,kq 6),(4,1,.t 266)]),
tq 31 (.alloc zab [.z (.str []),.z (.str []),.z (.str []),.z (.int .i64 0),.z (.list 0 [])]),
⟨none,none,.store 5 (.t 31) (.t 267)⟩] [26,266,267]
(sr [
lq 269 5 28,
lq 270 5 31,
tq 271 (.mkList 5 2 [.t 269,.t 270]),
tq 272 (cl zgy [.t 271]),
mq 268 272,
xq 273 268 0,
xq 274 268 1,
xq 275 268 2,
mq 32 273,
mq 33 274,
mq 34 275] [28,31,33,268,269,270,271,272,273,274,275]
(.seq (sr [
mq 276 34,
tq 277 (.bin .neq (.t 276) (kq 0)),
mq 278 277,
gq 279 278 false (.mv (.t 32)),
gq 280 278 false (.len .slc (.t 279)),
gq 281 278 false (.mv (.t 0)),
gq 282 278 false (.len .slc (.t 281)),
gq 283 278 false (.bin .neq (.t 280) (.t 282)),
tq 284 (.pick (.t 278) (.k (.d (.bool true))) (.t 283))] [34,276,277,278,279,280,281,282,283]
(.cond (.t 284) (sr [
tq 6 (.mv (.k (.d (.bool false))))] []
.ret)
 .skip))
(.seq (sr [
mq 285 32,
tq 286 (.len .slc (.t 285)),
tq 287 (.mv (kq 0))] [285]
(.block 8 (.loop [0,7,9,12,14,25,32,286,287] zq0)))
(sr [
mq 310 7,
mq 311 9,
tq 312 (.callZ (.k (.fn zbu [] [])) [.t 310,.t 311]),
mq 309 312,
xq 313 309 0,
xq 314 309 1,
mq 36 313,
mq 37 314] [7,9,309,310,311,312,313,314]
(.seq (.reg true [
mq 315 37,
tq 316 (.bin .eql (.t 315) (kq 0)),
mq 317 316,
gq 318 317 true (.mv (.t 36)),
gq 319 317 true (.len .slc (.t 318)),
gq 320 317 true (.mv (.t 0)),
gq 321 317 true (.len .slc (.t 320)),
gq 322 317 true (.bin .eql (.t 319) (.t 321)),
tq 323 (.pick (.t 317) (.t 322) (.k (.d (.bool false)))),
mq 324 323,
gq 325 324 true (.mv (.t 36)),
gq 326 324 true (.mv (.t 14)),
gq 327 324 true (.idxAddr 3 (.t 325) (.t 326)),
gq 328 324 true (.load (some 3) (.t 327)),
gq 329 324 true (.mv (.t 12)),
gq 330 324 true (.mv (.t 14)),
gq 331 324 true (.idxAddr 3 (.t 329) (.t 330)),
gq 332 324 true (.load (some 3) (.t 331)),
gq 333 324 true (.eqv (some [.str,.int,.bool]) false (.t 328) (.t 332)),
tq 334 (.pick (.t 324) (.t 333) (.k (.d (.bool false)))),
mq 335 334,
gq 336 335 true (.mv (.t 36)),
gq 337 335 true (.idxAddr 3 (.t 336) (kq 0)),
gq 338 335 true (.load (some 3) (.t 337)),
gq 339 335 true (.mv (.t 12)),
gq 340 335 true (.idxAddr 3 (.t 339) (kq 0)),
gq 341 335 true (.load (some 3) (.t 340)),
gq 342 335 true (.eqv (some [.str,.int,.bool]) false (.t 338) (.t 341)),
tq 343 (.pick (.t 335) (.t 342) (.k (.d (.bool false)))),
mq 344 343,
gq 345 344 true (cl zgo []),
tq 346 (.pick (.t 344) (.t 345) (.k (.d (.bool false)))),
mq 6 346] [0,12,14,36,37,315,316,317,318,319,320,321,322,323,324,325,326,327,328,329,330,331,332,333,334,335,336,337,338,339,340,341,342,343,344,345,346])
.ret))))))))))))))))))))))))))))⟩
def zt4:C:=
  (sr [
tq 10 (.bin .lss (.t 9) (.t 8))] []
(.seq (.cond (.t 10) .skip
 (.exit 0))
(.seq (.block 1 (sr [
tq 11 (.idxAddr 11 (.t 7) (.t 9)),
lq 12 11 11,
tq 6 (.alloc zgb [.z (.str []),.z (.str []),.z (.str []),.z (.int .i64 0),.z (.int .i64 0),.z (.int .i64 0),.z (.int .i64 0),.z (.int .i64 0),.z (.int .i64 0),.z (.int .i64 0),.z (.int .i64 0)]),
⟨none,none,.store 11 (.t 6) (.t 12)⟩] [11,12]
(rg [
mq 13 4,
lq 14 11 6,
tq 15 (.mkList 11 1 [.t 14]),
tq 16 (.append ⟨false,zaj,11,112⟩ (.t 13) (.t 15)),
mq 4 16] [6,13,14,15,16])))
(rg [
tq 17 (.bin .add (.t 9) (kq 1)),
mq 9 17] [17]))))
def zx7:CF:=⟨[.tmp 2,.tmp 3],
  (sr [
tq 2 (.ownNil ⟨false,zaj,11,112⟩),
tq 3 (.mv (.k (.d (.bool false))))] [2,3]
(sr [
tq 4 (.ownNil ⟨false,zaj,11,112⟩)] []
(.seq (sr [
mq 7 0,
tq 8 (.len .slc (.t 7)),
tq 9 (.mv (kq 0))] []
(.block 0 (.loop [0,4,7,8,9] zt4)))
(sr [
mq 18 4,
mq 19 0,
tq 20 (.len .slc (.t 19)),
tq 21 (.bin .leq (.t 20) (kq 3)),
mq 22 21,
gq 23 22 true (.mv (.t 0)),
gq 24 22 true (cl ziv [.t 23,kq 3]),
tq 25 (.pick (.t 22) (.t 24) (.k (.d (.bool false)))),
mq 26 25,
gq 27 26 true (.mv (.t 0)),
gq 28 26 true (cl ziu [.t 27]),
gq 29 26 true (.bin .eql (.t 28) (kq 0)),
tq 30 (.pick (.t 26) (.t 29) (.k (.d (.bool false)))),
mq 2 18,
mq 3 30] [0,4,18,19,20,21,22,23,24,25,26,27,28,29,30]
.ret))))⟩
def zvh:C:=
  (sr [
tq 21 (.bin .lss (.t 20) (.t 19))] []
(.seq (.cond (.t 21) .skip
 (.exit 0))
(.seq (.block 1 (sr [
tq 22 (.idxAddr 13 (.t 18) (.t 20)),
lq 23 13 22,
tq 4 (.alloc zag [.z (.str []),.z (.str []),.z (.str []),.z (.str []),.z (.str []),.z (.str []),.z (.int .i64 0),.z (.int .i64 0),.z (.int .i64 0),.z (.int .i64 0),.z (.int .i64 0),.z (.int .i64 0),.z (.int .i64 0)]),
⟨none,none,.store 13 (.t 4) (.t 23)⟩] [22,23]
(sr [
fa 24 5 4,
ld 25 24,
tq 26 (.bin .neq (.t 25) (.k (.d (.str [])))),
mq 27 26,
gq 28 27 false (.fieldAddr 6 (.t 4)),
gq 29 27 false (.fieldAddr 1 (.t 28)),
gq 30 27 false (.load none (.t 29)),
gq 31 27 false (.fieldAddr 6 (.t 4)),
gq 32 27 false (.fieldAddr 0 (.t 31)),
gq 33 27 false (.load none (.t 32)),
gq 34 27 false (.bin .sub (.t 30) (.t 33)),
gq 35 27 false (.bin .geq (.t 34) (kq 8)),
tq 36 (.pick (.t 27) (.k (.d (.bool true))) (.t 35))] [4,24,25,26,27,28,29,30,31,32,33,34,35]
(.cond (.t 36) (sr [
tq 2 (.mv (.k (.d (.bool false))))] []
.ret)
 .skip))))
(rg [
tq 37 (.bin .add (.t 20) (kq 1)),
mq 20 37] [37]))))
def zzx:CF:=⟨[.tmp 2],
  (sr [
tq 2 (.mv (.k (.d (.bool false))))] [2]
(.seq (sr [
mq 5 0,
tq 6 (.len .slc (.t 5)),
tq 7 (.bin .gtr (.t 6) (kq 4)),
mq 8 7,
gq 9 8 false (.mv (.t 0)),
gq 10 8 false (cl zqc [.t 9,kq 4]),
gq 11 8 false (.un .not (.t 10)),
tq 12 (.pick (.t 8) (.k (.d (.bool true))) (.t 11)),
mq 13 12,
gq 14 13 false (.mv (.t 0)),
gq 15 13 false (cl zhh [.t 14]),
gq 16 13 false (.bin .neq (.t 15) (kq 0)),
tq 17 (.pick (.t 13) (.k (.d (.bool true))) (.t 16))] [5,6,7,8,9,10,11,12,13,14,15,16]
(.cond (.t 17) (sr [
tq 2 (.mv (.k (.d (.bool false))))] []
.ret)
 .skip))
(.seq (sr [
mq 18 0,
tq 19 (.len .slc (.t 18)),
tq 20 (.mv (kq 0))] [0]
(.block 0 (.loop [18,19,20] zvh)))
(sr [
tq 2 (.mv (.k (.d (.bool true))))] []
.ret))))⟩
def z4d:CF:=⟨[.tmp 0],
  (sr [
tq 0 (.mv (.k (.d (.bool false))))] [0]
(sr [
tq 13 (cl zex [.k (.d (.str [97])),kq 100]),
tq 14 (cl zex [.k (.d (.str [98])),kq 180]),
tq 1 (.alloc zag [.z (.str []),.z (.str []),.z (.str []),.z (.str []),.z (.str []),.z (.str []),.z (.int .i64 0),.z (.int .i64 0),.z (.int .i64 0),.z (.int .i64 0),.z (.int .i64 0),.z (.int .i64 0),.z (.int .i64 0)]),
tq 2 (.alloc zag [.z (.str []),.z (.str []),.z (.str []),.z (.str []),.z (.str []),.z (.str []),.z (.int .i64 0),.z (.int .i64 0),.z (.int .i64 0),.z (.int .i64 0),.z (.int .i64 0),.z (.int .i64 0),.z (.int .i64 0)]),
⟨none,none,.store 13 (.t 1) (.t 13)⟩,
⟨none,none,.store 13 (.t 2) (.t 14)⟩] [13,14]
(.seq (.reg true [
tq 16 (cl zjr []),
lq 17 13 1,
tq 18 (.build [.z (.str []),.z (.str []),.z (.str []),.z (.str []),.z (.str []),.z (.str []),.z (.int .i64 0),.z (.int .i64 0),.z (.int .i64 0),.z (.int .i64 0),.z (.int .i64 0),.z (.int .i64 0),.z (.int .i64 0),.z (.bool false),.z (.bool false),.z (.bool false),.z (.bool false),.z (.int .i64 0)] [(0,13,.t 17)]),
lq 19 13 2,
tq 20 (.build [.z (.str []),.z (.str []),.z (.str []),.z (.str []),.z (.str []),.z (.str []),.z (.int .i64 0),.z (.int .i64 0),.z (.int .i64 0),.z (.int .i64 0),.z (.int .i64 0),.z (.int .i64 0),.z (.int .i64 0),.z (.bool false),.z (.bool false),.z (.bool false),.z (.bool false),.z (.int .i64 0)] [(0,13,.t 19)]),
tq 21 (.mkList 18 2 [.t 18,.t 20]),
tq 22 (cl zmu [.t 16,kq 1,.t 21]),
mq 15 22,
xq 23 15 0,
xq 24 15 1,
mq 3 23,
mq 4 24] [15,16,17,18,19,20,21,22,23,24])
(.seq (.reg true [
tq 26 (cl zij []),
tq 27 (.mkList 11 1 [.t 26]),
lq 28 13 2,
tq 29 (cl zeh [.t 28]),
lq 30 13 1,
tq 31 (cl zeh [.t 30]),
tq 32 (.mkList 18 2 [.t 29,.t 31]),
tq 33 (cl zbu [.t 27,.t 32]),
mq 25 33,
xq 34 25 0,
xq 35 25 1,
mq 5 34,
mq 6 35] [2,25,26,27,28,29,30,31,32,33,34,35])
(sr [
fa 37 6 1,
lq 38 3 37,
tq 39 (cl zig [.t 38]),
mq 36 39,
xq 40 36 0,
xq 41 36 1,
mq 7 40,
mq 8 41] [1,36,37,38,39,40,41]
(sr [
tq 43 (cl zhg [kq 610]),
mq 42 43,
xq 44 42 0,
xq 45 42 1,
mq 9 44,
mq 10 45] [42,43,44,45]
(sr [
tq 47 (cl zij []),
tq 48 (cl zc9 [.t 47,kq 2]),
mq 46 48,
xq 49 46 0,
xq 50 46 1,
mq 11 49,
mq 12 50] [46,47,48,49,50]
(sr [
mq 51 4,
mq 52 6,
tq 53 (.bin .add (.t 51) (.t 52)),
mq 54 8,
tq 55 (.bin .add (.t 53) (.t 54)),
mq 56 10,
tq 57 (.bin .add (.t 55) (.t 56)),
mq 58 12,
tq 59 (.bin .add (.t 57) (.t 58)),
tq 60 (.bin .eql (.t 59) (kq 0)),
mq 61 60,
gq 62 61 true (.mv (.t 3)),
gq 63 61 true (.mkList 1 2 [kq 1,kq 0]),
gq 64 61 true (cl zgl [.t 62,.t 63]),
tq 65 (.pick (.t 61) (.t 64) (.k (.d (.bool false)))),
mq 66 65,
gq 67 66 true (.mv (.t 5)),
gq 68 66 true (.len .slc (.t 67)),
gq 69 66 true (.bin .eql (.t 68) (kq 2)),
tq 70 (.pick (.t 66) (.t 69) (.k (.d (.bool false)))),
mq 71 70,
gq 72 71 true (.mv (.t 5)),
gq 73 71 true (.idxAddr 3 (.t 72) (kq 0)),
gq 74 71 true (.load (some 3) (.t 73)),
gq 75 71 true (.build [.z (.str []),.z (.int .i64 0),.z (.bool false)] [(0,1,.k (.d (.str [98]))),(1,1,kq 610),(2,1,.k (.d (.bool true)))]),
gq 76 71 true (.eqv (some [.str,.int,.bool]) false (.t 74) (.t 75)),
tq 77 (.pick (.t 71) (.t 76) (.k (.d (.bool false)))),
mq 78 77,
gq 79 78 true (.mv (.t 5)),
gq 80 78 true (.idxAddr 3 (.t 79) (kq 1)),
gq 81 78 true (.load (some 3) (.t 80)),
gq 82 78 true (.build [.z (.str []),.z (.int .i64 0),.z (.bool false)] [(0,1,.k (.d (.str [97]))),(1,1,kq 590),(2,1,.k (.d (.bool true)))]),
gq 83 78 true (.eqv (some [.str,.int,.bool]) false (.t 81) (.t 82)),
tq 84 (.pick (.t 78) (.t 83) (.k (.d (.bool false)))),
mq 85 84,
gq 86 85 true (.mv (.t 7)),
gq 87 85 true (.bin .eql (.t 86) (kq 2)),
tq 88 (.pick (.t 85) (.t 87) (.k (.d (.bool false)))),
mq 89 88,
gq 90 89 true (.mv (.t 9)),
gq 91 89 true (.bin .eql (.t 90) (.k (.d (.str [49,48,49,48])))),
tq 92 (.pick (.t 89) (.t 91) (.k (.d (.bool false)))),
mq 93 92,
gq 94 93 true (.mv (.t 11)),
gq 95 93 true (.mkList 1 1 [kq 3480]),
gq 96 93 true (cl zgl [.t 94,.t 95]),
tq 97 (.pick (.t 93) (.t 96) (.k (.d (.bool false)))),
mq 0 97] [3,4,5,6,7,8,9,10,11,12,51,52,53,54,55,56,57,58,59,60,61,62,63,64,65,66,67,68,69,70,71,72,73,74,75,76,77,78,79,80,81,82,83,84,85,86,87,88,89,90,91,92,93,94,95,96,97]
.ret))))))))⟩
def z1r:CF:=⟨[.cell 2 (some 18)],
  (sr [
tq 1 (.box zag (.t 0)),
tq 2 (.alloc zau [.z (.str []),.z (.str []),.z (.str []),.z (.str []),.z (.str []),.z (.str []),.z (.int .i64 0),.z (.int .i64 0),.z (.int .i64 0),.z (.int .i64 0),.z (.int .i64 0),.z (.int .i64 0),.z (.int .i64 0),.z (.int .i64 0),.z (.int .i64 0),.z (.int .i64 0),.z (.int .i64 0),.z (.int .i64 0)])] [0]
(sr [
lq 3 13 1,
fa 4 9 1,
ld 5 4,
tq 6 (.bin .sub (.t 5) (kq 20)),
tq 7 (.minmax true [kq 0,.t 6]),
fa 8 9 1,
ld 9 8,
tq 10 (.bin .add (.t 9) (kq 20)),
tq 11 (.minmax false [kq 1439,.t 10]),
tq 12 (.build [.z (.str []),.z (.str []),.z (.str []),.z (.str []),.z (.str []),.z (.str []),.z (.int .i64 0),.z (.int .i64 0),.z (.int .i64 0),.z (.int .i64 0),.z (.int .i64 0),.z (.int .i64 0),.z (.int .i64 0),.z (.int .i64 0),.z (.int .i64 0),.z (.int .i64 0),.z (.int .i64 0),.z (.int .i64 0)] [(0,13,.t 3),(13,1,.t 7),(14,1,.t 11),(15,1,kq 20)]),
⟨none,none,.store 18 (.t 2) (.t 12)⟩] [1,3,4,5,6,7,8,9,10,11,12]
.ret))⟩
def znp:C:=
  (rg [
tq 10 (.alloc zba [.z (.int .i64 0),.z (.int .i64 0)]),
⟨none,none,.store 2 (.t 10) (.t 30)⟩] [30])
def zu9:C:=
  (sr [
tq 36 (.bin .lss (.t 35) (.t 34))] []
(.seq (.cond (.t 36) .skip
 (.exit 2))
(.seq (.block 3 (sr [
tq 37 (.idxAddr 2 (.t 33) (.t 35)),
lq 38 2 37,
tq 12 (.alloc zak [.z (.int .i64 0),.z (.int .i64 0)]),
⟨none,none,.store 2 (.t 12) (.t 38)⟩] [37,38]
(.seq (.reg true [
ld 39 9,
lq 40 2 10,
ld 41 3,
lq 42 2 12,
tq 43 (cl zcm [.t 40,.t 41,.t 42]),
tq 44 (.callU true (.t 39) [.t 43]),
tq 45 (.len .slc (.t 44)),
tq 46 (.bin .eql (.t 45) (kq 0))] [39,40,41,42,43,44,45])
(.cond (.t 46) (sr [
lq 47 2 10,
ld 48 7,
lq 49 2 12,
tq 50 (.callU false (.k (.fn zf5 [] [])) [.t 47,.t 48,.t 49])] [7,47,48,49,50]
(sr [
ld 51 8,
ld 52 3,
lq 53 2 10,
lq 54 2 12,
tq 55 (.callU false (.k (.fn zde [] [])) [.t 51,.t 52,.t 53,.t 54,kq 1])] [3,8,10,12,51,52,53,54,55]
(.exit 2)))
 .skip))))
(rg [
tq 56 (.bin .add (.t 35) (kq 1)),
mq 35 56] [56]))))
def znq:C:=
  (.block 1 (.scope (.seq .label
(sr [
lq 31 2 10,
ld 32 3,
tq 33 (cl zf4 [.t 31,.t 32]),
tq 34 (.len .slc (.t 33)),
tq 35 (.mv (kq 0))] [31,32]
(.block 2 (.loop [3,7,8,9,10,33,34,35] zu9))))))
def zzc:CF:=⟨[.tmp 4,.tmp 5],
  (sr [
tq 3 (.box zd4 (.t 1)),
tq 4 (.ownNil ⟨true,zar,3,32⟩),
tq 5 (.mv (kq 0))] [1]
(.seq (.seq (.reg true [
mq 13 0,
tq 14 (cl zgu [.t 13]),
ld 15 3,
tq 16 (cl zgt [.t 15]),
tq 17 (.mkList 1 2 [.t 14,.t 16]),
tq 18 (cl zc4 [.t 17]),
mq 6 18] [13,14,15,16,17,18])
(sr [
mq 19 6,
tq 20 (.bin .neq (.t 19) (kq 0))] [19]
(.cond (.t 20) (sr [
mq 21 6,
tq 4 (.ownNil ⟨true,zar,3,32⟩),
mq 5 21] [6,21]
.ret)
 .skip)))
(sr [
ld 22 3,
tq 23 (.call false false (.k (.fn zev [] [])) [.t 22]),
tq 7 (.alloc zga [.own ⟨true,zar,3,32⟩]),
⟨none,none,.store 1 (.t 7) (.t 23)⟩] [22,23]
(sr [
mq 24 0,
tq 25 (.call false false (.k (.fn ziq [] [])) [.t 24]),
tq 8 (.alloc zk2 [.z (.nilp)]),
⟨none,none,.store 1 (.t 8) (.t 25)⟩] [0,24,25]
(sr [
ld 26 8,
tq 27 (.mkFunc zby [.t 26] []),
tq 9 (.alloc zdp [.z (.nilf)]),
⟨none,none,.store 1 (.t 9) (.t 27)⟩] [26,27]
(.seq (sr [
ld 28 3,
tq 29 (.call false false (.k (.fn zla [] [])) [.t 28])] [28]
(.block 0 (.rangeFn 59 (.t 29) [30] znp znq)))
(sr [
ld 57 7,
mq 4 57,
tq 5 (.mv (kq 0))] [7,57]
.ret)))))))⟩
def zt2:C:=
  (sr [
tq 37 (.bin .lss (.t 36) (.t 35))] []
(.seq (.cond (.t 37) .skip
 (.exit 0))
(.seq (.block 1 (sr [
mq 38 36,
tq 39 (.idxAddr 3 (.t 34) (.t 36)),
lq 40 3 39,
tq 15 (.alloc zct [.z (.str []),.z (.bool false),.z (.int .i64 0)]),
mq 14 38,
⟨none,none,.store 3 (.t 15) (.t 40)⟩] [38,39,40]
(sr [
mq 41 3,
mq 42 14,
tq 43 (.idxAddr 13 (.t 41) (.t 42)),
lq 44 13 43,
tq 16 (.alloc zag [.z (.str []),.z (.str []),.z (.str []),.z (.str []),.z (.str []),.z (.str []),.z (.int .i64 0),.z (.int .i64 0),.z (.int .i64 0),.z (.int .i64 0),.z (.int .i64 0),.z (.int .i64 0),.z (.int .i64 0)]),
⟨none,none,.store 13 (.t 16) (.t 44)⟩] [14,41,42,43,44]
(.block 2 (sr [
fa 56 1 15,
ld 57 56,
tq 58 (.un .not (.t 57)),
mq 55 58] [56,57,58]
(.cond (.t 55) (rg [
fa 59 4 13,
ld 60 59,
lq 61 13 16,
tq 62 (.build [.z (.str []),.z (.str []),.z (.str []),.z (.str []),.z (.str []),.z (.str []),.z (.str []),.z (.int .i64 0),.z (.int .i64 0),.z (.int .i64 0),.z (.int .i64 0),.z (.int .i64 0),.z (.int .i64 0),.z (.int .i64 0)] [(0,1,.k (.d (.str [85]))),(1,13,.t 61)]),
tq 63 (.mkList 14 1 [.t 62]),
tq 64 (.append ⟨false,zac,14,168⟩ (.t 60) (.t 63)),
fa 65 4 13,
⟨none,none,.store 1 (.t 65) (.t 64)⟩] [16,59,60,61,62,63,64,65])
 (sr [
fa 67 2 15,
ld 68 67,
fa 69 9 16,
ld 70 69,
tq 71 (.bin .eql (.t 68) (.t 70)),
mq 66 71] [67,68,69,70,71]
(.cond (.t 66) (rg [
fa 72 4 13,
ld 73 72,
lq 74 13 16,
tq 75 (.build [.z (.str []),.z (.str []),.z (.str []),.z (.str []),.z (.str []),.z (.str []),.z (.str []),.z (.int .i64 0),.z (.int .i64 0),.z (.int .i64 0),.z (.int .i64 0),.z (.int .i64 0),.z (.int .i64 0),.z (.int .i64 0)] [(0,1,.k (.d (.str [75]))),(1,13,.t 74)]),
tq 76 (.mkList 14 1 [.t 75]),
tq 77 (.append ⟨false,zac,14,168⟩ (.t 73) (.t 76)),
fa 78 4 13,
⟨none,none,.store 1 (.t 78) (.t 77)⟩] [16,72,73,74,75,76,77,78])
 (.reg true [
fa 45 4 13,
ld 46 45,
lq 47 13 16,
fa 48 2 15,
ld 49 48,
tq 50 (cl zmt [.t 47,.t 49]),
tq 51 (.build [.z (.str []),.z (.str []),.z (.str []),.z (.str []),.z (.str []),.z (.str []),.z (.str []),.z (.int .i64 0),.z (.int .i64 0),.z (.int .i64 0),.z (.int .i64 0),.z (.int .i64 0),.z (.int .i64 0),.z (.int .i64 0)] [(0,1,.k (.d (.str [79]))),(1,13,.t 50)]),
tq 52 (.mkList 14 1 [.t 51]),
tq 53 (.append ⟨false,zac,14,168⟩ (.t 46) (.t 52)),
fa 54 4 13,
⟨none,none,.store 1 (.t 54) (.t 53)⟩] [15,16,45,46,47,48,49,50,51,52,53,54])))))))))
(rg [
tq 79 (.bin .add (.t 36) (kq 1)),
mq 36 79] [79]))))
def zx1:CF:=⟨[.cell 10 (some 5),.tmp 11],
  (sr [
tq 10 (.alloc zab [.z (.str []),.z (.str []),.z (.str []),.z (.int .i64 0),.own ⟨false,zac,14,168⟩]),
tq 11 (.mv (kq 0))] [11]
(.seq (sr [
mq 17 0,
mq 18 1,
mq 19 2,
tq 20 (cl zf9 [.t 17,.t 18,.t 19]),
mq 21 3,
mq 22 4,
tq 23 (cl zis [.t 21,.t 22]),
tq 24 (.mkList 1 2 [.t 20,.t 23]),
tq 25 (cl zax [.t 24]),
mq 12 25] [17,18,19,20,21,22,23,24,25]
(sr [
mq 26 12,
tq 27 (.bin .neq (.t 26) (kq 0))] [26]
(.cond (.t 27) (sr [
tq 28 (.build [.z (.str []),.z (.str []),.z (.str []),.z (.int .i64 0),.own ⟨false,zac,14,168⟩] []),
mq 29 12,
⟨none,none,.store 5 (.t 10) (.t 28)⟩,
mq 11 29] [12,28,29]
.ret)
 .skip)))
(sr [
mq 30 0,
mq 31 1,
mq 32 2,
tq 33 (.build [.z (.str []),.z (.str []),.z (.str []),.z (.int .i64 0),.own ⟨false,zac,14,168⟩] [(0,1,.k (.d (.str [65,78,83]))),(1,1,.t 30),(2,1,.t 31),(3,1,.t 32)]),
tq 13 (.alloc zab [.z (.str []),.z (.str []),.z (.str []),.z (.int .i64 0),.own ⟨false,zac,14,168⟩]),
⟨none,none,.store 5 (.t 13) (.t 33)⟩] [0,1,2,30,31,32,33]
(.seq (sr [
mq 34 4,
tq 35 (.len .slc (.t 34)),
tq 36 (.mv (kq 0))] [4]
(.block 0 (.loop [3,10,13,34,35,36] zt2)))
(sr [
lq 80 5 13,
⟨none,none,.store 5 (.t 10) (.t 80)⟩,
tq 11 (.mv (kq 0))] [13,80]
.ret)))))⟩
def zt3:C:=
  (sr [
tq 28 (.bin .lss (.t 27) (.t 26))] []
(.seq (.cond (.t 28) .skip
 (.exit 0))
(.seq (.block 1 (sr [
tq 29 (.idxAddr 13 (.t 25) (.t 27)),
lq 30 13 29,
tq 10 (.alloc zag [.z (.str []),.z (.str []),.z (.str []),.z (.str []),.z (.str []),.z (.str []),.z (.int .i64 0),.z (.int .i64 0),.z (.int .i64 0),.z (.int .i64 0),.z (.int .i64 0),.z (.int .i64 0),.z (.int .i64 0)]),
⟨none,none,.store 13 (.t 10) (.t 30)⟩] [29,30]
(sr [
ld 32 7,
ld 33 3,
lq 34 13 10,
tq 35 (.call false true (.t 32) [.t 33,.t 34]),
mq 31 35,
xq 36 31 0,
xq 37 31 1,
tq 11 (.alloc zag [.z (.str []),.z (.str []),.z (.str []),.z (.str []),.z (.str []),.z (.str []),.z (.int .i64 0),.z (.int .i64 0),.z (.int .i64 0),.z (.int .i64 0),.z (.int .i64 0),.z (.int .i64 0),.z (.int .i64 0)]),
⟨none,none,.store 13 (.t 11) (.t 36)⟩,
mq 12 37] [31,32,33,34,35,36,37]
(sr [
mq 38 12,
mq 39 38,
gq 40 39 true (.load (some 13) (.t 11)),
gq 41 39 true (.load (some 13) (.t 10)),
gq 42 39 true (.eqv (some [.str,.str,.str,.str,.str,.str,.int,.int,.int,.int,.int,.int,.int]) true (.t 40) (.t 41)),
tq 43 (.pick (.t 39) (.t 42) (.k (.d (.bool false))))] [12,38,39,40,41,42]
(.cond (.t 43) (rg [
mq 44 8,
lq 45 13 10,
tq 46 (.build [.z (.str []),.z (.str []),.z (.str []),.z (.str []),.z (.str []),.z (.str []),.z (.str []),.z (.int .i64 0),.z (.int .i64 0),.z (.int .i64 0),.z (.int .i64 0),.z (.int .i64 0),.z (.int .i64 0),.z (.int .i64 0)] [(0,1,.k (.d (.str [67]))),(1,13,.t 45)]),
lq 47 13 11,
tq 48 (.build [.z (.str []),.z (.str []),.z (.str []),.z (.str []),.z (.str []),.z (.str []),.z (.str []),.z (.int .i64 0),.z (.int .i64 0),.z (.int .i64 0),.z (.int .i64 0),.z (.int .i64 0),.z (.int .i64 0),.z (.int .i64 0)] [(0,1,.k (.d (.str [82]))),(1,13,.t 47)]),
tq 49 (.mkList 14 2 [.t 46,.t 48]),
tq 50 (.append ⟨false,zac,14,168⟩ (.t 44) (.t 49)),
mq 8 50] [10,11,44,45,46,47,48,49,50])
 .skip)))))
(rg [
tq 51 (.bin .add (.t 27) (kq 1)),
mq 27 51] [51]))))
def zx2:CF:=⟨[.tmp 4,.tmp 5],
  (sr [
tq 2 (.box zdh (.t 0)),
tq 3 (.box zdh (.t 1)),
tq 4 (.ownNil ⟨false,zac,14,168⟩),
tq 5 (.mv (kq 0))] [0,1,4,5]
(.seq (.seq (.reg true [
ld 13 2,
tq 14 (cl zc0 [.t 13]),
ld 15 3,
tq 16 (cl zc0 [.t 15]),
tq 17 (.mkList 1 2 [.t 14,.t 16]),
tq 18 (cl zax [.t 17]),
mq 6 18] [13,14,15,16,17,18])
(sr [
mq 19 6,
tq 20 (.bin .neq (.t 19) (kq 0))] [19]
(.cond (.t 20) (sr [
mq 21 6,
tq 4 (.ownNil ⟨false,zac,14,168⟩),
mq 5 21] [6,21]
.ret)
 .skip)))
(sr [
tq 7 (.alloc za0 [.z (.nilf)]),
⟨none,none,.store 1 (.t 7) (.k (.fn zb7 [] []))⟩] []
(sr [
ld 22 2,
tq 23 (.mkFunc zec [] [.t 7,.t 3]),
tq 24 (.call true false (.k (.fn zaw [] [])) [.t 22,.t 23]),
mq 8 24] [22,23,24]
(.seq (sr [
ld 25 2,
tq 26 (.len .slc (.t 25)),
tq 27 (.mv (kq 0))] []
(.block 0 (.loop [2,3,7,8,25,26,27] zt3)))
(sr [
mq 52 8,
ld 53 3,
tq 54 (.mkFunc zed [] [.t 7,.t 2]),
tq 55 (.call true true (.k (.fn zaw [] [])) [.t 53,.t 54]),
tq 56 (.append ⟨false,zac,14,168⟩ (.t 52) (.t 55)),
mq 8 56] [2,3,7,52,53,54,55,56]
(.seq (sr [
mq 57 8,
tq 58 (.len .slc (.t 57)),
tq 59 (.bin .gtr (.t 58) (kq 64))] [57,58]
(.cond (.t 59) (sr [
tq 4 (.ownNil ⟨false,zac,14,168⟩),
tq 5 (.mv (kq 5))] []
.ret)
 .skip))
(sr [
mq 60 8,
mq 4 60,
tq 5 (.mv (kq 0))] [8,60]
.ret))))))))⟩
def zh0:C:=
  (sr [
tq 67 (.bin .lss (.t 66) (.t 65))] []
(.seq (.cond (.t 67) .skip
 (.exit 2))
(.seq (.block 3 (sr [
tq 68 (.idxAddr 14 (.t 64) (.t 66)),
lq 69 14 68,
tq 12 (.alloc zac [.z (.str []),.z (.str []),.z (.str []),.z (.str []),.z (.str []),.z (.str []),.z (.str []),.z (.int .i64 0),.z (.int .i64 0),.z (.int .i64 0),.z (.int .i64 0),.z (.int .i64 0),.z (.int .i64 0),.z (.int .i64 0)]),
⟨none,none,.store 14 (.t 12) (.t 69)⟩] [68,69]
(sr [
mq 71 5,
lq 72 14 12,
fa 73 3 9,
ld 74 73,
tq 75 (.call true false (.k (.fn zcx [] [])) [.t 71,.t 72,.t 74]),
mq 70 75,
xq 76 70 0,
xq 77 70 1,
mq 5 76,
mq 7 77] [12,70,71,72,73,74,75,76,77]
(sr [
mq 78 7,
tq 79 (.bin .neq (.t 78) (kq 0))] [78]
(.cond (.t 79) (.exit 0)
 .skip)))))
(rg [
tq 80 (.bin .add (.t 66) (kq 1)),
mq 66 80] [80]))))
def zs6:C:=
  (sr [
tq 19 (.bin .lss (.t 18) (.t 17))] []
(.seq (.cond (.t 19) .skip
 (.exit 0))
(.seq (.block 1 (sr [
mq 20 18,
tq 21 (.idxAddr 5 (.t 16) (.t 18)),
lq 22 5 21,
tq 9 (.alloc zab [.z (.str []),.z (.str []),.z (.str []),.z (.int .i64 0),.z (.list 0 [])]),
mq 8 20,
⟨none,none,.store 5 (.t 9) (.t 22)⟩] [20,21,22]
(sr [
mq 23 8,
mq 6 23] [23]
(sr [
mq 24 0,
mq 25 8,
tq 26 (.bin .sub (.t 25) (kq 1)),
tq 27 (.minmax true [kq 0,.t 26]),
tq 28 (.idxAddr 5 (.t 24) (.t 27)),
lq 29 5 28,
tq 10 (.alloc zab [.z (.str []),.z (.str []),.z (.str []),.z (.int .i64 0),.z (.list 0 [])]),
⟨none,none,.store 5 (.t 10) (.t 29)⟩] [8,24,25,26,27,28,29]
(.seq (.seq (.reg true [
lq 30 5 9,
tq 31 (cl zgv [.t 30]),
fa 32 0 9,
ld 33 32,
tq 34 (.bin .neq (.t 33) (.k (.d (.str [82,69,81])))),
tq 35 (cl zav [.t 34,kq 13]),
fa 36 1 9,
ld 37 36,
mq 38 0,
tq 39 (.idxAddr 5 (.t 38) (kq 0)),
fa 40 1 39,
ld 41 40,
tq 42 (.bin .neq (.t 37) (.t 41)),
mq 43 42,
gq 44 43 false (.fieldAddr 2 (.t 9)),
gq 45 43 false (.load none (.t 44)),
gq 46 43 false (.mv (.t 0)),
gq 47 43 false (.idxAddr 5 (.t 46) (kq 0)),
gq 48 43 false (.fieldAddr 2 (.t 47)),
gq 49 43 false (.load none (.t 48)),
gq 50 43 false (.bin .neq (.t 45) (.t 49)),
tq 51 (.pick (.t 43) (.k (.d (.bool true))) (.t 50)),
tq 52 (cl zav [.t 51,kq 29]),
fa 53 3 9,
ld 54 53,
fa 55 3 10,
ld 56 55,
tq 57 (.bin .lss (.t 54) (.t 56)),
tq 58 (cl zav [.t 57,kq 11]),
tq 59 (.mkList 1 4 [.t 31,.t 35,.t 52,.t 58]),
tq 60 (cl zax [.t 59]),
mq 7 60] [10,30,31,32,33,34,35,36,37,38,39,40,41,42,43,44,45,46,47,48,49,50,51,52,53,54,55,56,57,58,59,60])
(sr [
mq 61 7,
tq 62 (.bin .neq (.t 61) (kq 0))] [61]
(.cond (.t 62) (.exit 0)
 .skip)))
(sr [
fa 63 4 9,
ld 64 63,
tq 65 (.len .slc (.t 64)),
tq 66 (.mv (kq 0))] [63]
(.block 2 (.loop [0,5,6,7,9,16,17,18,64,65,66] zh0))))))))
(rg [
tq 81 (.bin .add (.t 18) (kq 1)),
mq 18 81] [81]))))
def zvw:CF:=⟨[.tmp 2,.tmp 3,.tmp 4],
  (sr [
tq 2 (.ownNil ⟨true,zaa,15,168⟩),
tq 3 (.mv (kq 0)),
tq 4 (.mv (kq 0))] [2,3,4]
(.scope (.seq (sr [
mq 13 0,
tq 14 (.len .slc (.t 13)),
tq 15 (.bin .gtr (.t 14) (kq 64))] [13,14]
(.cond (.t 15) (sr [
tq 2 (.ownNil ⟨true,zaa,15,168⟩),
tq 3 (.mv (kq 0)),
tq 4 (.mv (kq 5))] []
.ret)
 .skip))
(sr [
tq 5 (.ownNil ⟨true,zaa,15,168⟩)] []
(sr [
tq 6 (.mv (kq 0)),
tq 7 (.mv (kq 0))] []
(.seq .label
(.seq (sr [
mq 16 0,
tq 17 (.len .slc (.t 16)),
tq 18 (.mv (kq 0))] []
(.block 0 (.loop [0,5,6,7,16,17,18] zs6)))
(.seq (sr [
mq 82 7,
tq 83 (.bin .neq (.t 82) (kq 0))] [82]
(.cond (.t 83) (sr [
mq 84 6,
mq 85 7,
tq 2 (.ownNil ⟨true,zaa,15,168⟩),
mq 3 84,
mq 4 85] [6,7,84,85]
.ret)
 .skip))
(sr [
mq 86 5,
mq 2 86,
tq 3 (.mv (kq 0)),
tq 4 (.mv (kq 0))] [5,86]
.ret)))))))))⟩
def zro:C:=
  (.seq (sr [
mq 21 6,
mq 22 0,
tq 23 (.len .slc (.t 22)),
tq 24 (.bin .lss (.t 21) (.t 23))] [21,22,23]
(.cond (.t 24) .skip
 (.exit 0)))
(.seq (.block 1 (.seq (sr [
mq 27 0,
mq 28 6,
tq 29 (.idxAddr 11 (.t 27) (.t 28)),
fa 30 0 29,
ld 31 30,
tq 32 (.len .str (.t 31)),
tq 33 (.bin .gtr (.t 32) (kq 40)),
mq 34 33,
gq 35 34 false (.mv (.t 0)),
gq 36 34 false (.mv (.t 6)),
gq 37 34 false (.idxAddr 11 (.t 35) (.t 36)),
gq 38 34 false (.fieldAddr 1 (.t 37)),
gq 39 34 false (.load none (.t 38)),
gq 40 34 false (.len .str (.t 39)),
gq 41 34 false (.bin .gtr (.t 40) (kq 40)),
tq 42 (.pick (.t 34) (.k (.d (.bool true))) (.t 41)),
mq 43 42,
gq 44 43 false (.mv (.t 0)),
gq 45 43 false (.mv (.t 6)),
gq 46 43 false (.idxAddr 11 (.t 44) (.t 45)),
gq 47 43 false (.fieldAddr 2 (.t 46)),
gq 48 43 false (.load none (.t 47)),
gq 49 43 false (.len .str (.t 48)),
gq 50 43 false (.bin .gtr (.t 49) (kq 40)),
tq 51 (.pick (.t 43) (.k (.d (.bool true))) (.t 50)),
mq 52 51,
gq 53 52 false (.mv (.t 0)),
gq 54 52 false (.mv (.t 6)),
gq 55 52 false (.idxAddr 11 (.t 53) (.t 54)),
gq 56 52 false (.fieldAddr 7 (.t 55)),
gq 57 52 false (.load (some 3) (.t 56)),
gq 58 52 false (cl zuw [.t 57,kq 24]),
gq 59 52 false (.un .not (.t 58)),
tq 60 (.pick (.t 52) (.k (.d (.bool true))) (.t 59))] [27,28,29,30,31,32,33,34,35,36,37,38,39,40,41,42,43,44,45,46,47,48,49,50,51,52,53,54,55,56,57,58,59]
(.cond (.t 60) (sr [
tq 4 (.mv (.k (.d (.bool false))))] []
.ret)
 .skip))
(sr [
mq 61 0,
mq 62 6,
tq 63 (.idxAddr 11 (.t 61) (.t 62)),
lq 64 11 63,
tq 65 (cl zg1 [.t 64]),
tq 66 (.bin .eql (.t 65) (kq 0))] [61,62,63,64,65]
(.cond (.t 66) (.reg true [
mq 67 5,
mq 68 0,
mq 69 6,
tq 70 (.idxAddr 11 (.t 68) (.t 69)),
lq 71 11 70,
tq 72 (cl zov [.t 71]),
mq 73 0,
mq 74 6,
tq 75 (.idxAddr 11 (.t 73) (.t 74)),
fa 76 7 75,
lq 77 3 76,
tq 78 (cl zkn [.t 77]),
tq 79 (.len .slc (.t 78)),
tq 80 (.bin .mul (.t 72) (.t 79)),
tq 81 (.bin .add (.t 67) (.t 80)),
mq 5 81] [67,68,69,70,71,72,73,74,75,76,77,78,79,80,81])
 .skip))))
(rg [
mq 25 6,
tq 26 (.bin .add (.t 25) (kq 1)),
mq 6 26] [25,26])))
def zup:CF:=⟨[.tmp 4],
  (sr [
tq 4 (.mv (.k (.d (.bool false))))] [4]
(.seq (sr [
mq 7 0,
tq 8 (.len .slc (.t 7)),
mq 9 1,
tq 10 (.bin .gtr (.t 8) (.t 9)),
mq 11 10,
gq 12 11 true (.mv (.t 0)),
gq 13 11 true (.len .slc (.t 12)),
gq 14 11 true (.bin .leq (.t 13) (kq 32)),
tq 15 (.pick (.t 11) (.t 14) (.k (.d (.bool false)))),
mq 16 15,
gq 17 16 false (.mv (.t 0)),
gq 18 16 false (.len .slc (.t 17)),
gq 19 16 false (.bin .gtr (.t 18) (kq 34)),
tq 20 (.pick (.t 16) (.k (.d (.bool true))) (.t 19))] [1,7,8,9,10,11,12,13,14,15,16,17,18,19]
(.cond (.t 20) (sr [
tq 4 (.mv (.k (.d (.bool false))))] []
.ret)
 .skip))
(sr [
tq 5 (.mv (kq 0))] []
(.seq (sr [
tq 6 (.mv (kq 0))] []
(.block 0 (.loop [0,5,6] zro)))
(sr [
mq 82 5,
tq 83 (.bin .leq (.t 82) (kq 400)),
mq 4 83] [5,82,83]
.ret)))))⟩
def zrn:C:=
  (.seq (sr [
mq 8 3,
mq 9 0,
tq 10 (.len .slc (.t 9)),
tq 11 (.bin .lss (.t 8) (.t 10))] [8,9,10]
(.cond (.t 11) .skip
 (.exit 0)))
(.seq (.block 1 (.seq (sr [
mq 14 0,
mq 15 3,
tq 16 (.idxAddr 11 (.t 14) (.t 15)),
lq 17 11 16,
tq 18 (cl zg1 [.t 17]),
mq 4 18] [14,15,16,17,18]
(sr [
mq 19 4,
tq 20 (.bin .neq (.t 19) (kq 0))] [19]
(.cond (.t 20) (sr [
mq 21 4,
mq 2 21] [4,21]
.ret)
 .skip)))
(.seq (.reg true [
mq 22 0,
mq 23 3,
tq 24 (.slice 11 (.t 22) none (some (.t 23)) none),
mq 25 0,
mq 26 3,
tq 27 (.idxAddr 11 (.t 25) (.t 26)),
fa 28 0 27,
ld 29 28,
tq 30 (cl zmy [.t 24,.t 29]),
tq 31 (.bin .geq (.t 30) (kq 0))] [22,23,24,25,26,27,28,29,30])
(.cond (.t 31) (sr [
tq 2 (.mv (kq 9))] []
.ret)
 .skip))))
(rg [
mq 12 3,
tq 13 (.bin .add (.t 12) (kq 1)),
mq 3 13] [12,13])))
def zuo:CF:=⟨[.tmp 2],
  (sr [
tq 2 (.mv (kq 0))] [2]
(.seq (sr [
mq 5 0,
tq 6 (.len .slc (.t 5)),
tq 7 (.bin .gtr (.t 6) (kq 32))] [5,6]
(.cond (.t 7) (sr [
tq 2 (.mv (kq 5))] []
.ret)
 .skip))
(.seq (sr [
tq 3 (.mv (kq 0))] []
(.block 0 (.loop [0,3] zrn)))
(sr [
tq 2 (.mv (kq 0))] []
.ret))))⟩
def z05:C:=
  (.seq (sr [
mq 15 5,
mq 16 0,
tq 17 (.len .slc (.t 16)),
tq 18 (.bin .lss (.t 15) (.t 17))] [15,16,17]
(.cond (.t 18) .skip
 (.exit 0)))
(.seq (.block 1 (sr [
mq 21 0,
mq 22 5,
tq 23 (.idxAddr 13 (.t 21) (.t 22)),
lq 24 13 23,
tq 25 (cl zqb [.t 24]),
tq 26 (.un .not (.t 25))] [21,22,23,24,25]
(.cond (.t 26) (sr [
tq 4 (.mv (.k (.d (.bool false))))] []
.ret)
 .skip)))
(rg [
mq 19 5,
tq 20 (.bin .add (.t 19) (kq 1)),
mq 5 20] [19,20])))
def z6u:CF:=⟨[.tmp 4],
  (sr [
tq 4 (.mv (.k (.d (.bool false))))] [4]
(.seq (sr [
mq 6 0,
tq 7 (.len .slc (.t 6)),
mq 8 1,
tq 9 (.bin .gtr (.t 7) (.t 8)),
mq 10 9,
gq 11 10 true (.mv (.t 0)),
gq 12 10 true (.len .slc (.t 11)),
gq 13 10 true (.bin .neq (.t 12) (kq 65)),
tq 14 (.pick (.t 10) (.t 13) (.k (.d (.bool false))))] [1,6,7,8,9,10,11,12,13]
(.cond (.t 14) (sr [
tq 4 (.mv (.k (.d (.bool false))))] []
.ret)
 .skip))
(.seq (sr [
tq 5 (.mv (kq 0))] []
(.block 0 (.loop [0,5] z05)))
(sr [
tq 4 (.mv (.k (.d (.bool true))))] []
.ret))))⟩
def zpt:C:=
  (.seq (sr [
mq 8 3,
mq 9 0,
tq 10 (.len .slc (.t 9)),
tq 11 (.bin .lss (.t 8) (.t 10))] [8,9,10]
(.cond (.t 11) .skip
 (.exit 0)))
(.seq (.block 1 (sr [
mq 14 0,
mq 15 3,
tq 16 (.idxAddr 13 (.t 14) (.t 15)),
lq 17 13 16,
tq 18 (cl zh5 [.t 17]),
mq 4 18] [14,15,16,17,18]
(.seq (.seq (.reg true [
mq 19 4,
tq 20 (.bin .eql (.t 19) (kq 0)),
mq 21 20,
gq 22 21 true (.mv (.t 0)),
gq 23 21 true (.mv (.t 3)),
gq 24 21 true (.slice 13 (.t 22) none (some (.t 23)) none),
gq 25 21 true (.mv (.t 0)),
gq 26 21 true (.mv (.t 3)),
gq 27 21 true (.idxAddr 13 (.t 25) (.t 26)),
gq 28 21 true (.fieldAddr 0 (.t 27)),
gq 29 21 true (.load none (.t 28)),
gq 30 21 true (cl zyh [.t 24,.t 29]),
gq 31 21 true (.bin .geq (.t 30) (kq 0)),
tq 32 (.pick (.t 21) (.t 31) (.k (.d (.bool false))))] [19,20,21,22,23,24,25,26,27,28,29,30,31])
(.cond (.t 32) (rg [
tq 4 (.mv (kq 9))] [])
 .skip))
(sr [
mq 33 4,
tq 34 (.bin .neq (.t 33) (kq 0))] [33]
(.cond (.t 34) (sr [
mq 35 4,
mq 2 35] [4,35]
.ret)
 .skip)))))
(rg [
mq 12 3,
tq 13 (.bin .add (.t 12) (kq 1)),
mq 3 13] [12,13])))
def zrv:CF:=⟨[.tmp 2],
  (sr [
tq 2 (.mv (kq 0))] [2]
(.seq (sr [
mq 5 0,
tq 6 (.len .slc (.t 5)),
tq 7 (.bin .gtr (.t 6) (kq 64))] [5,6]
(.cond (.t 7) (sr [
tq 2 (.mv (kq 5))] []
.ret)
 .skip))
(.seq (sr [
tq 3 (.mv (kq 0))] []
(.block 0 (.loop [0,3] zpt)))
(sr [
tq 2 (.mv (kq 0))] []
.ret))))⟩
def zwf:CF:=⟨[.cell 4 (some 13)],
  (sr [
tq 4 (.alloc zag [.z (.str []),.z (.str []),.z (.str []),.z (.str []),.z (.str []),.z (.str []),.z (.int .i64 0),.z (.int .i64 0),.z (.int .i64 0),.z (.int .i64 0),.z (.int .i64 0),.z (.int .i64 0),.z (.int .i64 0)])] []
(sr [
mq 5 0,
tq 6 (.build [.z (.int .i64 0),.z (.int .i64 0),.z (.int .i64 0)] [(0,1,kq 2),(1,1,kq 3),(2,1,kq 127)]),
mq 7 1,
tq 8 (.build [.z (.str []),.z (.str []),.z (.str []),.z (.str []),.z (.str []),.z (.str []),.z (.int .i64 0),.z (.int .i64 0),.z (.int .i64 0),.z (.int .i64 0),.z (.int .i64 0),.z (.int .i64 0),.z (.int .i64 0)] [(0,1,.t 5),(1,1,.k (.d (.str [99]))),(2,1,.k (.d (.str [65]))),(4,1,.k (.d (.str [102,97,114]))),(6,3,.t 6),(9,1,kq 610),(10,1,.t 7),(11,1,kq 3)]),
⟨none,none,.store 13 (.t 4) (.t 8)⟩] [0,1,5,6,7,8]
.ret))⟩
def z1l:CF:=⟨[.tmp 6,.tmp 7],
  (sr [
tq 3 (.box zbq (.t 0)),
tq 6 (.mv (.k (.d (.list 0 [])))),
tq 7 (.mv (kq 0))] [0,6,7]
(.seq (sr [
lq 9 4 3,
mq 10 1,
mq 11 2,
tq 12 (cl zju [.t 9,.t 10,.t 11]),
mq 8 12] [9,10,11,12]
(sr [
mq 13 8,
tq 14 (.bin .neq (.t 13) (kq 0))] [13]
(.cond (.t 14) (sr [
mq 15 8,
tq 6 (.mv (.k (.d (.list 0 [])))),
mq 7 15] [8,15]
.ret)
 .skip)))
(sr [
lq 16 4 3,
mq 17 1,
mq 18 2,
tq 19 (cl zpm [.t 16,.t 17,.t 18]),
tq 20 (cl zi5 [.t 19]),
mq 6 20,
tq 7 (.mv (kq 0))] [1,2,3,16,17,18,19,20]
.ret)))⟩
def zv0:CF:=⟨[.cell 0 (some 4)],
  (sr [
tq 0 (.alloc zbq [.z (.list 0 []),.z (.int .i64 0),.z (.int .i64 0),.z (.int .i64 0)])] []
(sr [
tq 4 (.build [.z (.str []),.z (.bool false)] [(0,1,.k (.d (.str [100,97,121,115]))),(1,1,.k (.d (.bool true)))]),
tq 5 (.build [.z (.str []),.z (.bool false)] [(0,1,.k (.d (.str [115,101,97,116,115]))),(1,1,.k (.d (.bool true)))]),
tq 6 (.build [.z (.str []),.z (.bool false)] [(0,1,.k (.d (.str [100,105,115,116,97,110,99,101]))),(1,1,.k (.d (.bool true)))]),
tq 1 (.alloc zdi [.z (.str []),.z (.bool false)]),
tq 2 (.alloc zdi [.z (.str []),.z (.bool false)]),
tq 3 (.alloc zdi [.z (.str []),.z (.bool false)]),
⟨none,none,.store 2 (.t 1) (.t 4)⟩,
⟨none,none,.store 2 (.t 2) (.t 5)⟩,
⟨none,none,.store 2 (.t 3) (.t 6)⟩] [4,5,6]
(sr [
tq 7 (.build [.z (.str []),.z (.str []),.z (.int .i64 0)] [(0,1,.k (.d (.str [104,105,115,116,111,114,105,99]))),(1,1,.k (.d (.str [61]))),(2,1,kq 1)]),
tq 8 (.build [.z (.str []),.z (.str []),.z (.int .i64 0)] [(0,1,.k (.d (.str [114,101,116,105,109,101,100]))),(1,1,.k (.d (.str [61]))),(2,1,kq 0)]),
tq 9 (.mkList 3 2 [.t 7,.t 8]),
lq 10 2 1,
lq 11 2 2,
tq 12 (.mkList 2 2 [.t 10,.t 11]),
tq 13 (.build [.z (.str []),.z (.list 0 []),.z (.list 0 [])] [(0,1,.k (.d (.str [104,105,115,116,111,114,105,99]))),(1,1,.t 9),(2,1,.t 12)]),
tq 14 (.build [.z (.str []),.z (.str []),.z (.int .i64 0)] [(0,1,.k (.d (.str [104,105,115,116,111,114,105,99]))),(1,1,.k (.d (.str [61]))),(2,1,kq 1)]),
tq 15 (.mkList 3 1 [.t 14]),
lq 16 2 1,
lq 17 2 2,
tq 18 (.mkList 2 2 [.t 16,.t 17]),
tq 19 (.build [.z (.str []),.z (.list 0 []),.z (.list 0 [])] [(0,1,.k (.d (.str [114,101,116,105,109,101,100]))),(1,1,.t 15),(2,1,.t 18)]),
tq 20 (.build [.z (.str []),.z (.str []),.z (.int .i64 0)] [(0,1,.k (.d (.str [121,101,97,114,114,111,117,110,100]))),(1,1,.k (.d (.str [61]))),(2,1,kq 1)]),
tq 21 (.mkList 3 1 [.t 20]),
lq 22 2 1,
lq 23 2 2,
lq 24 2 3,
tq 25 (.mkList 2 3 [.t 22,.t 23,.t 24]),
tq 26 (.build [.z (.str []),.z (.list 0 []),.z (.list 0 [])] [(0,1,.k (.d (.str [121,101,97,114,114,111,117,110,100]))),(1,1,.t 21),(2,1,.t 25)]),
lq 27 2 1,
lq 28 2 2,
lq 29 2 3,
tq 30 (.mkList 2 3 [.t 27,.t 28,.t 29]),
tq 31 (.build [.z (.str []),.z (.list 0 []),.z (.list 0 [])] [(0,1,.k (.d (.str [111,116,104,101,114,115]))),(1,1,.k (.d (.list 0 []))),(2,1,.t 30)]),
tq 32 (.mkList 3 4 [.t 13,.t 19,.t 26,.t 31]),
tq 33 (.build [.z (.list 0 []),.z (.int .i64 0),.z (.int .i64 0),.z (.int .i64 0)] [(0,1,.t 32),(1,1,kq 2),(2,1,kq 2),(3,1,kq 1)]),
⟨none,none,.store 4 (.t 0) (.t 33)⟩] [1,2,3,7,8,9,10,11,12,13,14,15,16,17,18,19,20,21,22,23,24,25,26,27,28,29,30,31,32,33]
.ret)))⟩
def zzy:CF:=⟨[.cell 0 (some 11)],
  (sr [
tq 0 (.alloc zaj [.z (.str []),.z (.str []),.z (.str []),.z (.int .i64 0),.z (.int .i64 0),.z (.int .i64 0),.z (.int .i64 0),.z (.int .i64 0),.z (.int .i64 0),.z (.int .i64 0),.z (.int .i64 0)])] []
(sr [
tq 1 (.build [.z (.int .i64 0),.z (.int .i64 0),.z (.int .i64 0)] [(0,1,kq 2),(1,1,kq 3),(2,1,kq 127)]),
tq 2 (.build [.z (.str []),.z (.str []),.z (.str []),.z (.int .i64 0),.z (.int .i64 0),.z (.int .i64 0),.z (.int .i64 0),.z (.int .i64 0),.z (.int .i64 0),.z (.int .i64 0),.z (.int .i64 0)] [(0,1,.k (.d (.str [115,105,120]))),(1,1,.k (.d (.str [84]))),(3,1,kq 60),(4,1,kq 60),(5,1,kq 600),(6,1,kq 600),(7,3,.t 1),(10,1,kq 1)]),
⟨none,none,.store 11 (.t 0) (.t 2)⟩] [1,2]
.ret))⟩
def zzg:CF:=⟨[.tmp 2,.tmp 3],
  (sr [
tq 1 (.box zbp (.t 0)),
tq 2 (.mv (kq 0)),
tq 3 (.mv (kq 0))] [0,2,3]
(sr [
lq 7 3 1,
tq 8 (cl zfm [.t 7]),
mq 6 8,
xq 9 6 0,
xq 10 6 1,
mq 4 9,
mq 5 10] [1,6,7,8,9,10]
(sr [
mq 11 4,
tq 12 (.len .slc (.t 11)),
mq 13 5,
mq 2 12,
mq 3 13] [4,5,11,12,13]
.ret)))⟩
def zrs:CF:=⟨[.tmp 2,.tmp 3],
  (sr [
tq 2 (.mv (.k (.d (.str [])))),
tq 3 (.mv (kq 0))] [2,3]
(.seq (sr [
mq 5 0,
tq 6 (cl zcb [.t 5,kq 0,kq 1439]),
mq 4 6] [5,6]
(sr [
mq 7 4,
tq 8 (.bin .neq (.t 7) (kq 0))] [7]
(.cond (.t 8) (sr [
mq 9 4,
tq 2 (.mv (.k (.d (.str [])))),
mq 3 9] [4,9]
.ret)
 .skip)))
(sr [
mq 10 0,
tq 11 (.bin .quo (.t 10) (kq 60)),
tq 12 (cl zot [.t 11,kq 2]),
mq 13 0,
tq 14 (.bin .rem (.t 13) (kq 60)),
tq 15 (cl zot [.t 14,kq 2]),
tq 16 (.bin .add (.t 12) (.t 15)),
mq 2 16,
tq 3 (.mv (kq 0))] [0,10,11,12,13,14,15,16]
.ret)))⟩
def zxv:CF:=⟨[.tmp 4,.tmp 5],
  (sr [
tq 2 (.box zaj (.t 0)),
tq 4 (.mv (.k (.d (.list 0 [])))),
tq 5 (.mv (kq 0))] [0,4,5]
(.seq (sr [
lq 7 11 2,
tq 8 (cl zek [.t 7]),
mq 9 1,
tq 10 (cl zbe [.t 9,kq 0,kq 99999]),
tq 11 (.mkList 1 2 [.t 8,.t 10]),
tq 12 (cl zbv [.t 11]),
mq 6 12] [7,8,9,10,11,12]
(sr [
mq 13 6,
tq 14 (.bin .neq (.t 13) (kq 0))] [13]
(.cond (.t 14) (sr [
mq 15 6,
tq 4 (.mv (.k (.d (.list 0 [])))),
mq 5 15] [6,15]
.ret)
 .skip)))
(.seq (sr [
lq 16 11 2,
mq 17 1,
tq 18 (cl zfb [.t 16,.t 17]),
tq 19 (.un .not (.t 18))] [16,17,18]
(.cond (.t 19) (sr [
tq 4 (.mv (.k (.d (.list 0 [])))),
tq 5 (.mv (kq 30))] []
.ret)
 .skip))
(sr [
lq 20 11 2,
mq 21 1,
tq 22 (.call false false (.k (.fn zdx [] [])) [.t 20,.t 21]),
tq 23 (.call true true (.k (.fn zfd [] [])) [.t 22]),
mq 4 23,
tq 5 (.mv (kq 0))] [1,2,20,21,22,23]
.ret))))⟩
def zvg:C:=
  (.seq (sr [
mq 11 5,
mq 12 0,
tq 13 (.len .slc (.t 12)),
tq 14 (.bin .lss (.t 11) (.t 13))] [11,12,13]
(.cond (.t 14) .skip
 (.exit 0)))
(.seq (.block 1 (.seq (.reg true [
mq 17 0,
mq 18 5,
tq 19 (.idxAddr 1 (.t 17) (.t 18)),
ld 20 19,
mq 21 1,
mq 22 5,
tq 23 (.idxAddr 1 (.t 21) (.t 22)),
ld 24 23,
tq 25 (.bin .neq (.t 20) (.t 24))] [17,18,19,20,21,22,23,24])
(.cond (.t 25) (sr [
tq 4 (.mv (.k (.d (.bool false))))] []
.ret)
 .skip)))
(rg [
mq 15 5,
tq 16 (.bin .add (.t 15) (kq 1)),
mq 5 16] [15,16])))
def zzv:CF:=⟨[.tmp 4],
  (sr [
tq 4 (.mv (.k (.d (.bool false))))] [4]
(.seq (sr [
mq 6 0,
tq 7 (.len .slc (.t 6)),
mq 8 1,
tq 9 (.len .slc (.t 8)),
tq 10 (.bin .neq (.t 7) (.t 9))] [6,7,8,9]
(.cond (.t 10) (sr [
tq 4 (.mv (.k (.d (.bool false))))] []
.ret)
 .skip))
(.seq (sr [
tq 5 (.mv (kq 0))] []
(.block 0 (.loop [0,1,5] zvg)))
(sr [
tq 4 (.mv (.k (.d (.bool true))))] []
.ret))))⟩
def zva:C:=
  (sr [
tq 8 (.bin .lss (.t 7) (.t 6))] []
(.seq (.cond (.t 8) .skip
 (.exit 0))
(.seq (.block 1 (sr [
tq 9 (.idxAddr 1 (.t 5) (.t 7)),
ld 10 9,
mq 4 10] [9,10]
(sr [
mq 11 4,
tq 12 (.bin .neq (.t 11) (kq 0))] [11]
(.cond (.t 12) (sr [
mq 13 4,
mq 2 13] [4,13]
.ret)
 .skip))))
(rg [
tq 14 (.bin .add (.t 7) (kq 1)),
mq 7 14] [14]))))
def zzd:CF:=⟨[.tmp 2],
  (sr [
tq 2 (.mv (kq 0))] [2]
(.seq (sr [
mq 5 0,
tq 6 (.len .slc (.t 5)),
tq 7 (.mv (kq 0))] [0]
(.block 0 (.loop [5,6,7] zva)))
(sr [
tq 2 (.mv (kq 0))] []
.ret)))⟩
def zo2:C:=
  (sr [
tq 12 (.bin .lss (.t 11) (.t 10))] []
(.seq (.cond (.t 12) .skip
 (.exit 0))
(.seq (.block 1 (sr [
mq 13 11,
tq 14 (.idxAddr 11 (.t 9) (.t 11)),
lq 15 11 14,
tq 4 (.alloc zaj [.z (.str []),.z (.str []),.z (.str []),.z (.int .i64 0),.z (.int .i64 0),.z (.int .i64 0),.z (.int .i64 0),.z (.int .i64 0),.z (.int .i64 0),.z (.int .i64 0),.z (.int .i64 0)]),
mq 3 13,
⟨none,none,.store 11 (.t 4) (.t 15)⟩] [13,14,15]
(.seq (.reg true [
lq 16 11 4,
tq 17 (cl zek [.t 16]),
mq 18 0,
mq 19 3,
tq 20 (.slice 11 (.t 18) none (some (.t 19)) none),
fa 21 0 4,
ld 22 21,
tq 23 (cl zlb [.t 20,.t 22]),
tq 24 (.bin .geq (.t 23) (kq 0)),
tq 25 (cl zbw [.t 24,kq 9]),
tq 26 (.mkList 1 2 [.t 17,.t 25]),
tq 27 (cl zbv [.t 26]),
mq 5 27] [3,4,16,17,18,19,20,21,22,23,24,25,26,27])
(sr [
mq 28 5,
tq 29 (.bin .neq (.t 28) (kq 0))] [28]
(.cond (.t 29) (sr [
mq 30 5,
mq 2 30] [5,30]
.ret)
 .skip)))))
(rg [
tq 31 (.bin .add (.t 11) (kq 1)),
mq 11 31] [31]))))
def zq3:CF:=⟨[.tmp 2],
  (sr [
tq 2 (.mv (kq 0))] [2]
(.seq (sr [
mq 6 0,
tq 7 (.len .slc (.t 6)),
tq 8 (.bin .gtr (.t 7) (kq 32))] [6,7]
(.cond (.t 8) (sr [
tq 2 (.mv (kq 5))] []
.ret)
 .skip))
(.seq (sr [
mq 9 0,
tq 10 (.len .slc (.t 9)),
tq 11 (.mv (kq 0))] []
(.block 0 (.loop [0,9,10,11] zo2)))
(sr [
tq 2 (.mv (kq 0))] []
.ret))))⟩
def zo0:C:=
  (sr [
tq 16 (.bin .lss (.t 15) (.t 14))] []
(.seq (.cond (.t 16) .skip
 (.exit 0))
(.seq (.block 1 (sr [
mq 17 15,
tq 18 (.idxAddr 18 (.t 13) (.t 15)),
lq 19 18 18,
tq 4 (.alloc zau [.z (.str []),.z (.str []),.z (.str []),.z (.str []),.z (.str []),.z (.str []),.z (.int .i64 0),.z (.int .i64 0),.z (.int .i64 0),.z (.int .i64 0),.z (.int .i64 0),.z (.int .i64 0),.z (.int .i64 0),.z (.int .i64 0),.z (.int .i64 0),.z (.int .i64 0),.z (.int .i64 0),.z (.int .i64 0)]),
mq 3 17,
⟨none,none,.store 18 (.t 4) (.t 19)⟩] [17,18,19]
(.seq (.reg true [
lq 20 18 4,
tq 21 (cl zhd [.t 20]),
mq 22 0,
mq 23 3,
tq 24 (.slice 18 (.t 22) none (some (.t 23)) none),
fa 25 0 4,
fa 26 0 25,
ld 27 26,
tq 28 (cl zif [.t 24,.t 27]),
tq 29 (.bin .geq (.t 28) (kq 0)),
tq 30 (cl zdf [.t 29,kq 9]),
tq 31 (.mkList 1 2 [.t 21,.t 30]),
tq 32 (cl zc4 [.t 31]),
mq 5 32] [3,4,20,21,22,23,24,25,26,27,28,29,30,31,32])
(sr [
mq 33 5,
tq 34 (.bin .neq (.t 33) (kq 0))] [33]
(.cond (.t 34) (sr [
mq 35 5,
mq 2 35] [5,35]
.ret)
 .skip)))))
(rg [
tq 36 (.bin .add (.t 15) (kq 1)),
mq 15 36] [36]))))
def zo1:C:=
  (sr [
tq 40 (.bin .lss (.t 39) (.t 38))] []
(.seq (.cond (.t 40) .skip
 (.exit 2))
(.seq (.block 3 (sr [
mq 41 39,
tq 42 (.idxAddr 18 (.t 37) (.t 39)),
lq 43 18 42,
tq 7 (.alloc zau [.z (.str []),.z (.str []),.z (.str []),.z (.str []),.z (.str []),.z (.str []),.z (.int .i64 0),.z (.int .i64 0),.z (.int .i64 0),.z (.int .i64 0),.z (.int .i64 0),.z (.int .i64 0),.z (.int .i64 0),.z (.int .i64 0),.z (.int .i64 0),.z (.int .i64 0),.z (.int .i64 0),.z (.int .i64 0)]),
mq 6 41,
⟨none,none,.store 18 (.t 7) (.t 43)⟩] [41,42,43]
(.seq (sr [
fa 44 0 7,
fa 45 5 44,
ld 46 45,
tq 47 (.bin .eql (.t 46) (.k (.d (.str []))))] [44,45,46]
(.cond (.t 47) (.exit 3)
 .skip))
(sr [
mq 48 0,
fa 49 0 7,
fa 50 5 49,
ld 51 50,
tq 52 (cl zif [.t 48,.t 51]),
mq 8 52] [48,49,50,51,52]
(.seq (sr [
mq 53 8,
tq 54 (.bin .lss (.t 53) (kq 0))] [53]
(.cond (.t 54) (sr [
tq 2 (.mv (kq 10))] []
.ret)
 .skip))
(sr [
mq 55 0,
mq 56 8,
tq 57 (.idxAddr 18 (.t 55) (.t 56)),
fa 58 0 57,
lq 59 13 58,
tq 9 (.alloc zag [.z (.str []),.z (.str []),.z (.str []),.z (.str []),.z (.str []),.z (.str []),.z (.int .i64 0),.z (.int .i64 0),.z (.int .i64 0),.z (.int .i64 0),.z (.int .i64 0),.z (.int .i64 0),.z (.int .i64 0)]),
⟨none,none,.store 13 (.t 9) (.t 59)⟩] [55,56,57,58,59]
(sr [
mq 60 8,
mq 61 6,
tq 62 (.bin .eql (.t 60) (.t 61)),
mq 63 62,
gq 64 63 false (.fieldAddr 5 (.t 9)),
gq 65 63 false (.load none (.t 64)),
gq 66 63 false (.fieldAddr 0 (.t 7)),
gq 67 63 false (.fieldAddr 0 (.t 66)),
gq 68 63 false (.load none (.t 67)),
gq 69 63 false (.bin .neq (.t 65) (.t 68)),
tq 70 (.pick (.t 63) (.k (.d (.bool true))) (.t 69)),
mq 71 70,
gq 72 71 false (.fieldAddr 2 (.t 9)),
gq 73 71 false (.load none (.t 72)),
gq 74 71 false (.fieldAddr 0 (.t 7)),
gq 75 71 false (.fieldAddr 2 (.t 74)),
gq 76 71 false (.load none (.t 75)),
gq 77 71 false (.bin .eql (.t 73) (.t 76)),
tq 78 (.pick (.t 71) (.k (.d (.bool true))) (.t 77)),
mq 79 78,
gq 80 79 false (.fieldAddr 6 (.t 9)),
gq 81 79 false (.load (some 3) (.t 80)),
gq 82 79 false (.fieldAddr 0 (.t 7)),
gq 83 79 false (.fieldAddr 6 (.t 82)),
gq 84 79 false (.load (some 3) (.t 83)),
gq 85 79 false (.eqv (some [.int,.int,.int]) true (.t 81) (.t 84)),
tq 86 (.pick (.t 79) (.k (.d (.bool true))) (.t 85))] [6,7,8,9,60,61,62,63,64,65,66,67,68,69,70,71,72,73,74,75,76,77,78,79,80,81,82,83,84,85]
(.cond (.t 86) (sr [
tq 2 (.mv (kq 32))] []
.ret)
 .skip))))))))
(rg [
tq 87 (.bin .add (.t 39) (kq 1)),
mq 39 87] [87]))))
def zq1:CF:=⟨[.tmp 2],
  (sr [
tq 2 (.mv (kq 0))] [2]
(.seq (sr [
mq 10 0,
tq 11 (.len .slc (.t 10)),
tq 12 (.bin .gtr (.t 11) (kq 64))] [10,11]
(.cond (.t 12) (sr [
tq 2 (.mv (kq 5))] []
.ret)
 .skip))
(.seq (sr [
mq 13 0,
tq 14 (.len .slc (.t 13)),
tq 15 (.mv (kq 0))] []
(.block 0 (.loop [0,13,14,15] zo0)))
(.seq (sr [
mq 37 0,
tq 38 (.len .slc (.t 37)),
tq 39 (.mv (kq 0))] []
(.block 2 (.loop [0,37,38,39] zo1)))
(sr [
tq 2 (.mv (kq 0))] []
.ret)))))⟩
def zvp:CF:=⟨[.tmp 2],
  (sr [
tq 2 (.ownNil ⟨true,zar,3,32⟩)] [2]
(sr [
mq 3 0,
tq 4 (.call true false (.k (.fn zbg [] [])) [.t 3,.k (.fn zfa [] [])]),
mq 2 4] [0,3,4]
.ret))⟩
def zt8:CF:=⟨[.tmp 2],
  (sr [
tq 2 (.mv (.k (.d (.nilp))))] [2]
(sr [
mq 3 0,
tq 4 (.mkMap),
tq 5 (.mkMap),
tq 6 (.build [.z (.list 0 []),.z (.nilm),.z (.nilm)] [(0,1,.t 3),(1,1,.t 4),(2,1,.t 5)]),
tq 7 (.box zb1 (.t 6)),
mq 2 7] [0,3,4,5,6,7]
.ret))⟩
def zl7:C:=
  (sr [
tq 17 (.bin .lss (.t 16) (.t 15))] []
(.seq (.cond (.t 17) .skip
 (.exit 0))
(.seq (.block 1 (sr [
tq 18 (.idxAddr 7 (.t 14) (.t 16)),
lq 19 7 18,
tq 6 (.alloc zao [.z (.int .i64 0),.z (.str []),.z (.str []),.z (.int .i64 0),.z (.int .i64 0),.z (.int .i64 0),.z (.str [])]),
⟨none,none,.store 7 (.t 6) (.t 19)⟩] [18,19]
(rg [
mq 20 0,
lq 21 7 6,
tq 22 (.callU false (.k (.fn zb2 [] [])) [.t 20,.t 21,kq 1])] [6,20,21,22])))
(rg [
tq 23 (.bin .add (.t 16) (kq 1)),
mq 16 23] [23]))))
def zl8:C:=
  (sr [
tq 35 (.bin .lss (.t 34) (.t 33))] []
(.seq (.cond (.t 35) .skip
 (.exit 4))
(.seq (.block 5 (sr [
tq 36 (.idxAddr 2 (.t 32) (.t 34)),
lq 37 2 36,
tq 11 (.alloc zad [.z (.int .i64 0),.z (.int .i64 0)]),
⟨none,none,.store 2 (.t 11) (.t 37)⟩] [36,37]
(.seq (.reg true [
mq 38 0,
tq 39 (.nilCheck (.t 38)),
fa 40 1 39,
ld 41 40,
lq 42 2 11,
tq 43 (.lookup (.rc [false,false]) (.int .i64 0) false (.t 41) (.t 42)),
mq 44 0,
tq 45 (.nilCheck (.t 44)),
fa 46 0 45,
ld 47 46,
fa 48 0 11,
ld 49 48,
tq 50 (.idxAddr 11 (.t 47) (.t 49)),
fa 51 10 50,
ld 52 51,
tq 53 (.bin .gtr (.t 43) (.t 52))] [38,39,40,41,42,43,44,45,46,47,48,49,50,51,52])
(.cond (.t 53) (rg [
mq 54 7,
lq 55 2 11,
tq 56 (.mkList 2 1 [.t 55]),
tq 57 (.append ⟨true,zad,2,16⟩ (.t 54) (.t 56)),
mq 7 57] [11,54,55,56,57])
 .skip))))
(rg [
tq 58 (.bin .add (.t 34) (kq 1)),
mq 34 58] [58]))))
def zl9:C:=
  (sr [
tq 27 (.bin .lss (.t 26) (.t 25))] []
(.seq (.cond (.t 27) .skip
 (.exit 2))
(.seq (.block 3 (sr [
tq 28 (.idxAddr 7 (.t 24) (.t 26)),
lq 29 7 28,
tq 9 (.alloc zao [.z (.int .i64 0),.z (.str []),.z (.str []),.z (.int .i64 0),.z (.int .i64 0),.z (.int .i64 0),.z (.str [])]),
⟨none,none,.store 7 (.t 9) (.t 29)⟩] [28,29]
(sr [
mq 30 0,
lq 31 7 9,
tq 32 (.callU true (.k (.fn zbn [] [])) [.t 30,.t 31]),
tq 33 (.len .slc (.t 32)),
tq 34 (.mv (kq 0))] [9,30,31]
(.block 4 (.loop [0,1,7,24,25,26,32,33,34] zl8)))))
(rg [
tq 59 (.bin .add (.t 26) (kq 1)),
mq 26 59] [59]))))
def zma:C:=
  (sr [
tq 63 (.bin .lss (.t 62) (.t 61))] []
(.seq (.cond (.t 63) .skip
 (.exit 6))
(.seq (.block 7 (sr [
tq 64 (.idxAddr 7 (.t 60) (.t 62)),
lq 65 7 64,
tq 13 (.alloc zao [.z (.int .i64 0),.z (.str []),.z (.str []),.z (.int .i64 0),.z (.int .i64 0),.z (.int .i64 0),.z (.str [])]),
⟨none,none,.store 7 (.t 13) (.t 65)⟩] [64,65]
(rg [
mq 66 0,
lq 67 7 13,
tq 68 (.callU false (.k (.fn zb2 [] [])) [.t 66,.t 67,kq (-1)])] [13,66,67,68])))
(rg [
tq 69 (.bin .add (.t 62) (kq 1)),
mq 62 69] [69]))))
def zog:CF:=⟨[.tmp 4],
  (sr [
tq 4 (.ownNil ⟨true,zad,2,16⟩)] [4]
(.seq (sr [
mq 14 1,
tq 15 (.len .slc (.t 14)),
tq 16 (.mv (kq 0))] []
(.block 0 (.loop [0,1,14,15,16] zl7)))
(sr [
tq 7 (.ownNil ⟨true,zad,2,16⟩)] []
(.seq (sr [
mq 24 1,
tq 25 (.len .slc (.t 24)),
tq 26 (.mv (kq 0))] []
(.block 2 (.loop [0,1,7,24,25,26] zl9)))
(.seq (sr [
mq 60 1,
tq 61 (.len .slc (.t 60)),
tq 62 (.mv (kq 0))] [1]
(.block 6 (.loop [0,7,60,61,62] zma)))
(sr [
mq 70 7,
tq 71 (.call true true (.k (.fn n_slices_SortFunc_Lallocate_window_allocate_window [] [])) [.t 70,.k (.fn n_allocate_board_refusing_1 [] [])])] [70,71]
(sr [
mq 72 7,
tq 73 (.callU false (.k (.fn zas [] [])) [.t 72]),
mq 4 73] [7,72,73]
.ret)))))))⟩
def zzf:CF:=⟨[.tmp 2],
  (sr [
tq 2 (.mv (.k (.d (.nilf))))] [2]
(sr [
mq 4 0,
tq 5 (cl zkh [.t 4]),
tq 3 (.alloc zyr [.z (.list 0 [])]),
⟨none,none,.store 1 (.t 3) (.t 5)⟩] [0,4,5]
(sr [
tq 6 (.mkFunc zew [] [.t 3]),
mq 2 6] [3,6]
.ret)))⟩
def zod:C:=
  (sr [
tq 42 (.bin .lss (.t 41) (.t 40))] []
(.seq (.cond (.t 42) .skip
 (.exit 2))
(.seq (.block 3 (sr [
tq 43 (.idxAddr 1 (.t 39) (.t 41)),
ld 44 43,
mq 10 44] [43,44]
(sr [
mq 45 8,
mq 46 10,
tq 47 (.build [.z (.int .i64 0),.z (.int .i64 0)] [(0,1,.t 45),(1,1,.t 46)]),
tq 11 (.alloc zak [.z (.int .i64 0),.z (.int .i64 0)]),
⟨none,none,.store 2 (.t 11) (.t 47)⟩] [10,45,46,47]
(sr [
lq 48 2 2,
ld 49 3,
lq 50 2 11,
tq 51 (cl zjj [.t 48,.t 49,.t 50])] [48,49,50]
(.cond (.t 51) (rg [
mq 52 6,
lq 53 2 11,
tq 54 (.mkList 2 1 [.t 53]),
tq 55 (.append ⟨true,zak,2,16⟩ (.t 52) (.t 54)),
mq 6 55] [11,52,53,54,55])
 .skip)))))
(rg [
tq 56 (.bin .add (.t 41) (kq 1)),
mq 41 56] [56]))))
def zoe:C:=
  (sr [
tq 31 (.bin .lss (.t 30) (.t 29))] []
(.seq (.cond (.t 31) .skip
 (.exit 0))
(.seq (.block 1 (sr [
tq 32 (.idxAddr 1 (.t 28) (.t 30)),
ld 33 32,
mq 8 33] [32,33]
(sr [
ld 34 3,
tq 35 (.idxAddrA 2 1 (.t 2) (kq 1)),
ld 36 35,
tq 37 (.idxAddr 18 (.t 34) (.t 36)),
lq 38 18 37,
tq 39 (cl zbd [.t 38]),
tq 40 (.len .slc (.t 39)),
tq 41 (.mv (kq 0))] [34,35,36,37,38]
(.block 2 (.loop [2,3,5,6,8,28,29,30,39,40,41] zod)))))
(rg [
tq 57 (.bin .add (.t 30) (kq 1)),
mq 30 57] [57]))))
def zpx:CF:=⟨[.tmp 4],
  (sr [
tq 2 (.box zba (.t 0)),
tq 3 (.box zd4 (.t 1)),
tq 4 (.ownNil ⟨true,zak,2,16⟩)] [0,1,4]
(.seq (sr [
tq 12 (.idxAddrA 2 1 (.t 2) (kq 1)),
ld 13 12,
tq 14 (.bin .lss (.t 13) (kq 0))] [12,13]
(.cond (.t 14) (sr [
ld 15 3,
tq 16 (.idxAddrA 2 1 (.t 2) (kq 0)),
ld 17 16,
tq 18 (.idxAddr 18 (.t 15) (.t 17)),
lq 19 18 18,
tq 20 (cl zbd [.t 19]),
tq 21 (.call true false (.k (.fn zci [] [])) [.t 20,.k (.fn zdc [] [])]),
mq 4 21] [2,3,15,16,17,18,19,20,21]
.ret)
 .skip))
(sr [
tq 22 (.mkFunc zh8 [] [.t 3,.t 2]),
tq 5 (.alloc zm6 [.z (.nilf)]),
⟨none,none,.store 1 (.t 5) (.t 22)⟩] [22]
(sr [
tq 6 (.ownNil ⟨true,zak,2,16⟩)] []
(.seq (sr [
ld 23 3,
tq 24 (.idxAddrA 2 1 (.t 2) (kq 0)),
ld 25 24,
tq 26 (.idxAddr 18 (.t 23) (.t 25)),
lq 27 18 26,
tq 28 (cl zbd [.t 27]),
tq 29 (.len .slc (.t 28)),
tq 30 (.mv (kq 0))] [23,24,25,26,27]
(.block 0 (.loop [2,3,5,6,28,29,30] zoe)))
(sr [
mq 58 6,
tq 59 (.mkFunc zh9 [] [.t 5]),
tq 60 (.call true true (.k (.fn zbr [] [])) [.t 58,.t 59])] [5,58,59,60]
(sr [
mq 61 6,
mq 4 61] [6,61]
.ret)))))))⟩
def zmc:C:=
  (sr [
mq 8 12] [12]
(rg [
mq 9 13] [13]))
def zmd:C:=
  (.block 1 (.reg true [
ld 14 7,
ld 15 4,
mq 16 9,
tq 17 (.idxAddr 18 (.t 15) (.t 16)),
lq 18 18 17,
mq 19 8,
tq 20 (.idxAddrA 2 1 (.t 5) (.t 19)),
ld 21 20,
tq 22 (cl zjh [.t 18,.t 21]),
tq 23 (.append ⟨false,zao,7,80⟩ (.t 14) (.t 22)),
⟨none,none,.store 1 (.t 7) (.t 23)⟩] [4,5,7,8,9,14,15,16,17,18,19,20,21,22,23]))
def zoi:CF:=⟨[.tmp 6],
  (sr [
tq 3 (.box zba (.t 0)),
tq 4 (.box zd4 (.t 1)),
tq 5 (.box zak (.t 2)),
tq 6 (.ownNil ⟨false,zao,7,80⟩)] [0,1,2]
(sr [
tq 7 (.alloc zqr [.own ⟨false,zao,7,80⟩])] []
(.seq (sr [
lq 10 2 3,
tq 11 (.call false false (.k (.fn zcz [] [])) [.t 10])] [3,10]
(.block 0 (.rangeFn 26 (.t 11) [12,13] zmc zmd)))
(sr [
ld 24 7,
mq 6 24] [7,24]
.ret))))⟩
def zrj:C:=
  (sr [
mq 6 10] [10]
(rg [
mq 7 11] [11]))
def zrk:C:=
  (.block 1 (.reg true [
ld 12 4,
mq 13 7,
ld 14 4,
mq 15 7,
mq 16 6,
tq 17 (.idxAddrA 2 1 (.t 5) (.t 16)),
ld 18 17,
tq 19 (.idxAddr 3 (.t 12) (.t 13)),
fa 20 1 19,
⟨none,none,.storeR 1 (.t 20) (.t 18) [4]⟩,
tq 21 (.idxAddr 3 (.t 14) (.t 15)),
fa 22 2 21,
⟨none,none,.store 1 (.t 22) (.k (.d (.bool true)))⟩] [4,5,6,7,12,13,14,15,16,17,18,19,20,21,22]))
def zt9:CF:=⟨[],
  (sr [
tq 3 (.box zba (.t 0)),
tq 4 (.box zga (.t 1)),
tq 5 (.box zak (.t 2))] [0,1,2]
(sr [
lq 8 2 3,
tq 9 (.call false false (.k (.fn zcz [] [])) [.t 8])] [3,8]
(.block 0 (.rangeFn 24 (.t 9) [10,11] zrj zrk))))⟩
def zps:C:=
  (sr [
tq 18 (.bin .lss (.t 17) (.t 16))] []
(.seq (.cond (.t 18) .skip
 (.exit 0))
(.seq (.block 1 (sr [
tq 19 (.idxAddr 7 (.t 15) (.t 17)),
lq 20 7 19,
tq 11 (.alloc zao [.z (.int .i64 0),.z (.str []),.z (.str []),.z (.int .i64 0),.z (.int .i64 0),.z (.int .i64 0),.z (.str [])]),
⟨none,none,.store 7 (.t 11) (.t 20)⟩] [19,20]
(rg [
mq 21 0,
lq 22 7 11,
mq 23 4,
tq 24 (.callU false (.k (.fn zb2 [] [])) [.t 21,.t 22,.t 23])] [11,21,22,23,24])))
(rg [
tq 25 (.bin .add (.t 17) (kq 1)),
mq 17 25] [25]))))
def zrq:CF:=⟨[],
  (sr [
tq 7 (.box zba (.t 2)),
tq 8 (.box zak (.t 3))] [2,3]
(sr [
lq 12 2 7,
mq 13 1,
lq 14 2 8,
tq 15 (cl zcm [.t 12,.t 13,.t 14]),
tq 16 (.len .slc (.t 15)),
tq 17 (.mv (kq 0))] [1,7,8,12,13,14]
(.block 0 (.loop [0,4,15,16,17] zps))))⟩
def zxj:C:=
  (sr [
tq 8 (.bin .lss (.t 7) (.t 6))] []
(.seq (.cond (.t 8) .skip
 (.exit 0))
(.seq (.block 1 (sr [
tq 9 (.idxAddr 1 (.t 5) (.t 7)),
ld 10 9,
mq 4 10] [9,10]
(sr [
mq 11 4,
tq 12 (.bin .neq (.t 11) (kq 0))] [11]
(.cond (.t 12) (sr [
mq 13 4,
mq 2 13] [4,13]
.ret)
 .skip))))
(rg [
tq 14 (.bin .add (.t 7) (kq 1)),
mq 7 14] [14]))))
def z1h:CF:=⟨[.tmp 2],
  (sr [
tq 2 (.mv (kq 0))] [2]
(.seq (sr [
mq 5 0,
tq 6 (.len .slc (.t 5)),
tq 7 (.mv (kq 0))] [0]
(.block 0 (.loop [5,6,7] zxj)))
(sr [
tq 2 (.mv (kq 0))] []
.ret)))⟩
def zuj:CF:=⟨[.tmp 6],
  (sr [
tq 6 (.mv (kq 0))] [6]
(sr [
mq 7 0,
tq 8 (cl zee [.t 7]),
mq 9 1,
tq 10 (cl zjo [.t 9]),
tq 11 (.un .not (.t 10)),
tq 12 (cl zav [.t 11,kq 1]),
mq 13 2,
tq 14 (cl zcb [.t 13,kq 0,kq 99999]),
tq 15 (.mkList 1 3 [.t 8,.t 12,.t 14]),
tq 16 (cl zax [.t 15]),
mq 6 16] [0,1,2,7,8,9,10,11,12,13,14,15,16]
.ret))⟩
def zrm:C:=
  (sr [
tq 26 (.bin .lss (.t 25) (.t 24))] []
(.seq (.cond (.t 26) .skip
 (.exit 0))
(.seq (.block 1 (sr [
mq 27 25,
tq 28 (.idxAddr 3 (.t 23) (.t 25)),
lq 29 3 28,
tq 7 (.alloc zct [.z (.str []),.z (.bool false),.z (.int .i64 0)]),
mq 6 27,
⟨none,none,.store 3 (.t 7) (.t 29)⟩] [27,28,29]
(.seq (.reg true [
fa 30 0 7,
ld 31 30,
mq 32 0,
mq 33 6,
tq 34 (.idxAddr 13 (.t 32) (.t 33)),
fa 35 0 34,
ld 36 35,
tq 37 (.bin .neq (.t 31) (.t 36))] [6,7,30,31,32,33,34,35,36])
(.cond (.t 37) (sr [
tq 4 (.mv (kq 10))] []
.ret)
 .skip))))
(rg [
tq 38 (.bin .add (.t 25) (kq 1)),
mq 25 38] [38]))))
def zui:CF:=⟨[.tmp 4],
  (sr [
tq 4 (.mv (kq 0))] [4]
(.seq (sr [
mq 8 0,
tq 9 (cl zc0 [.t 8]),
mq 10 1,
tq 11 (cl zgw [.t 10]),
mq 12 0,
tq 13 (.len .slc (.t 12)),
mq 14 1,
tq 15 (.len .slc (.t 14)),
tq 16 (.bin .neq (.t 13) (.t 15)),
tq 17 (cl zav [.t 16,kq 2]),
tq 18 (.mkList 1 3 [.t 9,.t 11,.t 17]),
tq 19 (cl zax [.t 18]),
mq 5 19] [8,9,10,11,12,13,14,15,16,17,18,19]
(sr [
mq 20 5,
tq 21 (.bin .neq (.t 20) (kq 0))] [20]
(.cond (.t 21) (sr [
mq 22 5,
mq 4 22] [5,22]
.ret)
 .skip)))
(.seq (sr [
mq 23 1,
tq 24 (.len .slc (.t 23)),
tq 25 (.mv (kq 0))] [1]
(.block 0 (.loop [0,23,24,25] zrm)))
(sr [
tq 4 (.mv (kq 0))] []
.ret))))⟩
def z1i:CF:=⟨[.cell 4 (some 13)],
  (sr [
tq 2 (.box zag (.t 0)),
tq 4 (.alloc zag [.z (.str []),.z (.str []),.z (.str []),.z (.str []),.z (.str []),.z (.str []),.z (.int .i64 0),.z (.int .i64 0),.z (.int .i64 0),.z (.int .i64 0),.z (.int .i64 0),.z (.int .i64 0),.z (.int .i64 0)])] [0]
(sr [
mq 5 1,
fa 6 9 2,
⟨none,none,.store 1 (.t 6) (.t 5)⟩] [1,5,6]
(sr [
lq 7 13 2,
⟨none,none,.store 13 (.t 4) (.t 7)⟩] [2,7]
.ret)))⟩
def zof:C:=
  (sr [
tq 14 (.bin .lss (.t 13) (.t 12))] []
(.seq (.cond (.t 14) .skip
 (.exit 0))
(.seq (.block 1 (sr [
tq 15 (.idxAddr 13 (.t 11) (.t 13)),
lq 16 13 15,
tq 5 (.alloc zag [.z (.str []),.z (.str []),.z (.str []),.z (.str []),.z (.str []),.z (.str []),.z (.int .i64 0),.z (.int .i64 0),.z (.int .i64 0),.z (.int .i64 0),.z (.int .i64 0),.z (.int .i64 0),.z (.int .i64 0)]),
⟨none,none,.store 13 (.t 5) (.t 16)⟩] [15,16]
(.seq (.seq (.reg true [
lq 17 13 5,
tq 18 (cl zc7 [.t 17]),
mq 19 3,
fa 20 0 5,
ld 21 20,
tq 22 (.lookup .str (.bool false) false (.t 19) (.t 21)),
tq 23 (cl zav [.t 22,kq 9]),
tq 24 (.mkList 1 2 [.t 18,.t 23]),
tq 25 (cl zax [.t 24]),
mq 6 25] [17,18,19,20,21,22,23,24,25])
(sr [
mq 26 6,
tq 27 (.bin .neq (.t 26) (kq 0))] [26]
(.cond (.t 27) (sr [
mq 28 6,
mq 2 28] [6,28]
.ret)
 .skip)))
(rg [
mq 29 3,
fa 30 0 5,
ld 31 30,
⟨none,none,.mapSet .str (.t 29) (.t 31) (.k (.d (.bool true)))⟩] [5,29,30,31]))))
(rg [
tq 32 (.bin .add (.t 13) (kq 1)),
mq 13 32] [32]))))
def zp1:CF:=⟨[.tmp 2],
  (sr [
tq 2 (.mv (kq 0))] [2]
(.seq (sr [
mq 7 0,
tq 8 (.len .slc (.t 7)),
tq 9 (.bin .gtr (.t 8) (kq 64))] [7,8]
(.cond (.t 9) (sr [
tq 2 (.mv (kq 5))] []
.ret)
 .skip))
(sr [
tq 10 (.mkMap),
mq 3 10] [10]
(.seq (sr [
mq 11 0,
tq 12 (.len .slc (.t 11)),
tq 13 (.mv (kq 0))] [0]
(.block 0 (.loop [3,11,12,13] zof)))
(sr [
tq 2 (.mv (kq 0))] []
.ret)))))⟩
def zue:CF:=⟨[.cell 4 (some 13),.tmp 5],
  (sr [
tq 3 (.box zag (.t 1)),
tq 4 (.alloc zag [.z (.str []),.z (.str []),.z (.str []),.z (.str []),.z (.str []),.z (.str []),.z (.int .i64 0),.z (.int .i64 0),.z (.int .i64 0),.z (.int .i64 0),.z (.int .i64 0),.z (.int .i64 0),.z (.int .i64 0)]),
tq 5 (.mv (.k (.d (.bool false))))] [1,5]
(sr [
mq 7 0,
tq 8 (.mkFunc zdg [] [.t 3]),
tq 9 (.call true true (.k (.fn zbo [] [])) [.t 7,.t 8]),
mq 6 9] [3,7,8,9]
(.seq (sr [
mq 10 6,
tq 11 (.bin .lss (.t 10) (kq 0))] [10]
(.cond (.t 11) (sr [
tq 12 (.build [.z (.str []),.z (.str []),.z (.str []),.z (.str []),.z (.str []),.z (.str []),.z (.int .i64 0),.z (.int .i64 0),.z (.int .i64 0),.z (.int .i64 0),.z (.int .i64 0),.z (.int .i64 0),.z (.int .i64 0)] []),
⟨none,none,.store 13 (.t 4) (.t 12)⟩,
tq 5 (.mv (.k (.d (.bool false))))] [12]
.ret)
 .skip))
(sr [
mq 13 0,
mq 14 6,
tq 15 (.idxAddr 13 (.t 13) (.t 14)),
lq 16 13 15,
⟨none,none,.store 13 (.t 4) (.t 16)⟩,
tq 5 (.mv (.k (.d (.bool true))))] [0,6,13,14,15,16]
.ret))))⟩
def zfi:C:=
  (sr [
tq 9 (.bin .lss (.t 8) (.t 7))] []
(.seq (.cond (.t 9) .skip
 (.exit 0))
(.seq (.block 1 (sr [
mq 10 8,
mq 5 10] [10]
(sr [
mq 11 1,
mq 12 0,
mq 13 5,
tq 14 (.idxAddr 13 (.t 12) (.t 13)),
lq 15 13 14,
tq 16 (.call true true (.t 11) [.t 15])] [11,12,13,14,15]
(.cond (.t 16) (sr [
mq 17 5,
mq 4 17] [5,17]
.ret)
 .skip))))
(rg [
tq 18 (.bin .add (.t 8) (kq 1)),
mq 8 18] [18]))))
def zfy:CF:=⟨[.tmp 4],
  (sr [
tq 4 (.mv (kq 0))] [4]
(.seq (sr [
mq 6 0,
tq 7 (.len .slc (.t 6)),
tq 8 (.mv (kq 0))] [6]
(.block 0 (.loop [0,1,7,8] zfi)))
(sr [
tq 4 (.mv (kq (-1)))] []
.ret)))⟩
def zrr:CF:=⟨[.tmp 3],
  (sr [
tq 2 (.box zag (.t 0)),
tq 3 (.mv (.k (.d (.bool false))))] [0,3]
(sr [
lq 4 13 2,
lq 5 13 1,
tq 6 (cl zjp [.t 4,.t 5]),
mq 3 6] [1,2,4,5,6]
.ret))⟩
def z1k:CF:=⟨[.tmp 4],
  (sr [
tq 2 (.box zag (.t 0)),
tq 3 (.box zag (.t 1)),
tq 4 (.mv (.k (.d (.bool false))))] [0,1,4]
(sr [
fa 5 1 2,
ld 6 5,
fa 7 1 3,
ld 8 7,
tq 9 (.bin .eql (.t 6) (.t 8)),
mq 10 9,
gq 11 10 true (.fieldAddr 0 (.t 2)),
gq 12 10 true (.load none (.t 11)),
gq 13 10 true (.fieldAddr 0 (.t 3)),
gq 14 10 true (.load none (.t 13)),
gq 15 10 true (.bin .eql (.t 12) (.t 14)),
tq 16 (.pick (.t 10) (.t 15) (.k (.d (.bool false)))),
mq 4 16] [2,3,5,6,7,8,9,10,11,12,13,14,15,16]
.ret))⟩
def zfh:C:=
  (sr [
tq 13 (.bin .lss (.t 12) (.t 11))] []
(.seq (.cond (.t 13) .skip
 (.exit 0))
(.seq (.block 1 (sr [
tq 14 (.idxAddr 13 (.t 10) (.t 12)),
lq 15 13 14,
tq 7 (.alloc zag [.z (.str []),.z (.str []),.z (.str []),.z (.str []),.z (.str []),.z (.str []),.z (.int .i64 0),.z (.int .i64 0),.z (.int .i64 0),.z (.int .i64 0),.z (.int .i64 0),.z (.int .i64 0),.z (.int .i64 0)]),
⟨none,none,.store 13 (.t 7) (.t 15)⟩] [14,15]
(sr [
mq 17 1,
lq 18 13 7,
tq 19 (.call true true (.t 17) [.t 18]),
mq 16 19,
xq 20 16 0,
xq 21 16 1,
tq 8 (.alloc zac [.z (.str []),.z (.str []),.z (.str []),.z (.str []),.z (.str []),.z (.str []),.z (.str []),.z (.int .i64 0),.z (.int .i64 0),.z (.int .i64 0),.z (.int .i64 0),.z (.int .i64 0),.z (.int .i64 0),.z (.int .i64 0)]),
⟨none,none,.store 14 (.t 8) (.t 20)⟩,
mq 9 21] [7,16,17,18,19,20,21]
(sr [
mq 22 9] [9]
(.cond (.t 22) (rg [
mq 23 5,
lq 24 14 8,
tq 25 (.mkList 14 1 [.t 24]),
tq 26 (.append ⟨false,zac,14,168⟩ (.t 23) (.t 25)),
mq 5 26] [8,23,24,25,26])
 .skip)))))
(rg [
tq 27 (.bin .add (.t 12) (kq 1)),
mq 12 27] [27]))))
def zfx:CF:=⟨[.tmp 4],
  (sr [
tq 4 (.ownNil ⟨false,zac,14,168⟩)] [4]
(sr [
tq 5 (.ownNil ⟨false,zac,14,168⟩)] []
(.seq (sr [
mq 10 0,
tq 11 (.len .slc (.t 10)),
tq 12 (.mv (kq 0))] [0]
(.block 0 (.loop [1,5,10,11,12] zfh)))
(sr [
mq 28 5,
mq 4 28] [5,28]
.ret))))⟩
def zuf:CF:=⟨[.cell 4 (some 14),.tmp 5],
  (sr [
tq 3 (.box zag (.t 0)),
tq 4 (.alloc zac [.z (.str []),.z (.str []),.z (.str []),.z (.str []),.z (.str []),.z (.str []),.z (.str []),.z (.int .i64 0),.z (.int .i64 0),.z (.int .i64 0),.z (.int .i64 0),.z (.int .i64 0),.z (.int .i64 0),.z (.int .i64 0)]),
tq 5 (.mv (.k (.d (.bool false))))] [0,5]
(sr [
ld 9 1,
ld 10 2,
lq 11 13 3,
tq 12 (.call false true (.t 9) [.t 10,.t 11]),
mq 8 12,
xq 13 8 0,
xq 14 8 1,
tq 6 (.alloc zag [.z (.str []),.z (.str []),.z (.str []),.z (.str []),.z (.str []),.z (.str []),.z (.int .i64 0),.z (.int .i64 0),.z (.int .i64 0),.z (.int .i64 0),.z (.int .i64 0),.z (.int .i64 0),.z (.int .i64 0)]),
⟨none,none,.store 13 (.t 6) (.t 13)⟩,
mq 7 14] [1,2,6,8,9,10,11,12,13,14]
(sr [
lq 15 13 3,
tq 16 (.build [.z (.str []),.z (.str []),.z (.str []),.z (.str []),.z (.str []),.z (.str []),.z (.str []),.z (.int .i64 0),.z (.int .i64 0),.z (.int .i64 0),.z (.int .i64 0),.z (.int .i64 0),.z (.int .i64 0),.z (.int .i64 0)] [(0,1,.k (.d (.str [68]))),(1,13,.t 15)]),
mq 17 7,
tq 18 (.un .not (.t 17)),
⟨none,none,.store 14 (.t 4) (.t 16)⟩,
mq 5 18] [3,7,15,16,17,18]
.ret)))⟩
def zug:CF:=⟨[.cell 4 (some 14),.tmp 5],
  (sr [
tq 3 (.box zag (.t 0)),
tq 4 (.alloc zac [.z (.str []),.z (.str []),.z (.str []),.z (.str []),.z (.str []),.z (.str []),.z (.str []),.z (.int .i64 0),.z (.int .i64 0),.z (.int .i64 0),.z (.int .i64 0),.z (.int .i64 0),.z (.int .i64 0),.z (.int .i64 0)]),
tq 5 (.mv (.k (.d (.bool false))))] [0,5]
(sr [
ld 9 1,
ld 10 2,
lq 11 13 3,
tq 12 (.call false true (.t 9) [.t 10,.t 11]),
mq 8 12,
xq 13 8 0,
xq 14 8 1,
tq 6 (.alloc zag [.z (.str []),.z (.str []),.z (.str []),.z (.str []),.z (.str []),.z (.str []),.z (.int .i64 0),.z (.int .i64 0),.z (.int .i64 0),.z (.int .i64 0),.z (.int .i64 0),.z (.int .i64 0),.z (.int .i64 0)]),
⟨none,none,.store 13 (.t 6) (.t 13)⟩,
mq 7 14] [1,2,6,8,9,10,11,12,13,14]
(sr [
lq 15 13 3,
tq 16 (.build [.z (.str []),.z (.str []),.z (.str []),.z (.str []),.z (.str []),.z (.str []),.z (.str []),.z (.int .i64 0),.z (.int .i64 0),.z (.int .i64 0),.z (.int .i64 0),.z (.int .i64 0),.z (.int .i64 0),.z (.int .i64 0)] [(0,1,.k (.d (.str [78]))),(1,13,.t 15)]),
mq 17 7,
tq 18 (.un .not (.t 17)),
⟨none,none,.store 14 (.t 4) (.t 16)⟩,
mq 5 18] [3,7,15,16,17,18]
.ret)))⟩
def zq5:CF:=⟨[.tmp 2],
  (sr [
tq 1 (.box zab (.t 0)),
tq 2 (.mv (kq 0))] [0,2]
(.seq (.seq (.reg true [
fa 6 0 1,
ld 7 6,
tq 8 (cl zit [.t 7]),
tq 9 (.un .not (.t 8)),
tq 10 (cl zav [.t 9,kq 13]),
fa 11 1 1,
ld 12 11,
fa 13 2 1,
ld 14 13,
fa 15 3 1,
ld 16 15,
tq 17 (cl zf9 [.t 12,.t 14,.t 16]),
fa 18 4 1,
ld 19 18,
tq 20 (.len .slc (.t 19)),
tq 21 (.bin .gtr (.t 20) (kq 64)),
tq 22 (cl zav [.t 21,kq 5]),
tq 23 (.mkList 1 3 [.t 10,.t 17,.t 22]),
tq 24 (cl zax [.t 23]),
mq 3 24] [6,7,8,9,10,11,12,13,14,15,16,17,18,19,20,21,22,23,24])
(sr [
mq 25 3,
tq 26 (.bin .neq (.t 25) (kq 0))] [25]
(.cond (.t 26) (sr [
mq 27 3,
mq 2 27] [3,27]
.ret)
 .skip)))
(sr [
fa 29 0 1,
ld 30 29,
fa 31 4 1,
ld 32 31,
tq 33 (cl zh4 [.t 30,.t 32]),
mq 28 33,
xq 34 28 0,
xq 35 28 1,
mq 4 34,
mq 5 35] [1,4,28,29,30,31,32,33,34,35]
(sr [
mq 36 5,
mq 2 36] [5,36]
.ret))))⟩
def z34:CF:=⟨[.tmp 4],
  (sr [
tq 4 (.mv (kq 0))] [4]
(.seq (sr [
mq 5 0] [0]
(.cond (.t 5) (sr [
mq 6 1,
mq 4 6] [1,6]
.ret)
 .skip))
(sr [
tq 4 (.mv (kq 0))] []
.ret)))⟩
def z33:CF:=⟨[.tmp 6,.tmp 7],
  (sr [
tq 4 (.box zac (.t 1)),
tq 6 (.ownNil ⟨true,zaa,15,168⟩),
tq 7 (.mv (kq 0))] [1,6,7]
(sr [
mq 11 0,
fa 12 1 4,
fa 13 0 12,
ld 14 13,
tq 15 (.call true true (.k (.fn zcw [] [])) [.t 11,.t 14]),
mq 8 15] [11,12,13,14,15]
(.seq (sr [
fa 16 0 4,
ld 17 16] [16]
(.block 0 (.seq (sr [
tq 19 (.bin .eql (.t 17) (.k (.d (.str [78])))),
mq 18 19] [19]
(.cond (.t 18) .skip
 (rg [
tq 20 (.bin .eql (.t 17) (.k (.d (.str [72])))),
mq 18 20] [20])))
(.cond (.t 18) (.seq (sr [
mq 21 8,
tq 22 (.bin .geq (.t 21) (kq 0)),
tq 23 (cl zav [.t 22,kq 9]),
mq 24 0,
tq 25 (.len .slc (.t 24)),
tq 26 (.bin .geq (.t 25) (kq 64)),
tq 27 (cl zav [.t 26,kq 5]),
tq 28 (.mkList 1 2 [.t 23,.t 27]),
tq 29 (cl zax [.t 28]),
mq 9 29] [8,21,22,23,24,25,26,27,28,29]
(sr [
mq 30 9,
tq 31 (.bin .neq (.t 30) (kq 0))] [30]
(.cond (.t 31) (sr [
mq 32 9,
tq 6 (.ownNil ⟨true,zaa,15,168⟩),
mq 7 32] [9,32]
.ret)
 .skip)))
(sr [
mq 33 0,
fa 34 1 4,
lq 35 13 34,
fa 36 0 4,
ld 37 36,
tq 38 (.bin .eql (.t 37) (.k (.d (.str [72])))),
mq 39 2,
tq 40 (.build [.z (.str []),.z (.str []),.z (.str []),.z (.str []),.z (.str []),.z (.str []),.z (.int .i64 0),.z (.int .i64 0),.z (.int .i64 0),.z (.int .i64 0),.z (.int .i64 0),.z (.int .i64 0),.z (.int .i64 0),.z (.bool false),.z (.int .i64 0)] [(0,13,.t 35),(13,1,.t 38),(14,1,.t 39)]),
tq 41 (.mkList 15 1 [.t 40]),
tq 42 (.append ⟨true,zaa,15,168⟩ (.t 33) (.t 41)),
mq 6 42,
tq 7 (.mv (kq 0))] [0,2,4,33,34,35,36,37,38,39,40,41,42]
.ret))
 (sr [
tq 44 (.bin .eql (.t 17) (.k (.d (.str [82])))),
mq 43 44] [17,44]
(.cond (.t 43) (.seq (.reg true [
mq 45 0,
mq 46 8,
fa 47 1 4,
lq 48 13 47,
mq 49 0,
mq 50 8,
tq 51 (.idxAddr 15 (.t 49) (.t 50)),
fa 52 13 51,
ld 53 52,
mq 54 2,
tq 55 (.build [.z (.str []),.z (.str []),.z (.str []),.z (.str []),.z (.str []),.z (.str []),.z (.int .i64 0),.z (.int .i64 0),.z (.int .i64 0),.z (.int .i64 0),.z (.int .i64 0),.z (.int .i64 0),.z (.int .i64 0),.z (.bool false),.z (.int .i64 0)] [(0,13,.t 48),(13,1,.t 53),(14,1,.t 54)]),
tq 56 (.idxAddr 15 (.t 45) (.t 46)),
⟨none,none,.store 15 (.t 56) (.t 55)⟩] [2,4,8,45,46,47,48,49,50,51,52,53,54,55,56])
(sr [
mq 57 0,
mq 6 57,
tq 7 (.mv (kq 0))] [0,57]
.ret))
 .skip))))))
(.seq (sr [
mq 58 8,
tq 59 (.bin .lss (.t 58) (kq 0))] [58]
(.cond (.t 59) (sr [
tq 6 (.ownNil ⟨true,zaa,15,168⟩),
tq 7 (.mv (kq 10))] []
.ret)
 .skip))
(.seq (.seq (.reg true [
mq 60 0,
mq 61 8,
tq 62 (.idxAddr 15 (.t 60) (.t 61)),
fa 63 0 62,
lq 64 13 63,
fa 65 1 4,
lq 66 13 65,
tq 67 (.eqv (some [.str,.str,.str,.str,.str,.str,.int,.int,.int,.int,.int,.int,.int]) true (.t 64) (.t 66))] [60,61,62,63,64,65,66])
(.cond (.t 67) (sr [
tq 6 (.ownNil ⟨true,zaa,15,168⟩),
tq 7 (.mv (kq 29))] []
.ret)
 .skip))
(.seq (sr [
fa 68 0 4,
ld 69 68,
tq 70 (.bin .eql (.t 69) (.k (.d (.str [68]))))] [4,68,69]
(.cond (.t 70) (sr [
mq 71 0,
tq 72 (.len .slc (.t 71)),
tq 73 (.bin .sub (.t 72) (kq 1)),
tq 74 (.makeRow ⟨true,zaa,15,168⟩ [.str [],.str [],.str [],.str [],.str [],.str [],.int .i64 0,.int .i64 0,.int .i64 0,.int .i64 0,.int .i64 0,.int .i64 0,.int .i64 0,.bool false,.int .i64 0] (.t 73)),
mq 10 74] [71,72,73,74]
(sr [
mq 75 10,
mq 76 0,
mq 77 8,
tq 78 (.slice 15 (.t 76) none (some (.t 77)) none),
tq 79 (.copy 15 (.t 75) (.t 78))] [75,76,77,78,79]
(.seq (.reg true [
mq 80 10,
mq 81 8,
tq 82 (.slice 15 (.t 80) (some (.t 81)) none none),
mq 83 0,
mq 84 8,
tq 85 (.bin .add (.t 84) (kq 1)),
tq 86 (.slice 15 (.t 83) (some (.t 85)) none none),
tq 87 (.copy 15 (.t 82) (.t 86))] [0,8,80,81,82,83,84,85,86,87])
(sr [
mq 88 10,
mq 6 88,
tq 7 (.mv (kq 0))] [10,88]
.ret))))
 .skip))
(sr [
mq 89 0,
mq 6 89,
tq 7 (.mv (kq 0))] [0,89]
.ret)))))))⟩
def yby:CF:=⟨[.tmp 4],
  (sr [
tq 2 (.box zbp (.t 0)),
tq 4 (.mv (.k (.d (.bool false))))] [0,4]
(sr [
lq 5 3 2,
tq 6 (cl zef [.t 5]),
tq 7 (.bin .neq (.t 6) (kq 0)),
mq 8 7,
gq 9 8 false (.fieldAddr 1 (.t 2)),
gq 10 8 false (.load none (.t 9)),
gq 11 8 false (.fieldAddr 0 (.t 2)),
gq 12 8 false (.load none (.t 11)),
gq 13 8 false (.bin .sub (.t 10) (.t 12)),
gq 14 8 false (.mv (.t 1)),
gq 15 8 false (.bin .lss (.t 13) (.t 14)),
tq 16 (.pick (.t 8) (.k (.d (.bool true))) (.t 15)),
mq 4 16] [1,2,5,6,7,8,9,10,11,12,13,14,15,16]
.ret))⟩
def zwd:CF:=⟨[.tmp 2],
  (sr [
tq 1 (.box zgb (.t 0)),
tq 2 (.mv (kq 0))] [0,2]
(.seq (sr [
fa 4 0 1,
ld 5 4,
tq 6 (cl zdy [.t 5]),
tq 7 (.un .not (.t 6))] [4,5,6]
(.cond (.t 7) (sr [
tq 2 (.mv (kq 8))] []
.ret)
 .skip))
(.seq (sr [
fa 8 1 1,
ld 9 8,
tq 10 (.bin .neq (.t 9) (.k (.d (.str [65])))),
mq 11 10,
gq 12 11 true (.fieldAddr 1 (.t 1)),
gq 13 11 true (.load none (.t 12)),
gq 14 11 true (.bin .neq (.t 13) (.k (.d (.str [68])))),
tq 15 (.pick (.t 11) (.t 14) (.k (.d (.bool false)))),
mq 16 15,
gq 17 16 true (.fieldAddr 1 (.t 1)),
gq 18 16 true (.load none (.t 17)),
gq 19 16 true (.bin .neq (.t 18) (.k (.d (.str [84])))),
tq 20 (.pick (.t 16) (.t 19) (.k (.d (.bool false))))] [8,9,10,11,12,13,14,15,16,17,18,19]
(.cond (.t 20) (sr [
tq 2 (.mv (kq 13))] []
.ret)
 .skip))
(.seq (sr [
fa 21 2 1,
ld 22 21,
tq 23 (cl zjw [.t 22]),
tq 24 (.un .not (.t 23))] [21,22,23]
(.cond (.t 24) (sr [
tq 2 (.mv (kq 8))] []
.ret)
 .skip))
(.seq (sr [
fa 25 3 1,
ld 26 25,
tq 27 (cl zeg [.t 26,kq 1,kq 1440]),
mq 28 27,
gq 29 28 false (.fieldAddr 4 (.t 1)),
gq 30 28 false (.load none (.t 29)),
gq 31 28 false (cl zeg [.t 30,kq 1,kq 1440]),
tq 32 (.pick (.t 28) (.k (.d (.bool true))) (.t 31)),
mq 33 32,
gq 34 33 false (.fieldAddr 5 (.t 1)),
gq 35 33 false (.load none (.t 34)),
gq 36 33 false (cl zeg [.t 35,kq 0,kq 1439]),
tq 37 (.pick (.t 33) (.k (.d (.bool true))) (.t 36)),
mq 38 37,
gq 39 38 false (.fieldAddr 6 (.t 1)),
gq 40 38 false (.load none (.t 39)),
gq 41 38 false (cl zeg [.t 40,kq 0,kq 1439]),
tq 42 (.pick (.t 38) (.k (.d (.bool true))) (.t 41))] [25,26,27,28,29,30,31,32,33,34,35,36,37,38,39,40,41]
(.cond (.t 42) (sr [
tq 2 (.mv (kq 3))] []
.ret)
 .skip))
(.seq (sr [
fa 43 5 1,
ld 44 43,
fa 45 6 1,
ld 46 45,
tq 47 (.bin .gtr (.t 44) (.t 46))] [43,44,45,46]
(.cond (.t 47) (sr [
tq 2 (.mv (kq 11))] []
.ret)
 .skip))
(.seq (sr [
fa 48 7 1,
lq 49 3 48,
tq 50 (cl zef [.t 49]),
mq 3 50] [48,49,50]
(sr [
mq 51 3,
tq 52 (.bin .neq (.t 51) (kq 0))] [51]
(.cond (.t 52) (sr [
mq 53 3,
mq 2 53] [3,53]
.ret)
 .skip)))
(.seq (sr [
fa 54 10 1,
ld 55 54,
tq 56 (cl zeg [.t 55,kq 0,kq 999999999])] [1,54,55]
(.cond (.t 56) (sr [
tq 2 (.mv (kq 3))] []
.ret)
 .skip))
(sr [
tq 2 (.mv (kq 0))] []
.ret)))))))))⟩
def z4c:CF:=⟨[.tmp 2],
  (sr [
tq 1 (.box zgb (.t 0)),
tq 2 (.mv (kq 0))] [0,2]
(.seq (.reg true [
fa 3 6 1,
ld 4 3,
fa 5 4 1,
ld 6 5,
tq 7 (.bin .quo (.t 4) (.t 6)),
fa 8 5 1,
ld 9 8,
fa 10 4 1,
ld 11 10,
tq 12 (.bin .add (.t 9) (.t 11)),
tq 13 (.bin .sub (.t 12) (kq 1)),
fa 14 4 1,
ld 15 14,
tq 16 (.bin .quo (.t 13) (.t 15)),
tq 17 (.bin .sub (.t 7) (.t 16)),
tq 18 (.bin .add (.t 17) (kq 1)),
mq 2 18] [1,3,4,5,6,7,8,9,10,11,12,13,14,15,16,17,18])
.ret))⟩
def zy9:C:=
  (.seq (sr [
mq 7 4,
fa 8 1 1,
ld 9 8,
tq 10 (.bin .leq (.t 7) (.t 9))] [7,8,9]
(.cond (.t 10) .skip
 (.exit 0)))
(.seq (.block 1 (sr [
lq 13 3 1,
mq 14 4,
tq 15 (cl zuv [.t 13,.t 14])] [13,14]
(.cond (.t 15) (rg [
mq 16 3,
mq 17 4,
tq 18 (.mkList 1 1 [.t 17]),
tq 19 (.append ⟨false,zbs,1,8⟩ (.t 16) (.t 18)),
mq 3 19] [16,17,18,19])
 .skip)))
(rg [
mq 11 4,
tq 12 (.bin .add (.t 11) (kq 1)),
mq 4 12] [11,12])))
def z38:CF:=⟨[.tmp 2],
  (sr [
tq 1 (.box zbp (.t 0)),
tq 2 (.ownNil ⟨false,zbs,1,8⟩)] [0,2]
(sr [
tq 3 (.ownNil ⟨false,zbs,1,8⟩)] []
(.seq (sr [
fa 5 0 1,
ld 6 5,
mq 4 6] [5,6]
(.block 0 (.loop [1,3,4] zy9)))
(sr [
mq 20 3,
mq 2 20] [3,20]
.ret))))⟩
def zxl:C:=
  (.seq (sr [
mq 6 5,
mq 7 0,
tq 8 (.len .slc (.t 7)),
tq 9 (.bin .lss (.t 6) (.t 8))] [6,7,8]
(.cond (.t 9) .skip
 (.exit 0)))
(.seq (.block 1 (sr [
mq 12 0,
mq 13 5,
tq 14 (.idxAddr 11 (.t 12) (.t 13)),
fa 15 0 14,
ld 16 15,
mq 17 1,
tq 18 (.bin .eql (.t 16) (.t 17))] [12,13,14,15,16,17]
(.cond (.t 18) (sr [
mq 19 5,
mq 4 19] [5,19]
.ret)
 .skip)))
(rg [
mq 10 5,
tq 11 (.bin .add (.t 10) (kq 1)),
mq 5 11] [10,11])))
def z1p:CF:=⟨[.tmp 4],
  (sr [
tq 4 (.mv (kq 0))] [4]
(.seq (sr [
tq 5 (.mv (kq 0))] []
(.block 0 (.loop [0,1,5] zxl)))
(sr [
tq 4 (.mv (kq (-1)))] []
.ret)))⟩
def z6t:CF:=⟨[.tmp 2],
  (sr [
tq 1 (.box zag (.t 0)),
tq 2 (.mv (.k (.d (.bool false))))] [0,2]
(sr [
fa 3 0 1,
ld 4 3,
tq 5 (.len .str (.t 4)),
tq 6 (.bin .leq (.t 5) (kq 40)),
mq 7 6,
gq 8 7 true (.fieldAddr 1 (.t 1)),
gq 9 7 true (.load none (.t 8)),
gq 10 7 true (.len .str (.t 9)),
gq 11 7 true (.bin .leq (.t 10) (kq 40)),
tq 12 (.pick (.t 7) (.t 11) (.k (.d (.bool false)))),
mq 13 12,
gq 14 13 true (.fieldAddr 2 (.t 1)),
gq 15 13 true (.load none (.t 14)),
gq 16 13 true (.len .str (.t 15)),
gq 17 13 true (.bin .leq (.t 16) (kq 40)),
tq 18 (.pick (.t 13) (.t 17) (.k (.d (.bool false)))),
mq 19 18,
gq 20 19 true (.fieldAddr 3 (.t 1)),
gq 21 19 true (.load none (.t 20)),
gq 22 19 true (.len .str (.t 21)),
gq 23 19 true (.bin .leq (.t 22) (kq 40)),
tq 24 (.pick (.t 19) (.t 23) (.k (.d (.bool false)))),
mq 25 24,
gq 26 25 true (.fieldAddr 4 (.t 1)),
gq 27 25 true (.load none (.t 26)),
gq 28 25 true (.len .str (.t 27)),
gq 29 25 true (.bin .leq (.t 28) (kq 40)),
tq 30 (.pick (.t 25) (.t 29) (.k (.d (.bool false)))),
mq 31 30,
gq 32 31 true (.fieldAddr 5 (.t 1)),
gq 33 31 true (.load none (.t 32)),
gq 34 31 true (.len .str (.t 33)),
gq 35 31 true (.bin .leq (.t 34) (kq 40)),
tq 36 (.pick (.t 31) (.t 35) (.k (.d (.bool false)))),
mq 2 36] [1,3,4,5,6,7,8,9,10,11,12,13,14,15,16,17,18,19,20,21,22,23,24,25,26,27,28,29,30,31,32,33,34,35,36]
.ret))⟩
def zth:CF:=⟨[.tmp 2],
  (sr [
tq 1 (.box zag (.t 0)),
tq 2 (.mv (kq 0))] [0,2]
(.seq (sr [
fa 4 0 1,
ld 5 4,
tq 6 (cl zdy [.t 5]),
tq 7 (.un .not (.t 6)),
mq 8 7,
gq 9 8 false (.fieldAddr 1 (.t 1)),
gq 10 8 false (.load none (.t 9)),
gq 11 8 false (cl zdy [.t 10]),
gq 12 8 false (.un .not (.t 11)),
tq 13 (.pick (.t 8) (.k (.d (.bool true))) (.t 12)),
mq 14 13,
gq 15 14 false (.fieldAddr 4 (.t 1)),
gq 16 14 false (.load none (.t 15)),
gq 17 14 false (cl zdy [.t 16]),
gq 18 14 false (.un .not (.t 17)),
tq 19 (.pick (.t 14) (.k (.d (.bool true))) (.t 18)),
mq 20 19,
gq 21 20 false (.fieldAddr 3 (.t 1)),
gq 22 20 false (.load none (.t 21)),
gq 23 20 false (cl zii [.t 22]),
gq 24 20 false (.un .not (.t 23)),
tq 25 (.pick (.t 20) (.k (.d (.bool true))) (.t 24)),
mq 26 25,
gq 27 26 false (.fieldAddr 5 (.t 1)),
gq 28 26 false (.load none (.t 27)),
gq 29 26 false (cl zii [.t 28]),
gq 30 26 false (.un .not (.t 29)),
tq 31 (.pick (.t 26) (.k (.d (.bool true))) (.t 30))] [4,5,6,7,8,9,10,11,12,13,14,15,16,17,18,19,20,21,22,23,24,25,26,27,28,29,30]
(.cond (.t 31) (sr [
tq 2 (.mv (kq 8))] []
.ret)
 .skip))
(.seq (sr [
fa 32 2 1,
ld 33 32,
tq 34 (.bin .neq (.t 33) (.k (.d (.str [65])))),
mq 35 34,
gq 36 35 true (.fieldAddr 2 (.t 1)),
gq 37 35 true (.load none (.t 36)),
gq 38 35 true (.bin .neq (.t 37) (.k (.d (.str [68])))),
tq 39 (.pick (.t 35) (.t 38) (.k (.d (.bool false))))] [32,33,34,35,36,37,38]
(.cond (.t 39) (sr [
tq 2 (.mv (kq 13))] []
.ret)
 .skip))
(.seq (sr [
fa 40 5 1,
ld 41 40,
fa 42 0 1,
ld 43 42,
tq 44 (.bin .eql (.t 41) (.t 43))] [40,41,42,43]
(.cond (.t 44) (sr [
tq 2 (.mv (kq 32))] []
.ret)
 .skip))
(sr [
fa 45 6 1,
lq 46 3 45,
tq 47 (cl zef [.t 46]),
mq 3 47] [45,46,47]
(.seq (sr [
mq 48 3,
tq 49 (.bin .neq (.t 48) (kq 0))] [48]
(.cond (.t 49) (sr [
mq 50 3,
mq 2 50] [3,50]
.ret)
 .skip))
(.seq (.reg true [
fa 51 9 1,
ld 52 51,
tq 53 (cl zcj [.t 52,kq 0,kq 1439]),
fa 54 10 1,
ld 55 54,
tq 56 (cl zcj [.t 55,kq 0,kq 999]),
fa 57 11 1,
ld 58 57,
tq 59 (cl zcj [.t 58,kq 1,kq 9]),
fa 60 12 1,
ld 61 60,
tq 62 (cl zcj [.t 61,kq 0,kq 99]),
tq 63 (.mkList 1 4 [.t 53,.t 56,.t 59,.t 62]),
tq 64 (cl zly [.t 63]),
mq 2 64] [1,51,52,53,54,55,56,57,58,59,60,61,62,63,64])
.ret)))))))⟩
def z82:C:=
  (.seq (sr [
mq 6 5,
mq 7 0,
tq 8 (.len .slc (.t 7)),
tq 9 (.bin .lss (.t 6) (.t 8))] [6,7,8]
(.cond (.t 9) .skip
 (.exit 0)))
(.seq (.block 1 (sr [
mq 12 0,
mq 13 5,
tq 14 (.idxAddr 13 (.t 12) (.t 13)),
fa 15 0 14,
ld 16 15,
mq 17 1,
tq 18 (.bin .eql (.t 16) (.t 17))] [12,13,14,15,16,17]
(.cond (.t 18) (sr [
mq 19 5,
mq 4 19] [5,19]
.ret)
 .skip)))
(rg [
mq 10 5,
tq 11 (.bin .add (.t 10) (kq 1)),
mq 5 11] [10,11])))
def yg5:CF:=⟨[.tmp 4],
  (sr [
tq 4 (.mv (kq 0))] [4]
(.seq (sr [
tq 5 (.mv (kq 0))] []
(.block 0 (.loop [0,1,5] z82)))
(sr [
tq 4 (.mv (kq (-1)))] []
.ret)))⟩
def zp5:CF:=⟨[.tmp 6],
  (sr [
tq 3 (.box zbq (.t 0)),
tq 6 (.mv (kq 0))] [0,6]
(sr [
lq 7 4 3,
tq 8 (cl zjq [.t 7]),
mq 9 1,
tq 10 (cl zmv [.t 9]),
mq 11 2,
tq 12 (cl zka [.t 11]),
tq 13 (.mkList 1 3 [.t 8,.t 10,.t 12]),
tq 14 (cl zbi [.t 13]),
mq 6 14] [1,2,3,7,8,9,10,11,12,13,14]
.ret))⟩
def zx5:CF:=⟨[.cell 6 (some 6)],
  (sr [
tq 3 (.box zbq (.t 0)),
tq 6 (.alloc zix [.z (.list 0 []),.z (.int .i64 0),.z (.int .i64 0),.z (.int .i64 0),.z (.list 0 []),.z (.list 0 [])])] [0]
(.seq (.reg true [
lq 7 4 3,
mq 8 2,
mq 9 1,
mq 10 2,
tq 11 (cl zr6 [.t 9,.t 10]),
tq 12 (.build [.z (.list 0 []),.z (.int .i64 0),.z (.int .i64 0),.z (.int .i64 0),.z (.list 0 []),.z (.list 0 [])] [(0,4,.t 7),(4,1,.t 8),(5,1,.t 11)]),
⟨none,none,.store 6 (.t 6) (.t 12)⟩] [1,2,3,7,8,9,10,11,12])
.ret))⟩
def zna:C:=
  (sr [
tq 37 (.bin .lss (.t 36) (.t 35))] []
(.seq (.cond (.t 37) .skip
 (.exit 0))
(.seq (.block 1 (sr [
tq 38 (.idxAddr 1 (.t 34) (.t 36)),
ld 39 38,
mq 8 39] [38,39]
(rg [
mq 40 6,
fa 41 4 1,
ld 42 41,
mq 43 8,
tq 44 (.idxAddr 18 (.t 42) (.t 43)),
fa 45 15 44,
ld 46 45,
tq 47 (.mkList 1 1 [.t 46]),
tq 48 (.append ⟨false,yms,1,1⟩ (.t 40) (.t 47)),
mq 6 48] [8,40,41,42,43,44,45,46,47,48])))
(rg [
tq 49 (.bin .add (.t 36) (kq 1)),
mq 36 49] [49]))))
def znb:C:=
  (sr [
tq 60 (.bin .lss (.t 59) (.t 58))] []
(.seq (.cond (.t 60) .skip
 (.exit 2))
(.seq (.block 3 (sr [
mq 61 59,
tq 62 (.idxAddr 1 (.t 57) (.t 59)),
ld 63 62,
mq 9 61,
mq 10 63] [61,62,63]
(rg [
mq 64 3,
mq 65 4,
mq 66 9,
tq 67 (.bin .add (.t 65) (.t 66)),
mq 68 5,
mq 69 10,
tq 70 (.idxAddr 1 (.t 68) (.t 69)),
ld 71 70,
tq 72 (.idxAddr 1 (.t 64) (.t 67)),
⟨none,none,.store 1 (.t 72) (.t 71)⟩] [9,10,64,65,66,67,68,69,70,71,72])))
(rg [
tq 73 (.bin .add (.t 59) (kq 1)),
mq 59 73] [73]))))
def zpa:CF:=⟨[.tmp 2],
  (sr [
tq 1 (.box zix (.t 0)),
tq 2 (.ownNil ⟨true,zbs,1,8⟩)] [0,2]
(sr [
fa 11 4 1,
ld 12 11,
tq 13 (.len .slc (.t 12)),
tq 14 (.makeRow ⟨true,zbs,1,8⟩ [.int .i64 0] (.t 13)),
mq 3 14] [11,12,13,14]
(sr [
mq 15 3,
fa 16 4 1,
ld 17 16,
tq 18 (.len .slc (.t 17)),
tq 19 (cl zjv [.t 18]),
tq 20 (.copy 1 (.t 15) (.t 19))] [15,16,17,18,19,20]
(sr [
mq 21 3,
tq 22 (.mkFunc zhx [] [.t 1]),
tq 23 (.call true true (.k (.fn zcf [] [])) [.t 21,.t 22])] [21,22,23]
(sr [
mq 24 3,
tq 25 (.mkFunc zhy [] [.t 1]),
tq 26 (.call true true (.k (.fn zhi [] [])) [.t 24,.t 25]),
mq 4 26] [24,25,26]
(.seq (sr [
mq 27 4,
tq 28 (.bin .lss (.t 27) (kq 0))] [27]
(.cond (.t 28) (sr [
mq 29 3,
mq 2 29] [3,29]
.ret)
 .skip))
(sr [
mq 30 3,
mq 31 4,
tq 32 (.slice 1 (.t 30) (some (.t 31)) none none),
tq 33 (.call true true (.k (.fn zjx [] [])) [.t 32]),
mq 5 33] [30,31,32,33]
(sr [
tq 6 (.ownNil ⟨false,yms,1,1⟩)] []
(.seq (sr [
mq 34 5,
tq 35 (.len .slc (.t 34)),
tq 36 (.mv (kq 0))] []
(.block 0 (.loop [1,3,4,5,6,34,35,36] zna)))
(.seq (sr [
fa 50 0 1,
fa 51 2 50,
ld 52 51,
fa 53 0 1,
fa 54 3 53,
ld 55 54,
mq 56 6,
tq 57 (cl zkb [.t 52,.t 55,.t 56]),
tq 58 (.len .slc (.t 57)),
tq 59 (.mv (kq 0))] [1,6,50,51,52,53,54,55,56]
(.block 2 (.loop [3,4,5,57,58,59] znb)))
(sr [
mq 74 3,
mq 2 74] [3,74]
.ret)))))))))))⟩
def zxq:CF:=⟨[.tmp 2,.tmp 3],
  (sr [
tq 1 (.box zbp (.t 0)),
tq 2 (.mv (.k (.d (.list 0 [])))),
tq 3 (.mv (kq 0))] [0,2,3]
(.seq (sr [
lq 5 3 1,
tq 6 (cl zb3 [.t 5]),
mq 4 6] [5,6]
(sr [
mq 7 4,
tq 8 (.bin .neq (.t 7) (kq 0))] [7]
(.cond (.t 8) (sr [
mq 9 4,
tq 2 (.mv (.k (.d (.list 0 [])))),
mq 3 9] [4,9]
.ret)
 .skip)))
(sr [
lq 10 3 1,
tq 11 (.call false false (.k (.fn zki [] [])) [.t 10]),
tq 12 (.call true true (.k (.fn zfn [] [])) [.t 11,.k (.fn zf6 [] [])]),
mq 2 12,
tq 3 (.mv (kq 0))] [1,10,11,12]
.ret)))⟩
def zzn:CF:=⟨[.tmp 6],
  (sr [
tq 6 (.mv (kq 0))] [6]
(sr [
mq 7 0,
mq 8 1,
tq 9 (.bin .lss (.t 7) (.t 8)),
mq 10 9,
gq 11 10 false (.mv (.t 0)),
gq 12 10 false (.mv (.t 2)),
gq 13 10 false (.bin .gtr (.t 11) (.t 12)),
tq 14 (.pick (.t 10) (.k (.d (.bool true))) (.t 13)),
tq 15 (cl zav [.t 14,kq 3]),
mq 6 15] [0,1,2,7,8,9,10,11,12,13,14,15]
.ret))⟩
def z35:CF:=⟨[.tmp 4],
  (sr [
tq 4 (.mv (.k (.d (.str []))))] [4]
(sr [
mq 6 0,
tq 7 (cl n_strconv_Itoa [.t 6]),
mq 5 7] [0,6,7]
(sr [
mq 8 1,
mq 9 5,
tq 10 (.len .str (.t 9)),
tq 11 (.bin .sub (.t 8) (.t 10)),
tq 12 (.minmax true [kq 0,.t 11]),
tq 13 (cl n_strings_Repeat [.k (.d (.str [48])),.t 12]),
mq 14 5,
tq 15 (.bin .add (.t 13) (.t 14)),
mq 4 15] [1,5,8,9,10,11,12,13,14,15]
.ret)))⟩
def zvc:C:=
  (sr [
tq 8 (.bin .lss (.t 7) (.t 6))] []
(.seq (.cond (.t 8) .skip
 (.exit 0))
(.seq (.block 1 (sr [
tq 9 (.idxAddr 1 (.t 5) (.t 7)),
ld 10 9,
mq 4 10] [9,10]
(sr [
mq 11 4,
tq 12 (.bin .neq (.t 11) (kq 0))] [11]
(.cond (.t 12) (sr [
mq 13 4,
mq 2 13] [4,13]
.ret)
 .skip))))
(rg [
tq 14 (.bin .add (.t 7) (kq 1)),
mq 7 14] [14]))))
def zzi:CF:=⟨[.tmp 2],
  (sr [
tq 2 (.mv (kq 0))] [2]
(.seq (sr [
mq 5 0,
tq 6 (.len .slc (.t 5)),
tq 7 (.mv (kq 0))] [0]
(.block 0 (.loop [5,6,7] zvc)))
(sr [
tq 2 (.mv (kq 0))] []
.ret)))⟩
def zq4:CF:=⟨[.tmp 2],
  (sr [
tq 1 (.box zaj (.t 0)),
tq 2 (.mv (kq 0))] [0,2]
(.seq (.reg true [
tq 6 (.callN (.k (.fn zgj [] [])) []),
fa 7 1 1,
ld 8 7,
tq 9 (.lookup .str (.agg [.nilf]) true (.t 6) (.t 8)),
mq 5 9,
xq 10 5 0,
xq 11 5 1,
tq 3 (.alloc zz5 [.z (.nilf)]),
⟨none,none,.store 1 (.t 3) (.t 10)⟩,
mq 4 11] [3,5,6,7,8,9,10,11])
(.seq (.reg true [
fa 12 0 1,
ld 13 12,
tq 14 (cl zb0 [.t 13]),
tq 15 (.un .not (.t 14)),
tq 16 (cl zbw [.t 15,kq 8]),
mq 17 4,
tq 18 (.un .not (.t 17)),
tq 19 (cl zbw [.t 18,kq 13]),
fa 20 2 1,
ld 21 20,
tq 22 (cl zf8 [.t 21]),
fa 23 3 1,
ld 24 23,
tq 25 (cl zbe [.t 24,kq 1,kq 1440]),
fa 26 4 1,
ld 27 26,
tq 28 (cl zbe [.t 27,kq 1,kq 1440]),
fa 29 5 1,
ld 30 29,
tq 31 (cl zbe [.t 30,kq 0,kq 1439]),
fa 32 6 1,
ld 33 32,
tq 34 (cl zbe [.t 33,kq 0,kq 1439]),
fa 35 5 1,
ld 36 35,
fa 37 6 1,
ld 38 37,
tq 39 (.bin .gtr (.t 36) (.t 38)),
tq 40 (cl zbw [.t 39,kq 11]),
fa 41 7 1,
lq 42 3 41,
tq 43 (cl zb3 [.t 42]),
fa 44 10 1,
ld 45 44,
tq 46 (cl zbe [.t 45,kq 0,kq 999999999]),
tq 47 (.mkList 1 10 [.t 16,.t 19,.t 22,.t 25,.t 28,.t 31,.t 34,.t 40,.t 43,.t 46]),
tq 48 (cl zbv [.t 47]),
mq 2 48] [1,4,12,13,14,15,16,17,18,19,20,21,22,23,24,25,26,27,28,29,30,31,32,33,34,35,36,37,38,39,40,41,42,43,44,45,46,47,48])
.ret)))⟩
def zxx:CF:=⟨[.tmp 6],
  (sr [
tq 6 (.mv (kq 0))] [6]
(sr [
mq 7 0,
mq 8 1,
tq 9 (.bin .lss (.t 7) (.t 8)),
mq 10 9,
gq 11 10 false (.mv (.t 0)),
gq 12 10 false (.mv (.t 2)),
gq 13 10 false (.bin .gtr (.t 11) (.t 12)),
tq 14 (.pick (.t 10) (.k (.d (.bool true))) (.t 13)),
tq 15 (cl zbw [.t 14,kq 3]),
mq 6 15] [0,1,2,7,8,9,10,11,12,13,14,15]
.ret))⟩
def ztb:CF:=⟨[.tmp 4],
  (sr [
tq 2 (.box zaj (.t 0)),
tq 4 (.mv (.k (.d (.bool false))))] [0,4]
(sr [
fa 8 7 2,
lq 9 3 8,
mq 10 1,
tq 11 (cl zor [.t 9,.t 10]),
mq 7 11,
xq 12 7 0,
xq 13 7 1,
mq 5 12,
mq 6 13] [1,2,7,8,9,10,11,12,13]
(sr [
mq 14 6,
tq 15 (.bin .eql (.t 14) (kq 0)),
mq 16 15,
gq 17 16 true (.mv (.t 5)),
tq 18 (.pick (.t 16) (.t 17) (.k (.d (.bool false)))),
mq 4 18] [5,6,14,15,16,17,18]
.ret)))⟩
def zti:CF:=⟨[.tmp 2],
  (sr [
tq 2 (.mv (.k (.d (.list 0 []))))] [2]
(sr [
mq 3 0,
tq 4 (.call true true (.k (.fn zc1 [] [])) [.k (.d .nil),.t 3]),
mq 2 4] [0,3,4]
.ret))⟩
def zpz:CF:=⟨[.tmp 4],
  (sr [
tq 2 (.box zaj (.t 0)),
tq 3 (.box zbs (.t 1)),
tq 4 (.mv (.k (.d (.nilf))))] [0,1,4]
(sr [
tq 5 (.mkFunc zbh [] [.t 3,.t 2]),
mq 4 5] [2,3,5]
.ret))⟩
def z1e:CF:=⟨[.tmp 4],
  (sr [
tq 4 (.mv (kq 0))] [4]
(.seq (sr [
mq 5 0] [0]
(.cond (.t 5) (sr [
mq 6 1,
mq 4 6] [1,6]
.ret)
 .skip))
(sr [
tq 4 (.mv (kq 0))] []
.ret)))⟩
def zzk:CF:=⟨[.tmp 4],
  (sr [
tq 3 (.box zbl (.t 1)),
tq 4 (.mv (kq 0))] [1,4]
(sr [
mq 5 0,
tq 6 (.mkFunc zdm [] [.t 3]),
tq 7 (.call true true (.k (.fn zaz [] [])) [.t 5,.t 6]),
mq 4 7] [0,3,5,6,7]
.ret))⟩
def zrp:CF:=⟨[.tmp 2],
  (sr [
tq 1 (.box zau (.t 0)),
tq 2 (.mv (kq 0))] [0,2]
(sr [
fa 7 0 1,
lq 8 13 7,
tq 3 (.alloc zag [.z (.str []),.z (.str []),.z (.str []),.z (.str []),.z (.str []),.z (.str []),.z (.int .i64 0),.z (.int .i64 0),.z (.int .i64 0),.z (.int .i64 0),.z (.int .i64 0),.z (.int .i64 0),.z (.int .i64 0)]),
⟨none,none,.store 13 (.t 3) (.t 8)⟩] [7,8]
(sr [
lq 10 13 3,
tq 11 (cl zfc [.t 10]),
mq 9 11,
xq 12 9 0,
xq 13 9 1,
mq 4 12,
mq 5 13] [4,9,10,11,12,13]
(sr [
tq 6 (.mv (.k (.fn zdw [] [])))] []
(.seq (.reg true [
mq 14 5,
fa 15 1 3,
ld 16 15,
tq 17 (cl zb0 [.t 16]),
tq 18 (.un .not (.t 17)),
mq 19 18,
gq 20 19 false (.mv (.t 6)),
gq 21 19 false (.fieldAddr 4 (.t 3)),
gq 22 19 false (.load none (.t 21)),
gq 23 19 false (.callR true (.t 20) [.t 22] [1,3]),
tq 24 (.pick (.t 19) (.k (.d (.bool true))) (.t 23)),
mq 25 24,
gq 26 25 false (.mv (.t 6)),
gq 27 25 false (.fieldAddr 5 (.t 3)),
gq 28 25 false (.load none (.t 27)),
gq 29 25 false (.callR true (.t 26) [.t 28] [1,3]),
tq 30 (.pick (.t 25) (.k (.d (.bool true))) (.t 29)),
tq 31 (cl zdf [.t 30,kq 8]),
fa 32 13 1,
ld 33 32,
tq 34 (cl zc8 [.t 33,kq 0,kq 1439]),
fa 35 14 1,
ld 36 35,
tq 37 (cl zc8 [.t 36,kq 0,kq 1439]),
fa 38 13 1,
ld 39 38,
fa 40 9 3,
ld 41 40,
tq 42 (.bin .gtr (.t 39) (.t 41)),
mq 43 42,
gq 44 43 false (.fieldAddr 14 (.t 1)),
gq 45 43 false (.load none (.t 44)),
gq 46 43 false (.fieldAddr 9 (.t 3)),
gq 47 43 false (.load none (.t 46)),
gq 48 43 false (.bin .lss (.t 45) (.t 47)),
tq 49 (.pick (.t 43) (.k (.d (.bool true))) (.t 48)),
tq 50 (cl zdf [.t 49,kq 11]),
fa 51 15 1,
ld 52 51,
tq 53 (cl zc8 [.t 52,kq 1,kq 120]),
tq 54 (.mkList 1 6 [.t 14,.t 31,.t 34,.t 37,.t 50,.t 53]),
tq 55 (cl zc4 [.t 54]),
mq 5 55] [6,14,15,16,17,18,19,20,21,22,23,24,25,26,27,28,29,30,31,32,33,34,35,36,37,38,39,40,41,42,43,44,45,46,47,48,49,50,51,52,53,54,55])
(.seq (sr [
mq 56 5,
tq 57 (.bin .neq (.t 56) (kq 0))] [56]
(.cond (.t 57) (sr [
mq 58 5,
mq 2 58] [5,58]
.ret)
 .skip))
(.seq (.reg true [
fa 59 9 3,
ld 60 59,
fa 61 13 1,
ld 62 61,
tq 63 (.bin .sub (.t 60) (.t 62)),
fa 64 15 1,
ld 65 64,
tq 66 (.bin .quo (.t 63) (.t 65)),
fa 67 14 1,
ld 68 67,
fa 69 9 3,
ld 70 69,
tq 71 (.bin .sub (.t 68) (.t 70)),
fa 72 15 1,
ld 73 72,
tq 74 (.bin .quo (.t 71) (.t 73)),
tq 75 (.bin .add (.t 66) (.t 74)),
tq 76 (.bin .add (.t 75) (kq 1)),
tq 77 (.bin .gtr (.t 76) (kq 96)),
tq 78 (cl zdf [.t 77,kq 22]),
fa 79 16 1,
ld 80 79,
tq 81 (cl zc8 [.t 80,kq 0,kq 1440]),
fa 82 17 1,
ld 83 82,
tq 84 (cl zc8 [.t 83,kq 0,kq 1440]),
fa 85 16 1,
ld 86 85,
fa 87 17 1,
ld 88 87,
tq 89 (.bin .gtr (.t 86) (.t 88)),
tq 90 (cl zdf [.t 89,kq 11]),
tq 91 (.mkList 1 4 [.t 78,.t 81,.t 84,.t 90]),
tq 92 (cl zc4 [.t 91]),
mq 2 92] [1,3,59,60,61,62,63,64,65,66,67,68,69,70,71,72,73,74,75,76,77,78,79,80,81,82,83,84,85,86,87,88,89,90,91,92])
.ret)))))))⟩
def z1a:CF:=⟨[.tmp 4],
  (sr [
tq 4 (.mv (kq 0))] [4]
(.seq (sr [
mq 5 0] [0]
(.cond (.t 5) (sr [
mq 6 1,
mq 4 6] [1,6]
.ret)
 .skip))
(sr [
tq 4 (.mv (kq 0))] []
.ret)))⟩
def zze:CF:=⟨[.tmp 4],
  (sr [
tq 3 (.box zbl (.t 1)),
tq 4 (.mv (kq 0))] [1,4]
(sr [
mq 5 0,
tq 6 (.mkFunc zeu [] [.t 3]),
tq 7 (.call true true (.k (.fn za3 [] [])) [.t 5,.t 6]),
mq 4 7] [0,3,5,6,7]
.ret))⟩
def zel:C:=
  (sr [
tq 11 (.bin .lss (.t 10) (.t 9))] []
(.seq (.cond (.t 11) .skip
 (.exit 0))
(.seq (.block 1 (sr [
tq 12 (.idxAddr 18 (.t 8) (.t 10)),
lq 13 18 12,
tq 7 (.alloc zau [.z (.str []),.z (.str []),.z (.str []),.z (.str []),.z (.str []),.z (.str []),.z (.int .i64 0),.z (.int .i64 0),.z (.int .i64 0),.z (.int .i64 0),.z (.int .i64 0),.z (.int .i64 0),.z (.int .i64 0),.z (.int .i64 0),.z (.int .i64 0),.z (.int .i64 0),.z (.int .i64 0),.z (.int .i64 0)]),
⟨none,none,.store 18 (.t 7) (.t 13)⟩] [12,13]
(rg [
mq 14 5,
mq 15 1,
lq 16 18 7,
tq 17 (.call true true (.t 15) [.t 16]),
tq 18 (.mkList 3 1 [.t 17]),
tq 19 (.append ⟨true,zar,3,32⟩ (.t 14) (.t 18)),
mq 5 19] [7,14,15,16,17,18,19])))
(rg [
tq 20 (.bin .add (.t 10) (kq 1)),
mq 10 20] [20]))))
def ze3:CF:=⟨[.tmp 4],
  (sr [
tq 4 (.ownNil ⟨true,zar,3,32⟩)] [4]
(sr [
tq 5 (.ownNil ⟨true,zar,3,32⟩)] []
(.seq (sr [
mq 8 0,
tq 9 (.len .slc (.t 8)),
tq 10 (.mv (kq 0))] [0]
(.block 0 (.loop [1,5,8,9,10] zel)))
(sr [
mq 21 5,
mq 4 21] [5,21]
.ret))))⟩
def zta:CF:=⟨[.cell 2 (some 3)],
  (sr [
tq 1 (.box zau (.t 0)),
tq 2 (.alloc zar [.z (.str []),.z (.int .i64 0),.z (.bool false)])] [0]
(sr [
fa 3 0 1,
fa 4 0 3,
ld 5 4,
tq 6 (.build [.z (.str []),.z (.int .i64 0),.z (.bool false)] [(0,1,.t 5)]),
⟨none,none,.store 3 (.t 2) (.t 6)⟩] [1,3,4,5,6]
.ret))⟩
def zqu:C:=
  (sr [
tq 13 (.bin .lss (.t 12) (.t 11))] []
(.seq (.cond (.t 13) .skip
 (.exit 0))
(.seq (.block 1 (sr [
tq 14 (.idxAddr 2 (.t 10) (.t 12)),
lq 15 2 14,
tq 7 (.alloc zad [.z (.int .i64 0),.z (.int .i64 0)]),
⟨none,none,.store 2 (.t 7) (.t 15)⟩] [14,15]
(rg [
mq 16 0,
tq 17 (.nilCheck (.t 16)),
fa 18 1 17,
ld 19 18,
lq 20 2 7,
tq 21 (.lookup (.rc [false,false]) (.int .i64 0) false (.t 19) (.t 20)),
mq 22 2,
tq 23 (.bin .add (.t 21) (.t 22)),
⟨none,none,.mapSet (.rc [false,false]) (.t 19) (.t 20) (.t 23)⟩] [7,16,17,18,19,20,21,22,23,24,25])))
(rg [
tq 26 (.bin .add (.t 12) (kq 1)),
mq 12 26] [26]))))
def zs9:CF:=⟨[],
  (sr [
tq 4 (.box zao (.t 1))] [1]
(sr [
mq 8 0,
lq 9 7 4,
tq 10 (.callU true (.k (.fn zbn [] [])) [.t 8,.t 9]),
tq 11 (.len .slc (.t 10)),
tq 12 (.mv (kq 0))] [4,8,9]
(.block 0 (.loop [0,2,10,11,12] zqu))))⟩
def zoa:C:=
  (sr [
tq 69 (.bin .lss (.t 68) (.t 67))] []
(.seq (.cond (.t 69) .skip
 (.exit 4))
(.seq (.block 5 (sr [
tq 70 (.idxAddr 1 (.t 66) (.t 68)),
ld 71 70,
mq 14 71] [70,71]
(sr [
mq 72 14,
fa 73 0 3,
ld 74 73,
tq 75 (.bin .leq (.t 72) (.t 74)),
mq 76 75,
gq 77 76 true (.fieldAddr 0 (.t 3)),
gq 78 76 true (.load none (.t 77)),
gq 79 76 true (.mv (.t 14)),
gq 80 76 true (.fieldAddr 3 (.t 7)),
gq 81 76 true (.load none (.t 80)),
gq 82 76 true (.bin .add (.t 79) (.t 81)),
gq 83 76 true (.bin .lss (.t 78) (.t 82)),
tq 84 (.pick (.t 76) (.t 83) (.k (.d (.bool false))))] [72,73,74,75,76,77,78,79,80,81,82,83]
(.cond (.t 84) (rg [
mq 85 5,
mq 86 6,
mq 87 14,
tq 88 (.build [.z (.int .i64 0),.z (.int .i64 0)] [(0,1,.t 86),(1,1,.t 87)]),
tq 89 (.mkList 2 1 [.t 88]),
tq 90 (.append ⟨false,zad,2,16⟩ (.t 85) (.t 89)),
mq 5 90] [14,85,86,87,88,89,90])
 .skip))))
(rg [
tq 91 (.bin .add (.t 68) (kq 1)),
mq 68 91] [91]))))
def zob:C:=
  (sr [
tq 38 (.bin .lss (.t 37) (kq 2))] []
(.seq (.cond (.t 38) .skip
 (.exit 2))
(.seq (.block 3 (sr [
tq 39 (.idxA 2 1 none (.t 36) (.t 37)),
mq 9 39] [39]
(sr [
mq 40 6,
mq 41 9,
tq 42 (.build [.z (.int .i64 0),.z (.int .i64 0)] [(0,1,.t 40),(1,1,.t 41)]),
tq 10 (.alloc zad [.z (.int .i64 0),.z (.int .i64 0)]),
⟨none,none,.store 2 (.t 10) (.t 42)⟩] [40,41,42]
(.seq (.reg true [
mq 44 0,
tq 45 (.nilCheck (.t 44)),
fa 46 2 45,
ld 47 46,
lq 48 2 10,
tq 49 (.lookup (.rc [false,false]) (.list 0 []) true (.t 47) (.t 48)),
mq 43 49,
xq 50 43 0,
xq 51 43 1,
mq 11 50,
mq 12 51] [43,44,45,46,47,48,49,50,51])
(.seq (sr [
mq 52 12,
tq 53 (.un .not (.t 52))] [12,52]
(.cond (.t 53) (sr [
lq 55 11 7,
mq 56 9,
tq 57 (cl zc9 [.t 55,.t 56]),
mq 54 57,
xq 58 54 0,
xq 59 54 1,
mq 11 58] [9,54,55,56,57,58,59]
(.reg true [
mq 60 0,
tq 61 (.nilCheck (.t 60)),
fa 62 2 61,
ld 63 62,
lq 64 2 10,
mq 65 11,
⟨none,none,.mapSet (.rc [false,false]) (.t 63) (.t 64) (.t 65)⟩] [10,60,61,62,63,64,65]))
 .skip))
(sr [
mq 66 11,
tq 67 (.len .slc (.t 66)),
tq 68 (.mv (kq 0))] [11]
(.block 4 (.loop [0,3,5,6,7,18,19,20,36,37,66,67,68] zoa))))))))
(rg [
tq 92 (.bin .add (.t 37) (kq 1)),
mq 37 92] [92]))))
def zoc:C:=
  (sr [
tq 21 (.bin .lss (.t 20) (.t 19))] []
(.seq (.cond (.t 21) .skip
 (.exit 0))
(.seq (.block 1 (sr [
mq 22 20,
tq 23 (.idxAddr 11 (.t 18) (.t 20)),
lq 24 11 23,
tq 7 (.alloc zaj [.z (.str []),.z (.str []),.z (.str []),.z (.int .i64 0),.z (.int .i64 0),.z (.int .i64 0),.z (.int .i64 0),.z (.int .i64 0),.z (.int .i64 0),.z (.int .i64 0),.z (.int .i64 0)]),
mq 6 22,
⟨none,none,.store 11 (.t 7) (.t 24)⟩] [22,23,24]
(.seq (sr [
lq 25 11 7,
lq 26 7 3,
tq 27 (cl zji [.t 25,.t 26]),
tq 28 (.un .not (.t 27))] [25,26,27]
(.cond (.t 28) (.exit 1)
 .skip))
(sr [
fa 29 0 3,
ld 30 29,
tq 31 (.bin .quo (.t 30) (kq 1440)),
tq 32 (.bin .sub (.t 31) (kq 1)),
fa 33 0 3,
ld 34 33,
tq 35 (.bin .quo (.t 34) (kq 1440)),
tq 36 (.build [.z (.int .i64 0),.z (.int .i64 0)] [(0,1,.t 32),(1,1,.t 35)]),
tq 37 (.mv (kq 0))] [29,30,31,32,33,34,35]
(.block 2 (.loop [0,3,5,6,7,18,19,20,36,37] zob))))))
(rg [
tq 93 (.bin .add (.t 20) (kq 1)),
mq 20 93] [93]))))
def zpv:CF:=⟨[.tmp 4],
  (sr [
tq 3 (.box zao (.t 1)),
tq 4 (.ownNil ⟨false,zad,2,16⟩)] [1,4]
(sr [
tq 5 (.ownNil ⟨false,zad,2,16⟩)] []
(.seq (sr [
mq 15 0,
tq 16 (.nilCheck (.t 15)),
fa 17 0 16,
ld 18 17,
tq 19 (.len .slc (.t 18)),
tq 20 (.mv (kq 0))] [15,16,17]
(.block 0 (.loop [0,3,5,18,19,20] zoc)))
(sr [
mq 94 5,
mq 4 94] [5,94]
.ret))))⟩
def zmj:CF:=⟨[.tmp 4],
  (sr [
tq 2 (.box zad (.t 0)),
tq 3 (.box zad (.t 1)),
tq 4 (.mv (kq 0))] [0,1,4]
(.seq (.reg true [
fa 5 0 2,
ld 6 5,
fa 7 0 3,
ld 8 7,
tq 9 (cl zbf [.t 6,.t 8]),
fa 10 1 2,
ld 11 10,
fa 12 1 3,
ld 13 12,
tq 14 (cl zbf [.t 11,.t 13]),
tq 15 (.mkList 1 2 [.t 9,.t 14]),
tq 16 (cl zi1 [.t 15]),
mq 4 16] [2,3,5,6,7,8,9,10,11,12,13,14,15,16])
.ret))⟩
def z3y:C:=
  (sr [
tq 9 (.bin .lss (.t 8) (.t 7))] []
(.seq (.cond (.t 9) .skip
 (.exit 0))
(.seq (.block 1 (sr [
tq 10 (.idxAddr 1 (.t 6) (.t 8)),
ld 11 10,
mq 5 11] [10,11]
(sr [
mq 12 5,
mq 13 3,
tq 14 (.bin .neq (.t 12) (.t 13))] [12,13]
(.cond (.t 14) (sr [
mq 15 5,
mq 2 15] [5,15]
.ret)
 .skip))))
(rg [
tq 16 (.bin .add (.t 8) (kq 1)),
mq 8 16] [16]))))
def z84:CF:=⟨[.tmp 2],
  (sr [
tq 2 (.mv (kq 0))] [2]
(sr [
tq 3 (.mv (kq 0))] []
(.seq (sr [
mq 6 0,
tq 7 (.len .slc (.t 6)),
tq 8 (.mv (kq 0))] [0]
(.block 0 (.loop [3,6,7,8] z3y)))
(sr [
mq 17 3,
mq 2 17] [3,17]
.ret))))⟩
def zxy:CF:=⟨[.tmp 4],
  (sr [
tq 4 (.mv (kq 0))] [4]
(sr [
mq 7 0,
tq 8 (cl zhf [.t 7]),
mq 5 8] [7,8]
(sr [
mq 9 1,
tq 10 (cl zhf [.t 9]),
mq 6 10] [9,10]
(.seq (sr [
mq 11 5] [5]
(.cond (.t 11) (.seq (sr [
mq 12 6] [6]
(.cond (.t 12) (sr [
tq 4 (.mv (kq 0))] []
.ret)
 .skip))
(sr [
tq 4 (.mv (kq (-1)))] []
.ret))
 .skip))
(.seq (sr [
mq 13 6] [6]
(.cond (.t 13) (sr [
tq 4 (.mv (kq 1))] []
.ret)
 .skip))
(.seq (sr [
mq 14 0,
mq 15 1,
tq 16 (.bin .lss (.t 14) (.t 15))] [14,15]
(.cond (.t 16) (sr [
tq 4 (.mv (kq (-1)))] []
.ret)
 .skip))
(.seq (sr [
mq 17 0,
mq 18 1,
tq 19 (.bin .gtr (.t 17) (.t 18))] [0,1,17,18]
(.cond (.t 19) (sr [
tq 4 (.mv (kq 1))] []
.ret)
 .skip))
(sr [
tq 4 (.mv (kq 0))] []
.ret))))))))⟩
def zd5:C:=
  (.seq (sr [
mq 29 5,
mq 30 4,
tq 31 (.len .slc (.t 30)),
tq 32 (.bin .lss (.t 29) (.t 31))] [29,30,31]
(.cond (.t 32) .skip
 (.exit 2)))
(.seq (.block 3 (.seq (.reg true [
mq 35 4,
mq 36 5,
tq 37 (.idxAddr 2 (.t 35) (.t 36)),
lq 38 2 37,
mq 39 4,
mq 40 5,
tq 41 (.bin .sub (.t 40) (kq 1)),
tq 42 (.idxAddr 2 (.t 39) (.t 41)),
lq 43 2 42,
tq 44 (.eqv (some [.int,.int]) true (.t 38) (.t 43))] [35,36,37,38,39,40,41,42,43])
(.cond (.t 44) (sr [
mq 45 0,
mq 46 3,
mq 47 4,
mq 48 5,
tq 49 (.idxAddr 2 (.t 47) (.t 48)),
lq 50 2 49,
tq 51 (.idxAddr 2 (.t 45) (.t 46)),
⟨none,none,.store 2 (.t 51) (.t 50)⟩] [45,46,47,48,49,50,51]
(rg [
mq 52 3,
tq 53 (.bin .add (.t 52) (kq 1)),
mq 3 53] [52,53]))
 .skip)))
(rg [
mq 33 5,
tq 34 (.bin .add (.t 33) (kq 1)),
mq 5 34] [33,34])))
def zd6:C:=
  (.seq (sr [
mq 10 3,
mq 11 0,
tq 12 (.len .slc (.t 11)),
tq 13 (.bin .lss (.t 10) (.t 12))] [10,11,12]
(.cond (.t 13) .skip
 (.exit 0)))
(.seq (.block 1 (.seq (.reg true [
mq 16 0,
mq 17 3,
tq 18 (.idxAddr 2 (.t 16) (.t 17)),
lq 19 2 18,
mq 20 0,
mq 21 3,
tq 22 (.bin .sub (.t 21) (kq 1)),
tq 23 (.idxAddr 2 (.t 20) (.t 22)),
lq 24 2 23,
tq 25 (.eqv (some [.int,.int]) false (.t 19) (.t 24))] [16,17,18,19,20,21,22,23,24])
(.cond (.t 25) (sr [
mq 26 0,
mq 27 3,
tq 28 (.slice 2 (.t 26) (some (.t 27)) none none),
mq 4 28] [26,27,28]
(.seq (sr [
tq 5 (.mv (kq 1))] []
(.block 2 (.loop [0,3,4,5] zd5)))
(sr [
mq 54 0,
mq 55 3,
tq 56 (.slice 2 (.t 54) (some (.t 55)) none none),
⟨none,none,.clear [.int .i64 0,.int .i64 0] (.t 56)⟩] [54,55,56]
(sr [
mq 57 0,
mq 58 3,
tq 59 (.slice 2 (.t 57) none (some (.t 58)) none),
mq 2 59] [0,3,57,58,59]
.ret))))
 .skip)))
(rg [
mq 14 3,
tq 15 (.bin .add (.t 14) (kq 1)),
mq 3 15] [14,15])))
def zeo:CF:=⟨[.tmp 2],
  (sr [
tq 2 (.ownNil ⟨true,zad,2,16⟩)] [2]
(.seq (sr [
mq 6 0,
tq 7 (.len .slc (.t 6)),
tq 8 (.bin .lss (.t 7) (kq 2))] [6,7]
(.cond (.t 8) (sr [
mq 9 0,
mq 2 9] [0,9]
.ret)
 .skip))
(.seq (sr [
tq 3 (.mv (kq 1))] []
(.block 0 (.loop [0,3] zd6)))
(sr [
mq 60 0,
mq 2 60] [0,60]
.ret))))⟩
def zt0:C:=
  (sr [
tq 10 (.bin .lss (.t 9) (.t 8))] []
(.seq (.cond (.t 10) .skip
 (.exit 0))
(.seq (.block 1 (sr [
mq 11 9,
tq 12 (.idxAddr 18 (.t 7) (.t 9)),
lq 13 18 12,
tq 5 (.alloc zau [.z (.str []),.z (.str []),.z (.str []),.z (.str []),.z (.str []),.z (.str []),.z (.int .i64 0),.z (.int .i64 0),.z (.int .i64 0),.z (.int .i64 0),.z (.int .i64 0),.z (.int .i64 0),.z (.int .i64 0),.z (.int .i64 0),.z (.int .i64 0),.z (.int .i64 0),.z (.int .i64 0),.z (.int .i64 0)]),
mq 4 11,
⟨none,none,.store 18 (.t 5) (.t 13)⟩] [11,12,13]
(rg [
ld 14 3,
fa 15 0 5,
fa 16 0 15,
ld 17 16,
mq 18 4,
⟨none,none,.mapSet .str (.t 14) (.t 17) (.t 18)⟩] [4,5,14,15,16,17,18])))
(rg [
tq 19 (.bin .add (.t 9) (kq 1)),
mq 9 19] [19]))))
def zxo:CF:=⟨[.tmp 2],
  (sr [
tq 2 (.mv (.k (.d (.list 0 []))))] [2]
(sr [
tq 6 (.mkMap),
tq 3 (.alloc zkm [.z (.nilm)]),
⟨none,none,.store 1 (.t 3) (.t 6)⟩] [6]
(.seq (sr [
mq 7 0,
tq 8 (.len .slc (.t 7)),
tq 9 (.mv (kq 0))] []
(.block 0 (.loop [0,3,7,8,9] zt0)))
(sr [
mq 20 0,
tq 21 (.mkFunc zf3 [] [.t 3]),
tq 22 (.call true true (.k (.fn zcq [] [])) [.t 20,.t 21]),
mq 2 22] [0,3,20,21,22]
.ret))))⟩
def zs5:C:=
  (sr [
tq 8 (.bin .lss (.t 7) (.t 6))] []
(.seq (.cond (.t 8) .skip
 (.exit 0))
(.seq (.block 1 (sr [
mq 9 7,
tq 10 (.idxAddr 1 (.t 5) (.t 7)),
ld 11 10,
mq 3 9,
mq 4 11] [9,10,11]
(sr [
mq 12 4,
tq 13 (.bin .lss (.t 12) (kq 0)),
mq 14 13,
gq 15 14 false (.mv (.t 3)),
gq 16 14 false (.mv (.t 4)),
gq 17 14 false (.bin .lss (.t 15) (.t 16)),
tq 18 (.pick (.t 14) (.k (.d (.bool true))) (.t 17)),
mq 19 18,
gq 20 19 true (.mv (.t 0)),
gq 21 19 true (.mv (.t 3)),
gq 22 19 true (.mv (.t 4)),
gq 23 19 true (.build [.z (.int .i64 0),.z (.int .i64 0)] [(0,1,.t 21),(1,1,.t 22)]),
gq 24 19 true (.call true true (.t 20) [.t 23]),
gq 25 19 true (.un .not (.t 24)),
tq 26 (.pick (.t 19) (.t 25) (.k (.d (.bool false))))] [3,4,12,13,14,15,16,17,18,19,20,21,22,23,24,25]
(.cond (.t 26) .ret
 .skip))))
(rg [
tq 27 (.bin .add (.t 7) (kq 1)),
mq 7 27] [27]))))
def zvq:CF:=⟨[],
  (sr [
ld 5 1,
tq 6 (.len .slc (.t 5)),
tq 7 (.mv (kq 0))] [1]
(.block 0 (.loop [0,5,6,7] zs5)))⟩
def zhb:C:=
  (sr [
tq 11 (.bin .lss (.t 10) (.t 9))] []
(.seq (.cond (.t 11) .skip
 (.exit 0))
(.seq (.block 1 (sr [
tq 12 (.idxAddr 1 (.t 8) (.t 10)),
ld 13 12,
mq 7 13] [12,13]
(rg [
mq 14 5,
mq 15 1,
mq 16 7,
tq 17 (.call true true (.t 15) [.t 16]),
tq 18 (.mkList 2 1 [.t 17]),
tq 19 (.append ⟨true,zak,2,16⟩ (.t 14) (.t 18)),
mq 5 19] [7,14,15,16,17,18,19])))
(rg [
tq 20 (.bin .add (.t 10) (kq 1)),
mq 10 20] [20]))))
def zh1:CF:=⟨[.tmp 4],
  (sr [
tq 4 (.ownNil ⟨true,zak,2,16⟩)] [4]
(sr [
tq 5 (.ownNil ⟨true,zak,2,16⟩)] []
(.seq (sr [
mq 8 0,
tq 9 (.len .slc (.t 8)),
tq 10 (.mv (kq 0))] [0]
(.block 0 (.loop [1,5,8,9,10] zhb)))
(sr [
mq 21 5,
mq 4 21] [5,21]
.ret))))⟩
def zlq:C:=
  (sr [
tq 26 (.bin .lss (.t 25) (.t 24))] []
(.seq (.cond (.t 26) .skip
 (.exit 0))
(.seq (.block 1 (sr [
mq 27 25,
mq 5 27] [27]
(.reg true [
mq 28 4,
ld 29 3,
ld 30 3,
fa 31 13 1,
ld 32 31,
tq 33 (.bin .sub (.t 30) (.t 32)),
fa 34 15 1,
ld 35 34,
tq 36 (.bin .quo (.t 33) (.t 35)),
fa 37 15 1,
ld 38 37,
tq 39 (.bin .mul (.t 36) (.t 38)),
tq 40 (.bin .sub (.t 29) (.t 39)),
mq 41 5,
fa 42 15 1,
ld 43 42,
tq 44 (.bin .mul (.t 41) (.t 43)),
tq 45 (.bin .add (.t 40) (.t 44)),
tq 46 (.mkList 1 1 [.t 45]),
tq 47 (.append ⟨true,zbs,1,8⟩ (.t 28) (.t 46)),
mq 4 47] [5,28,29,30,31,32,33,34,35,36,37,38,39,40,41,42,43,44,45,46,47])))
(rg [
tq 48 (.bin .add (.t 25) (kq 1)),
mq 25 48] [48]))))
def znd:CF:=⟨[.tmp 2],
  (sr [
tq 1 (.box zau (.t 0)),
tq 2 (.ownNil ⟨true,zbs,1,8⟩)] [0,2]
(sr [
fa 6 0 1,
fa 7 9 6,
ld 8 7,
tq 3 (.alloc zbs [.z (.int .i64 0)]),
⟨none,none,.store 1 (.t 3) (.t 8)⟩] [6,7,8]
(sr [
tq 4 (.ownNil ⟨true,zbs,1,8⟩)] []
(.seq (.seq (.reg true [
ld 9 3,
fa 10 13 1,
ld 11 10,
tq 12 (.bin .sub (.t 9) (.t 11)),
fa 13 15 1,
ld 14 13,
tq 15 (.bin .quo (.t 12) (.t 14)),
fa 16 14 1,
ld 17 16,
ld 18 3,
tq 19 (.bin .sub (.t 17) (.t 18)),
fa 20 15 1,
ld 21 20,
tq 22 (.bin .quo (.t 19) (.t 21)),
tq 23 (.bin .add (.t 15) (.t 22)),
tq 24 (.bin .add (.t 23) (kq 1)),
tq 25 (.mv (kq 0))] [9,10,11,12,13,14,15,16,17,18,19,20,21,22,23])
(.block 0 (.loop [1,3,4,24,25] zlq)))
(sr [
mq 49 4,
tq 50 (.mkFunc zdv [] [.t 3]),
tq 51 (.call true true (.k (.fn zcf [] [])) [.t 49,.t 50])] [3,49,50,51]
(sr [
mq 52 4,
mq 2 52] [4,52]
.ret))))))⟩
def zoj:CF:=⟨[.cell 2 (some 2)],
  (sr [
tq 2 (.alloc zak [.z (.int .i64 0),.z (.int .i64 0)])] []
(sr [
mq 3 0,
tq 4 (.build [.z (.int .i64 0),.z (.int .i64 0)] [(0,1,.t 3),(1,1,kq (-1))]),
⟨none,none,.store 2 (.t 2) (.t 4)⟩] [0,3,4]
.ret))⟩
def zok:CF:=⟨[.tmp 4],
  (sr [
tq 3 (.box zak (.t 0)),
tq 4 (.mv (kq 0))] [0,4]
(.seq (.reg true [
tq 5 (.idxAddrA 2 1 (.t 3) (kq 0)),
ld 6 5,
ld 7 1,
tq 8 (.idxAddrA 2 1 (.t 2) (kq 0)),
ld 9 8,
tq 10 (.idxAddr 18 (.t 7) (.t 9)),
fa 11 0 10,
fa 12 9 11,
ld 13 12,
tq 14 (.bin .sub (.t 6) (.t 13)),
tq 15 (cl ze6 [.t 14]),
tq 16 (.idxAddrA 2 1 (.t 3) (kq 1)),
ld 17 16,
ld 18 1,
tq 19 (.idxAddrA 2 1 (.t 2) (kq 1)),
ld 20 19,
tq 21 (.idxAddr 18 (.t 18) (.t 20)),
fa 22 0 21,
fa 23 9 22,
ld 24 23,
tq 25 (.bin .sub (.t 17) (.t 24)),
tq 26 (cl ze6 [.t 25]),
tq 27 (.bin .add (.t 15) (.t 26)),
mq 4 27] [1,2,3,5,6,7,8,9,10,11,12,13,14,15,16,17,18,19,20,21,22,23,24,25,26,27])
.ret))⟩
def z3z:CF:=⟨[.tmp 2],
  (sr [
tq 2 (.mv (kq 0))] [2]
(sr [
mq 3 0,
mq 4 0,
tq 5 (.un .neg (.t 4)),
tq 6 (.minmax true [.t 3,.t 5]),
mq 2 6] [0,3,4,5,6]
.ret))⟩
def zpy:CF:=⟨[.tmp 6],
  (sr [
tq 3 (.box zba (.t 0)),
tq 5 (.box zak (.t 2)),
tq 6 (.mv (.k (.d (.bool false))))] [0,2,6]
(.seq (sr [
tq 10 (.idxAddrA 2 1 (.t 3) (kq 1)),
ld 11 10,
tq 12 (.bin .lss (.t 11) (kq 0))] [10,11]
(.cond (.t 12) (sr [
tq 6 (.mv (.k (.d (.bool true))))] []
.ret)
 .skip))
(sr [
tq 7 (.mv (kq 0))] []
(.seq (sr [
mq 13 1,
tq 14 (.idxAddrA 2 1 (.t 3) (kq 0)),
ld 15 14,
tq 16 (.idxAddr 18 (.t 13) (.t 15)),
fa 17 0 16,
fa 18 2 17,
ld 19 18,
tq 20 (.bin .eql (.t 19) (.k (.d (.str [68]))))] [13,14,15,16,17,18,19]
(.cond (.t 20) (rg [
tq 7 (.mv (kq 1))] [])
 .skip))
(.seq (.reg true [
mq 21 7,
tq 22 (.bin .sub (kq 1) (.t 21)),
tq 23 (.idxAddrA 2 1 (.t 5) (.t 22)),
ld 24 23,
mq 25 7,
tq 26 (.idxAddrA 2 1 (.t 5) (.t 25)),
ld 27 26,
tq 28 (.bin .sub (.t 24) (.t 27)),
mq 8 28] [5,21,22,23,24,25,26,27,28])
(sr [
mq 29 1,
mq 30 7,
tq 31 (.idxAddrA 2 1 (.t 3) (.t 30)),
ld 32 31,
tq 33 (.idxAddr 18 (.t 29) (.t 32)),
lq 34 18 33,
tq 9 (.alloc zau [.z (.str []),.z (.str []),.z (.str []),.z (.str []),.z (.str []),.z (.str []),.z (.int .i64 0),.z (.int .i64 0),.z (.int .i64 0),.z (.int .i64 0),.z (.int .i64 0),.z (.int .i64 0),.z (.int .i64 0),.z (.int .i64 0),.z (.int .i64 0),.z (.int .i64 0),.z (.int .i64 0),.z (.int .i64 0)]),
⟨none,none,.store 18 (.t 9) (.t 34)⟩] [1,3,7,29,30,31,32,33,34]
(sr [
mq 35 8,
fa 36 16 9,
ld 37 36,
tq 38 (.bin .geq (.t 35) (.t 37)),
mq 39 38,
gq 40 39 true (.mv (.t 8)),
gq 41 39 true (.fieldAddr 17 (.t 9)),
gq 42 39 true (.load none (.t 41)),
gq 43 39 true (.bin .leq (.t 40) (.t 42)),
tq 44 (.pick (.t 39) (.t 43) (.k (.d (.bool false)))),
mq 6 44] [8,9,35,36,37,38,39,40,41,42,43,44]
.ret)))))))⟩
def zdl:CF:=⟨[],
  (rg [
mq 4 0,
mq 5 0,
tq 6 (.len .slc (.t 5)),
mq 7 1,
tq 8 (.call true true (.k (.fn zdo [] [])) [.t 4,.t 6,.t 7])] [0,1,4,5,6,7,8])⟩
def zol:CF:=⟨[.tmp 5],
  (sr [
tq 3 (.box zak (.t 0)),
tq 4 (.box zak (.t 1)),
tq 5 (.mv (kq 0))] [0,1,5]
(.seq (.reg true [
ld 6 2,
lq 7 2 3,
tq 8 (.callR true (.t 6) [.t 7] [2,4]),
ld 9 2,
lq 10 2 4,
tq 11 (.call true true (.t 9) [.t 10]),
tq 12 (cl zbf [.t 8,.t 11]),
mq 5 12] [2,3,4,6,7,8,9,10,11,12])
.ret))⟩
def zpw:CF:=⟨[.tmp 2],
  (sr [
tq 1 (.box zba (.t 0)),
tq 2 (.mv (.k (.d (.nilf))))] [0,2]
(sr [
tq 3 (.mkFunc zbz [] [.t 1]),
mq 2 3] [1,3]
.ret))⟩
def zvm:CF:=⟨[.tmp 4],
  (sr [
tq 2 (.box zau (.t 0)),
tq 4 (.mv (.k (.d (.list 0 []))))] [0,4]
(sr [
fa 8 0 2,
lq 9 13 8,
tq 5 (.alloc zag [.z (.str []),.z (.str []),.z (.str []),.z (.str []),.z (.str []),.z (.str []),.z (.int .i64 0),.z (.int .i64 0),.z (.int .i64 0),.z (.int .i64 0),.z (.int .i64 0),.z (.int .i64 0),.z (.int .i64 0)]),
⟨none,none,.store 13 (.t 5) (.t 9)⟩] [2,8,9]
(sr [
mq 10 1,
fa 11 9 5,
⟨none,none,.store 1 (.t 11) (.t 10)⟩] [1,10,11]
(sr [
lq 13 13 5,
tq 14 (cl zfc [.t 13]),
mq 12 14,
xq 15 12 0,
xq 16 12 1,
mq 6 15,
mq 7 16] [5,7,12,13,14,15,16]
(sr [
mq 17 6,
mq 4 17] [6,17]
.ret)))))⟩
def z1j:CF:=⟨[.tmp 2],
  (sr [
tq 2 (.mv (kq 0))] [2]
(sr [
mq 3 0,
tq 4 (cl zb0 [.t 3]),
tq 5 (.un .not (.t 4)),
tq 6 (cl zav [.t 5,kq 8]),
mq 2 6] [0,3,4,5,6]
.ret))⟩
def zs7:C:=
  (sr [
tq 21 (.nextS (.t 20)),
xq 22 21 0] []
(.seq (.cond (.t 22) .skip
 (.exit 0))
(.block 1 (sr [
xq 23 21 2,
mq 4 23] [21,23]
(sr [
mq 24 4,
tq 25 (.bin .lss (.t 24) (.k (.d (.int .i32 48)))),
mq 26 25,
gq 27 26 false (.mv (.t 4)),
gq 28 26 false (.bin .gtr (.t 27) (.k (.d (.int .i32 57)))),
tq 29 (.pick (.t 26) (.k (.d (.bool true))) (.t 28))] [4,24,25,26,27,28]
(.cond (.t 29) (sr [
tq 2 (.mv (.k (.d (.bool false))))] []
.ret)
 .skip))))))
def zvy:CF:=⟨[.tmp 2],
  (sr [
tq 2 (.mv (.k (.d (.bool false))))] [2]
(.seq (sr [
mq 5 0,
tq 6 (.len .str (.t 5)),
tq 7 (.bin .neq (.t 6) (kq 5)),
mq 8 7,
gq 9 8 false (.mv (.t 0)),
gq 10 8 false (.idxS (.t 9) (kq 0)),
gq 11 8 false (.bin .neq (.t 10) (.k (.d (.int .u8 83)))),
gq 12 8 false (.mv (.t 11)),
gq 13 12 true (.mv (.t 0)),
gq 14 12 true (.idxS (.t 13) (kq 0)),
gq 15 12 true (.bin .neq (.t 14) (.k (.d (.int .u8 87)))),
gq 16 8 false (.pick (.t 12) (.t 15) (.k (.d (.bool false)))),
tq 17 (.pick (.t 8) (.k (.d (.bool true))) (.t 16))] [5,6,7,8,9,10,11,12,13,14,15,16]
(.cond (.t 17) (sr [
tq 2 (.mv (.k (.d (.bool false))))] []
.ret)
 .skip))
(.seq (sr [
mq 18 0,
tq 19 (.sliceS (.t 18) (some (kq 1)) none),
tq 20 (.rangeS (.t 19))] [0,18,19]
(.block 0 (.loop [20] zs7)))
(sr [
tq 2 (.mv (.k (.d (.bool true))))] []
.ret))))⟩
def zo3:C:=
  (sr [
tq 15 (.bin .lss (.t 14) (.t 13))] []
(.seq (.cond (.t 15) .skip
 (.exit 0))
(.seq (.block 1 (sr [
tq 16 (.idxAddr 3 (.t 12) (.t 14)),
lq 17 3 16,
tq 5 (.alloc zct [.z (.str []),.z (.bool false),.z (.int .i64 0)]),
⟨none,none,.store 3 (.t 5) (.t 17)⟩] [16,17]
(sr [
tq 6 (.mv (kq 0))] []
(.seq (sr [
fa 18 1 5,
ld 19 18] [18]
(.cond (.t 19) (rg [
tq 6 (.mv (kq 1439))] [])
 .skip))
(.seq (.seq (.reg true [
fa 20 0 5,
ld 21 20,
tq 22 (cl zee [.t 21]),
fa 23 2 5,
ld 24 23,
mq 25 6,
tq 26 (cl zcb [.t 24,kq 0,.t 25]),
mq 27 3,
fa 28 0 5,
ld 29 28,
tq 30 (.lookup .str (.bool false) false (.t 27) (.t 29)),
tq 31 (cl zav [.t 30,kq 9]),
tq 32 (.mkList 1 3 [.t 22,.t 26,.t 31]),
tq 33 (cl zax [.t 32]),
mq 7 33] [6,20,21,22,23,24,25,26,27,28,29,30,31,32,33])
(sr [
mq 34 7,
tq 35 (.bin .neq (.t 34) (kq 0))] [34]
(.cond (.t 35) (sr [
mq 36 7,
mq 2 36] [7,36]
.ret)
 .skip)))
(rg [
mq 37 3,
fa 38 0 5,
ld 39 38,
⟨none,none,.mapSet .str (.t 37) (.t 39) (.k (.d (.bool true)))⟩] [5,37,38,39]))))))
(rg [
tq 40 (.bin .add (.t 14) (kq 1)),
mq 14 40] [40]))))
def zq7:CF:=⟨[.tmp 2],
  (sr [
tq 2 (.mv (kq 0))] [2]
(.seq (sr [
mq 8 0,
tq 9 (.len .slc (.t 8)),
tq 10 (.bin .gtr (.t 9) (kq 64))] [8,9]
(.cond (.t 10) (sr [
tq 2 (.mv (kq 5))] []
.ret)
 .skip))
(sr [
tq 11 (.mkMap),
mq 3 11] [11]
(.seq (sr [
mq 12 0,
tq 13 (.len .slc (.t 12)),
tq 14 (.mv (kq 0))] [0]
(.block 0 (.loop [3,12,13,14] zo3)))
(sr [
tq 2 (.mv (kq 0))] []
.ret)))))⟩
def zq6:CF:=⟨[.tmp 2],
  (sr [
tq 1 (.box zag (.t 0)),
tq 2 (.mv (kq 0))] [0,2]
(.seq (.reg true [
fa 3 0 1,
ld 4 3,
tq 5 (cl zee [.t 4]),
fa 6 1 1,
ld 7 6,
tq 8 (cl zee [.t 7]),
fa 9 4 1,
ld 10 9,
tq 11 (cl zee [.t 10]),
fa 12 3 1,
ld 13 12,
tq 14 (cl zgz [.t 13]),
fa 15 5 1,
ld 16 15,
tq 17 (cl zgz [.t 16]),
fa 18 2 1,
ld 19 18,
tq 20 (cl zlc [.t 19]),
tq 21 (.un .not (.t 20)),
tq 22 (cl zav [.t 21,kq 13]),
fa 23 5 1,
ld 24 23,
fa 25 0 1,
ld 26 25,
tq 27 (.bin .eql (.t 24) (.t 26)),
tq 28 (cl zav [.t 27,kq 32]),
fa 29 6 1,
lq 30 3 29,
tq 31 (cl zb3 [.t 30]),
fa 32 9 1,
ld 33 32,
tq 34 (cl zcb [.t 33,kq 0,kq 1439]),
fa 35 10 1,
ld 36 35,
tq 37 (cl zcb [.t 36,kq 0,kq 999]),
fa 38 11 1,
ld 39 38,
tq 40 (cl zcb [.t 39,kq 1,kq 9]),
fa 41 12 1,
ld 42 41,
tq 43 (cl zcb [.t 42,kq 0,kq 99]),
tq 44 (.mkList 1 12 [.t 5,.t 8,.t 11,.t 14,.t 17,.t 22,.t 28,.t 31,.t 34,.t 37,.t 40,.t 43]),
tq 45 (cl zax [.t 44]),
mq 2 45] [1,3,4,5,6,7,8,9,10,11,12,13,14,15,16,17,18,19,20,21,22,23,24,25,26,27,28,29,30,31,32,33,34,35,36,37,38,39,40,41,42,43,44,45])
.ret))⟩
def zuk:CF:=⟨[.tmp 2],
  (sr [
tq 2 (.mv (.k (.d (.bool false))))] [2]
(sr [
mq 3 0,
tq 4 (.bin .eql (.t 3) (.k (.d (.str [82,69,81])))),
mq 5 4,
gq 6 5 false (.mv (.t 0)),
gq 7 5 false (.bin .eql (.t 6) (.k (.d (.str [65,78,83])))),
tq 8 (.pick (.t 5) (.k (.d (.bool true))) (.t 7)),
mq 2 8] [0,3,4,5,6,7,8]
.ret))⟩
def zej:C:=
  (sr [
tq 15 (.bin .lss (.t 14) (.t 13))] []
(.seq (.cond (.t 15) .skip
 (.exit 0))
(.seq (.block 1 (sr [
mq 16 14,
tq 17 (.idxAddr 14 (.t 12) (.t 14)),
lq 18 14 17,
tq 7 (.alloc zac [.z (.str []),.z (.str []),.z (.str []),.z (.str []),.z (.str []),.z (.str []),.z (.str []),.z (.int .i64 0),.z (.int .i64 0),.z (.int .i64 0),.z (.int .i64 0),.z (.int .i64 0),.z (.int .i64 0),.z (.int .i64 0)]),
mq 6 16,
⟨none,none,.store 14 (.t 7) (.t 18)⟩] [16,17,18]
(sr [
mq 19 6,
tq 20 (.bin .gtr (.t 19) (kq 0)),
mq 21 20,
gq 22 21 true (.mv (.t 1)),
gq 23 21 true (.mv (.t 6)),
gq 24 21 true (.bin .sub (.t 23) (kq 1)),
gq 25 21 true (.idxAddr 14 (.t 22) (.t 24)),
gq 26 21 true (.fieldAddr 0 (.t 25)),
gq 27 21 true (.load none (.t 26)),
gq 28 21 true (.bin .eql (.t 27) (.k (.d (.str [67])))),
tq 29 (.pick (.t 21) (.t 28) (.k (.d (.bool false)))),
mq 8 29] [19,20,21,22,23,24,25,26,27,28,29]
(.seq (.reg true [
mq 30 8,
mq 31 30,
gq 32 31 true (.fieldAddr 0 (.t 7)),
gq 33 31 true (.load none (.t 32)),
gq 34 31 true (.bin .eql (.t 33) (.k (.d (.str [82])))),
tq 35 (.pick (.t 31) (.t 34) (.k (.d (.bool false)))),
mq 36 35,
gq 37 36 true (.mv (.t 1)),
gq 38 36 true (.mv (.t 6)),
gq 39 36 true (.bin .sub (.t 38) (kq 1)),
gq 40 36 true (.idxAddr 14 (.t 37) (.t 39)),
gq 41 36 true (.fieldAddr 1 (.t 40)),
gq 42 36 true (.load (some 13) (.t 41)),
gq 43 36 true (.fieldAddr 1 (.t 7)),
gq 44 36 true (.load (some 13) (.t 43)),
gq 45 36 true (cl zjp [.t 42,.t 44]),
tq 46 (.pick (.t 36) (.t 45) (.k (.d (.bool false)))),
mq 9 46] [30,31,32,33,34,35,36,37,38,39,40,41,42,43,44,45,46])
(.seq (.reg true [
lq 47 14 7,
tq 48 (cl zir [.t 47]),
tq 49 (.call false false (.k (.fn zd3 [] [])) []),
fa 50 0 7,
ld 51 50,
tq 52 (.lookup .str (.str []) false (.t 49) (.t 51)),
mq 53 0,
tq 54 (.bin .neq (.t 52) (.t 53)),
tq 55 (cl zav [.t 54,kq 18]),
mq 56 8,
mq 57 56,
gq 58 57 false (.fieldAddr 0 (.t 7)),
gq 59 57 false (.load none (.t 58)),
gq 60 57 false (.bin .eql (.t 59) (.k (.d (.str [82])))),
tq 61 (.pick (.t 57) (.k (.d (.bool true))) (.t 60)),
mq 62 61,
gq 63 62 true (.mv (.t 9)),
gq 64 62 true (.un .not (.t 63)),
tq 65 (.pick (.t 62) (.t 64) (.k (.d (.bool false)))),
tq 66 (cl zav [.t 65,kq 11]),
tq 67 (.mkList 1 3 [.t 48,.t 55,.t 66]),
tq 68 (cl zax [.t 67]),
mq 10 68] [7,8,9,47,48,49,50,51,52,53,54,55,56,57,58,59,60,61,62,63,64,65,66,67,68])
(sr [
mq 69 10,
tq 70 (.bin .neq (.t 69) (kq 0))] [69]
(.cond (.t 70) (sr [
mq 71 6,
mq 72 10,
mq 4 71,
mq 5 72] [6,10,71,72]
.ret)
 .skip)))))))
(rg [
tq 73 (.bin .add (.t 14) (kq 1)),
mq 14 73] [73]))))
def ztg:CF:=⟨[.tmp 4,.tmp 5],
  (sr [
tq 4 (.mv (kq 0)),
tq 5 (.mv (kq 0))] [4,5]
(.seq (sr [
mq 12 1,
tq 13 (.len .slc (.t 12)),
tq 14 (.mv (kq 0))] []
(.block 0 (.loop [0,1,12,13,14] zej)))
(.seq (sr [
mq 74 1,
tq 75 (.len .slc (.t 74)),
mq 11 75] [74,75]
(sr [
mq 76 11,
tq 77 (.bin .gtr (.t 76) (kq 0)),
mq 78 77,
gq 79 78 true (.mv (.t 1)),
gq 80 78 true (.mv (.t 11)),
gq 81 78 true (.bin .sub (.t 80) (kq 1)),
gq 82 78 true (.idxAddr 14 (.t 79) (.t 81)),
gq 83 78 true (.fieldAddr 0 (.t 82)),
gq 84 78 true (.load none (.t 83)),
gq 85 78 true (.bin .eql (.t 84) (.k (.d (.str [67])))),
tq 86 (.pick (.t 78) (.t 85) (.k (.d (.bool false))))] [1,76,77,78,79,80,81,82,83,84,85]
(.cond (.t 86) (sr [
mq 87 11,
tq 88 (.bin .sub (.t 87) (kq 1)),
mq 4 88,
tq 5 (.mv (kq 11))] [11,87,88]
.ret)
 .skip)))
(sr [
tq 4 (.mv (kq 0)),
tq 5 (.mv (kq 0))] []
.ret))))⟩
def z32:CF:=⟨[.tmp 4],
  (sr [
tq 3 (.box zbl (.t 1)),
tq 4 (.mv (kq 0))] [1,4]
(sr [
mq 5 0,
tq 6 (.mkFunc za9 [] [.t 3]),
tq 7 (.call true true (.k (.fn zaq [] [])) [.t 5,.t 6]),
mq 4 7] [0,3,5,6,7]
.ret))⟩
def zun:CF:=⟨[.tmp 2],
  (sr [
tq 1 (.box zbp (.t 0)),
tq 2 (.mv (kq 0))] [0,2]
(.seq (sr [
fa 3 0 1,
ld 4 3,
tq 5 (cl zih [.t 4]),
tq 6 (.bin .neq (.t 5) (kq 0)),
mq 7 6,
gq 8 7 false (.fieldAddr 1 (.t 1)),
gq 9 7 false (.load none (.t 8)),
gq 10 7 false (cl zih [.t 9]),
gq 11 7 false (.bin .neq (.t 10) (kq 0)),
tq 12 (.pick (.t 7) (.k (.d (.bool true))) (.t 11))] [3,4,5,6,7,8,9,10,11]
(.cond (.t 12) (sr [
tq 2 (.mv (kq 3))] []
.ret)
 .skip))
(.seq (sr [
fa 13 1 1,
ld 14 13,
fa 15 0 1,
ld 16 15,
tq 17 (.bin .lss (.t 14) (.t 16))] [13,14,15,16]
(.cond (.t 17) (sr [
tq 2 (.mv (kq 11))] []
.ret)
 .skip))
(.seq (sr [
fa 18 1 1,
ld 19 18,
fa 20 0 1,
ld 21 20,
tq 22 (.bin .sub (.t 19) (.t 21)),
tq 23 (.bin .gtr (.t 22) (kq 400))] [18,19,20,21,22]
(.cond (.t 23) (sr [
tq 2 (.mv (kq 4))] []
.ret)
 .skip))
(sr [
fa 24 2 1,
ld 25 24,
tq 26 (cl zcj [.t 25,kq 1,kq 127]),
mq 2 26] [1,24,25,26]
.ret)))))⟩
def zzb:C:=
  (.seq (sr [
mq 14 3,
mq 15 0,
tq 16 (.len .str (.t 15)),
tq 17 (.bin .lss (.t 14) (.t 16))] [14,15,16]
(.cond (.t 17) .skip
 (.exit 0)))
(.seq (.block 1 (sr [
mq 20 0,
mq 21 3,
tq 22 (.idxS (.t 20) (.t 21)),
mq 4 22] [20,21,22]
(sr [
mq 23 4,
tq 24 (.bin .geq (.t 23) (.k (.d (.int .u8 97)))),
mq 25 24,
gq 26 25 true (.mv (.t 4)),
gq 27 25 true (.bin .leq (.t 26) (.k (.d (.int .u8 122)))),
tq 28 (.pick (.t 25) (.t 27) (.k (.d (.bool false)))),
mq 29 28,
gq 30 29 false (.mv (.t 4)),
gq 31 29 false (.bin .geq (.t 30) (.k (.d (.int .u8 65)))),
gq 32 29 false (.mv (.t 31)),
gq 33 32 true (.mv (.t 4)),
gq 34 32 true (.bin .leq (.t 33) (.k (.d (.int .u8 90)))),
gq 35 29 false (.pick (.t 32) (.t 34) (.k (.d (.bool false)))),
tq 36 (.pick (.t 29) (.k (.d (.bool true))) (.t 35)),
mq 5 36] [23,24,25,26,27,28,29,30,31,32,33,34,35,36]
(sr [
mq 37 5,
tq 38 (.un .not (.t 37)),
mq 39 38,
gq 40 39 true (.mv (.t 3)),
gq 41 39 true (.bin .eql (.t 40) (kq 0)),
gq 42 39 true (.mv (.t 41)),
gq 43 42 false (.mv (.t 4)),
gq 44 42 false (.bin .neq (.t 43) (.k (.d (.int .u8 95)))),
gq 45 42 false (.mv (.t 44)),
gq 46 45 true (.mv (.t 4)),
gq 47 45 true (.bin .lss (.t 46) (.k (.d (.int .u8 48)))),
gq 48 45 true (.mv (.t 47)),
gq 49 48 false (.mv (.t 4)),
gq 50 48 false (.bin .gtr (.t 49) (.k (.d (.int .u8 57)))),
gq 51 45 true (.pick (.t 48) (.k (.d (.bool true))) (.t 50)),
gq 52 42 false (.pick (.t 45) (.t 51) (.k (.d (.bool false)))),
gq 53 39 true (.pick (.t 42) (.k (.d (.bool true))) (.t 52)),
tq 54 (.pick (.t 39) (.t 53) (.k (.d (.bool false))))] [4,5,37,38,39,40,41,42,43,44,45,46,47,48,49,50,51,52,53]
(.cond (.t 54) (sr [
tq 2 (.mv (.k (.d (.bool false))))] []
.ret)
 .skip)))))
(rg [
mq 18 3,
tq 19 (.bin .add (.t 18) (kq 1)),
mq 3 19] [18,19])))
def z4b:CF:=⟨[.tmp 2],
  (sr [
tq 2 (.mv (.k (.d (.bool false))))] [2]
(.seq (sr [
mq 6 0,
tq 7 (.len .str (.t 6)),
tq 8 (.bin .eql (.t 7) (kq 0)),
mq 9 8,
gq 10 9 false (.mv (.t 0)),
gq 11 9 false (.len .str (.t 10)),
gq 12 9 false (.bin .gtr (.t 11) (kq 24)),
tq 13 (.pick (.t 9) (.k (.d (.bool true))) (.t 12))] [6,7,8,9,10,11,12]
(.cond (.t 13) (sr [
tq 2 (.mv (.k (.d (.bool false))))] []
.ret)
 .skip))
(.seq (sr [
tq 3 (.mv (kq 0))] []
(.block 0 (.loop [0,3] zzb)))
(sr [
tq 2 (.mv (.k (.d (.bool true))))] []
.ret))))⟩
def zwe:CF:=⟨[.tmp 2],
  (sr [
tq 2 (.mv (.k (.d (.bool false))))] [2]
(sr [
mq 3 0,
tq 4 (.bin .eql (.t 3) (.k (.d (.str [])))),
mq 5 4,
gq 6 5 false (.mv (.t 0)),
gq 7 5 false (cl zdy [.t 6]),
tq 8 (.pick (.t 5) (.k (.d (.bool true))) (.t 7)),
mq 2 8] [0,3,4,5,6,7,8]
.ret))⟩
def z1q:CF:=⟨[.tmp 6],
  (sr [
tq 6 (.mv (.k (.d (.bool false))))] [6]
(sr [
mq 7 0,
mq 8 1,
tq 9 (.bin .lss (.t 7) (.t 8)),
mq 10 9,
gq 11 10 false (.mv (.t 0)),
gq 12 10 false (.mv (.t 2)),
gq 13 10 false (.bin .gtr (.t 11) (.t 12)),
tq 14 (.pick (.t 10) (.k (.d (.bool true))) (.t 13)),
mq 6 14] [0,1,2,7,8,9,10,11,12,13,14]
.ret))⟩
def ybx:CF:=⟨[.tmp 4],
  (sr [
tq 2 (.box zbp (.t 0)),
tq 4 (.mv (.k (.d (.bool false))))] [0,4]
(.seq (.reg true [
mq 5 1,
fa 6 0 2,
ld 7 6,
tq 8 (.bin .geq (.t 5) (.t 7)),
mq 9 8,
gq 10 9 true (.mv (.t 1)),
gq 11 9 true (.fieldAddr 1 (.t 2)),
gq 12 9 true (.load none (.t 11)),
gq 13 9 true (.bin .leq (.t 10) (.t 12)),
tq 14 (.pick (.t 9) (.t 13) (.k (.d (.bool false)))),
mq 15 14,
gq 16 15 true (.fieldAddr 2 (.t 2)),
gq 17 15 true (.load none (.t 16)),
gq 18 15 true (.mv (.t 1)),
gq 19 15 true (cl zmx [.t 18]),
gq 20 15 true (cl zou [.t 17,.t 19]),
tq 21 (.pick (.t 15) (.t 20) (.k (.d (.bool false)))),
mq 4 21] [1,2,5,6,7,8,9,10,11,12,13,14,15,16,17,18,19,20,21])
.ret))⟩
def zzw:CF:=⟨[.tmp 2],
  (sr [
tq 2 (.mv (.k (.d (.bool false))))] [2]
(sr [
mq 3 0,
tq 4 (.bin .eql (.t 3) (.k (.d (.str [])))),
mq 5 4,
gq 6 5 false (.mv (.t 0)),
gq 7 5 false (cl zdy [.t 6]),
tq 8 (.pick (.t 5) (.k (.d (.bool true))) (.t 7)),
mq 2 8] [0,3,4,5,6,7,8]
.ret))⟩
def z04:C:=
  (.seq (sr [
mq 4 3,
mq 5 0,
tq 6 (.len .slc (.t 5)),
tq 7 (.bin .lss (.t 4) (.t 6))] [4,5,6]
(.cond (.t 7) .skip
 (.exit 0)))
(.seq (.block 1 (sr [
mq 10 0,
mq 11 3,
tq 12 (.idxAddr 1 (.t 10) (.t 11)),
ld 13 12,
tq 14 (.bin .neq (.t 13) (kq 0))] [10,11,12,13]
(.cond (.t 14) (sr [
mq 15 0,
mq 16 3,
tq 17 (.idxAddr 1 (.t 15) (.t 16)),
ld 18 17,
mq 2 18] [0,3,15,16,17,18]
.ret)
 .skip)))
(rg [
mq 8 3,
tq 9 (.bin .add (.t 8) (kq 1)),
mq 3 9] [8,9])))
def z6s:CF:=⟨[.tmp 2],
  (sr [
tq 2 (.mv (kq 0))] [2]
(.seq (sr [
tq 3 (.mv (kq 0))] []
(.block 0 (.loop [0,3] z04)))
(sr [
tq 2 (.mv (kq 0))] []
.ret)))⟩
def zwc:CF:=⟨[.tmp 6],
  (sr [
tq 6 (.mv (kq 0))] [6]
(.seq (sr [
mq 7 0,
mq 8 1,
tq 9 (.bin .lss (.t 7) (.t 8)),
mq 10 9,
gq 11 10 false (.mv (.t 0)),
gq 12 10 false (.mv (.t 2)),
gq 13 10 false (.bin .gtr (.t 11) (.t 12)),
tq 14 (.pick (.t 10) (.k (.d (.bool true))) (.t 13))] [0,1,2,7,8,9,10,11,12,13]
(.cond (.t 14) (sr [
tq 6 (.mv (kq 3))] []
.ret)
 .skip))
(sr [
tq 6 (.mv (kq 0))] []
.ret)))⟩
def zve:C:=
  (sr [
tq 8 (.bin .lss (.t 7) (.t 6))] []
(.seq (.cond (.t 8) .skip
 (.exit 0))
(.seq (.block 1 (sr [
tq 9 (.idxAddr 1 (.t 5) (.t 7)),
ld 10 9,
mq 4 10] [9,10]
(sr [
mq 11 4,
tq 12 (.bin .neq (.t 11) (kq 0))] [11]
(.cond (.t 12) (sr [
mq 13 4,
mq 2 13] [4,13]
.ret)
 .skip))))
(rg [
tq 14 (.bin .add (.t 7) (kq 1)),
mq 7 14] [14]))))
def zzr:CF:=⟨[.tmp 2],
  (sr [
tq 2 (.mv (kq 0))] [2]
(.seq (sr [
mq 5 0,
tq 6 (.len .slc (.t 5)),
tq 7 (.mv (kq 0))] [0]
(.block 0 (.loop [5,6,7] zve)))
(sr [
tq 2 (.mv (kq 0))] []
.ret)))⟩
def zp2:CF:=⟨[.tmp 2],
  (sr [
tq 1 (.box zbq (.t 0)),
tq 2 (.mv (kq 0))] [0,2]
(.seq (.seq (.reg true [
fa 4 0 1,
ld 5 4,
tq 6 (.len .slc (.t 5)),
tq 7 (.bin .eql (.t 6) (kq 0)),
tq 8 (cl zbj [.t 7,kq 12]),
fa 9 0 1,
ld 10 9,
tq 11 (.len .slc (.t 10)),
tq 12 (.bin .gtr (.t 11) (kq 16)),
tq 13 (cl zbj [.t 12,kq 5]),
tq 14 (.mkList 1 2 [.t 8,.t 13]),
tq 15 (cl zbi [.t 14]),
mq 3 15] [4,5,6,7,8,9,10,11,12,13,14,15])
(sr [
mq 16 3,
tq 17 (.bin .neq (.t 16) (kq 0))] [16]
(.cond (.t 17) (sr [
mq 18 3,
mq 2 18] [3,18]
.ret)
 .skip)))
(.seq (.reg true [
fa 19 0 1,
ld 20 19,
tq 21 (cl zfu [.t 20,.k (.fn zqo [] [])]),
lq 22 4 1,
tq 23 (cl zjt [.t 22]),
tq 24 (.mkList 1 2 [.t 21,.t 23]),
tq 25 (cl zbi [.t 24]),
mq 2 25] [1,19,20,21,22,23,24,25])
.ret)))⟩
def zul:CF:=⟨[.tmp 2],
  (sr [
tq 2 (.mv (kq 0))] [2]
(sr [
mq 3 0,
tq 4 (cl zda [.t 3,kq 1,kq 2147483646]),
mq 2 4] [0,3,4]
.ret))⟩
def zq9:CF:=⟨[.tmp 2],
  (sr [
tq 2 (.mv (kq 0))] [2]
(.seq (sr [
mq 3 0,
tq 4 (.len .slc (.t 3)),
tq 5 (.bin .gtr (.t 4) (kq 64))] [3,4]
(.cond (.t 5) (sr [
tq 2 (.mv (kq 5))] []
.ret)
 .skip))
(sr [
mq 6 0,
tq 7 (cl zft [.t 6,.k (.fn zi4 [] [])]),
mq 2 7] [0,6,7]
.ret)))⟩
def zxk:C:=
  (sr [
tq 30 (.bin .lss (.t 29) (.t 28))] []
(.seq (.cond (.t 30) .skip
 (.exit 0))
(.seq (.block 1 (sr [
mq 31 29,
tq 32 (.idxAddr 1 (.t 27) (.t 29)),
ld 33 32,
mq 9 31,
mq 10 33] [31,32,33]
(rg [
mq 34 8,
mq 35 10,
mq 36 6,
mq 37 9,
tq 38 (.idxAddr 1 (.t 36) (.t 37)),
ld 39 38,
tq 40 (.idxAddr 1 (.t 34) (.t 35)),
⟨none,none,.store 1 (.t 40) (.t 39)⟩] [9,10,34,35,36,37,38,39,40])))
(rg [
tq 41 (.bin .add (.t 29) (kq 1)),
mq 29 41] [41]))))
def z1m:CF:=⟨[.tmp 4],
  (sr [
tq 3 (.box zxf (.t 1)),
tq 4 (.ownNil ⟨true,zbs,1,8⟩)] [1,4]
(sr [
ld 11 3,
tq 12 (.len .slc (.t 11)),
tq 13 (.call false false (.k (.fn zjv [] [])) [.t 12]),
mq 5 13] [11,12,13]
(sr [
mq 14 5,
tq 15 (.mkFunc zpl [] [.t 3]),
tq 16 (.call true true (.k (.fn zcf [] [])) [.t 14,.t 15])] [14,15,16]
(sr [
mq 18 0,
ld 19 3,
tq 20 (.len .slc (.t 19)),
tq 21 (cl zr5 [.t 18,.t 20]),
mq 17 21,
xq 22 17 0,
xq 23 17 1,
mq 6 22,
mq 7 23] [0,7,17,18,19,20,21,22,23]
(sr [
ld 24 3,
tq 25 (.len .slc (.t 24)),
tq 26 (.makeRow ⟨true,zbs,1,8⟩ [.int .i64 0] (.t 25)),
mq 8 26] [3,24,25,26]
(.seq (sr [
mq 27 5,
tq 28 (.len .slc (.t 27)),
tq 29 (.mv (kq 0))] [5]
(.block 0 (.loop [6,8,27,28,29] zxk)))
(sr [
mq 42 8,
mq 4 42] [8,42]
.ret)))))))⟩
def zs8:C:=
  (sr [
tq 7 (.bin .lss (.t 6) (.t 5))] []
(.seq (.cond (.t 7) .skip
 (.exit 0))
(.seq (.block 1 (sr [
mq 8 6,
mq 4 8] [8]
(rg [
mq 9 3,
mq 10 4,
tq 11 (.mkList 1 1 [.t 10]),
tq 12 (.append ⟨true,zbs,1,8⟩ (.t 9) (.t 11)),
mq 3 12] [4,9,10,11,12])))
(rg [
tq 13 (.bin .add (.t 6) (kq 1)),
mq 6 13] [13]))))
def zwb:CF:=⟨[.tmp 2],
  (sr [
tq 2 (.ownNil ⟨true,zbs,1,8⟩)] [2]
(sr [
tq 3 (.ownNil ⟨true,zbs,1,8⟩)] []
(.seq (sr [
mq 5 0,
tq 6 (.mv (kq 0))] [0]
(.block 0 (.loop [3,5,6] zs8)))
(sr [
mq 14 3,
mq 2 14] [3,14]
.ret))))⟩
def znk:CF:=⟨[],
  (sr [
mq 5 0,
tq 6 (.len .slc (.t 5)),
mq 4 6] [5,6]
(rg [
mq 7 0,
mq 8 4,
mq 9 4,
tq 10 (.conv .u64 (.t 9)),
tq 11 (cl zms [.t 10]),
mq 12 1,
tq 13 (.call true true (.k (.fn zb8 [] [])) [.t 7,kq 0,.t 8,.t 11,.t 12])] [0,1,4,7,8,9,10,11,12,13]))⟩
def zni:CF:=⟨[.tmp 5],
  (sr [
tq 5 (.mv (kq 0))] [5]
(sr [
lq 9 6 2,
mq 10 0,
mq 11 1,
tq 12 (cl zhw [.t 9,.t 10,.t 11]),
mq 8 12,
xq 13 8 0,
xq 14 8 1,
mq 6 13,
mq 7 14] [0,1,2,7,8,9,10,11,12,13,14]
(sr [
mq 15 6,
mq 5 15] [6,15]
.ret)))⟩
def znh:CF:=⟨[.tmp 6,.tmp 7],
  (sr [
tq 3 (.box zix (.t 0)),
tq 6 (.mv (kq 0)),
tq 7 (.mv (.k (.d (.str []))))] [0,6,7]
(.seq (.reg true [
fa 11 0 3,
lq 12 4 11,
fa 13 4 3,
ld 14 13,
mq 15 1,
tq 16 (.idxAddr 18 (.t 14) (.t 15)),
lq 17 18 16,
fa 18 4 3,
ld 19 18,
mq 20 2,
tq 21 (.idxAddr 18 (.t 19) (.t 20)),
lq 22 18 21,
tq 23 (cl zia [.t 12,.t 17,.t 22]),
mq 10 23,
xq 24 10 0,
xq 25 10 1,
mq 8 24,
mq 9 25] [10,11,12,13,14,15,16,17,18,19,20,21,22,23,24,25])
(.seq (sr [
mq 26 8,
tq 27 (.bin .eql (.t 26) (kq 0))] [26]
(.cond (.t 27) (.seq (.reg true [
fa 28 5 3,
ld 29 28,
mq 30 1,
tq 31 (.idxAddr 1 (.t 29) (.t 30)),
ld 32 31,
fa 33 5 3,
ld 34 33,
mq 35 2,
tq 36 (.idxAddr 1 (.t 34) (.t 35)),
ld 37 36,
tq 38 (cl zbf [.t 32,.t 37]),
mq 6 38,
tq 7 (.mv (.k (.d (.str [108,111,116]))))] [1,2,3,28,29,30,31,32,33,34,35,36,37,38])
.ret)
 .skip))
(sr [
mq 39 8,
mq 40 9,
mq 6 39,
mq 7 40] [8,9,39,40]
.ret))))⟩
def zk5:C:=
  (sr [
tq 9 (.bin .lss (.t 8) (.t 7))] []
(.seq (.cond (.t 9) .skip
 (.exit 0))
(.seq (.block 1 (sr [
mq 10 8,
mq 5 10] [10]
(sr [
mq 11 1,
mq 12 0,
mq 13 5,
tq 14 (.idxAddr 1 (.t 12) (.t 13)),
ld 15 14,
tq 16 (.call true true (.t 11) [.t 15])] [11,12,13,14,15]
(.cond (.t 16) (sr [
mq 17 5,
mq 4 17] [5,17]
.ret)
 .skip))))
(rg [
tq 18 (.bin .add (.t 8) (kq 1)),
mq 8 18] [18]))))
def zml:CF:=⟨[.tmp 4],
  (sr [
tq 4 (.mv (kq 0))] [4]
(.seq (sr [
mq 6 0,
tq 7 (.len .slc (.t 6)),
tq 8 (.mv (kq 0))] [6]
(.block 0 (.loop [0,1,7,8] zk5)))
(sr [
tq 4 (.mv (kq (-1)))] []
.ret)))⟩
def znj:CF:=⟨[.tmp 3],
  (sr [
tq 3 (.mv (.k (.d (.bool false))))] [3]
(.seq (.reg true [
fa 4 0 1,
lq 5 4 4,
fa 6 4 1,
ld 7 6,
mq 8 0,
tq 9 (.idxAddr 18 (.t 7) (.t 8)),
lq 10 18 9,
tq 11 (cl zc6 [.t 5,.t 10]),
fa 12 0 1,
fa 13 1 12,
ld 14 13,
tq 15 (.bin .geq (.t 11) (.t 14)),
mq 3 15] [0,1,4,5,6,7,8,9,10,11,12,13,14,15])
.ret))⟩
def zlr:C:=
  (sr [
tq 21 (.bin .lss (.t 20) (.t 19))] []
(.seq (.cond (.t 21) .skip
 (.exit 2))
(.seq (.block 3 (sr [
tq 22 (.idxAddr 3 (.t 18) (.t 20)),
lq 23 3 22,
tq 8 (.alloc zgn [.z (.str []),.z (.str []),.z (.int .i64 0)]),
⟨none,none,.store 3 (.t 8) (.t 23)⟩] [22,23]
(sr [
lq 24 18 3,
lq 25 3 8,
tq 26 (cl zqp [.t 24,.t 25]),
tq 27 (.un .not (.t 26))] [8,24,25,26]
(.cond (.t 27) (.exit 1)
 .skip))))
(rg [
tq 28 (.bin .add (.t 20) (kq 1)),
mq 20 28] [28]))))
def zls:C:=
  (sr [
tq 13 (.bin .lss (.t 12) (.t 11))] []
(.seq (.cond (.t 13) .skip
 (.exit 0))
(.seq (.block 1 (sr [
mq 14 12,
tq 15 (.idxAddr 3 (.t 10) (.t 12)),
lq 16 3 15,
tq 6 (.alloc zfs [.z (.str []),.z (.list 0 []),.z (.list 0 [])]),
mq 5 14,
⟨none,none,.store 3 (.t 6) (.t 16)⟩] [14,15,16]
(.seq (sr [
fa 17 1 6,
ld 18 17,
tq 19 (.len .slc (.t 18)),
tq 20 (.mv (kq 0))] [6,17]
(.block 2 (.loop [2,3,5,10,11,12,18,19,20] zlr)))
(sr [
mq 29 5,
mq 4 29] [5,29]
.ret))))
(rg [
tq 30 (.bin .add (.t 12) (kq 1)),
mq 12 30] [30]))))
def znf:CF:=⟨[.tmp 4],
  (sr [
tq 2 (.box zbq (.t 0)),
tq 3 (.box zat (.t 1)),
tq 4 (.mv (kq 0))] [0,1,4]
(.scope (.seq .label
(.seq (sr [
fa 9 0 2,
ld 10 9,
tq 11 (.len .slc (.t 10)),
tq 12 (.mv (kq 0))] [9]
(.block 0 (.loop [2,3,10,11,12] zls)))
(sr [
fa 31 0 2,
ld 32 31,
tq 33 (.len .slc (.t 32)),
mq 4 33] [2,31,32,33]
.ret)))))⟩
def zp6:CF:=⟨[.tmp 2],
  (sr [
tq 2 (.ownNil ⟨false,zbs,1,8⟩)] [2]
(.seq (sr [
mq 3 0,
tq 4 (.nilEq 2 false (.t 3))] [3]
(.cond (.t 4) (sr [
tq 2 (.ownNil ⟨false,zbs,1,8⟩)] []
.ret)
 .skip))
(sr [
tq 5 (.mkRow ⟨false,zbs,1,8⟩ 0 []),
mq 6 0,
tq 7 (.append ⟨false,zbs,1,8⟩ (.t 5) (.t 6)),
mq 2 7] [0,5,6,7]
.ret)))⟩
def zo4:C:=
  (sr [
tq 16 (.bin .lss (.t 15) (.t 14))] []
(.seq (.cond (.t 16) .skip
 (.exit 0))
(.seq (.block 1 (sr [
mq 17 15,
tq 18 (.idxAddr 1 (.t 13) (.t 15)),
ld 19 18,
mq 8 17,
mq 9 19] [17,18,19]
(rg [
mq 20 9,
tq 21 (.un .not (.t 20)),
tq 22 (cl zcy [.t 21]),
mq 23 9,
tq 24 (.un .not (.t 23)),
tq 25 (cl zcy [.t 24]),
tq 26 (.idxAddrA 2 1 (.t 7) (.t 25)),
ld 27 26,
mq 28 8,
tq 29 (.mkList 1 1 [.t 28]),
tq 30 (.append ⟨false,zbs,1,8⟩ (.t 27) (.t 29)),
tq 31 (.idxAddrA 2 1 (.t 7) (.t 22)),
⟨none,none,.store 1 (.t 31) (.t 30)⟩] [8,9,20,21,22,23,24,25,26,27,28,29,30,31])))
(rg [
tq 32 (.bin .add (.t 15) (kq 1)),
mq 15 32] [32]))))
def zo5:C:=
  (sr [
tq 36 (.bin .lss (.t 35) (.t 34))] []
(.seq (.cond (.t 36) .skip
 (.exit 2))
(.seq (.block 3 (sr [
mq 37 35,
mq 11 37] [37]
(sr [
mq 38 11,
mq 39 0,
tq 40 (.bin .rem (.t 38) (.t 39)),
mq 41 1,
tq 42 (.bin .geq (.t 40) (.t 41)),
tq 43 (cl zcy [.t 42]),
mq 12 43] [11,38,39,40,41,42,43]
(.seq (sr [
mq 44 12,
tq 45 (.idxAddrA 2 1 (.t 7) (.t 44)),
ld 46 45,
tq 47 (.len .slc (.t 46)),
tq 48 (.bin .eql (.t 47) (kq 0))] [44,45,46,47]
(.cond (.t 48) (rg [
mq 49 12,
tq 50 (.bin .sub (kq 1) (.t 49)),
mq 12 50] [49,50])
 .skip))
(.regC [
mq 51 12,
mq 52 10,
mq 53 12,
tq 54 (.idxAddrA 2 1 (.t 7) (.t 53)),
ld 55 54,
tq 56 (.idxAddr 1 (.t 55) (kq 0)),
ld 57 56,
tq 58 (.mkList 1 1 [.t 57]),
tq 59 (.append ⟨false,zbs,1,8⟩ (.t 52) (.t 58)),
mq 60 12,
tq 61 (.idxAddrA 2 1 (.t 7) (.t 60)),
ld 62 61,
tq 63 (.slice 1 (.t 62) (some (kq 1)) none none),
mq 10 59,
tq 64 (.idxAddrA 2 1 (.t 7) (.t 51)),
⟨none,none,.store 1 (.t 64) (.t 63)⟩] [12,51,52,53,54,55,56,57,58,59,60,61,62,63,64] [(7,59),(61,59),(62,59)])))))
(rg [
tq 65 (.bin .add (.t 35) (kq 1)),
mq 35 65] [65]))))
def zra:CF:=⟨[.tmp 6],
  (sr [
tq 6 (.ownNil ⟨false,zbs,1,8⟩)] [6]
(sr [
tq 7 (.alloc ymr [.own ⟨false,zbs,1,8⟩,.own ⟨false,zbs,1,8⟩])] []
(.seq (sr [
mq 13 2,
tq 14 (.len .slc (.t 13)),
tq 15 (.mv (kq 0))] []
(.block 0 (.loop [0,1,2,7,13,14,15] zo4)))
(sr [
tq 10 (.ownNil ⟨false,zbs,1,8⟩)] []
(.seq (sr [
mq 33 2,
tq 34 (.len .slc (.t 33)),
tq 35 (.mv (kq 0))] [2,33]
(.block 2 (.loop [0,1,7,10,34,35] zo5)))
(sr [
mq 66 10,
mq 6 66] [10,66]
.ret))))))⟩
def zq2:CF:=⟨[.tmp 2],
  (sr [
tq 1 (.box zbp (.t 0)),
tq 2 (.mv (kq 0))] [0,2]
(.seq (.seq (.reg true [
fa 4 0 1,
ld 5 4,
tq 6 (cl zea [.t 5]),
fa 7 1 1,
ld 8 7,
tq 9 (cl zea [.t 8]),
tq 10 (.mkList 1 2 [.t 6,.t 9]),
tq 11 (cl zco [.t 10]),
mq 3 11] [4,5,6,7,8,9,10,11])
(sr [
mq 12 3,
tq 13 (.bin .neq (.t 12) (kq 0))] [12]
(.cond (.t 13) (sr [
mq 14 3,
mq 2 14] [3,14]
.ret)
 .skip)))
(.seq (.reg true [
fa 15 1 1,
ld 16 15,
fa 17 0 1,
ld 18 17,
tq 19 (.bin .lss (.t 16) (.t 18)),
tq 20 (cl zhe [.t 19,kq 11]),
fa 21 1 1,
ld 22 21,
fa 23 0 1,
ld 24 23,
tq 25 (.bin .sub (.t 22) (.t 24)),
tq 26 (.bin .gtr (.t 25) (kq 400)),
tq 27 (cl zhe [.t 26,kq 4]),
fa 28 2 1,
ld 29 28,
tq 30 (cl zd2 [.t 29,kq 1,kq 127]),
tq 31 (.mkList 1 3 [.t 20,.t 27,.t 30]),
tq 32 (cl zco [.t 31]),
mq 2 32] [1,15,16,17,18,19,20,21,22,23,24,25,26,27,28,29,30,31,32])
.ret)))⟩
def zm8:C:=
  (rg [
mq 6 8] [8])
def zm9:C:=
  (.block 1 (sr [
ld 9 3,
mq 10 6,
tq 11 (.call true true (.t 9) [.t 10])] [3,9,10]
(.cond (.t 11) (rg [
ld 12 5,
mq 13 6,
tq 14 (.mkList 1 1 [.t 13]),
tq 15 (.append ⟨false,zbs,1,8⟩ (.t 12) (.t 14)),
⟨none,none,.store 1 (.t 5) (.t 15)⟩] [5,6,12,13,14,15])
 .skip)))
def zo6:CF:=⟨[.tmp 4],
  (sr [
tq 3 (.box zqs (.t 1)),
tq 4 (.ownNil ⟨false,zbs,1,8⟩)] [1]
(sr [
tq 5 (.alloc zyr [.own ⟨false,zbs,1,8⟩])] []
(.seq (sr [
mq 7 0] [0]
(.block 0 (.rangeFn 18 (.t 7) [8] zm8 zm9)))
(sr [
ld 16 5,
mq 4 16] [5,16]
.ret))))⟩
def zxs:CF:=⟨[.tmp 2],
  (sr [
tq 1 (.box zbp (.t 0)),
tq 2 (.mv (.k (.d (.nilf))))] [0,2]
(sr [
tq 3 (.mkFunc zeb [] [.t 1]),
mq 2 3] [1,3]
.ret))⟩
def zua:CF:=⟨[.tmp 2],
  (sr [
tq 2 (.mv (.k (.d (.bool false))))] [2]
(sr [
tq 2 (.mv (.k (.d (.bool true))))] []
.ret))⟩
def zzj:CF:=⟨[.tmp 0],
  (sr [
tq 0 (.mv (.k (.d (.nilm))))] [0]
(sr [
tq 1 (.mv (.k (.fn zjk [] [])))] []
(sr [
tq 2 (.mkMap),
mq 3 1,
tq 4 (.call true false (.t 3) [.k (.d (.str [65]))]),
tq 5 (.build [.z (.nilf)] [(0,1,.t 4)]),
⟨none,none,.mapSet .str (.t 2) (.k (.d (.str [65]))) (.t 5)⟩,
mq 6 1,
tq 7 (.call true false (.t 6) [.k (.d (.str [68]))]),
tq 8 (.build [.z (.nilf)] [(0,1,.t 7)]),
⟨none,none,.mapSet .str (.t 2) (.k (.d (.str [68]))) (.t 8)⟩,
tq 9 (.build [.z (.nilf)] [(0,1,.k (.fn zjl [] []))]),
⟨none,none,.mapSet .str (.t 2) (.k (.d (.str [84]))) (.t 9)⟩,
mq 10 2,
mq 0 10] [1,2,3,4,5,6,7,8,9,10]
.ret)))⟩
def zt1:C:=
  (sr [
tq 16 (.nextS (.t 15)),
xq 17 16 0] []
(.seq (.cond (.t 17) .skip
 (.exit 0))
(.block 1 (sr [
xq 18 16 1,
xq 19 16 2,
mq 3 18,
mq 4 19] [16,18,19]
(sr [
mq 20 4,
tq 21 (.bin .geq (.t 20) (.k (.d (.int .i32 65)))),
mq 22 21,
gq 23 22 true (.mv (.t 4)),
gq 24 22 true (.bin .leq (.t 23) (.k (.d (.int .i32 90)))),
tq 25 (.pick (.t 22) (.t 24) (.k (.d (.bool false)))),
mq 26 25,
gq 27 26 false (.mv (.t 4)),
gq 28 26 false (.bin .geq (.t 27) (.k (.d (.int .i32 97)))),
gq 29 26 false (.mv (.t 28)),
gq 30 29 true (.mv (.t 4)),
gq 31 29 true (.bin .leq (.t 30) (.k (.d (.int .i32 122)))),
gq 32 26 false (.pick (.t 29) (.t 31) (.k (.d (.bool false)))),
tq 33 (.pick (.t 26) (.k (.d (.bool true))) (.t 32)),
mq 5 33] [20,21,22,23,24,25,26,27,28,29,30,31,32,33]
(sr [
mq 34 5,
tq 35 (.un .not (.t 34)),
mq 36 35,
gq 37 36 true (.mv (.t 3)),
gq 38 36 true (.bin .eql (.t 37) (kq 0)),
gq 39 36 true (.mv (.t 38)),
gq 40 39 false (.mv (.t 4)),
gq 41 39 false (.bin .neq (.t 40) (.k (.d (.int .i32 95)))),
gq 42 39 false (.mv (.t 41)),
gq 43 42 true (.mv (.t 4)),
gq 44 42 true (.bin .lss (.t 43) (.k (.d (.int .i32 48)))),
gq 45 42 true (.mv (.t 44)),
gq 46 45 false (.mv (.t 4)),
gq 47 45 false (.bin .gtr (.t 46) (.k (.d (.int .i32 57)))),
gq 48 42 true (.pick (.t 45) (.k (.d (.bool true))) (.t 47)),
gq 49 39 false (.pick (.t 42) (.t 48) (.k (.d (.bool false)))),
gq 50 36 true (.pick (.t 39) (.k (.d (.bool true))) (.t 49)),
tq 51 (.pick (.t 36) (.t 50) (.k (.d (.bool false))))] [3,4,5,34,35,36,37,38,39,40,41,42,43,44,45,46,47,48,49,50]
(.cond (.t 51) (sr [
tq 2 (.mv (.k (.d (.bool false))))] []
.ret)
 .skip)))))))
def zxr:CF:=⟨[.tmp 2],
  (sr [
tq 2 (.mv (.k (.d (.bool false))))] [2]
(.seq (sr [
mq 6 0,
tq 7 (.len .str (.t 6)),
tq 8 (.bin .eql (.t 7) (kq 0)),
mq 9 8,
gq 10 9 false (.mv (.t 0)),
gq 11 9 false (.len .str (.t 10)),
gq 12 9 false (.bin .gtr (.t 11) (kq 24)),
tq 13 (.pick (.t 9) (.k (.d (.bool true))) (.t 12))] [6,7,8,9,10,11,12]
(.cond (.t 13) (sr [
tq 2 (.mv (.k (.d (.bool false))))] []
.ret)
 .skip))
(.seq (sr [
mq 14 0,
tq 15 (.rangeS (.t 14))] [0,14]
(.block 0 (.loop [15] zt1)))
(sr [
tq 2 (.mv (.k (.d (.bool true))))] []
.ret))))⟩
def zud:CF:=⟨[.tmp 2],
  (sr [
tq 2 (.mv (kq 0))] [2]
(sr [
mq 3 0,
tq 4 (.bin .neq (.t 3) (.k (.d (.str [])))),
mq 5 4,
gq 6 5 true (.mv (.t 0)),
gq 7 5 true (cl zb0 [.t 6]),
gq 8 5 true (.un .not (.t 7)),
tq 9 (.pick (.t 5) (.t 8) (.k (.d (.bool false)))),
tq 10 (cl zbw [.t 9,kq 8]),
mq 2 10] [0,3,4,5,6,7,8,9,10]
.ret))⟩
def z30:CF:=⟨[.tmp 4,.tmp 5],
  (sr [
tq 2 (.box zbp (.t 0)),
tq 4 (.mv (.k (.d (.bool false)))),
tq 5 (.mv (kq 0))] [0,4,5]
(.seq (sr [
lq 7 3 2,
tq 8 (cl zb3 [.t 7]),
mq 9 1,
tq 10 (cl zea [.t 9]),
tq 11 (.mkList 1 2 [.t 8,.t 10]),
tq 12 (cl zco [.t 11]),
mq 6 12] [7,8,9,10,11,12]
(sr [
mq 13 6,
tq 14 (.bin .neq (.t 13) (kq 0))] [13]
(.cond (.t 14) (sr [
mq 15 6,
tq 4 (.mv (.k (.d (.bool false)))),
mq 5 15] [6,15]
.ret)
 .skip)))
(sr [
lq 16 3 2,
mq 17 1,
tq 18 (cl zos [.t 16,.t 17]),
mq 4 18,
tq 5 (.mv (kq 0))] [1,2,16,17,18]
.ret)))⟩
def zgc:C:=
  (rg [
mq 5 7] [7])
def zgd:C:=
  (.block 1 (rg [
ld 8 2,
mq 9 5,
tq 10 (.mkList 1 1 [.t 9]),
tq 11 (.append ⟨false,zbs,1,8⟩ (.t 8) (.t 10)),
⟨none,none,.store 1 (.t 2) (.t 11)⟩] [2,5,8,9,10,11]))
def zmk:CF:=⟨[.tmp 4],
  (sr [
tq 2 (.box zyr (.t 0)),
tq 4 (.ownNil ⟨false,zbs,1,8⟩)] [0]
(.seq (sr [
mq 6 1] [1]
(.block 0 (.rangeFn 14 (.t 6) [7] zgc zgd)))
(sr [
ld 12 2,
mq 4 12] [2,12]
.ret)))⟩
def zme:C:=
  (sr [
tq 43 (.bin .lss (.t 42) (.t 41))] []
(.seq (.cond (.t 43) .skip
 (.exit 0))
(.seq (.block 1 (sr [
mq 44 42,
mq 5 44] [44]
(sr [
mq 45 0,
ld 46 1,
tq 47 (.bin .mul (kq 1440) (.t 46)),
fa 48 4 2,
ld 49 48,
mq 50 4,
mq 51 5,
tq 52 (.bin .add (.t 50) (.t 51)),
tq 53 (.bin .mul (.t 49) (.t 52)),
tq 54 (.bin .add (.t 47) (.t 53)),
tq 55 (.call true true (.t 45) [.t 54]),
tq 56 (.un .not (.t 55))] [5,45,46,47,48,49,50,51,52,53,54,55]
(.cond (.t 56) .ret
 .skip))))
(rg [
tq 57 (.bin .add (.t 42) (kq 1)),
mq 42 57] [57]))))
def zom:CF:=⟨[],
  (.seq (sr [
ld 6 1,
fa 7 7 2,
fa 8 0 7,
ld 9 8,
tq 10 (.bin .lss (.t 6) (.t 9)),
mq 11 10,
gq 12 11 false (.load none (.t 1)),
gq 13 11 false (.fieldAddr 7 (.t 2)),
gq 14 11 false (.fieldAddr 1 (.t 13)),
gq 15 11 false (.load none (.t 14)),
gq 16 11 false (.bin .gtr (.t 12) (.t 15)),
tq 17 (.pick (.t 11) (.k (.d (.bool true))) (.t 16)),
mq 18 17,
gq 19 18 false (.load (some 11) (.t 2)),
gq 20 18 false (.load none (.t 1)),
gq 21 18 false (cl zfb [.t 19,.t 20]),
gq 22 18 false (.un .not (.t 21)),
tq 23 (.pick (.t 18) (.k (.d (.bool true))) (.t 22))] [6,7,8,9,10,11,12,13,14,15,16,17,18,19,20,21,22]
(.cond (.t 23) .ret
 .skip))
(sr [
fa 24 5 2,
ld 25 24,
fa 26 4 2,
ld 27 26,
tq 28 (.bin .add (.t 25) (.t 27)),
tq 29 (.bin .sub (.t 28) (kq 1)),
fa 30 4 2,
ld 31 30,
tq 32 (.bin .quo (.t 29) (.t 31)),
mq 4 32] [24,25,26,27,28,29,30,31,32]
(sr [
fa 33 6 2,
ld 34 33,
fa 35 4 2,
ld 36 35,
tq 37 (.bin .quo (.t 34) (.t 36)),
mq 38 4,
tq 39 (.bin .sub (.t 37) (.t 38)),
tq 40 (.bin .add (.t 39) (kq 1)),
tq 41 (.minmax true [kq 0,.t 40]),
tq 42 (.mv (kq 0))] [33,34,35,36,37,38,39,40]
(.block 0 (.loop [0,1,2,4,41,42] zme)))))⟩
def zd7:C:=
  (sr [
tq 9 (.bin .lss (.t 8) (.t 7))] []
(.seq (.cond (.t 9) .skip
 (.exit 0))
(.seq (.block 1 (sr [
mq 10 8,
mq 5 10] [10]
(sr [
mq 11 1,
mq 12 0,
mq 13 5,
tq 14 (.idxAddr 11 (.t 12) (.t 13)),
lq 15 11 14,
tq 16 (.call true true (.t 11) [.t 15])] [11,12,13,14,15]
(.cond (.t 16) (sr [
mq 17 5,
mq 4 17] [5,17]
.ret)
 .skip))))
(rg [
tq 18 (.bin .add (.t 8) (kq 1)),
mq 8 18] [18]))))
def zep:CF:=⟨[.tmp 4],
  (sr [
tq 4 (.mv (kq 0))] [4]
(.seq (sr [
mq 6 0,
tq 7 (.len .slc (.t 6)),
tq 8 (.mv (kq 0))] [6]
(.block 0 (.loop [0,1,7,8] zd7)))
(sr [
tq 4 (.mv (kq (-1)))] []
.ret)))⟩
def zvu:CF:=⟨[.tmp 3],
  (sr [
tq 2 (.box zaj (.t 0)),
tq 3 (.mv (.k (.d (.bool false))))] [0,3]
(sr [
fa 4 0 2,
ld 5 4,
ld 6 1,
tq 7 (.bin .eql (.t 5) (.t 6)),
mq 3 7] [1,2,4,5,6,7]
.ret))⟩
def ztc:CF:=⟨[.tmp 2,.tmp 3],
  (sr [
tq 1 (.box zag (.t 0)),
tq 2 (.mv (.k (.d (.list 0 [])))),
tq 3 (.mv (kq 0))] [0,2,3]
(.seq (sr [
lq 5 13 1,
tq 6 (cl zf7 [.t 5]),
mq 4 6] [5,6]
(sr [
mq 7 4,
tq 8 (.bin .neq (.t 7) (kq 0))] [7]
(.cond (.t 8) (sr [
mq 9 4,
tq 2 (.mv (.k (.d (.list 0 [])))),
mq 3 9] [4,9]
.ret)
 .skip)))
(sr [
lq 10 13 1,
tq 11 (cl zh3 [.t 10]),
mq 2 11,
tq 3 (.mv (kq 0))] [1,10,11]
.ret)))⟩
def zpu:CF:=⟨[.tmp 2],
  (sr [
tq 2 (.mv (.k (.d (.bool false))))] [2]
(sr [
mq 3 0,
tq 4 (.bin .neq (.t 3) (.k (.d (.str [])))),
mq 5 4,
gq 6 5 true (.mv (.t 0)),
gq 7 5 true (cl zb0 [.t 6]),
gq 8 5 true (.un .not (.t 7)),
tq 9 (.pick (.t 5) (.t 8) (.k (.d (.bool false)))),
mq 2 9] [0,3,4,5,6,7,8,9]
.ret))⟩
def zxp:CF:=⟨[.tmp 6],
  (sr [
tq 6 (.mv (kq 0))] [6]
(sr [
mq 7 0,
mq 8 1,
tq 9 (.bin .lss (.t 7) (.t 8)),
mq 10 9,
gq 11 10 false (.mv (.t 0)),
gq 12 10 false (.mv (.t 2)),
gq 13 10 false (.bin .gtr (.t 11) (.t 12)),
tq 14 (.pick (.t 10) (.k (.d (.bool true))) (.t 13)),
tq 15 (cl zdf [.t 14,kq 3]),
mq 6 15] [0,1,2,7,8,9,10,11,12,13,14,15]
.ret))⟩
def zem:C:=
  (sr [
tq 9 (.bin .lss (.t 8) (.t 7))] []
(.seq (.cond (.t 9) .skip
 (.exit 0))
(.seq (.block 1 (sr [
mq 10 8,
mq 5 10] [10]
(sr [
mq 11 1,
mq 12 0,
mq 13 5,
tq 14 (.idxAddr 18 (.t 12) (.t 13)),
lq 15 18 14,
tq 16 (.call true true (.t 11) [.t 15])] [11,12,13,14,15]
(.cond (.t 16) (sr [
mq 17 5,
mq 4 17] [5,17]
.ret)
 .skip))))
(rg [
tq 18 (.bin .add (.t 8) (kq 1)),
mq 8 18] [18]))))
def ze4:CF:=⟨[.tmp 4],
  (sr [
tq 4 (.mv (kq 0))] [4]
(.seq (sr [
mq 6 0,
tq 7 (.len .slc (.t 6)),
tq 8 (.mv (kq 0))] [6]
(.block 0 (.loop [0,1,7,8] zem)))
(sr [
tq 4 (.mv (kq (-1)))] []
.ret)))⟩
def zvo:CF:=⟨[.tmp 3],
  (sr [
tq 2 (.box zau (.t 0)),
tq 3 (.mv (.k (.d (.bool false))))] [0,3]
(sr [
fa 4 0 2,
fa 5 0 4,
ld 6 5,
ld 7 1,
tq 8 (.bin .eql (.t 6) (.t 7)),
mq 3 8] [1,2,4,5,6,7,8]
.ret))⟩
def zvn:CF:=⟨[.tmp 4],
  (sr [
tq 2 (.box zaj (.t 0)),
tq 3 (.box zao (.t 1)),
tq 4 (.mv (.k (.d (.bool false))))] [0,1,4]
(sr [
fa 5 1 2,
ld 6 5,
tq 7 (.bin .eql (.t 6) (.k (.d (.str [84])))),
mq 8 7,
gq 9 8 false (.fieldAddr 1 (.t 2)),
gq 10 8 false (.load none (.t 9)),
gq 11 8 false (.fieldAddr 1 (.t 3)),
gq 12 8 false (.load none (.t 11)),
gq 13 8 false (.bin .eql (.t 10) (.t 12)),
tq 14 (.pick (.t 8) (.k (.d (.bool true))) (.t 13)),
mq 15 14,
gq 16 15 true (.fieldAddr 2 (.t 2)),
gq 17 15 true (.load none (.t 16)),
gq 18 15 true (.bin .eql (.t 17) (.k (.d (.str [])))),
gq 19 15 true (.mv (.t 18)),
gq 20 19 false (.fieldAddr 2 (.t 2)),
gq 21 19 false (.load none (.t 20)),
gq 22 19 false (.fieldAddr 2 (.t 3)),
gq 23 19 false (.load none (.t 22)),
gq 24 19 false (.bin .eql (.t 21) (.t 23)),
gq 25 15 true (.pick (.t 19) (.k (.d (.bool true))) (.t 24)),
tq 26 (.pick (.t 15) (.t 25) (.k (.d (.bool false)))),
mq 4 26] [2,3,5,6,7,8,9,10,11,12,13,14,15,16,17,18,19,20,21,22,23,24,25,26]
.ret))⟩
def z1g:CF:=⟨[.tmp 2],
  (sr [
tq 2 (.mv (kq 0))] [2]
(.seq (.cond (.k (.d (.bool false))) (sr [
mq 3 0,
tq 4 (.conv .u32 (.t 3)),
tq 5 (cl zpj [.t 4]),
mq 2 5] [0,3,4,5]
.ret)
 .skip)
(sr [
mq 6 0,
tq 7 (cl zpk [.t 6]),
mq 2 7] [0,6,7]
.ret)))⟩
def z1f:CF:=⟨[.tmp 2],
  (sr [
tq 2 (.mv (.k (.d (.bool false))))] [2]
(sr [
mq 3 0,
mq 4 0,
tq 5 (.bin .neq (.t 3) (.t 4)),
mq 2 5] [0,3,4,5]
.ret))⟩
def zhz:C:=
  (sr [
tq 11 (.bin .lss (.t 10) (.t 9))] []
(.seq (.cond (.t 11) .skip
 (.exit 0))
(.seq (.block 1 (sr [
tq 12 (.idxAddr 18 (.t 8) (.t 10)),
lq 13 18 12,
tq 7 (.alloc zau [.z (.str []),.z (.str []),.z (.str []),.z (.str []),.z (.str []),.z (.str []),.z (.int .i64 0),.z (.int .i64 0),.z (.int .i64 0),.z (.int .i64 0),.z (.int .i64 0),.z (.int .i64 0),.z (.int .i64 0),.z (.int .i64 0),.z (.int .i64 0),.z (.int .i64 0),.z (.int .i64 0),.z (.int .i64 0)]),
⟨none,none,.store 18 (.t 7) (.t 13)⟩] [12,13]
(rg [
mq 14 5,
mq 15 1,
lq 16 18 7,
tq 17 (.call true true (.t 15) [.t 16]),
tq 18 (.mkList 1 1 [.t 17]),
tq 19 (.append ⟨false,zbs,1,8⟩ (.t 14) (.t 18)),
mq 5 19] [7,14,15,16,17,18,19])))
(rg [
tq 20 (.bin .add (.t 10) (kq 1)),
mq 10 20] [20]))))
def zim:CF:=⟨[.tmp 4],
  (sr [
tq 4 (.ownNil ⟨false,zbs,1,8⟩)] [4]
(sr [
tq 5 (.ownNil ⟨false,zbs,1,8⟩)] []
(.seq (sr [
mq 8 0,
tq 9 (.len .slc (.t 8)),
tq 10 (.mv (kq 0))] [0]
(.block 0 (.loop [1,5,8,9,10] zhz)))
(sr [
mq 21 5,
mq 4 21] [5,21]
.ret))))⟩
def zt7:CF:=⟨[.tmp 3],
  (sr [
tq 2 (.box zau (.t 0)),
tq 3 (.mv (kq 0))] [0,3]
(.seq (sr [
fa 4 0 2,
fa 5 5 4,
ld 6 5,
tq 7 (.bin .eql (.t 6) (.k (.d (.str []))))] [4,5,6]
(.cond (.t 7) (sr [
tq 3 (.mv (kq (-1)))] []
.ret)
 .skip))
(sr [
ld 8 1,
fa 9 0 2,
fa 10 5 9,
ld 11 10,
tq 12 (.lookup .str (.int .i64 0) false (.t 8) (.t 11)),
mq 3 12] [1,2,8,9,10,11,12]
.ret)))⟩
def zlt:CF:=⟨[.tmp 5],
  (sr [
tq 5 (.mv (kq 0))] [5]
(.seq (.reg true [
mq 6 0,
ld 7 2,
tq 8 (.bin .sub (.t 6) (.t 7)),
tq 9 (cl ze6 [.t 8]),
mq 10 1,
ld 11 2,
tq 12 (.bin .sub (.t 10) (.t 11)),
tq 13 (cl ze6 [.t 12]),
tq 14 (cl zbf [.t 9,.t 13]),
mq 15 0,
mq 16 1,
tq 17 (cl zbf [.t 15,.t 16]),
tq 18 (.mkList 1 2 [.t 14,.t 17]),
tq 19 (cl zi1 [.t 18]),
mq 5 19] [0,1,2,6,7,8,9,10,11,12,13,14,15,16,17,18,19])
.ret))⟩
def zg6:C:=
  (.seq (sr [
mq 11 8,
mq 12 1,
tq 13 (.bin .leq (.t 11) (.t 12))] [11,12]
(.cond (.t 13) .skip
 (.exit 0)))
(.block 1 (sr [
mq 14 0,
mq 15 7,
mq 16 8,
mq 17 2,
tq 18 (.call true true (.k (.fn zbk [] [])) [.t 14,.t 15,.t 16,.t 17])] [7,14,15,16,17,18]
(sr [
mq 19 8,
mq 7 19] [19]
(rg [
mq 20 8,
mq 21 6,
tq 22 (.bin .add (.t 20) (.t 21)),
mq 8 22] [20,21,22])))))
def zg7:C:=
  (.seq (sr [
mq 33 8,
mq 34 1,
tq 35 (.bin .leq (.t 33) (.t 34))] [33,34]
(.cond (.t 35) .skip
 (.exit 4)))
(.block 5 (sr [
mq 36 0,
mq 37 7,
mq 38 7,
mq 39 6,
tq 40 (.bin .add (.t 38) (.t 39)),
mq 41 8,
mq 42 2,
tq 43 (.call true true (.k (.fn za2 [] [])) [.t 36,.t 37,.t 40,.t 41,.t 42])] [7,36,37,38,39,40,41,42,43]
(sr [
mq 44 8,
mq 7 44] [44]
(rg [
mq 45 8,
mq 46 6,
tq 47 (.bin .mul (kq 2) (.t 46)),
tq 48 (.bin .add (.t 45) (.t 47)),
mq 8 48] [45,46,47,48])))))
def zg8:C:=
  (.seq (sr [
mq 28 6,
mq 29 1,
tq 30 (.bin .lss (.t 28) (.t 29))] [28,29]
(.cond (.t 30) .skip
 (.exit 2)))
(.block 3 (sr [
mq 31 6,
tq 32 (.bin .mul (kq 2) (.t 31)),
tq 7 (.mv (kq 0)),
mq 8 32] [31,32]
(.seq (.block 4 (.loop [0,1,2,6,7,8] zg7))
(.seq (sr [
mq 49 7,
mq 50 6,
tq 51 (.bin .add (.t 49) (.t 50)),
mq 9 51] [49,50,51]
(sr [
mq 52 9,
mq 53 1,
tq 54 (.bin .lss (.t 52) (.t 53))] [52,53]
(.cond (.t 54) (rg [
mq 55 0,
mq 56 7,
mq 57 9,
mq 58 1,
mq 59 2,
tq 60 (.call true true (.k (.fn za2 [] [])) [.t 55,.t 56,.t 57,.t 58,.t 59])] [7,9,55,56,57,58,59,60])
 .skip)))
(rg [
mq 61 6,
tq 62 (.bin .mul (.t 61) (kq 2)),
mq 6 62] [61,62]))))))
def zhm:CF:=⟨[],
  (sr [
tq 6 (.mv (kq 20))] []
(sr [
mq 10 6,
tq 7 (.mv (kq 0)),
mq 8 10] [10]
(.seq (.block 0 (.loop [0,1,2,6,7,8] zg6))
(sr [
mq 23 0,
mq 24 7,
mq 25 1,
mq 26 2,
tq 27 (.call true true (.k (.fn zbk [] [])) [.t 23,.t 24,.t 25,.t 26])] [7,23,24,25,26,27]
(.block 2 (.loop [0,1,2,6] zg8))))))⟩
def zmb:C:=
  (sr [
tq 7 (.bin .lss (.t 6) (kq 2))] []
(.seq (.cond (.t 7) .skip
 (.exit 0))
(.seq (.block 1 (sr [
mq 8 6,
tq 9 (.idxA 2 1 none (.t 5) (.t 6)),
mq 3 8,
mq 4 9] [8,9]
(sr [
mq 10 4,
tq 11 (.bin .geq (.t 10) (kq 0)),
mq 12 11,
gq 13 12 true (.mv (.t 0)),
gq 14 12 true (.mv (.t 3)),
gq 15 12 true (.mv (.t 4)),
gq 16 12 true (.call true true (.t 13) [.t 14,.t 15]),
gq 17 12 true (.un .not (.t 16)),
tq 18 (.pick (.t 12) (.t 17) (.k (.d (.bool false))))] [3,4,10,11,12,13,14,15,16,17]
(.cond (.t 18) .ret
 .skip))))
(rg [
tq 19 (.bin .add (.t 6) (kq 1)),
mq 6 19] [19]))))
def zoh:CF:=⟨[],
  (sr [
lq 5 2 1,
tq 6 (.mv (kq 0))] [1]
(.block 0 (.loop [0,5,6] zmb)))⟩
def zvz:CF:=⟨[.tmp 2],
  (sr [
tq 2 (.mv (kq 0))] [2]
(sr [
mq 3 0,
tq 4 (.bin .neq (.t 3) (.k (.d (.str [])))),
mq 5 4,
gq 6 5 true (.mv (.t 0)),
gq 7 5 true (cl zb0 [.t 6]),
gq 8 5 true (.un .not (.t 7)),
tq 9 (.pick (.t 5) (.t 8) (.k (.d (.bool false)))),
tq 10 (cl zav [.t 9,kq 8]),
mq 2 10] [0,3,4,5,6,7,8,9,10]
.ret))⟩
def zzm:CF:=⟨[.tmp 2],
  (sr [
tq 2 (.mv (.k (.d (.bool false))))] [2]
(sr [
mq 3 0,
tq 4 (.bin .eql (.t 3) (.k (.d (.str [65])))),
mq 5 4,
gq 6 5 false (.mv (.t 0)),
gq 7 5 false (.bin .eql (.t 6) (.k (.d (.str [68])))),
tq 8 (.pick (.t 5) (.k (.d (.bool true))) (.t 7)),
mq 2 8] [0,3,4,5,6,7,8]
.ret))⟩
def zuh:CF:=⟨[.tmp 2],
  (sr [
tq 1 (.box zac (.t 0)),
tq 2 (.mv (kq 0))] [0,2]
(.seq (.reg true [
fa 3 0 1,
ld 4 3,
tq 5 (cl zjn [.t 4]),
tq 6 (.un .not (.t 5)),
tq 7 (cl zav [.t 6,kq 13]),
fa 8 1 1,
lq 9 13 8,
tq 10 (cl zc7 [.t 9]),
tq 11 (.mkList 1 2 [.t 7,.t 10]),
tq 12 (cl zax [.t 11]),
mq 2 12] [1,3,4,5,6,7,8,9,10,11,12])
.ret))⟩
def zx3:CF:=⟨[.tmp 0],
  (sr [
tq 0 (.mv (.k (.d (.nilm))))] [0]
(sr [
tq 1 (.mkMap),
⟨none,none,.mapSet .str (.t 1) (.k (.d (.str [78]))) (.k (.d (.str [82,69,81])))⟩,
⟨none,none,.mapSet .str (.t 1) (.k (.d (.str [72]))) (.k (.d (.str [82,69,81])))⟩,
⟨none,none,.mapSet .str (.t 1) (.k (.d (.str [67]))) (.k (.d (.str [82,69,81])))⟩,
⟨none,none,.mapSet .str (.t 1) (.k (.d (.str [82]))) (.k (.d (.str [82,69,81])))⟩,
⟨none,none,.mapSet .str (.t 1) (.k (.d (.str [68]))) (.k (.d (.str [82,69,81])))⟩,
⟨none,none,.mapSet .str (.t 1) (.k (.d (.str [75]))) (.k (.d (.str [65,78,83])))⟩,
⟨none,none,.mapSet .str (.t 1) (.k (.d (.str [79]))) (.k (.d (.str [65,78,83])))⟩,
⟨none,none,.mapSet .str (.t 1) (.k (.d (.str [85]))) (.k (.d (.str [65,78,83])))⟩,
⟨none,none,.mapSet .str (.t 1) (.k (.d (.str [88]))) (.k (.d (.str [65,78,83])))⟩,
mq 2 1,
mq 0 2] [1,2]
.ret))⟩
def zen:C:=
  (sr [
tq 9 (.bin .lss (.t 8) (.t 7))] []
(.seq (.cond (.t 9) .skip
 (.exit 0))
(.seq (.block 1 (sr [
mq 10 8,
mq 5 10] [10]
(sr [
mq 11 1,
mq 12 0,
mq 13 5,
tq 14 (.idxAddr 15 (.t 12) (.t 13)),
lq 15 15 14,
tq 16 (.call true true (.t 11) [.t 15])] [11,12,13,14,15]
(.cond (.t 16) (sr [
mq 17 5,
mq 4 17] [5,17]
.ret)
 .skip))))
(rg [
tq 18 (.bin .add (.t 8) (kq 1)),
mq 8 18] [18]))))
def ze5:CF:=⟨[.tmp 4],
  (sr [
tq 4 (.mv (kq 0))] [4]
(.seq (sr [
mq 6 0,
tq 7 (.len .slc (.t 6)),
tq 8 (.mv (kq 0))] [6]
(.block 0 (.loop [0,1,7,8] zen)))
(sr [
tq 4 (.mv (kq (-1)))] []
.ret)))⟩
def zzl:CF:=⟨[.tmp 3],
  (sr [
tq 2 (.box zaa (.t 0)),
tq 3 (.mv (.k (.d (.bool false))))] [0,3]
(sr [
fa 4 0 2,
fa 5 0 4,
ld 6 5,
ld 7 1,
tq 8 (.bin .eql (.t 6) (.t 7)),
mq 3 8] [1,2,4,5,6,7,8]
.ret))⟩
def zzu:CF:=⟨[.tmp 2],
  (sr [
tq 2 (.mv (kq 0))] [2]
(sr [
mq 3 0,
tq 4 (cl zcj [.t 3,kq 0,kq 99999]),
mq 2 4] [0,3,4]
.ret))⟩
def zza:C:=
  (.seq (sr [
mq 6 5,
mq 7 1,
tq 8 (.bin .lss (.t 6) (.t 7))] [6,7]
(.cond (.t 8) .skip
 (.exit 0)))
(.seq (.block 1 (rg [
mq 11 0,
tq 12 (.bin .quo (.t 11) (kq 2)),
mq 0 12] [11,12]))
(rg [
mq 9 5,
tq 10 (.bin .add (.t 9) (kq 1)),
mq 5 10] [9,10])))
def z4a:CF:=⟨[.tmp 4],
  (sr [
tq 4 (.mv (.k (.d (.bool false))))] [4]
(.seq (sr [
tq 5 (.mv (kq 0))] []
(.block 0 (.loop [0,1,5] zza)))
(sr [
mq 13 0,
tq 14 (.bin .rem (.t 13) (kq 2)),
tq 15 (.bin .eql (.t 14) (kq 1)),
mq 4 15] [0,13,14,15]
.ret)))⟩
def z1o:CF:=⟨[.tmp 2],
  (sr [
tq 2 (.mv (kq 0))] [2]
(sr [
mq 3 0,
tq 4 (.bin .add (.t 3) (kq 5)),
tq 5 (.bin .rem (.t 4) (kq 7)),
mq 2 5] [0,3,4,5]
.ret))⟩
def z1n:CF:=⟨[.tmp 4],
  (sr [
tq 4 (.mv (kq 0))] [4]
(.seq (sr [
mq 5 0] [0]
(.cond (.t 5) (sr [
mq 6 1,
mq 4 6] [1,6]
.ret)
 .skip))
(sr [
tq 4 (.mv (kq 0))] []
.ret)))⟩
def zj4:C:=
  (sr [
tq 11 (.bin .lss (.t 10) (.t 9))] []
(.seq (.cond (.t 11) .skip
 (.exit 0))
(.seq (.block 1 (sr [
mq 12 10,
tq 13 (.idxAddr 3 (.t 8) (.t 10)),
lq 14 3 13,
tq 6 (.alloc zfs [.z (.str []),.z (.list 0 []),.z (.list 0 [])]),
mq 5 12,
⟨none,none,.store 3 (.t 6) (.t 14)⟩] [12,13,14]
(.seq (.reg true [
mq 15 1,
mq 16 0,
mq 17 5,
tq 18 (.slice 3 (.t 16) none (some (.t 17)) none),
lq 19 3 6,
tq 20 (.call false true (.t 15) [.t 18,.t 19]),
mq 7 20] [5,6,15,16,17,18,19,20])
(sr [
mq 21 7,
tq 22 (.bin .neq (.t 21) (kq 0))] [21]
(.cond (.t 22) (sr [
mq 23 7,
mq 4 23] [7,23]
.ret)
 .skip)))))
(rg [
tq 24 (.bin .add (.t 10) (kq 1)),
mq 10 24] [24]))))
def zkr:CF:=⟨[.tmp 4],
  (sr [
tq 4 (.mv (kq 0))] [4]
(.seq (sr [
mq 8 0,
tq 9 (.len .slc (.t 8)),
tq 10 (.mv (kq 0))] []
(.block 0 (.loop [0,1,8,9,10] zj4)))
(sr [
tq 4 (.mv (kq 0))] []
.ret)))⟩
def zzp:CF:=⟨[.tmp 4],
  (sr [
tq 3 (.box zfs (.t 1)),
tq 4 (.mv (kq 0))] [1,4]
(sr [
mq 6 0,
tq 7 (.mkFunc znx [] [.t 3]),
tq 8 (.call true true (.k (.fn zb6 [] [])) [.t 6,.t 7]),
mq 5 8] [0,6,7,8]
(sr [
lq 9 3 3,
tq 10 (cl zj9 [.t 9]),
mq 11 5,
tq 12 (cl zbj [.t 11,kq 9]),
tq 13 (.mkList 1 2 [.t 10,.t 12]),
tq 14 (cl zbi [.t 13]),
mq 4 14] [3,5,9,10,11,12,13,14]
.ret)))⟩
def zp4:CF:=⟨[.tmp 2],
  (sr [
tq 1 (.box zbq (.t 0)),
tq 2 (.mv (kq 0))] [0,2]
(.seq (.reg true [
fa 3 1 1,
ld 4 3,
fa 5 0 1,
ld 6 5,
tq 7 (.len .slc (.t 6)),
tq 8 (cl zda [.t 4,kq 0,.t 7]),
fa 9 2 1,
ld 10 9,
tq 11 (cl zda [.t 10,kq 1,kq 100]),
fa 12 3 1,
ld 13 12,
fa 14 2 1,
ld 15 14,
tq 16 (cl zda [.t 13,kq 0,.t 15]),
tq 17 (.mkList 1 3 [.t 8,.t 11,.t 16]),
tq 18 (cl zbi [.t 17]),
mq 2 18] [1,3,4,5,6,7,8,9,10,11,12,13,14,15,16,17,18])
.ret))⟩
def zx6:CF:=⟨[.tmp 6],
  (sr [
tq 6 (.mv (kq 0))] [6]
(sr [
mq 7 0,
mq 8 1,
tq 9 (.bin .lss (.t 7) (.t 8)),
mq 10 9,
gq 11 10 false (.mv (.t 0)),
gq 12 10 false (.mv (.t 2)),
gq 13 10 false (.bin .gtr (.t 11) (.t 12)),
tq 14 (.pick (.t 10) (.k (.d (.bool true))) (.t 13)),
tq 15 (cl zbj [.t 14,kq 3]),
mq 6 15] [0,1,2,7,8,9,10,11,12,13,14,15]
.ret))⟩
def zj3:C:=
  (sr [
tq 11 (.bin .lss (.t 10) (.t 9))] []
(.seq (.cond (.t 11) .skip
 (.exit 0))
(.seq (.block 1 (sr [
mq 12 10,
tq 13 (.idxAddr 18 (.t 8) (.t 10)),
lq 14 18 13,
tq 6 (.alloc zat [.z (.str []),.z (.str []),.z (.str []),.z (.str []),.z (.str []),.z (.str []),.z (.int .i64 0),.z (.int .i64 0),.z (.int .i64 0),.z (.int .i64 0),.z (.int .i64 0),.z (.int .i64 0),.z (.int .i64 0),.z (.bool false),.z (.bool false),.z (.bool false),.z (.bool false),.z (.int .i64 0)]),
mq 5 12,
⟨none,none,.store 18 (.t 6) (.t 14)⟩] [12,13,14]
(.seq (.reg true [
mq 15 1,
mq 16 0,
mq 17 5,
tq 18 (.slice 18 (.t 16) none (some (.t 17)) none),
lq 19 18 6,
tq 20 (.call false true (.t 15) [.t 18,.t 19]),
mq 7 20] [5,6,15,16,17,18,19,20])
(sr [
mq 21 7,
tq 22 (.bin .neq (.t 21) (kq 0))] [21]
(.cond (.t 22) (sr [
mq 23 7,
mq 4 23] [7,23]
.ret)
 .skip)))))
(rg [
tq 24 (.bin .add (.t 10) (kq 1)),
mq 10 24] [24]))))
def zkq:CF:=⟨[.tmp 4],
  (sr [
tq 4 (.mv (kq 0))] [4]
(.seq (sr [
mq 8 0,
tq 9 (.len .slc (.t 8)),
tq 10 (.mv (kq 0))] []
(.block 0 (.loop [0,1,8,9,10] zj3)))
(sr [
tq 4 (.mv (kq 0))] []
.ret)))⟩
def zo9:CF:=⟨[.tmp 4],
  (sr [
tq 3 (.box zat (.t 1)),
tq 4 (.mv (kq 0))] [1,4]
(sr [
mq 6 0,
tq 7 (.mkFunc zhv [] [.t 3]),
tq 8 (.call true true (.k (.fn zb5 [] [])) [.t 6,.t 7]),
mq 5 8] [0,6,7,8]
(sr [
lq 9 18 3,
tq 10 (cl zkw [.t 9]),
mq 11 5,
tq 12 (cl zbj [.t 11,kq 9]),
tq 13 (.mkList 1 2 [.t 10,.t 12]),
tq 14 (cl zbi [.t 13]),
mq 4 14] [3,5,9,10,11,12,13,14]
.ret)))⟩
def zdz:CF:=⟨[.tmp 4],
  (sr [
tq 4 (.mv (.k (.d (.bool false))))] [4]
(sr [
mq 5 0,
mq 6 1,
tq 7 (.call true true (.k (.fn zcd [] [])) [.t 5,.t 6]),
tq 8 (.bin .geq (.t 7) (kq 0)),
mq 4 8] [0,1,5,6,7,8]
.ret))⟩
def zng:CF:=⟨[.tmp 3],
  (sr [
tq 2 (.box zat (.t 0)),
tq 3 (.mv (.k (.d (.bool false))))] [0,3]
(sr [
fa 4 0 2,
fa 5 0 4,
ld 6 5,
fa 7 0 1,
fa 8 0 7,
ld 9 8,
tq 10 (.bin .eql (.t 6) (.t 9)),
mq 3 10] [1,2,4,5,6,7,8,9,10]
.ret))⟩
def zrt:CF:=⟨[.tmp 2],
  (sr [
tq 1 (.box zat (.t 0)),
tq 2 (.mv (kq 0))] [0,2]
(.seq (.reg true [
fa 3 0 1,
lq 4 13 3,
tq 5 (cl zc7 [.t 4]),
fa 6 17 1,
ld 7 6,
tq 8 (cl zda [.t 7,kq 0,kq 20000]),
tq 9 (.mkList 1 2 [.t 5,.t 8]),
tq 10 (cl zbi [.t 9]),
mq 2 10] [1,3,4,5,6,7,8,9,10])
.ret))⟩
def zx4:CF:=⟨[.tmp 5],
  (sr [
tq 5 (.mv (kq 0))] [5]
(.seq (.reg true [
ld 6 2,
mq 7 0,
tq 8 (.idxAddr 18 (.t 6) (.t 7)),
fa 9 0 8,
fa 10 0 9,
ld 11 10,
ld 12 2,
mq 13 1,
tq 14 (.idxAddr 18 (.t 12) (.t 13)),
fa 15 0 14,
fa 16 0 15,
ld 17 16,
tq 18 (cl zlm [.t 11,.t 17]),
mq 5 18] [0,1,2,6,7,8,9,10,11,12,13,14,15,16,17,18])
.ret))⟩
def ztf:CF:=⟨[.tmp 4],
  (sr [
tq 4 (.mv (kq 0))] [4]
(sr [
mq 7 0,
tq 8 (cl zjm [.t 7]),
mq 5 8] [7,8]
(sr [
mq 9 1,
tq 10 (cl zjm [.t 9]),
mq 6 10] [9,10]
(.seq (sr [
mq 11 5] [5]
(.cond (.t 11) (.seq (sr [
mq 12 6] [6]
(.cond (.t 12) (sr [
tq 4 (.mv (kq 0))] []
.ret)
 .skip))
(sr [
tq 4 (.mv (kq (-1)))] []
.ret))
 .skip))
(.seq (sr [
mq 13 6] [6]
(.cond (.t 13) (sr [
tq 4 (.mv (kq 1))] []
.ret)
 .skip))
(.seq (sr [
mq 14 0,
mq 15 1,
tq 16 (.bin .lss (.t 14) (.t 15))] [14,15]
(.cond (.t 16) (sr [
tq 4 (.mv (kq (-1)))] []
.ret)
 .skip))
(.seq (sr [
mq 17 0,
mq 18 1,
tq 19 (.bin .gtr (.t 17) (.t 18))] [0,1,17,18]
(.cond (.t 19) (sr [
tq 4 (.mv (kq 1))] []
.ret)
 .skip))
(sr [
tq 4 (.mv (kq 0))] []
.ret))))))))⟩
def zxh:C:=
  (sr [
tq 24 (.bin .lss (.t 23) (.t 22))] []
(.seq (.cond (.t 24) .skip
 (.exit 0))
(.seq (.block 1 (sr [
mq 25 23,
mq 8 25] [25]
(rg [
mq 26 7,
mq 27 8,
tq 28 (.mkList 1 1 [.t 27]),
tq 29 (.append ⟨false,zbs,1,8⟩ (.t 26) (.t 28)),
mq 7 29] [8,26,27,28,29])))
(rg [
tq 30 (.bin .add (.t 23) (kq 1)),
mq 23 30] [30]))))
def zxi:C:=
  (.seq (sr [
mq 39 11,
tq 40 (.bin .gtr (.t 39) (kq 0))] [39]
(.cond (.t 40) .skip
 (.exit 2)))
(.seq (.block 3 (sr [
mq 43 10,
tq 44 (.bin .mul (kq 48271) (.t 43)),
tq 45 (.bin .rem (.t 44) (kq 2147483647)),
mq 10 45] [43,44,45]
(sr [
mq 46 10,
mq 47 11,
tq 48 (.bin .add (.t 47) (kq 1)),
tq 49 (.bin .rem (.t 46) (.t 48)),
mq 12 49] [46,47,48,49]
(.reg true [
mq 50 9,
mq 51 11,
mq 52 9,
mq 53 12,
mq 54 9,
mq 55 12,
tq 56 (.idxAddr 1 (.t 54) (.t 55)),
ld 57 56,
mq 58 9,
mq 59 11,
tq 60 (.idxAddr 1 (.t 58) (.t 59)),
ld 61 60,
tq 62 (.idxAddr 1 (.t 50) (.t 51)),
⟨none,none,.store 1 (.t 62) (.t 57)⟩,
tq 63 (.idxAddr 1 (.t 52) (.t 53)),
⟨none,none,.store 1 (.t 63) (.t 61)⟩] [12,50,51,52,53,54,55,56,57,58,59,60,61,62,63]))))
(rg [
mq 41 11,
tq 42 (.bin .sub (.t 41) (kq 1)),
mq 11 42] [41,42])))
def z1b:CF:=⟨[.tmp 4,.tmp 5],
  (sr [
tq 4 (.ownNil ⟨true,zbs,1,8⟩),
tq 5 (.mv (kq 0))] [4,5]
(.seq (sr [
mq 13 0,
tq 14 (cl zd2 [.t 13,kq 1,kq 2147483646]),
mq 15 1,
tq 16 (cl zd2 [.t 15,kq 0,kq 256]),
tq 17 (.mkList 1 2 [.t 14,.t 16]),
tq 18 (cl zco [.t 17]),
mq 6 18] [13,14,15,16,17,18]
(sr [
mq 19 6,
tq 20 (.bin .neq (.t 19) (kq 0))] [19]
(.cond (.t 20) (sr [
mq 21 6,
tq 4 (.ownNil ⟨true,zbs,1,8⟩),
mq 5 21] [6,21]
.ret)
 .skip)))
(sr [
tq 7 (.ownNil ⟨false,zbs,1,8⟩)] []
(.seq (sr [
mq 22 1,
tq 23 (.mv (kq 0))] []
(.block 0 (.loop [0,1,7,22,23] zxh)))
(sr [
mq 31 1,
tq 32 (.makeRow ⟨true,zbs,1,8⟩ [.int .i64 0] (.t 31)),
mq 9 32] [31,32]
(sr [
mq 33 9,
mq 34 7,
tq 35 (.copy 1 (.t 33) (.t 34))] [7,33,34,35]
(sr [
mq 36 0,
mq 10 36] [0,36]
(.seq (sr [
mq 37 1,
tq 38 (.bin .sub (.t 37) (kq 1)),
mq 11 38] [1,37,38]
(.block 2 (.loop [9,10,11] zxi)))
(sr [
mq 64 9,
mq 4 64,
tq 5 (.mv (kq 0))] [9,64]
.ret)))))))))⟩
def zk6:C:=
  (.block 1 (sr [
mq 21 2,
mq 22 1,
tq 23 (.bin .sub (.t 21) (.t 22)),
mq 12 23] [21,22,23]
(.seq (sr [
mq 24 12,
tq 25 (.bin .leq (.t 24) (kq 12))] [24]
(.cond (.t 25) (sr [
mq 26 0,
mq 27 1,
mq 28 2,
mq 29 4,
tq 30 (.call true true (.k (.fn zc2 [] [])) [.t 26,.t 27,.t 28,.t 29])] [0,1,2,4,26,27,28,29,30]
.ret)
 .skip))
(.seq (sr [
mq 31 3,
tq 32 (.bin .eql (.t 31) (kq 0))] [31]
(.cond (.t 32) (sr [
mq 33 0,
mq 34 1,
mq 35 2,
mq 36 4,
tq 37 (.call true true (.k (.fn zlz [] [])) [.t 33,.t 34,.t 35,.t 36])] [0,1,2,4,33,34,35,36,37]
.ret)
 .skip))
(.seq (sr [
mq 38 10,
tq 39 (.un .not (.t 38))] [38]
(.cond (.t 39) (sr [
mq 40 0,
mq 41 1,
mq 42 2,
mq 43 4,
tq 44 (.call true true (.k (.fn zjy [] [])) [.t 40,.t 41,.t 42,.t 43])] [40,41,42,43,44]
(rg [
mq 45 3,
tq 46 (.bin .sub (.t 45) (kq 1)),
mq 3 46] [45,46]))
 .skip))
(sr [
mq 48 0,
mq 49 1,
mq 50 2,
mq 51 4,
tq 52 (.call true true (.k (.fn zkk [] [])) [.t 48,.t 49,.t 50,.t 51]),
mq 47 52,
xq 53 47 0,
xq 54 47 1,
mq 13 53,
mq 14 54] [47,48,49,50,51,52,53,54]
(.seq (sr [
mq 55 14,
tq 56 (.bin .eql (.t 55) (kq 2))] [55]
(.cond (.t 56) (sr [
mq 57 0,
mq 58 1,
mq 59 2,
mq 60 4,
tq 61 (.call true true (.k (.fn zj6 [] [])) [.t 57,.t 58,.t 59,.t 60])] [57,58,59,60,61]
(sr [
mq 62 2,
tq 63 (.bin .sub (.t 62) (kq 1)),
mq 64 13,
mq 65 1,
tq 66 (.bin .sub (.t 64) (.t 65)),
tq 67 (.bin .sub (.t 63) (.t 66)),
mq 13 67] [62,63,64,65,66,67]
(rg [
tq 14 (.mv (kq 1))] [])))
 .skip))
(.seq (sr [
mq 68 10,
mq 69 68,
gq 70 69 true (.mv (.t 11)),
tq 71 (.pick (.t 69) (.t 70) (.k (.d (.bool false)))),
mq 72 71,
gq 73 72 true (.mv (.t 14)),
gq 74 72 true (.bin .eql (.t 73) (kq 1)),
tq 75 (.pick (.t 72) (.t 74) (.k (.d (.bool false))))] [14,68,69,70,71,72,73,74]
(.cond (.t 75) (sr [
mq 76 0,
mq 77 1,
mq 78 2,
mq 79 4,
tq 80 (.call true true (.k (.fn zha [] [])) [.t 76,.t 77,.t 78,.t 79])] [76,77,78,79]
(.cond (.t 80) .ret
 .skip))
 .skip))
(.seq (.seq (.reg true [
mq 81 1,
tq 82 (.bin .gtr (.t 81) (kq 0)),
mq 83 82,
gq 84 83 true (.mv (.t 4)),
gq 85 83 true (.mv (.t 0)),
gq 86 83 true (.mv (.t 1)),
gq 87 83 true (.bin .sub (.t 86) (kq 1)),
gq 88 83 true (.idxAddr 1 (.t 85) (.t 87)),
gq 89 83 true (.load none (.t 88)),
gq 90 83 true (.mv (.t 0)),
gq 91 83 true (.mv (.t 13)),
gq 92 83 true (.idxAddr 1 (.t 90) (.t 91)),
gq 93 83 true (.load none (.t 92)),
gq 94 83 true (.call true true (.t 84) [.t 89,.t 93]),
gq 95 83 true (.bin .lss (.t 94) (kq 0)),
gq 96 83 true (.un .not (.t 95)),
tq 97 (.pick (.t 83) (.t 96) (.k (.d (.bool false))))] [81,82,83,84,85,86,87,88,89,90,91,92,93,94,95,96])
(.cond (.t 97) (sr [
mq 98 0,
mq 99 1,
mq 100 2,
mq 101 13,
mq 102 4,
tq 103 (.call true true (.k (.fn zi8 [] [])) [.t 98,.t 99,.t 100,.t 101,.t 102]),
mq 15 103] [1,13,98,99,100,101,102,103]
(sr [
mq 104 15,
mq 1 104] [15,104]
(.exit 1)))
 .skip))
(sr [
mq 106 0,
mq 107 1,
mq 108 2,
mq 109 13,
mq 110 4,
tq 111 (.call true true (.k (.fn zlg [] [])) [.t 106,.t 107,.t 108,.t 109,.t 110]),
mq 105 111,
xq 112 105 0,
xq 113 105 1,
mq 16 112,
mq 17 113] [13,105,106,107,108,109,110,111,112,113]
(sr [
mq 114 17,
mq 11 114] [17,114]
(sr [
mq 115 16,
mq 116 1,
tq 117 (.bin .sub (.t 115) (.t 116)),
mq 118 2,
mq 119 16,
tq 120 (.bin .sub (.t 118) (.t 119)),
mq 18 117,
mq 19 120] [115,116,117,118,119,120]
(sr [
mq 121 12,
tq 122 (.bin .quo (.t 121) (kq 8)),
mq 20 122] [12,121,122]
(sr [
mq 123 18,
mq 124 19,
tq 125 (.bin .lss (.t 123) (.t 124))] [123,124]
(.cond (.t 125) (sr [
mq 126 18,
mq 127 20,
tq 128 (.bin .geq (.t 126) (.t 127)),
mq 10 128] [18,20,126,127,128]
(sr [
mq 129 0,
mq 130 1,
mq 131 16,
mq 132 3,
mq 133 4,
tq 134 (.call true true (.k (.fn zb8 [] [])) [.t 129,.t 130,.t 131,.t 132,.t 133])] [1,129,130,131,132,133,134]
(rg [
mq 135 16,
tq 136 (.bin .add (.t 135) (kq 1)),
mq 1 136] [16,135,136])))
 (sr [
mq 137 19,
mq 138 20,
tq 139 (.bin .geq (.t 137) (.t 138)),
mq 10 139] [19,20,137,138,139]
(sr [
mq 140 0,
mq 141 16,
tq 142 (.bin .add (.t 141) (kq 1)),
mq 143 2,
mq 144 3,
mq 145 4,
tq 146 (.call true true (.k (.fn zb8 [] [])) [.t 140,.t 142,.t 143,.t 144,.t 145])] [2,140,141,142,143,144,145,146]
(rg [
mq 147 16,
mq 2 147] [16,147]))))))))))))))))))
def zmm:CF:=⟨[],
  (sr [
tq 10 (.mv (.k (.d (.bool true))))] []
(sr [
tq 11 (.mv (.k (.d (.bool true))))] []
(.block 0 (.loop [0,1,2,3,4,10,11] zk6))))⟩
def zmf:C:=
  (sr [
tq 10 (.alloc zdi [.z (.str []),.z (.bool false)]),
⟨none,none,.store 2 (.t 10) (.t 42)⟩] [42]
(rg [
tq 11 (.alloc zlk [.z (.str []),.z (.nilf)]),
⟨none,none,.store 2 (.t 11) (.t 43)⟩] [43]))
def zmg:C:=
  (.block 1 (.seq (.reg true [
fa 44 1 11,
ld 45 44,
lq 46 18 4,
tq 47 (.call false true (.t 45) [.t 46]),
fa 48 1 11,
ld 49 48,
lq 50 18 5,
tq 51 (.call false true (.t 49) [.t 50]),
mq 12 47,
mq 13 51] [4,5,11,44,45,46,47,48,49,50,51])
(sr [
mq 52 12,
mq 53 13,
tq 54 (.bin .neq (.t 52) (.t 53))] [52,53]
(.cond (.t 54) (.seq (.reg true [
mq 55 12,
mq 56 13,
tq 57 (.bin .gtr (.t 55) (.t 56)),
fa 58 1 10,
ld 59 58,
tq 60 (.eqv none true (.t 57) (.t 59)),
tq 61 (cl zcy [.t 60]),
tq 62 (.bin .mul (kq 2) (.t 61)),
tq 63 (.bin .sub (.t 62) (kq 1)),
fa 64 0 10,
ld 65 64,
⟨none,none,.storeR 1 (.t 6) (.t 63) [10]⟩,
⟨none,none,.store 1 (.t 7) (.t 65)⟩] [10,12,13,55,56,57,58,59,60,61,62,63,64,65])
.ret)
 .skip))))
def zon:CF:=⟨[.cell 6 none,.cell 7 none],
  (sr [
tq 3 (.box zbq (.t 0)),
tq 4 (.box zat (.t 1)),
tq 5 (.box zat (.t 2)),
tq 6 (.alloc zbs [.z (.int .i64 0)]),
tq 7 (.alloc zbl [.z (.str [])])] [0,1,2]
(.seq (.reg true [
lq 14 4 3,
lq 15 18 4,
tq 16 (cl zc6 [.t 14,.t 15]),
lq 17 4 3,
lq 18 18 5,
tq 19 (cl zc6 [.t 17,.t 18]),
mq 8 16,
mq 9 19] [14,15,16,17,18,19])
(.seq (sr [
mq 20 8,
mq 21 9,
tq 22 (.bin .neq (.t 20) (.t 21))] [20,21]
(.cond (.t 22) (sr [
mq 23 8,
mq 24 9,
tq 25 (.bin .gtr (.t 23) (.t 24)),
tq 26 (cl zcy [.t 25]),
tq 27 (.bin .mul (kq 2) (.t 26)),
tq 28 (.bin .sub (.t 27) (kq 1)),
⟨none,none,.store 1 (.t 6) (.t 28)⟩,
⟨none,none,.store 1 (.t 7) (.k (.d (.str [99,108,97,115,115])))⟩] [8,9,23,24,25,26,27,28]
.ret)
 .skip))
(.seq (sr [
fa 29 0 4,
lq 30 13 29,
fa 31 0 5,
lq 32 13 31,
tq 33 (.eqv (some [.str,.str,.str,.str,.str,.str,.int,.int,.int,.int,.int,.int,.int]) false (.t 30) (.t 32)),
mq 34 33,
gq 35 34 true (.load (some 18) (.t 4)),
gq 36 34 true (.load (some 18) (.t 5)),
gq 37 34 true (.eqv (some [.str,.str,.str,.str,.str,.str,.int,.int,.int,.int,.int,.int,.int,.bool,.bool,.bool,.bool,.int]) false (.t 35) (.t 36)),
tq 38 (.pick (.t 34) (.t 37) (.k (.d (.bool false))))] [29,30,31,32,33,34,35,36,37]
(.cond (.t 38) (sr [
⟨none,none,.store 1 (.t 6) (kq 0)⟩,
⟨none,none,.store 1 (.t 7) (.k (.d (.str [])))⟩] []
.ret)
 .skip))
(.seq (sr [
lq 39 4 3,
mq 40 8,
tq 41 (.call false false (.k (.fn zjs [] [])) [.t 39,.t 40])] [3,8,39,40]
(.block 0 (.rangeFn 67 (.t 41) [42,43] zmf zmg)))
(sr [
⟨none,none,.store 1 (.t 6) (kq 0)⟩,
⟨none,none,.store 1 (.t 7) (.k (.d (.str [])))⟩] []
.ret))))))⟩
def zzs:CF:=⟨[.tmp 4],
  (sr [
tq 2 (.box zat (.t 0)),
tq 3 (.box zgn (.t 1)),
tq 4 (.mv (.k (.d (.bool false))))] [0,1,4]
(.seq (.reg true [
tq 6 (.call false false (.k (.fn zlf [] [])) []),
fa 7 0 3,
ld 8 7,
tq 9 (.lookup .str (.agg [.str [],.nilf]) false (.t 6) (.t 8)),
tq 10 (.field 1 none (.t 9)),
lq 11 18 2,
tq 12 (.call false true (.t 10) [.t 11]),
mq 5 12] [2,6,7,8,9,10,11,12])
(sr [
mq 13 5,
fa 14 2 3,
ld 15 14,
tq 16 (.bin .eql (.t 13) (.t 15)),
mq 17 16,
gq 18 17 true (.fieldAddr 1 (.t 3)),
gq 19 17 true (.load none (.t 18)),
gq 20 17 true (.bin .eql (.t 19) (.k (.d (.str [61])))),
tq 21 (.pick (.t 17) (.t 20) (.k (.d (.bool false)))),
mq 22 21,
gq 23 22 false (.mv (.t 5)),
gq 24 22 false (.fieldAddr 2 (.t 3)),
gq 25 22 false (.load none (.t 24)),
gq 26 22 false (.bin .lss (.t 23) (.t 25)),
gq 27 22 false (.mv (.t 26)),
gq 28 27 true (.fieldAddr 1 (.t 3)),
gq 29 27 true (.load none (.t 28)),
gq 30 27 true (.bin .eql (.t 29) (.k (.d (.str [60])))),
gq 31 22 false (.pick (.t 27) (.t 30) (.k (.d (.bool false)))),
tq 32 (.pick (.t 22) (.k (.d (.bool true))) (.t 31)),
mq 33 32,
gq 34 33 false (.mv (.t 5)),
gq 35 33 false (.fieldAddr 2 (.t 3)),
gq 36 33 false (.load none (.t 35)),
gq 37 33 false (.bin .gtr (.t 34) (.t 36)),
gq 38 33 false (.mv (.t 37)),
gq 39 38 true (.fieldAddr 1 (.t 3)),
gq 40 38 true (.load none (.t 39)),
gq 41 38 true (.bin .eql (.t 40) (.k (.d (.str [62])))),
gq 42 33 false (.pick (.t 38) (.t 41) (.k (.d (.bool false)))),
tq 43 (.pick (.t 33) (.k (.d (.bool true))) (.t 42)),
mq 4 43] [3,5,13,14,15,16,17,18,19,20,21,22,23,24,25,26,27,28,29,30,31,32,33,34,35,36,37,38,39,40,41,42,43]
.ret)))⟩
def z36:CF:=⟨[.tmp 2],
  (sr [
tq 2 (.mv (kq 0))] [2]
(.seq (sr [
mq 3 0] [0]
(.cond (.t 3) (sr [
tq 2 (.mv (kq 1))] []
.ret)
 .skip))
(sr [
tq 2 (.mv (kq 0))] []
.ret)))⟩
def zvb:C:=
  (sr [
tq 8 (.bin .lss (.t 7) (.t 6))] []
(.seq (.cond (.t 8) .skip
 (.exit 0))
(.seq (.block 1 (sr [
tq 9 (.idxAddr 1 (.t 5) (.t 7)),
ld 10 9,
mq 4 10] [9,10]
(sr [
mq 11 4,
tq 12 (.bin .neq (.t 11) (kq 0))] [11]
(.cond (.t 12) (sr [
mq 13 4,
mq 2 13] [4,13]
.ret)
 .skip))))
(rg [
tq 14 (.bin .add (.t 7) (kq 1)),
mq 7 14] [14]))))
def zzh:CF:=⟨[.tmp 2],
  (sr [
tq 2 (.mv (kq 0))] [2]
(.seq (sr [
mq 5 0,
tq 6 (.len .slc (.t 5)),
tq 7 (.mv (kq 0))] [0]
(.block 0 (.loop [5,6,7] zvb)))
(sr [
tq 2 (.mv (kq 0))] []
.ret)))⟩
def zub:CF:=⟨[.tmp 2],
  (sr [
tq 2 (.mv (kq 0))] [2]
(sr [
mq 3 0,
tq 4 (cl zd2 [.t 3,kq 0,kq 99999]),
mq 2 4] [0,3,4]
.ret))⟩
def z1c:CF:=⟨[.tmp 4],
  (sr [
tq 4 (.mv (kq 0))] [4]
(.seq (sr [
mq 5 0] [0]
(.cond (.t 5) (sr [
mq 6 1,
mq 4 6] [1,6]
.ret)
 .skip))
(sr [
tq 4 (.mv (kq 0))] []
.ret)))⟩
def zxu:CF:=⟨[.tmp 6],
  (sr [
tq 6 (.mv (kq 0))] [6]
(sr [
mq 7 0,
mq 8 1,
tq 9 (.bin .lss (.t 7) (.t 8)),
mq 10 9,
gq 11 10 false (.mv (.t 0)),
gq 12 10 false (.mv (.t 2)),
gq 13 10 false (.bin .gtr (.t 11) (.t 12)),
tq 14 (.pick (.t 10) (.k (.d (.bool true))) (.t 13)),
tq 15 (cl zhe [.t 14,kq 3]),
mq 6 15] [0,1,2,7,8,9,10,11,12,13,14,15]
.ret))⟩
def zrl:C:=
  (.seq (sr [
mq 6 3,
fa 7 1 1,
ld 8 7,
tq 9 (.bin .leq (.t 6) (.t 8))] [6,7,8]
(.cond (.t 9) .skip
 (.exit 0)))
(.seq (.block 1 (.seq (.reg true [
fa 12 2 1,
ld 13 12,
mq 14 3,
tq 15 (cl zgx [.t 14]),
tq 16 (cl zhq [.t 13,.t 15]),
mq 17 16,
gq 18 17 true (.mv (.t 0)),
gq 19 17 true (.mv (.t 3)),
gq 20 17 true (.call true true (.t 18) [.t 19]),
gq 21 17 true (.un .not (.t 20)),
tq 22 (.pick (.t 17) (.t 21) (.k (.d (.bool false))))] [12,13,14,15,16,17,18,19,20,21])
(.cond (.t 22) .ret
 .skip)))
(rg [
mq 10 3,
tq 11 (.bin .add (.t 10) (kq 1)),
mq 3 11] [10,11])))
def zuc:CF:=⟨[],
  (sr [
fa 4 0 1,
ld 5 4,
mq 3 5] [4,5]
(.block 0 (.loop [0,1,3] zrl)))⟩
def zxt:CF:=⟨[.tmp 4],
  (sr [
tq 4 (.mv (.k (.d (.bool false))))] [4]
(sr [
mq 5 0,
mq 6 1,
tq 7 (.bin .shr (.t 5) (.t 6)),
tq 8 (.bin .and (.t 7) (kq 1)),
tq 9 (.bin .eql (.t 8) (kq 1)),
mq 4 9] [0,1,5,6,7,8,9]
.ret))⟩
def zvr:CF:=⟨[.tmp 2],
  (sr [
tq 2 (.mv (kq 0))] [2]
(sr [
mq 3 0,
tq 4 (.bin .add (.t 3) (kq 5)),
tq 5 (.bin .rem (.t 4) (kq 7)),
mq 2 5] [0,3,4,5]
.ret))⟩
def zvs:CF:=⟨[.tmp 2],
  (sr [
tq 1 (.box zbl (.t 0)),
tq 2 (.mv (.k (.d (.nilf))))] [0,2]
(sr [
tq 3 (.mkFunc zdt [] [.t 1]),
mq 2 3] [1,3]
.ret))⟩
def ztd:CF:=⟨[.tmp 3],
  (sr [
tq 3 (.mv (.k (.d (.bool false))))] [3]
(sr [
mq 4 0,
ld 5 1,
tq 6 (.bin .eql (.t 4) (.t 5)),
mq 3 6] [0,1,4,5,6]
.ret))⟩
def zvt:CF:=⟨[.tmp 2],
  (sr [
tq 2 (.mv (.k (.d (.bool false))))] [2]
(sr [
tq 2 (.mv (.k (.d (.bool true))))] []
.ret))⟩
def z31:CF:=⟨[.tmp 4],
  (sr [
tq 2 (.box zbp (.t 0)),
tq 4 (.mv (.k (.d (.bool false))))] [0,4]
(.seq (.reg true [
mq 5 1,
fa 6 0 2,
ld 7 6,
tq 8 (.bin .geq (.t 5) (.t 7)),
mq 9 8,
gq 10 9 true (.mv (.t 1)),
gq 11 9 true (.fieldAddr 1 (.t 2)),
gq 12 9 true (.load none (.t 11)),
gq 13 9 true (.bin .leq (.t 10) (.t 12)),
tq 14 (.pick (.t 9) (.t 13) (.k (.d (.bool false)))),
mq 15 14,
gq 16 15 true (.fieldAddr 2 (.t 2)),
gq 17 15 true (.load none (.t 16)),
gq 18 15 true (.mv (.t 1)),
gq 19 15 true (cl zgx [.t 18]),
gq 20 15 true (cl zhq [.t 17,.t 19]),
tq 21 (.pick (.t 15) (.t 20) (.k (.d (.bool false)))),
mq 4 21] [1,2,5,6,7,8,9,10,11,12,13,14,15,16,17,18,19,20,21])
.ret))⟩
def zp0:CF:=⟨[.tmp 2],
  (sr [
tq 1 (.box zag (.t 0)),
tq 2 (.mv (kq 0))] [0,2]
(.seq (.reg true [
fa 3 0 1,
ld 4 3,
tq 5 (cl zb0 [.t 4]),
tq 6 (.un .not (.t 5)),
tq 7 (cl zbw [.t 6,kq 8]),
fa 8 2 1,
ld 9 8,
tq 10 (cl zkj [.t 9]),
fa 11 3 1,
ld 12 11,
tq 13 (cl zf8 [.t 12]),
fa 14 6 1,
lq 15 3 14,
tq 16 (cl zb3 [.t 15]),
fa 17 9 1,
ld 18 17,
tq 19 (cl zbe [.t 18,kq 0,kq 1439]),
fa 20 10 1,
ld 21 20,
fa 22 11 1,
ld 23 22,
fa 24 12 1,
ld 25 24,
tq 26 (cl zmr [.t 21,.t 23,.t 25]),
tq 27 (.mkList 1 6 [.t 7,.t 10,.t 13,.t 16,.t 19,.t 26]),
tq 28 (cl zbv [.t 27]),
mq 2 28] [1,3,4,5,6,7,8,9,10,11,12,13,14,15,16,17,18,19,20,21,22,23,24,25,26,27,28])
.ret))⟩
def zqv:C:=
  (sr [
tq 17 (.bin .lss (.t 16) (.t 15))] []
(.seq (.cond (.t 17) .skip
 (.exit 0))
(.seq (.block 1 (sr [
tq 18 (.idxAddr 1 (.t 14) (.t 16)),
ld 19 18,
mq 7 19] [18,19]
(rg [
mq 20 5,
mq 21 7,
tq 22 (.bin .mul (kq 1440) (.t 21)),
fa 23 9 1,
ld 24 23,
tq 25 (.bin .add (.t 22) (.t 24)),
fa 26 2 1,
ld 27 26,
fa 28 3 1,
ld 29 28,
fa 30 10 1,
ld 31 30,
fa 32 11 1,
ld 33 32,
fa 34 12 1,
ld 35 34,
fa 36 0 1,
ld 37 36,
tq 38 (.build [.z (.int .i64 0),.z (.str []),.z (.str []),.z (.int .i64 0),.z (.int .i64 0),.z (.int .i64 0),.z (.str [])] [(0,1,.t 25),(1,1,.t 27),(2,1,.t 29),(3,1,.t 31),(4,1,.t 33),(5,1,.t 35),(6,1,.t 37)]),
tq 39 (.mkList 7 1 [.t 38]),
tq 40 (.append ⟨false,zao,7,80⟩ (.t 20) (.t 39)),
mq 5 40] [7,20,21,22,23,24,25,26,27,28,29,30,31,32,33,34,35,36,37,38,39,40])))
(rg [
tq 41 (.bin .add (.t 16) (kq 1)),
mq 16 41] [41]))))
def zte:CF:=⟨[.tmp 2],
  (sr [
tq 1 (.box zag (.t 0)),
tq 2 (.ownNil ⟨false,zao,7,80⟩)] [0,2]
(sr [
fa 9 6 1,
lq 10 3 9,
tq 11 (cl zfm [.t 10]),
mq 8 11,
xq 12 8 0,
xq 13 8 1,
mq 3 12,
mq 4 13] [4,8,9,10,11,12,13]
(sr [
tq 5 (.ownNil ⟨false,zao,7,80⟩)] []
(.seq (sr [
mq 14 3,
tq 15 (.len .slc (.t 14)),
tq 16 (.mv (kq 0))] [3]
(.block 0 (.loop [1,5,14,15,16] zqv)))
(sr [
mq 42 5,
mq 2 42] [5,42]
.ret)))))⟩
def zxz:CF:=⟨[.tmp 2],
  (sr [
tq 2 (.mv (kq 0))] []
(.seq (sr [
mq 3 0,
tq 4 (.bin .geq (.t 3) (.k (.d (.int .u32 65536))))] [3]
(.cond (.t 4) (sr [
mq 5 0,
tq 6 (.bin .shr (.t 5) (.k (.d (.int .u64 16)))),
mq 0 6] [5,6]
(rg [
tq 2 (.mv (kq 16))] []))
 .skip))
(.seq (sr [
mq 7 0,
tq 8 (.bin .geq (.t 7) (.k (.d (.int .u32 256))))] [7]
(.cond (.t 8) (sr [
mq 9 0,
tq 10 (.bin .shr (.t 9) (.k (.d (.int .u64 8)))),
mq 0 10] [9,10]
(rg [
mq 11 2,
tq 12 (.bin .add (.t 11) (kq 8)),
mq 2 12] [11,12]))
 .skip))
(sr [
mq 13 2,
mq 14 0,
tq 15 (.conv .u8 (.t 14)),
tq 16 (.idxS (.k (.d (.str [0,1,2,2,3,3,3,3,4,4,4,4,4,4,4,4,5,5,5,5,5,5,5,5,5,5,5,5,5,5,5,5,6,6,6,6,6,6,6,6,6,6,6,6,6,6,6,6,6,6,6,6,6,6,6,6,6,6,6,6,6,6,6,6,7,7,7,7,7,7,7,7,7,7,7,7,7,7,7,7,7,7,7,7,7,7,7,7,7,7,7,7,7,7,7,7,7,7,7,7,7,7,7,7,7,7,7,7,7,7,7,7,7,7,7,7,7,7,7,7,7,7,7,7,7,7,7,7,8,8,8,8,8,8,8,8,8,8,8,8,8,8,8,8,8,8,8,8,8,8,8,8,8,8,8,8,8,8,8,8,8,8,8,8,8,8,8,8,8,8,8,8,8,8,8,8,8,8,8,8,8,8,8,8,8,8,8,8,8,8,8,8,8,8,8,8,8,8,8,8,8,8,8,8,8,8,8,8,8,8,8,8,8,8,8,8,8,8,8,8,8,8,8,8,8,8,8,8,8,8,8,8,8,8,8,8,8,8,8,8,8,8,8,8,8,8,8,8,8,8,8,8,8,8,8,8]))) (.t 15)),
tq 17 (.conv .i64 (.t 16)),
tq 18 (.bin .add (.t 13) (.t 17)),
mq 2 18] [0,13,14,15,16,17,18]
.ret))))⟩
def zx0:CF:=⟨[.tmp 2],
  (sr [
tq 2 (.mv (kq 0))] []
(.seq (sr [
mq 3 0,
tq 4 (.bin .geq (.t 3) (.k (.d (.int .u64 4294967296))))] [3]
(.cond (.t 4) (sr [
mq 5 0,
tq 6 (.bin .shr (.t 5) (.k (.d (.int .u64 32)))),
mq 0 6] [5,6]
(rg [
tq 2 (.mv (kq 32))] []))
 .skip))
(.seq (sr [
mq 7 0,
tq 8 (.bin .geq (.t 7) (.k (.d (.int .u64 65536))))] [7]
(.cond (.t 8) (sr [
mq 9 0,
tq 10 (.bin .shr (.t 9) (.k (.d (.int .u64 16)))),
mq 0 10] [9,10]
(rg [
mq 11 2,
tq 12 (.bin .add (.t 11) (kq 16)),
mq 2 12] [11,12]))
 .skip))
(.seq (sr [
mq 13 0,
tq 14 (.bin .geq (.t 13) (.k (.d (.int .u64 256))))] [13]
(.cond (.t 14) (sr [
mq 15 0,
tq 16 (.bin .shr (.t 15) (.k (.d (.int .u64 8)))),
mq 0 16] [15,16]
(rg [
mq 17 2,
tq 18 (.bin .add (.t 17) (kq 8)),
mq 2 18] [17,18]))
 .skip))
(sr [
mq 19 2,
mq 20 0,
tq 21 (.conv .u8 (.t 20)),
tq 22 (.idxS (.k (.d (.str [0,1,2,2,3,3,3,3,4,4,4,4,4,4,4,4,5,5,5,5,5,5,5,5,5,5,5,5,5,5,5,5,6,6,6,6,6,6,6,6,6,6,6,6,6,6,6,6,6,6,6,6,6,6,6,6,6,6,6,6,6,6,6,6,7,7,7,7,7,7,7,7,7,7,7,7,7,7,7,7,7,7,7,7,7,7,7,7,7,7,7,7,7,7,7,7,7,7,7,7,7,7,7,7,7,7,7,7,7,7,7,7,7,7,7,7,7,7,7,7,7,7,7,7,7,7,7,7,8,8,8,8,8,8,8,8,8,8,8,8,8,8,8,8,8,8,8,8,8,8,8,8,8,8,8,8,8,8,8,8,8,8,8,8,8,8,8,8,8,8,8,8,8,8,8,8,8,8,8,8,8,8,8,8,8,8,8,8,8,8,8,8,8,8,8,8,8,8,8,8,8,8,8,8,8,8,8,8,8,8,8,8,8,8,8,8,8,8,8,8,8,8,8,8,8,8,8,8,8,8,8,8,8,8,8,8,8,8,8,8,8,8,8,8,8,8,8,8,8,8,8,8,8,8,8,8]))) (.t 21)),
tq 23 (.conv .i64 (.t 22)),
tq 24 (.bin .add (.t 19) (.t 23)),
mq 2 24] [0,19,20,21,22,23,24]
.ret)))))⟩
def ze1:C:=
  (.seq (.seq (.reg true [
mq 18 9,
mq 19 1,
tq 20 (.bin .gtr (.t 18) (.t 19)),
mq 21 20,
gq 22 21 true (.mv (.t 3)),
gq 23 21 true (.mv (.t 0)),
gq 24 21 true (.mv (.t 9)),
gq 25 21 true (.idxAddr 2 (.t 23) (.t 24)),
gq 26 21 true (.load (some 2) (.t 25)),
gq 27 21 true (.mv (.t 0)),
gq 28 21 true (.mv (.t 9)),
gq 29 21 true (.bin .sub (.t 28) (kq 1)),
gq 30 21 true (.idxAddr 2 (.t 27) (.t 29)),
gq 31 21 true (.load (some 2) (.t 30)),
gq 32 21 true (.call true true (.t 22) [.t 26,.t 31]),
gq 33 21 true (.bin .lss (.t 32) (kq 0)),
tq 34 (.pick (.t 21) (.t 33) (.k (.d (.bool false))))] [18,19,20,21,22,23,24,25,26,27,28,29,30,31,32,33])
(.cond (.t 34) .skip
 (.exit 2)))
(.seq (.block 3 (.reg true [
mq 37 0,
mq 38 9,
mq 39 0,
mq 40 9,
tq 41 (.bin .sub (.t 40) (kq 1)),
mq 42 0,
mq 43 9,
tq 44 (.bin .sub (.t 43) (kq 1)),
tq 45 (.idxAddr 2 (.t 42) (.t 44)),
lq 46 2 45,
mq 47 0,
mq 48 9,
tq 49 (.idxAddr 2 (.t 47) (.t 48)),
lq 50 2 49,
tq 51 (.idxAddr 2 (.t 37) (.t 38)),
⟨none,none,.store 2 (.t 51) (.t 46)⟩,
tq 52 (.idxAddr 2 (.t 39) (.t 41)),
⟨none,none,.store 2 (.t 52) (.t 50)⟩] [37,38,39,40,41,42,43,44,45,46,47,48,49,50,51,52]))
(rg [
mq 35 9,
tq 36 (.bin .sub (.t 35) (kq 1)),
mq 9 36] [35,36])))
def ze2:C:=
  (.seq (sr [
mq 12 8,
mq 13 2,
tq 14 (.bin .lss (.t 12) (.t 13))] [12,13]
(.cond (.t 14) .skip
 (.exit 0)))
(.seq (.block 1 (sr [
mq 17 8,
mq 9 17] [17]
(.block 2 (.loop [0,1,2,3,8,9] ze1))))
(rg [
mq 15 8,
tq 16 (.bin .add (.t 15) (kq 1)),
mq 8 16] [15,16])))
def zfk:CF:=⟨[],
  (sr [
mq 10 1,
tq 11 (.bin .add (.t 10) (kq 1)),
mq 8 11] [10,11]
(.block 0 (.loop [0,1,2,3,8] ze2)))⟩
def zge:C:=
  (.seq (sr [
mq 31 10,
mq 32 11,
tq 33 (.bin .lss (.t 31) (.t 32))] [31,32]
(.cond (.t 33) .skip
 (.exit 0)))
(.block 1 (sr [
mq 34 10,
mq 35 11,
tq 36 (.bin .add (.t 34) (.t 35)),
tq 37 (.conv .u64 (.t 36)),
tq 38 (.bin .shr (.t 37) (.k (.d (.int .u64 1)))),
tq 39 (.conv .i64 (.t 38)),
mq 12 39] [34,35,36,37,38,39]
(.seq (.reg true [
mq 40 4,
mq 41 0,
mq 42 12,
tq 43 (.idxAddr 2 (.t 41) (.t 42)),
lq 44 2 43,
mq 45 0,
mq 46 1,
tq 47 (.idxAddr 2 (.t 45) (.t 46)),
lq 48 2 47,
tq 49 (.call true true (.t 40) [.t 44,.t 48]),
tq 50 (.bin .lss (.t 49) (kq 0))] [40,41,42,43,44,45,46,47,48,49])
(.cond (.t 50) (rg [
mq 51 12,
tq 52 (.bin .add (.t 51) (kq 1)),
mq 10 52] [12,51,52])
 (rg [
mq 53 12,
mq 11 53] [12,53]))))))
def zgf:C:=
  (.seq (sr [
mq 55 13,
mq 56 10,
tq 57 (.bin .sub (.t 56) (kq 1)),
tq 58 (.bin .lss (.t 55) (.t 57))] [55,56,57]
(.cond (.t 58) .skip
 (.exit 2)))
(.seq (.block 3 (.reg true [
mq 61 0,
mq 62 13,
mq 63 0,
mq 64 13,
tq 65 (.bin .add (.t 64) (kq 1)),
mq 66 0,
mq 67 13,
tq 68 (.bin .add (.t 67) (kq 1)),
tq 69 (.idxAddr 2 (.t 66) (.t 68)),
lq 70 2 69,
mq 71 0,
mq 72 13,
tq 73 (.idxAddr 2 (.t 71) (.t 72)),
lq 74 2 73,
tq 75 (.idxAddr 2 (.t 61) (.t 62)),
⟨none,none,.store 2 (.t 75) (.t 70)⟩,
tq 76 (.idxAddr 2 (.t 63) (.t 65)),
⟨none,none,.store 2 (.t 76) (.t 74)⟩] [61,62,63,64,65,66,67,68,69,70,71,72,73,74,75,76]))
(rg [
mq 59 13,
tq 60 (.bin .add (.t 59) (kq 1)),
mq 13 60] [59,60])))
def zgg:C:=
  (.seq (sr [
mq 83 14,
mq 84 15,
tq 85 (.bin .lss (.t 83) (.t 84))] [83,84]
(.cond (.t 85) .skip
 (.exit 4)))
(.block 5 (sr [
mq 86 14,
mq 87 15,
tq 88 (.bin .add (.t 86) (.t 87)),
tq 89 (.conv .u64 (.t 88)),
tq 90 (.bin .shr (.t 89) (.k (.d (.int .u64 1)))),
tq 91 (.conv .i64 (.t 90)),
mq 16 91] [86,87,88,89,90,91]
(.seq (.reg true [
mq 92 4,
mq 93 0,
mq 94 2,
tq 95 (.idxAddr 2 (.t 93) (.t 94)),
lq 96 2 95,
mq 97 0,
mq 98 16,
tq 99 (.idxAddr 2 (.t 97) (.t 98)),
lq 100 2 99,
tq 101 (.call true true (.t 92) [.t 96,.t 100]),
tq 102 (.bin .lss (.t 101) (kq 0)),
tq 103 (.un .not (.t 102))] [92,93,94,95,96,97,98,99,100,101,102])
(.cond (.t 103) (rg [
mq 104 16,
tq 105 (.bin .add (.t 104) (kq 1)),
mq 14 105] [16,104,105])
 (rg [
mq 106 16,
mq 15 106] [16,106]))))))
def zgh:C:=
  (.seq (sr [
mq 108 17,
mq 109 14,
tq 110 (.bin .gtr (.t 108) (.t 109))] [108,109]
(.cond (.t 110) .skip
 (.exit 6)))
(.seq (.block 7 (.reg true [
mq 113 0,
mq 114 17,
mq 115 0,
mq 116 17,
tq 117 (.bin .sub (.t 116) (kq 1)),
mq 118 0,
mq 119 17,
tq 120 (.bin .sub (.t 119) (kq 1)),
tq 121 (.idxAddr 2 (.t 118) (.t 120)),
lq 122 2 121,
mq 123 0,
mq 124 17,
tq 125 (.idxAddr 2 (.t 123) (.t 124)),
lq 126 2 125,
tq 127 (.idxAddr 2 (.t 113) (.t 114)),
⟨none,none,.store 2 (.t 127) (.t 122)⟩,
tq 128 (.idxAddr 2 (.t 115) (.t 117)),
⟨none,none,.store 2 (.t 128) (.t 126)⟩] [113,114,115,116,117,118,119,120,121,122,123,124,125,126,127,128]))
(rg [
mq 111 17,
tq 112 (.bin .sub (.t 111) (kq 1)),
mq 17 112] [111,112])))
def zgi:C:=
  (.seq (sr [
mq 149 20,
mq 150 21,
tq 151 (.bin .lss (.t 149) (.t 150))] [149,150]
(.cond (.t 151) .skip
 (.exit 8)))
(.block 9 (sr [
mq 152 20,
mq 153 21,
tq 154 (.bin .add (.t 152) (.t 153)),
tq 155 (.conv .u64 (.t 154)),
tq 156 (.bin .shr (.t 155) (.k (.d (.int .u64 1)))),
tq 157 (.conv .i64 (.t 156)),
mq 23 157] [152,153,154,155,156,157]
(.seq (.reg true [
mq 158 4,
mq 159 0,
mq 160 22,
mq 161 23,
tq 162 (.bin .sub (.t 160) (.t 161)),
tq 163 (.idxAddr 2 (.t 159) (.t 162)),
lq 164 2 163,
mq 165 0,
mq 166 23,
tq 167 (.idxAddr 2 (.t 165) (.t 166)),
lq 168 2 167,
tq 169 (.call true true (.t 158) [.t 164,.t 168]),
tq 170 (.bin .lss (.t 169) (kq 0)),
tq 171 (.un .not (.t 170))] [158,159,160,161,162,163,164,165,166,167,168,169,170])
(.cond (.t 171) (rg [
mq 172 23,
tq 173 (.bin .add (.t 172) (kq 1)),
mq 20 173] [23,172,173])
 (rg [
mq 174 23,
mq 21 174] [23,174]))))))
def zg9:CF:=⟨[],
  (.seq (sr [
mq 25 2,
mq 26 1,
tq 27 (.bin .sub (.t 25) (.t 26)),
tq 28 (.bin .eql (.t 27) (kq 1))] [25,26,27]
(.cond (.t 28) (sr [
mq 29 2,
mq 10 29] [2,29]
(sr [
mq 30 3,
mq 11 30] [3,30]
(.seq (.block 0 (.loop [0,1,4,10,11] zge))
(.seq (sr [
mq 54 1,
mq 13 54] [1,54]
(.block 2 (.loop [0,10,13] zgf)))
.ret))))
 .skip))
(.seq (sr [
mq 77 3,
mq 78 2,
tq 79 (.bin .sub (.t 77) (.t 78)),
tq 80 (.bin .eql (.t 79) (kq 1))] [77,78,79]
(.cond (.t 80) (sr [
mq 81 1,
mq 14 81] [1,81]
(sr [
mq 82 2,
mq 15 82] [82]
(.seq (.block 4 (.loop [0,2,4,14,15] zgg))
(.seq (sr [
mq 107 2,
mq 17 107] [2,107]
(.block 6 (.loop [0,14,17] zgh)))
.ret))))
 .skip))
(sr [
mq 129 1,
mq 130 3,
tq 131 (.bin .add (.t 129) (.t 130)),
tq 132 (.conv .u64 (.t 131)),
tq 133 (.bin .shr (.t 132) (.k (.d (.int .u64 1)))),
tq 134 (.conv .i64 (.t 133)),
mq 18 134] [129,130,131,132,133,134]
(sr [
mq 135 18,
mq 136 2,
tq 137 (.bin .add (.t 135) (.t 136)),
mq 19 137] [135,136,137]
(sr [
tq 20 (.mv (kq 0)),
tq 21 (.mv (kq 0))] [20,21]
(.seq (sr [
mq 138 2,
mq 139 18,
tq 140 (.bin .gtr (.t 138) (.t 139))] [138,139]
(.cond (.t 140) (sr [
mq 141 19,
mq 142 3,
tq 143 (.bin .sub (.t 141) (.t 142)),
mq 20 143] [141,142,143]
(rg [
mq 144 18,
mq 21 144] [144]))
 (sr [
mq 145 1,
mq 20 145] [145]
(rg [
mq 146 2,
mq 21 146] [146]))))
(sr [
mq 147 19,
tq 148 (.bin .sub (.t 147) (kq 1)),
mq 22 148] [147,148]
(.seq (.block 8 (.loop [0,1,2,3,4,18,19,20,21,22] zgi))
(sr [
mq 175 19,
mq 176 20,
tq 177 (.bin .sub (.t 175) (.t 176)),
mq 24 177] [19,175,176,177]
(.seq (sr [
mq 178 20,
mq 179 2,
tq 180 (.bin .lss (.t 178) (.t 179)),
mq 181 180,
gq 182 181 true (.mv (.t 2)),
gq 183 181 true (.mv (.t 24)),
gq 184 181 true (.bin .lss (.t 182) (.t 183)),
tq 185 (.pick (.t 181) (.t 184) (.k (.d (.bool false))))] [178,179,180,181,182,183,184]
(.cond (.t 185) (rg [
mq 186 0,
mq 187 20,
mq 188 2,
mq 189 24,
mq 190 4,
tq 191 (.call true true (.k (.fn zdn [] [])) [.t 186,.t 187,.t 188,.t 189,.t 190])] [2,186,187,188,189,190,191])
 .skip))
(.seq (sr [
mq 192 1,
mq 193 20,
tq 194 (.bin .lss (.t 192) (.t 193)),
mq 195 194,
gq 196 195 true (.mv (.t 20)),
gq 197 195 true (.mv (.t 18)),
gq 198 195 true (.bin .lss (.t 196) (.t 197)),
tq 199 (.pick (.t 195) (.t 198) (.k (.d (.bool false))))] [192,193,194,195,196,197,198]
(.cond (.t 199) (rg [
mq 200 0,
mq 201 1,
mq 202 20,
mq 203 18,
mq 204 4,
tq 205 (.call true true (.k (.fn za2 [] [])) [.t 200,.t 201,.t 202,.t 203,.t 204])] [1,20,200,201,202,203,204,205])
 .skip))
(sr [
mq 206 18,
mq 207 24,
tq 208 (.bin .lss (.t 206) (.t 207)),
mq 209 208,
gq 210 209 true (.mv (.t 24)),
gq 211 209 true (.mv (.t 3)),
gq 212 209 true (.bin .lss (.t 210) (.t 211)),
tq 213 (.pick (.t 209) (.t 212) (.k (.d (.bool false))))] [206,207,208,209,210,211,212]
(.cond (.t 213) (rg [
mq 214 0,
mq 215 18,
mq 216 24,
mq 217 3,
mq 218 4,
tq 219 (.call true true (.k (.fn za2 [] [])) [.t 214,.t 215,.t 216,.t 217,.t 218])] [0,3,4,18,24,214,215,216,217,218,219])
 .skip)))))))))))))⟩
def zvx:CF:=⟨[.tmp 2],
  (sr [
tq 2 (.mv (.k (.d (.bool false))))] [2]
(sr [
tq 3 (.call false false (.k (.fn zd3 [] [])) []),
mq 4 0,
tq 5 (.lookup .str (.str []) false (.t 3) (.t 4)),
tq 6 (.bin .neq (.t 5) (.k (.d (.str [])))),
mq 2 6] [0,3,4,5,6]
.ret))⟩
def zd0:CF:=⟨[.tmp 4],
  (sr [
tq 4 (.mv (.k (.d (.bool false))))] [4]
(sr [
mq 5 0,
mq 6 1,
tq 7 (.call true true (.k (.fn zce [] [])) [.t 5,.t 6]),
tq 8 (.bin .geq (.t 7) (kq 0)),
mq 4 8] [0,1,5,6,7,8]
.ret))⟩
def zv1:CF:=⟨[.tmp 3],
  (sr [
tq 2 (.box zfs (.t 0)),
tq 3 (.mv (.k (.d (.bool false))))] [0,3]
(sr [
fa 4 0 2,
ld 5 4,
fa 6 0 1,
ld 7 6,
tq 8 (.bin .eql (.t 5) (.t 7)),
mq 3 8] [1,2,4,5,6,7,8]
.ret))⟩
def zq8:CF:=⟨[.tmp 2],
  (sr [
tq 1 (.box zfs (.t 0)),
tq 2 (.mv (kq 0))] [0,2]
(.seq (.seq (.reg true [
fa 5 0 1,
ld 6 5,
tq 7 (cl zb0 [.t 6]),
tq 8 (.un .not (.t 7)),
tq 9 (cl zbj [.t 8,kq 8]),
fa 10 1 1,
ld 11 10,
tq 12 (.len .slc (.t 11)),
tq 13 (.bin .gtr (.t 12) (kq 8)),
tq 14 (cl zbj [.t 13,kq 5]),
tq 15 (.mkList 1 2 [.t 9,.t 14]),
tq 16 (cl zbi [.t 15]),
mq 3 16] [5,6,7,8,9,10,11,12,13,14,15,16])
(sr [
mq 17 3,
tq 18 (.bin .neq (.t 17) (kq 0))] [17]
(.cond (.t 18) (sr [
mq 19 3,
mq 2 19] [3,19]
.ret)
 .skip)))
(sr [
fa 20 1 1,
ld 21 20,
tq 22 (cl zgk [.t 21,.k (.fn zi2 [] [])]),
mq 4 22] [20,21,22]
(.seq (.reg true [
mq 23 4,
fa 24 2 1,
ld 25 24,
tq 26 (.len .slc (.t 25)),
tq 27 (.bin .gtr (.t 26) (kq 8)),
tq 28 (cl zbj [.t 27,kq 5]),
fa 29 2 1,
ld 30 29,
tq 31 (cl zg0 [.t 30,.k (.fn zi3 [] [])]),
tq 32 (.mkList 1 3 [.t 23,.t 28,.t 31]),
tq 33 (cl zbi [.t 32]),
mq 2 33] [1,4,23,24,25,26,27,28,29,30,31,32,33])
.ret))))⟩
def zd8:C:=
  (sr [
tq 9 (.bin .lss (.t 8) (.t 7))] []
(.seq (.cond (.t 9) .skip
 (.exit 0))
(.seq (.block 1 (sr [
mq 10 8,
mq 5 10] [10]
(sr [
mq 11 1,
mq 12 0,
mq 13 5,
tq 14 (.idxAddr 18 (.t 12) (.t 13)),
lq 15 18 14,
tq 16 (.call true true (.t 11) [.t 15])] [11,12,13,14,15]
(.cond (.t 16) (sr [
mq 17 5,
mq 4 17] [5,17]
.ret)
 .skip))))
(rg [
tq 18 (.bin .add (.t 8) (kq 1)),
mq 8 18] [18]))))
def zeq:CF:=⟨[.tmp 4],
  (sr [
tq 4 (.mv (kq 0))] [4]
(.seq (sr [
mq 6 0,
tq 7 (.len .slc (.t 6)),
tq 8 (.mv (kq 0))] [6]
(.block 0 (.loop [0,1,7,8] zd8)))
(sr [
tq 4 (.mv (kq (-1)))] []
.ret)))⟩
def zvv:CF:=⟨[.tmp 2],
  (sr [
tq 2 (.mv (.k (.d (.bool false))))] [2]
(sr [
mq 3 0,
mq 4 0,
tq 5 (.bin .neq (.t 3) (.t 4)),
mq 2 5] [0,3,4,5]
.ret))⟩
def zik:C:=
  (.seq (.seq (.reg true [
mq 18 9,
mq 19 1,
tq 20 (.bin .gtr (.t 18) (.t 19)),
mq 21 20,
gq 22 21 true (.mv (.t 3)),
gq 23 21 true (.mv (.t 0)),
gq 24 21 true (.mv (.t 9)),
gq 25 21 true (.idxAddr 1 (.t 23) (.t 24)),
gq 26 21 true (.load none (.t 25)),
gq 27 21 true (.mv (.t 0)),
gq 28 21 true (.mv (.t 9)),
gq 29 21 true (.bin .sub (.t 28) (kq 1)),
gq 30 21 true (.idxAddr 1 (.t 27) (.t 29)),
gq 31 21 true (.load none (.t 30)),
gq 32 21 true (.call true true (.t 22) [.t 26,.t 31]),
gq 33 21 true (.bin .lss (.t 32) (kq 0)),
tq 34 (.pick (.t 21) (.t 33) (.k (.d (.bool false))))] [18,19,20,21,22,23,24,25,26,27,28,29,30,31,32,33])
(.cond (.t 34) .skip
 (.exit 2)))
(.seq (.block 3 (.reg true [
mq 37 0,
mq 38 9,
mq 39 0,
mq 40 9,
tq 41 (.bin .sub (.t 40) (kq 1)),
mq 42 0,
mq 43 9,
tq 44 (.bin .sub (.t 43) (kq 1)),
tq 45 (.idxAddr 1 (.t 42) (.t 44)),
ld 46 45,
mq 47 0,
mq 48 9,
tq 49 (.idxAddr 1 (.t 47) (.t 48)),
ld 50 49,
tq 51 (.idxAddr 1 (.t 37) (.t 38)),
⟨none,none,.store 1 (.t 51) (.t 46)⟩,
tq 52 (.idxAddr 1 (.t 39) (.t 41)),
⟨none,none,.store 1 (.t 52) (.t 50)⟩] [37,38,39,40,41,42,43,44,45,46,47,48,49,50,51,52]))
(rg [
mq 35 9,
tq 36 (.bin .sub (.t 35) (kq 1)),
mq 9 36] [35,36])))
def zil:C:=
  (.seq (sr [
mq 12 8,
mq 13 2,
tq 14 (.bin .lss (.t 12) (.t 13))] [12,13]
(.cond (.t 14) .skip
 (.exit 0)))
(.seq (.block 1 (sr [
mq 17 8,
mq 9 17] [17]
(.block 2 (.loop [0,1,2,3,8,9] zik))))
(rg [
mq 15 8,
tq 16 (.bin .add (.t 15) (kq 1)),
mq 8 16] [15,16])))
def zjc:CF:=⟨[],
  (sr [
mq 10 1,
tq 11 (.bin .add (.t 10) (kq 1)),
mq 8 11] [10,11]
(.block 0 (.loop [0,1,2,3,8] zil)))⟩
def zp3:CF:=⟨[.tmp 4],
  (sr [
tq 2 (.box zbq (.t 0)),
tq 3 (.box zbs (.t 1)),
tq 4 (.mv (.k (.d (.nilf))))] [0,1,4]
(sr [
tq 5 (.mkFunc zib [] [.t 3,.t 2]),
mq 4 5] [2,3,5]
.ret))⟩
def zvf:C:=
  (sr [
tq 8 (.bin .lss (.t 7) (.t 6))] []
(.seq (.cond (.t 8) .skip
 (.exit 0))
(.seq (.block 1 (sr [
tq 9 (.idxAddr 2 (.t 5) (.t 7)),
lq 10 2 9,
tq 3 (.alloc zlk [.z (.str []),.z (.nilf)]),
⟨none,none,.store 2 (.t 3) (.t 10)⟩] [9,10]
(rg [
mq 11 1,
fa 12 0 3,
ld 13 12,
lq 14 2 3,
⟨none,none,.mapSet .str (.t 11) (.t 13) (.t 14)⟩] [3,11,12,13,14])))
(rg [
tq 15 (.bin .add (.t 7) (kq 1)),
mq 7 15] [15]))))
def zzt:CF:=⟨[.tmp 0],
  (sr [
tq 0 (.mv (.k (.d (.nilm))))] [0]
(sr [
tq 4 (.mkMap),
mq 1 4] [4]
(.seq (sr [
tq 5 (.call false false (.k (.fn zle [] [])) []),
tq 6 (.len .slc (.t 5)),
tq 7 (.mv (kq 0))] []
(.block 0 (.loop [1,5,6,7] zvf)))
(sr [
mq 16 1,
mq 0 16] [1,16]
.ret))))⟩
def zxw:CF:=⟨[.tmp 2],
  (sr [
tq 2 (.mv (kq 0))] [2]
(sr [
mq 3 0,
tq 4 (.bin .neq (.t 3) (.k (.d (.str [65])))),
mq 5 4,
gq 6 5 true (.mv (.t 0)),
gq 7 5 true (.bin .neq (.t 6) (.k (.d (.str [68])))),
tq 8 (.pick (.t 5) (.t 7) (.k (.d (.bool false)))),
tq 9 (cl zbw [.t 8,kq 13]),
mq 2 9] [0,3,4,5,6,7,8,9]
.ret))⟩
def z1d:CF:=⟨[.tmp 6],
  (sr [
tq 6 (.mv (kq 0))] [6]
(sr [
mq 7 0,
tq 8 (cl zbe [.t 7,kq 0,kq 999]),
mq 9 1,
tq 10 (cl zbe [.t 9,kq 0,kq 9]),
mq 11 2,
tq 12 (cl zbe [.t 11,kq 0,kq 99]),
tq 13 (.mkList 1 3 [.t 8,.t 10,.t 12]),
tq 14 (cl zbv [.t 13]),
mq 6 14] [0,1,2,7,8,9,10,11,12,13,14]
.ret))⟩
def zg5:C:=
  (.seq (sr [
mq 18 10,
mq 19 11,
tq 20 (.bin .neq (.t 18) (.t 19))] [18,19]
(.cond (.t 20) .skip
 (.exit 0)))
(.block 1 (sr [
mq 21 10,
mq 22 11,
tq 23 (.bin .gtr (.t 21) (.t 22))] [21,22]
(.cond (.t 23) (sr [
mq 24 0,
mq 25 2,
mq 26 10,
tq 27 (.bin .sub (.t 25) (.t 26)),
mq 28 2,
mq 29 11,
mq 30 4,
tq 31 (.call true true (.k (.fn zbb [] [])) [.t 24,.t 27,.t 28,.t 29,.t 30])] [24,25,26,27,28,29,30,31]
(rg [
mq 32 10,
mq 33 11,
tq 34 (.bin .sub (.t 32) (.t 33)),
mq 10 34] [32,33,34]))
 (sr [
mq 35 0,
mq 36 2,
mq 37 10,
tq 38 (.bin .sub (.t 36) (.t 37)),
mq 39 2,
mq 40 11,
tq 41 (.bin .add (.t 39) (.t 40)),
mq 42 10,
tq 43 (.bin .sub (.t 41) (.t 42)),
mq 44 10,
mq 45 4,
tq 46 (.call true true (.k (.fn zbb [] [])) [.t 35,.t 38,.t 43,.t 44,.t 45])] [35,36,37,38,39,40,41,42,43,44,45,46]
(rg [
mq 47 11,
mq 48 10,
tq 49 (.bin .sub (.t 47) (.t 48)),
mq 11 49] [47,48,49]))))))
def zhl:CF:=⟨[],
  (sr [
mq 12 2,
mq 13 1,
tq 14 (.bin .sub (.t 12) (.t 13)),
mq 10 14] [1,12,13,14]
(sr [
mq 15 3,
mq 16 2,
tq 17 (.bin .sub (.t 15) (.t 16)),
mq 11 17] [3,15,16,17]
(.seq (.block 0 (.loop [0,2,4,10,11] zg5))
(rg [
mq 50 0,
mq 51 2,
mq 52 10,
tq 53 (.bin .sub (.t 51) (.t 52)),
mq 54 2,
mq 55 10,
mq 56 4,
tq 57 (.call true true (.k (.fn zbb [] [])) [.t 50,.t 53,.t 54,.t 55,.t 56])] [0,2,4,10,50,51,52,53,54,55,56,57]))))⟩
def zd9:C:=
  (sr [
tq 9 (.bin .lss (.t 8) (.t 7))] []
(.seq (.cond (.t 9) .skip
 (.exit 0))
(.seq (.block 1 (sr [
mq 10 8,
mq 5 10] [10]
(sr [
mq 11 1,
mq 12 0,
mq 13 5,
tq 14 (.idxAddr 3 (.t 12) (.t 13)),
lq 15 3 14,
tq 16 (.call true true (.t 11) [.t 15])] [11,12,13,14,15]
(.cond (.t 16) (sr [
mq 17 5,
mq 4 17] [5,17]
.ret)
 .skip))))
(rg [
tq 18 (.bin .add (.t 8) (kq 1)),
mq 8 18] [18]))))
def zer:CF:=⟨[.tmp 4],
  (sr [
tq 4 (.mv (kq 0))] [4]
(.seq (sr [
mq 6 0,
tq 7 (.len .slc (.t 6)),
tq 8 (.mv (kq 0))] [6]
(.block 0 (.loop [0,1,7,8] zd9)))
(sr [
tq 4 (.mv (kq (-1)))] []
.ret)))⟩
def zkd:C:=
  (sr [
tq 11 (.bin .lss (.t 10) (.t 9))] []
(.seq (.cond (.t 11) .skip
 (.exit 0))
(.seq (.block 1 (sr [
mq 12 10,
tq 13 (.idxAddr 3 (.t 8) (.t 10)),
lq 14 3 13,
tq 6 (.alloc zgn [.z (.str []),.z (.str []),.z (.int .i64 0)]),
mq 5 12,
⟨none,none,.store 3 (.t 6) (.t 14)⟩] [12,13,14]
(.seq (.reg true [
mq 15 1,
mq 16 0,
mq 17 5,
tq 18 (.slice 3 (.t 16) none (some (.t 17)) none),
lq 19 3 6,
tq 20 (.call false true (.t 15) [.t 18,.t 19]),
mq 7 20] [5,6,15,16,17,18,19,20])
(sr [
mq 21 7,
tq 22 (.bin .neq (.t 21) (kq 0))] [21]
(.cond (.t 22) (sr [
mq 23 7,
mq 4 23] [7,23]
.ret)
 .skip)))))
(rg [
tq 24 (.bin .add (.t 10) (kq 1)),
mq 10 24] [24]))))
def zk8:CF:=⟨[.tmp 4],
  (sr [
tq 4 (.mv (kq 0))] [4]
(.seq (sr [
mq 8 0,
tq 9 (.len .slc (.t 8)),
tq 10 (.mv (kq 0))] []
(.block 0 (.loop [0,1,8,9,10] zkd)))
(sr [
tq 4 (.mv (kq 0))] []
.ret)))⟩
def zo7:CF:=⟨[.tmp 4],
  (sr [
tq 3 (.box zgn (.t 1)),
tq 4 (.mv (kq 0))] [1,4]
(sr [
lq 5 3 3,
tq 6 (cl zkx [.t 5]),
mq 4 6] [3,5,6]
.ret))⟩
def zru:CF:=⟨[.tmp 2],
  (sr [
tq 1 (.box zgn (.t 0)),
tq 2 (.mv (kq 0))] [0,2]
(.seq (.reg true [
tq 4 (cl zld []),
fa 5 0 1,
ld 6 5,
tq 7 (cl zc5 [.t 4,.t 6]),
mq 3 7] [4,5,6,7])
(.seq (.reg true [
mq 8 3,
tq 9 (.un .not (.t 8)),
tq 10 (cl zbj [.t 9,kq 10]),
fa 11 1 1,
ld 12 11,
tq 13 (.bin .neq (.t 12) (.k (.d (.str [61])))),
mq 14 13,
gq 15 14 true (.fieldAddr 1 (.t 1)),
gq 16 14 true (.load none (.t 15)),
gq 17 14 true (.bin .neq (.t 16) (.k (.d (.str [60])))),
tq 18 (.pick (.t 14) (.t 17) (.k (.d (.bool false)))),
mq 19 18,
gq 20 19 true (.fieldAddr 1 (.t 1)),
gq 21 19 true (.load none (.t 20)),
gq 22 19 true (.bin .neq (.t 21) (.k (.d (.str [62])))),
tq 23 (.pick (.t 19) (.t 22) (.k (.d (.bool false)))),
tq 24 (cl zbj [.t 23,kq 13]),
fa 25 2 1,
ld 26 25,
tq 27 (cl zda [.t 26,kq 0,kq 999999999]),
tq 28 (.mkList 1 3 [.t 10,.t 24,.t 27]),
tq 29 (cl zbi [.t 28]),
mq 2 29] [1,3,8,9,10,11,12,13,14,15,16,17,18,19,20,21,22,23,24,25,26,27,28,29])
.ret)))⟩
def zkp:C:=
  (sr [
tq 11 (.bin .lss (.t 10) (.t 9))] []
(.seq (.cond (.t 11) .skip
 (.exit 0))
(.seq (.block 1 (sr [
mq 12 10,
tq 13 (.idxAddr 2 (.t 8) (.t 10)),
lq 14 2 13,
tq 6 (.alloc zdi [.z (.str []),.z (.bool false)]),
mq 5 12,
⟨none,none,.store 2 (.t 6) (.t 14)⟩] [12,13,14]
(.seq (.reg true [
mq 15 1,
mq 16 0,
mq 17 5,
tq 18 (.slice 2 (.t 16) none (some (.t 17)) none),
lq 19 2 6,
tq 20 (.call false true (.t 15) [.t 18,.t 19]),
mq 7 20] [5,6,15,16,17,18,19,20])
(sr [
mq 21 7,
tq 22 (.bin .neq (.t 21) (kq 0))] [21]
(.cond (.t 22) (sr [
mq 23 7,
mq 4 23] [7,23]
.ret)
 .skip)))))
(rg [
tq 24 (.bin .add (.t 10) (kq 1)),
mq 10 24] [24]))))
def zlu:CF:=⟨[.tmp 4],
  (sr [
tq 4 (.mv (kq 0))] [4]
(.seq (sr [
mq 8 0,
tq 9 (.len .slc (.t 8)),
tq 10 (.mv (kq 0))] []
(.block 0 (.loop [0,1,8,9,10] zkp)))
(sr [
tq 4 (.mv (kq 0))] []
.ret)))⟩
def zo8:CF:=⟨[.tmp 4],
  (sr [
tq 3 (.box zdi (.t 1)),
tq 4 (.mv (kq 0))] [1,4]
(sr [
mq 6 0,
tq 7 (.mkFunc zhu [] [.t 3]),
tq 8 (.call true true (.k (.fn zck [] [])) [.t 6,.t 7]),
mq 5 8] [0,6,7,8]
(.seq (.reg true [
tq 9 (cl zld []),
fa 10 0 3,
ld 11 10,
tq 12 (cl zc5 [.t 9,.t 11]),
tq 13 (.un .not (.t 12)),
tq 14 (cl zbj [.t 13,kq 10]),
mq 15 5,
tq 16 (cl zbj [.t 15,kq 9]),
tq 17 (.mkList 1 2 [.t 14,.t 16]),
tq 18 (cl zbi [.t 17]),
mq 4 18] [3,5,9,10,11,12,13,14,15,16,17,18])
.ret)))⟩
def zet:CF:=⟨[.tmp 4],
  (sr [
tq 4 (.mv (.k (.d (.bool false))))] [4]
(sr [
mq 5 0,
mq 6 1,
tq 7 (.call true true (.k (.fn zcr [] [])) [.t 5,.t 6]),
tq 8 (.bin .geq (.t 7) (kq 0)),
mq 4 8] [0,1,5,6,7,8]
.ret))⟩
def zne:CF:=⟨[.tmp 3],
  (sr [
tq 2 (.box zdi (.t 0)),
tq 3 (.mv (.k (.d (.bool false))))] [0,3]
(sr [
fa 4 0 2,
ld 5 4,
fa 6 0 1,
ld 7 6,
tq 8 (.bin .eql (.t 5) (.t 7)),
mq 3 8] [1,2,4,5,6,7,8]
.ret))⟩
def zj5:CF:=⟨[.tmp 4],
  (sr [
tq 4 (.mv (.k (.d (.bool false))))] [4]
(sr [
mq 5 0,
mq 6 1,
tq 7 (cl zgm [.t 5,.t 6]),
tq 8 (.bin .geq (.t 7) (kq 0)),
mq 4 8] [0,1,5,6,7,8]
.ret))⟩
def zvd:C:=
  (sr [
tq 7 (.bin .lss (.t 6) (.t 5))] []
(.seq (.cond (.t 7) .skip
 (.exit 0))
(.seq (.block 1 (sr [
tq 8 (.idxAddr 2 (.t 4) (.t 6)),
lq 9 2 8,
tq 3 (.alloc zlk [.z (.str []),.z (.nilf)]),
⟨none,none,.store 2 (.t 3) (.t 9)⟩] [8,9]
(rg [
mq 10 1,
fa 11 0 3,
ld 12 11,
tq 13 (.mkList 1 1 [.t 12]),
tq 14 (.append ⟨false,zbl,1,16⟩ (.t 10) (.t 13)),
mq 1 14] [3,10,11,12,13,14])))
(rg [
tq 15 (.bin .add (.t 6) (kq 1)),
mq 6 15] [15]))))
def zzo:CF:=⟨[.tmp 0],
  (sr [
tq 0 (.ownNil ⟨false,zbl,1,16⟩)] [0]
(sr [
tq 1 (.ownNil ⟨false,zbl,1,16⟩)] []
(.seq (sr [
tq 4 (.call false false (.k (.fn zle [] [])) []),
tq 5 (.len .slc (.t 4)),
tq 6 (.mv (kq 0))] []
(.block 0 (.loop [1,4,5,6] zvd)))
(sr [
mq 16 1,
mq 0 16] [1,16]
.ret))))⟩
def zmh:C:=
  (sr [
tq 19 (.bin .lss (.t 18) (.t 17))] []
(.seq (.cond (.t 19) .skip
 (.exit 0))
(.seq (.block 1 (sr [
tq 20 (.idxAddr 2 (.t 16) (.t 18)),
lq 21 2 20,
tq 5 (.alloc zdi [.z (.str []),.z (.bool false)]),
⟨none,none,.store 2 (.t 5) (.t 21)⟩] [20,21]
(.seq (.reg true [
mq 22 0,
lq 23 2 5,
tq 24 (.call false false (.k (.fn zlf [] [])) []),
fa 25 0 5,
ld 26 25,
tq 27 (.lookup .str (.agg [.str [],.nilf]) false (.t 24) (.t 26)),
tq 28 (.call true true (.t 22) [.t 23,.t 27]),
tq 29 (.un .not (.t 28))] [5,22,23,24,25,26,27,28])
(.cond (.t 29) .ret
 .skip))))
(rg [
tq 30 (.bin .add (.t 18) (kq 1)),
mq 18 30] [30]))))
def zoo:CF:=⟨[],
  (.seq (sr [
ld 6 1,
fa 7 0 2,
ld 8 7,
tq 9 (.len .slc (.t 8)),
tq 10 (.bin .geq (.t 6) (.t 9))] [6,7,8,9]
(.cond (.t 10) .ret
 .skip))
(sr [
fa 11 0 2,
ld 12 11,
ld 13 1,
tq 14 (.idxAddr 3 (.t 12) (.t 13)),
fa 15 2 14,
ld 16 15,
tq 17 (.len .slc (.t 16)),
tq 18 (.mv (kq 0))] [1,2,11,12,13,14,15]
(.block 0 (.loop [0,16,17,18] zmh))))⟩
def zzq:CF:=⟨[.tmp 0],
  (sr [
tq 0 (.mv (.k (.d (.list 0 []))))] [0]
(sr [
tq 1 (.build [.z (.str []),.z (.nilf)] [(0,1,.k (.d (.str [104,105,115,116,111,114,105,99]))),(1,1,.k (.fn zny [] []))]),
tq 2 (.build [.z (.str []),.z (.nilf)] [(0,1,.k (.d (.str [114,101,116,105,109,101,100]))),(1,1,.k (.fn znz [] []))]),
tq 3 (.build [.z (.str []),.z (.nilf)] [(0,1,.k (.d (.str [110,101,119,99,111,109,101,114]))),(1,1,.k (.fn zn0 [] []))]),
tq 4 (.build [.z (.str []),.z (.nilf)] [(0,1,.k (.d (.str [121,101,97,114,114,111,117,110,100]))),(1,1,.k (.fn zn1 [] []))]),
tq 5 (.build [.z (.str []),.z (.nilf)] [(0,1,.k (.d (.str [100,97,121,115]))),(1,1,.k (.fn zn2 [] []))]),
tq 6 (.build [.z (.str []),.z (.nilf)] [(0,1,.k (.d (.str [115,101,97,116,115]))),(1,1,.k (.fn zn3 [] []))]),
tq 7 (.build [.z (.str []),.z (.nilf)] [(0,1,.k (.d (.str [115,105,122,101]))),(1,1,.k (.fn zn4 [] []))]),
tq 8 (.build [.z (.str []),.z (.nilf)] [(0,1,.k (.d (.str [110,111,105,115,101]))),(1,1,.k (.fn zn5 [] []))]),
tq 9 (.build [.z (.str []),.z (.nilf)] [(0,1,.k (.d (.str [100,105,115,116,97,110,99,101]))),(1,1,.k (.fn zn6 [] []))]),
tq 10 (.build [.z (.str []),.z (.nilf)] [(0,1,.k (.d (.str [109,105,110,117,116,101]))),(1,1,.k (.fn zmw [] []))]),
tq 11 (.mkList 2 10 [.t 1,.t 2,.t 3,.t 4,.t 5,.t 6,.t 7,.t 8,.t 9,.t 10]),
mq 0 11] [1,2,3,4,5,6,7,8,9,10,11]
.ret))⟩
def zfw:C:=
  (.seq (sr [
mq 11 10,
mq 12 3,
tq 13 (.bin .lss (.t 11) (.t 12))] [11,12]
(.cond (.t 13) .skip
 (.exit 0)))
(.seq (.block 1 (.reg true [
mq 16 0,
mq 17 1,
mq 18 10,
tq 19 (.bin .add (.t 17) (.t 18)),
mq 20 0,
mq 21 2,
mq 22 10,
tq 23 (.bin .add (.t 21) (.t 22)),
mq 24 0,
mq 25 2,
mq 26 10,
tq 27 (.bin .add (.t 25) (.t 26)),
tq 28 (.idxAddr 2 (.t 24) (.t 27)),
lq 29 2 28,
mq 30 0,
mq 31 1,
mq 32 10,
tq 33 (.bin .add (.t 31) (.t 32)),
tq 34 (.idxAddr 2 (.t 30) (.t 33)),
lq 35 2 34,
tq 36 (.idxAddr 2 (.t 16) (.t 19)),
⟨none,none,.store 2 (.t 36) (.t 29)⟩,
tq 37 (.idxAddr 2 (.t 20) (.t 23)),
⟨none,none,.store 2 (.t 37) (.t 35)⟩] [16,17,18,19,20,21,22,23,24,25,26,27,28,29,30,31,32,33,34,35,36,37]))
(rg [
mq 14 10,
tq 15 (.bin .add (.t 14) (kq 1)),
mq 10 15] [14,15])))
def zgq:CF:=⟨[],
  (sr [
tq 10 (.mv (kq 0))] []
(.block 0 (.loop [0,1,2,3,10] zfw)))⟩
def ze0:C:=
  (sr [
tq 9 (.bin .lss (.t 8) (.t 7))] []
(.seq (.cond (.t 9) .skip
 (.exit 0))
(.seq (.block 1 (sr [
mq 10 8,
mq 5 10] [10]
(sr [
mq 11 1,
mq 12 0,
mq 13 5,
tq 14 (.idxAddr 2 (.t 12) (.t 13)),
lq 15 2 14,
tq 16 (.call true true (.t 11) [.t 15])] [11,12,13,14,15]
(.cond (.t 16) (sr [
mq 17 5,
mq 4 17] [5,17]
.ret)
 .skip))))
(rg [
tq 18 (.bin .add (.t 8) (kq 1)),
mq 8 18] [18]))))
def zfj:CF:=⟨[.tmp 4],
  (sr [
tq 4 (.mv (kq 0))] [4]
(.seq (sr [
mq 6 0,
tq 7 (.len .slc (.t 6)),
tq 8 (.mv (kq 0))] [6]
(.block 0 (.loop [0,1,7,8] ze0)))
(sr [
tq 4 (.mv (kq (-1)))] []
.ret)))⟩
def zke:C:=
  (sr [
tq 9 (.bin .lss (.t 8) (.t 7))] []
(.seq (.cond (.t 9) .skip
 (.exit 0))
(.seq (.block 1 (sr [
mq 10 8,
mq 5 10] [10]
(sr [
mq 11 1,
mq 12 0,
mq 13 5,
tq 14 (.idxAddr 1 (.t 12) (.t 13)),
ld 15 14,
tq 16 (.bin .eql (.t 11) (.t 15))] [11,12,13,14,15]
(.cond (.t 16) (sr [
mq 17 5,
mq 4 17] [5,17]
.ret)
 .skip))))
(rg [
tq 18 (.bin .add (.t 8) (kq 1)),
mq 8 18] [18]))))
def zk9:CF:=⟨[.tmp 4],
  (sr [
tq 4 (.mv (kq 0))] [4]
(.seq (sr [
mq 6 0,
tq 7 (.len .slc (.t 6)),
tq 8 (.mv (kq 0))] [6]
(.block 0 (.loop [0,1,7,8] zke)))
(sr [
tq 4 (.mv (kq (-1)))] []
.ret)))⟩
def zv2:CF:=⟨[.tmp 2],
  (sr [
tq 1 (.box zat (.t 0)),
tq 2 (.mv (kq 0))] [0,2]
(sr [
fa 3 13 1,
ld 4 3,
tq 5 (cl zcy [.t 4]),
mq 2 5] [1,3,4,5]
.ret))⟩
def zv3:CF:=⟨[.tmp 2],
  (sr [
tq 1 (.box zat (.t 0)),
tq 2 (.mv (kq 0))] [0,2]
(sr [
fa 3 14 1,
ld 4 3,
tq 5 (cl zcy [.t 4]),
mq 2 5] [1,3,4,5]
.ret))⟩
def zv4:CF:=⟨[.tmp 2],
  (sr [
tq 1 (.box zat (.t 0)),
tq 2 (.mv (kq 0))] [0,2]
(sr [
fa 3 15 1,
ld 4 3,
tq 5 (cl zcy [.t 4]),
mq 2 5] [1,3,4,5]
.ret))⟩
def zv5:CF:=⟨[.tmp 2],
  (sr [
tq 1 (.box zat (.t 0)),
tq 2 (.mv (kq 0))] [0,2]
(sr [
fa 3 16 1,
ld 4 3,
tq 5 (cl zcy [.t 4]),
mq 2 5] [1,3,4,5]
.ret))⟩
def zv6:CF:=⟨[.tmp 2],
  (sr [
tq 1 (.box zat (.t 0)),
tq 2 (.mv (kq 0))] [0,2]
(sr [
fa 6 0 1,
fa 7 6 6,
lq 8 3 7,
tq 9 (cl zig [.t 8]),
mq 5 9,
xq 10 5 0,
xq 11 5 1,
mq 3 10,
mq 4 11] [1,4,5,6,7,8,9,10,11]
(sr [
mq 12 3,
mq 2 12] [3,12]
.ret)))⟩
def zv7:CF:=⟨[.tmp 2],
  (sr [
tq 1 (.box zat (.t 0)),
tq 2 (.mv (kq 0))] [0,2]
(sr [
fa 3 0 1,
fa 4 10 3,
ld 5 4,
mq 2 5] [1,3,4,5]
.ret))⟩
def zv8:CF:=⟨[.tmp 2],
  (sr [
tq 1 (.box zat (.t 0)),
tq 2 (.mv (kq 0))] [0,2]
(sr [
fa 3 0 1,
fa 4 11 3,
ld 5 4,
mq 2 5] [1,3,4,5]
.ret))⟩
def zv9:CF:=⟨[.tmp 2],
  (sr [
tq 1 (.box zat (.t 0)),
tq 2 (.mv (kq 0))] [0,2]
(sr [
fa 3 0 1,
fa 4 12 3,
ld 5 4,
mq 2 5] [1,3,4,5]
.ret))⟩
def zwa:CF:=⟨[.tmp 2],
  (sr [
tq 1 (.box zat (.t 0)),
tq 2 (.mv (kq 0))] [0,2]
(sr [
fa 3 17 1,
ld 4 3,
mq 2 4] [1,3,4]
.ret))⟩
def zum:CF:=⟨[.tmp 2],
  (sr [
tq 1 (.box zat (.t 0)),
tq 2 (.mv (kq 0))] [0,2]
(sr [
fa 3 0 1,
fa 4 9 3,
ld 5 4,
mq 2 5] [1,3,4,5]
.ret))⟩
def codes:List (Nat×CF):=[
  (zh6,ztj),
  (zfp,zx7),
  (zlh,zzx),
  (zgo,z4d),
  (zeh,z1r),
  (zbu,zzc),
  (zhr,zx1),
  (zfo,zx2),
  (zgy,zvw),
  (ziv,zup),
  (ziu,zuo),
  (zqc,z6u),
  (zhh,zrv),
  (zex,zwf),
  (zmu,z1l),
  (zjr,zv0),
  (zij,zzy),
  (zig,zzg),
  (zhg,zrs),
  (zc9,zxv),
  (zgl,zzv),
  (zc4,zzd),
  (zgu,zq3),
  (zgt,zq1),
  (zev,zvp),
  (ziq,zt8),
  (zby,zog),
  (zla,zzf),
  (zf4,zpx),
  (zcm,zoi),
  (zf5,zt9),
  (zde,zrq),
  (zax,z1h),
  (zf9,zuj),
  (zis,zui),
  (zmt,z1i),
  (zc0,zp1),
  (zb7,zue),
  (zbo,zfy),
  (zdg,zrr),
  (zjp,z1k),
  (zaw,zfx),
  (zec,zuf),
  (zed,zug),
  (zgv,zq5),
  (zav,z34),
  (zcx,z33),
  (zuw,yby),
  (zg1,zwd),
  (zov,z4c),
  (zkn,z38),
  (zmy,z1p),
  (zqb,z6t),
  (zh5,zth),
  (zyh,yg5),
  (zju,zp5),
  (zpm,zx5),
  (zi5,zpa),
  (zfm,zxq),
  (zcb,zzn),
  (zot,z35),
  (zbv,zzi),
  (zek,zq4),
  (zbe,zxx),
  (zfb,ztb),
  (zfd,zti),
  (zdx,zpz),
  (zbw,z1e),
  (zlb,zzk),
  (zhd,zrp),
  (zdf,z1a),
  (zif,zze),
  (zbg,ze3),
  (zfa,zta),
  (zb2,zs9),
  (zbn,zpv),
  (n_allocate_board_refusing_1,zmj),
  (zi1,z84),
  (zbf,zxy),
  (zas,zeo),
  (zkh,zxo),
  (zew,zvq),
  (zci,zh1),
  (zbd,znd),
  (zdc,zoj),
  (zh8,zok),
  (ze6,z3z),
  (zjj,zpy),
  (zbr,zdl),
  (zh9,zol),
  (zcz,zpw),
  (zjh,zvm),
  (zee,z1j),
  (zjo,zvy),
  (zgw,zq7),
  (zc7,zq6),
  (zit,zuk),
  (zh4,ztg),
  (zcw,z32),
  (zef,zun),
  (zdy,z4b),
  (zjw,zwe),
  (zeg,z1q),
  (zuv,ybx),
  (zii,zzw),
  (zly,z6s),
  (zcj,zwc),
  (zbi,zzr),
  (zjq,zp2),
  (zmv,zul),
  (zka,zq9),
  (zr6,z1m),
  (zjv,zwb),
  (zcf,znk),
  (zhx,zni),
  (zhw,znh),
  (zhi,zml),
  (zhy,znj),
  (zc6,znf),
  (zjx,zp6),
  (zkb,zra),
  (zb3,zq2),
  (zfn,zo6),
  (zki,zxs),
  (zf6,zua),
  (zgj,zzj),
  (zb0,zxr),
  (zf8,zud),
  (zor,z30),
  (zc1,zmk),
  (zbh,zom),
  (zaz,zep),
  (zdm,zvu),
  (zfc,ztc),
  (zdw,zpu),
  (zc8,zxp),
  (za3,ze4),
  (zeu,zvo),
  (zji,zvn),
  (zms,z1g),
  (zhf,z1f),
  (zcq,zim),
  (zf3,zt7),
  (zdv,zlt),
  (zdo,zhm),
  (zbz,zoh),
  (zgz,zvz),
  (zlc,zzm),
  (zir,zuh),
  (zd3,zx3),
  (zaq,ze5),
  (za9,zzl),
  (zih,zzu),
  (zou,z4a),
  (zmx,z1o),
  (zbj,z1n),
  (zfu,zkr),
  (zqo,zzp),
  (zjt,zp4),
  (zda,zx6),
  (zft,zkq),
  (zi4,zo9),
  (zb5,zdz),
  (zhv,zng),
  (zkw,zrt),
  (zpl,zx4),
  (zlm,ztf),
  (zr5,z1b),
  (zb8,zmm),
  (zia,zon),
  (zqp,zzs),
  (zcy,z36),
  (zco,zzh),
  (zea,zub),
  (zhe,z1c),
  (zd2,zxu),
  (zeb,zuc),
  (zhq,zxt),
  (zgx,zvr),
  (zjk,zvs),
  (zdt,ztd),
  (zjl,zvt),
  (zos,z31),
  (zf7,zp0),
  (zh3,zte),
  (zpj,zxz),
  (zpk,zx0),
  (zbk,zfk),
  (za2,zg9),
  (zjn,zvx),
  (zb6,zd0),
  (znx,zv1),
  (zj9,zq8),
  (zcd,zeq),
  (zjm,zvv),
  (zc2,zjc),
  (zjs,zp3),
  (zlf,zzt),
  (zkj,zxw),
  (zmr,z1d),
  (zdn,zhl),
  (zce,zer),
  (zgk,zk8),
  (zi2,zo7),
  (zkx,zru),
  (zg0,zlu),
  (zi3,zo8),
  (zck,zet),
  (zhu,zne),
  (zc5,zj5),
  (zld,zzo),
  (zib,zoo),
  (zle,zzq),
  (zbb,zgq),
  (zcr,zfj),
  (zgm,zk9),
  (zny,zv2),
  (znz,zv3),
  (zn0,zv4),
  (zn1,zv5),
  (zn2,zv6),
  (zn3,zv7),
  (zn4,zv8),
  (zn5,zv9),
  (zn6,zwa),
  (zmw,zum)]
def code (f:Nat):Option CF:=findC f codes
def globs:Globs:=[(0,[.int .u64 1,.int .u64 10,.int .u64 100,.int .u64 1000,.int .u64 10000,.int .u64 100000,.int .u64 1000000,.int .u64 10000000,.int .u64 100000000,.int .u64 1000000000,.int .u64 10000000000,.int .u64 100000000000,.int .u64 1000000000000,.int .u64 10000000000000,.int .u64 100000000000000,.int .u64 1000000000000000,.int .u64 10000000000000000,.int .u64 100000000000000000,.int .u64 1000000000000000000,.int .u64 10000000000000000000])]
end Go.Proofs.YtkgcnknhkobmjaaGreatDoor.Co
