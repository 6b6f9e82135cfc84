/-
  The functions of the seat in the evaluator's syntax (printed by a program of mine; checked in a text that follows).
-/
import Derived.Test.YthmfkkpmjcbgeabGreatDoorEvE
namespace Go.Proofs.YthmfkkpmjcbgeabGreatDoor.Co
open Go.Evl
def zig:Nat:=3
def zi3:Nat:=4
def zh8:Nat:=5
def zh6:Nat:=6
def zd5:Nat:=7
def zh1:Nat:=8
def zdy:Nat:=9
def zf4:Nat:=10
def zi9:Nat:=11
def zi8:Nat:=12
def zho:Nat:=13
def zi0:Nat:=14
def zhi:Nat:=15
def zed:Nat:=16
def ziz:Nat:=17
def zol:Nat:=18
def zif:Nat:=19
def zhr:Nat:=20
def zij:Nat:=21
def zln:Nat:=22
def zi1:Nat:=23
def zgl:Nat:=24
def zeq:Nat:=25
def za1:Nat:=26
def zak:Nat:=27
def zie:Nat:=30
def zhx:Nat:=32
def zej:Nat:=33
def zep:Nat:=34
def zhl:Nat:=35
def zea:Nat:=36
def zgt:Nat:=37
def zgs:Nat:=38
def zi7:Nat:=39
def za3:Nat:=40
def za8:Nat:=41
def zgj:Nat:=42
def zm4:Nat:=43
def zok:Nat:=44
def zom:Nat:=45
def zjt:Nat:=46
def zi2:Nat:=47
def zfj:Nat:=48
def zfr:Nat:=49
def zhk:Nat:=50
def zd1:Nat:=51
def zdm:Nat:=52
def zdh:Nat:=53
def zex:Nat:=58
def zbd:Nat:=60
def zbv:Nat:=61
def zer:Nat:=62
def ze7:Nat:=63
def zid:Nat:=64
def zgo:Nat:=65
def zll:Nat:=66
def zdg:Nat:=67
def zbp:Nat:=68
def zcb:Nat:=69
def zfg:Nat:=70
def zdf:Nat:=71
def zcd:Nat:=72
def zcr:Nat:=73
def zge:Nat:=74
def zdp:Nat:=75
def ze6:Nat:=76
def zco:Nat:=77
def zii:Nat:=78
def zhf:Nat:=79
def zcf:Nat:=80
def zdr:Nat:=81
def zbj:Nat:=82
def za7:Nat:=83
def zbi:Nat:=84
def zei:Nat:=85
def zda:Nat:=86
def ziu:Nat:=87
def zj8:Nat:=88
def ziy:Nat:=89
def zfl:Nat:=90
def zbm:Nat:=91
def zhv:Nat:=92
def zko:Nat:=93
def ze8:Nat:=94
def zc3:Nat:=95
def zfa:Nat:=96
def zf9:Nat:=97
def zjr:Nat:=98
def zgi:Nat:=99
def zar:Nat:=100
def zb8:Nat:=101
def zgq:Nat:=102
def zdn:Nat:=109
def zee:Nat:=110
def zc5:Nat:=111
def zhe:Nat:=112
def zdd:Nat:=113
def zh0:Nat:=114
def zgv:Nat:=115
def zd0:Nat:=116
def zc2:Nat:=117
def za9:Nat:=118
def zcc:Nat:=119
def zf5:Nat:=120
def zht:Nat:=121
def zl0:Nat:=122
def zb5:Nat:=123
def zlj:Nat:=124
def zfx:Nat:=125
def zj1:Nat:=126
def zh5:Nat:=127
def zb1:Nat:=128
def zgg:Nat:=129
def zgh:Nat:=130
def zgm:Nat:=132
def zdu:Nat:=133
def zib:Nat:=134
def ze3:Nat:=135
def zlo:Nat:=136
def zev:Nat:=137
def zc9:Nat:=138
def zk8:Nat:=139
def zjy:Nat:=140
def zmv:Nat:=141
def zfu:Nat:=142
def zj0:Nat:=143
def zhg:Nat:=144
def zk7:Nat:=145
def zh9:Nat:=146
def zik:Nat:=147
def zg7:Nat:=148
def zg1:Nat:=149
def zg2:Nat:=150
def zg4:Nat:=151
def zgz:Nat:=152
def zgu:Nat:=153
def zgy:Nat:=154
def zg6:Nat:=155
def zg5:Nat:=156
def zgc:Nat:=157
def zf7:Nat:=158
def zgw:Nat:=159
def zdk:Nat:=160
def zdl:Nat:=161
def zeh:Nat:=162
def zgb:Nat:=163
def zhd:Nat:=164
def zdv:Nat:=165
def zez:Nat:=166
def zhj:Nat:=167
def zjd:Nat:=168
def zaw:Nat:=169
def zao:Nat:=170
def zeg:Nat:=171
def zcz:Nat:=172
def zhc:Nat:=173
def zeo:Nat:=174
def zc1:Nat:=175
def zbg:Nat:=176
def zce:Nat:=177
def zh7:Nat:=178
def zbf:Nat:=191
def zg0:Nat:=192
def zbn:Nat:=193
def zno:Nat:=201
def znc:Nat:=202
def zde:Nat:=203
def zit:Nat:=204
def zjb:Nat:=205
def zgn:Nat:=209
def zd9:Nat:=210
def zcu:Nat:=211
def zec:Nat:=212
def zd4:Nat:=213
def zd8:Nat:=214
def zd7:Nat:=215
def zfk:Nat:=216
def zeb:Nat:=217
def zd3:Nat:=218
def zfq:Nat:=219
def zfz:Nat:=220
def zfp:Nat:=221
def zdj:Nat:=222
def ze0:Nat:=223
def zfm:Nat:=224
def ze5:Nat:=225
def zc4:Nat:=226
def zdw:Nat:=227
def zdq:Nat:=228
def zds:Nat:=229
def zki:Nat:=230
def zck:Nat:=231
def zcl:Nat:=232
def zaz:Nat:=234
def zbs:Nat:=235
def zsd:Nat:=236
def zh2:Nat:=237
def zbl:Nat:=238
def zby:Nat:=258
def zbc:Nat:=262
def zbb:Nat:=263
def za4:Nat:=264
def za5:Nat:=265
def zf0:Nat:=266
def zb7:Nat:=267
def zb9:Nat:=268
def zmy:Nat:=270
def zl1:Nat:=271
def zdb:Nat:=282
def n_strings_Join:Nat:=28
def n_strconv_Itoa:Nat:=29
def n_strings_Builder_String:Nat:=31
def n_strings_Builder_copyCheck:Nat:=54
def n_strings_genSplit:Nat:=57
def n_strings_Split:Nat:=59
def n_strings_Repeat:Nat:=131
def n_internal_stringslite_HasSuffix:Nat:=188
def n_strings_IndexAny:Nat:=189
def n_strconv_Atoi:Nat:=190
def zk6:Nat:=194
def zi6:Nat:=195
def zjs:Nat:=196
def zjf:Nat:=197
def zg8:Nat:=198
def zir:Nat:=199
def zkl:Nat:=200
def n_internal_stringslite_IndexByte:Nat:=233
def zam:Nat:=3
def zv6:Nat:=4
def ty_uint8:Nat:=5
def zb3:Nat:=9
def zat:Nat:=24
def z49:Nat:=26
def zxv:Nat:=29
def zab:Nat:=34
def ymx:Nat:=38
def zbh:Nat:=41
def zcx:Nat:=45
def zbo:Nat:=47
def zax:Nat:=49
def zae:Nat:=54
def zal:Nat:=59
def ty_strings_Builder:Nat:=76
def zaa:Nat:=87
def zay:Nat:=89
def zan:Nat:=92
def zcq:Nat:=97
def zgr:Nat:=98
def zpu:Nat:=99
def za6:Nat:=105
def zac:Nat:=115
def zag:Nat:=117
def zh4:Nat:=128
def zb6:Nat:=144
def zop:Nat:=158
def z64:Nat:=207
def zz4:Nat:=219
def zbt:Nat:=221
def zh3:Nat:=226
def zcm:Nat:=227
def zah:Nat:=283
def zaq:Nat:=286
def zpk:C:=
  (sr [
tq 79 (.bin .lss (.t 78) (.t 77))] []
(.seq (.cond (.t 79) .skip
 (.exit 0))
(.seq (.block 1 (sr [
tq 80 (.idxAddr 18 (.t 76) (.t 78)),
lq 81 18 80,
tq 18 (.alloc zax [.z (.str []),.z (.str []),.z (.str []),.z (.str []),.z (.str []),.z (.str []),.z (.int .i64 0),.z (.int .i64 0),.z (.int .i64 0),.z (.int .i64 0),.z (.int .i64 0),.z (.int .i64 0),.z (.int .i64 0),.z (.bool false),.z (.bool false),.z (.bool false),.z (.bool false),.z (.int .i64 0)]),
⟨none,none,.store 18 (.t 18) (.t 81)⟩] [80,81]
(rg [
mq 82 16,
fa 83 0 18,
lq 84 13 83,
tq 85 (.mkList 13 1 [.t 84]),
tq 86 (.append ⟨false,zbo,13,152⟩ (.t 82) (.t 85)),
mq 16 86] [18,82,83,84,85,86])))
(rg [
tq 87 (.bin .add (.t 78) (kq 1)),
mq 78 87] [87]))))
def zpp:C:=
  (sr [
tq 131 (.bin .lss (.t 130) (.t 129))] []
(.seq (.cond (.t 131) .skip
 (.exit 2))
(.seq (.block 3 (sr [
mq 132 130,
tq 133 (.idxAddr 18 (.t 128) (.t 130)),
lq 134 18 133,
tq 23 (.alloc zal [.z (.str []),.z (.str []),.z (.str []),.z (.str []),.z (.str []),.z (.str []),.z (.int .i64 0),.z (.int .i64 0),.z (.int .i64 0),.z (.int .i64 0),.z (.int .i64 0),.z (.int .i64 0),.z (.int .i64 0),.z (.bool false),.z (.bool false),.z (.bool false),.z (.bool false),.z (.int .i64 0)]),
mq 22 132,
⟨none,none,.store 18 (.t 23) (.t 134)⟩] [132,133,134]
(sr [
mq 135 19,
mq 136 22,
tq 137 (.idxAddr 13 (.t 135) (.t 136)),
lq 138 13 137,
fa 139 0 23,
⟨none,none,.store 13 (.t 139) (.t 138)⟩] [22,135,136,137,138,139]
(rg [
mq 140 21,
lq 141 18 23,
tq 142 (.mkList 18 1 [.t 141]),
tq 143 (.append ⟨false,zal,18,168⟩ (.t 140) (.t 142)),
mq 21 143] [23,140,141,142,143]))))
(rg [
tq 144 (.bin .add (.t 130) (kq 1)),
mq 130 144] [144]))))
def zpl:C:=
  (sr [
tq 175 (.bin .lss (.t 174) (.t 173))] []
(.seq (.cond (.t 175) .skip
 (.exit 4))
(.seq (.block 5 (sr [
mq 176 174,
tq 177 (.idxAddr 1 (.t 172) (.t 174)),
ld 178 177,
mq 28 176,
mq 29 178] [176,177,178]
(sr [
mq 179 29,
mq 180 8,
tq 181 (.bin .eql (.t 179) (.t 180))] [29,179,180]
(.cond (.t 181) (sr [
mq 182 26,
mq 183 14,
mq 184 28,
tq 185 (.slice 1 (.t 183) none (some (.t 184)) none),
tq 186 (cl zed [.t 182,.t 185]),
mq 187 186,
gq 188 187 true (.load (some 4) (.t 3)),
gq 189 187 true (.mv (.t 1)),
gq 190 187 true (.mv (.t 8)),
gq 191 187 true (.mv (.t 14)),
gq 192 187 true (cl ziz [.t 188,.t 189,.t 190,.t 191]),
tq 193 (.pick (.t 187) (.t 192) (.k (.d (.bool false)))),
mq 194 193,
gq 195 194 true (cl zh8 []),
tq 196 (.pick (.t 194) (.t 195) (.k (.d (.bool false)))),
mq 6 196] [1,3,8,14,26,28,182,183,184,185,186,187,188,189,190,191,192,193,194,195,196]
.ret)
 .skip))))
(rg [
tq 197 (.bin .add (.t 174) (kq 1)),
mq 174 197] [197]))))
def zru:CF:=⟨[.tmp 6],
  (sr [
tq 3 (.box zat (.t 0)),
tq 5 (.box z49 (.t 2)),
tq 6 (.mv (.k (.d (.bool false))))] [0,2,6]
(.seq (sr [
lq 30 4 3,
mq 31 1,
tq 32 (cl zi3 [.t 30,.t 31,kq 6]),
tq 33 (.un .not (.t 32)),
mq 34 33,
gq 35 34 false (.mv (.t 1)),
gq 36 34 false (.len .slc (.t 35)),
gq 37 34 false (.bin .eql (.t 36) (kq 0)),
tq 38 (.pick (.t 34) (.k (.d (.bool true))) (.t 37))] [30,31,32,33,34,35,36,37]
(.cond (.t 38) (sr [
tq 39 (cl zh8 []),
mq 6 39] [39]
.ret)
 .skip))
(sr [
fa 40 3 3,
⟨none,none,.store 1 (.t 40) (kq 0)⟩] [40]
(sr [
fa 41 0 3,
ld 42 41,
tq 43 (.len .slc (.t 42)),
fa 44 1 3,
⟨none,none,.store 1 (.t 44) (.t 43)⟩] [41,42,43,44]
(.seq (.reg true [
tq 45 (.idxAddrA 2 1 (.t 5) (kq 0)),
ld 46 45,
tq 47 (.conv .i64 (.t 46)),
tq 48 (.bin .add (kq 1) (.t 47)),
tq 49 (.idxAddrA 2 1 (.t 5) (kq 1)),
ld 50 49,
tq 51 (.conv .i64 (.t 50)),
mq 52 1,
tq 53 (.len .slc (.t 52)),
tq 54 (.bin .rem (.t 51) (.t 53)),
mq 7 48,
mq 8 54] [5,45,46,47,48,49,50,51,52,53,54])
(sr [
lq 56 4 3,
tq 57 (cl zd5 [.t 56]),
tq 58 (cl zh6 [.t 57]),
mq 55 58,
xq 59 55 0,
xq 60 55 1,
mq 9 59,
mq 10 60] [55,56,57,58,59,60]
(sr [
mq 62 9,
tq 63 (cl zh1 [.t 62]),
mq 61 63,
xq 64 61 0,
xq 65 61 1,
xq 66 61 2,
tq 11 (.alloc zab [.z (.list 0 []),.z (.int .i64 0),.z (.int .i64 0),.z (.int .i64 0)]),
⟨none,none,.store 4 (.t 11) (.t 64)⟩,
mq 12 65,
mq 13 66] [9,12,61,62,63,64,65,66]
(sr [
lq 68 4 3,
tq 69 (cl zd5 [.t 68]),
mq 70 7,
mq 71 1,
tq 72 (cl zf4 [.t 71]),
tq 73 (cl zdy [.t 69,.t 70,.t 72]),
mq 67 73,
xq 74 67 0,
xq 75 67 1,
mq 14 74,
mq 15 75] [67,68,69,70,71,72,73,74,75]
(sr [
tq 16 (.ownNil ⟨false,zbo,13,152⟩)] []
(.seq (sr [
mq 76 1,
tq 77 (.len .slc (.t 76)),
tq 78 (.mv (kq 0))] []
(.block 0 (.loop [1,3,7,8,10,11,13,14,15,16,76,77,78] zpk)))
(sr [
mq 89 16,
tq 90 (cl zi8 [.t 89,kq 100]),
tq 91 (.mkList 5 1 [.t 90]),
tq 92 (cl zi9 [.t 91]),
mq 88 92,
xq 93 88 0,
xq 94 88 1,
mq 19 93,
mq 20 94] [88,89,90,91,92,93,94]
(.seq (sr [
mq 95 10,
tq 96 (.bin .neq (.t 95) (kq 0)),
mq 97 96,
gq 98 97 false (.mv (.t 13)),
gq 99 97 false (.bin .neq (.t 98) (kq 0)),
tq 100 (.pick (.t 97) (.k (.d (.bool true))) (.t 99)),
mq 101 100,
gq 102 101 false (.mv (.t 15)),
gq 103 101 false (.bin .neq (.t 102) (kq 0)),
tq 104 (.pick (.t 101) (.k (.d (.bool true))) (.t 103)),
mq 105 104,
gq 106 105 false (.mv (.t 20)),
gq 107 105 false (.un .not (.t 106)),
tq 108 (.pick (.t 105) (.k (.d (.bool true))) (.t 107)),
mq 109 108,
gq 110 109 false (.mv (.t 19)),
gq 111 109 false (.mv (.t 16)),
gq 112 109 false (cl zho [.t 110,.t 111]),
gq 113 109 false (.un .not (.t 112)),
tq 114 (.pick (.t 109) (.k (.d (.bool true))) (.t 113)),
mq 115 114,
gq 116 115 false (.mv (.t 14)),
gq 117 115 false (.len .slc (.t 116)),
gq 118 115 false (.mv (.t 1)),
gq 119 115 false (.len .slc (.t 118)),
gq 120 115 false (.bin .neq (.t 117) (.t 119)),
tq 121 (.pick (.t 115) (.k (.d (.bool true))) (.t 120)),
mq 122 121,
gq 123 122 false (.mv (.t 14)),
gq 124 122 false (cl zi0 [.t 123]),
gq 125 122 false (.un .not (.t 124)),
tq 126 (.pick (.t 122) (.k (.d (.bool true))) (.t 125))] [10,13,15,16,20,95,96,97,98,99,100,101,102,103,104,105,106,107,108,109,110,111,112,113,114,115,116,117,118,119,120,121,122,123,124,125]
(.cond (.t 126) (sr [
tq 6 (.mv (.k (.d (.bool false))))] []
.ret)
 .skip))
(sr [
tq 21 (.ownNil ⟨false,zal,18,168⟩)] []
(.seq (sr [
mq 127 1,
tq 128 (cl zf4 [.t 127]),
tq 129 (.len .slc (.t 128)),
tq 130 (.mv (kq 0))] [127]
(.block 2 (.loop [1,3,7,8,11,14,19,21,128,129,130] zpp)))
(sr [
lq 146 4 11,
mq 147 7,
mq 148 21,
tq 149 (cl zdy [.t 146,.t 147,.t 148]),
mq 145 149,
xq 150 145 0,
xq 151 145 1,
mq 24 150,
mq 25 151] [145,146,147,148,149,150,151]
(sr [
lq 153 4 11,
mq 154 7,
mq 155 21,
mq 156 8,
tq 157 (cl zhi [.t 153,.t 154,.t 155,.t 156]),
mq 152 157,
xq 158 152 0,
xq 159 152 1,
mq 26 158,
mq 27 159] [7,11,21,152,153,154,155,156,157,158,159]
(.seq (sr [
mq 160 25,
tq 161 (.bin .neq (.t 160) (kq 0)),
mq 162 161,
gq 163 162 false (.mv (.t 27)),
gq 164 162 false (.bin .neq (.t 163) (kq 0)),
tq 165 (.pick (.t 162) (.k (.d (.bool true))) (.t 164)),
mq 166 165,
gq 167 166 false (.mv (.t 24)),
gq 168 166 false (.mv (.t 14)),
gq 169 166 false (cl zed [.t 167,.t 168]),
gq 170 166 false (.un .not (.t 169)),
tq 171 (.pick (.t 166) (.k (.d (.bool true))) (.t 170))] [24,25,27,160,161,162,163,164,165,166,167,168,169,170]
(.cond (.t 171) (sr [
tq 6 (.mv (.k (.d (.bool false))))] []
.ret)
 .skip))
(.seq (sr [
mq 172 14,
tq 173 (.len .slc (.t 172)),
tq 174 (.mv (kq 0))] []
(.block 4 (.loop [1,3,8,14,26,172,173,174] zpl)))
(sr [
tq 6 (.mv (.k (.d (.bool false))))] []
.ret)))))))))))))))))))⟩
def z0l:CF:=⟨[.tmp 6],
  (sr [
tq 3 (.box zat (.t 0)),
tq 6 (.mv (.k (.d (.bool false))))] [0,6]
(sr [
lq 7 4 3,
tq 8 (cl zol [.t 7]),
mq 9 8,
gq 10 9 true (.mv (.t 1)),
gq 11 9 true (.mv (.t 2)),
gq 12 9 true (cl zif [.t 10,.t 11]),
tq 13 (.pick (.t 9) (.t 12) (.k (.d (.bool false)))),
mq 14 13,
gq 15 14 true (.mv (.t 1)),
gq 16 14 true (.len .slc (.t 15)),
gq 17 14 true (.mv (.t 2)),
gq 18 14 true (.bin .leq (.t 16) (.t 17)),
tq 19 (.pick (.t 14) (.t 18) (.k (.d (.bool false)))),
mq 20 19,
gq 21 20 true (.load (some 4) (.t 3)),
gq 22 20 true (cl zhr [.t 21]),
gq 23 20 true (.bin .eql (.t 22) (kq 0)),
tq 24 (.pick (.t 20) (.t 23) (.k (.d (.bool false)))),
mq 25 24,
gq 26 25 true (.mv (.t 1)),
gq 27 25 true (cl zij [.t 26]),
gq 28 25 true (.bin .eql (.t 27) (kq 0)),
tq 29 (.pick (.t 25) (.t 28) (.k (.d (.bool false)))),
mq 6 29] [1,2,3,7,8,9,10,11,12,13,14,15,16,17,18,19,20,21,22,23,24,25,26,27,28,29]
.ret))⟩
def zx3:CF:=⟨[.tmp 0],
  (sr [
tq 0 (.mv (.k (.d (.bool false))))] [0]
(sr [
tq 9 (.build [.z (.int .i64 0),.z (.int .i64 0),.z (.int .i64 0)] [(0,1,kq 2),(1,1,kq 8),(2,1,kq 96)]),
tq 10 (.build [.z (.str []),.z (.str []),.z (.str []),.z (.str []),.z (.str []),.z (.str []),.z (.int .i64 0),.z (.int .i64 0),.z (.int .i64 0),.z (.int .i64 0),.z (.int .i64 0),.z (.int .i64 0),.z (.int .i64 0)] [(0,1,.k (.d (.str [97]))),(1,1,.k (.d (.str [97,98]))),(2,1,.k (.d (.str [65]))),(4,1,.k (.d (.str [102,97,114]))),(6,3,.t 9),(9,1,kq 60),(11,1,kq 1)]),
tq 11 (.build [.z (.str []),.z (.str []),.z (.str []),.z (.str []),.z (.str []),.z (.str []),.z (.int .i64 0),.z (.int .i64 0),.z (.int .i64 0),.z (.int .i64 0),.z (.int .i64 0),.z (.int .i64 0),.z (.int .i64 0),.z (.bool false),.z (.bool false),.z (.bool false),.z (.bool false),.z (.int .i64 0)] [(0,13,.t 10)]),
tq 1 (.alloc zal [.z (.str []),.z (.str []),.z (.str []),.z (.str []),.z (.str []),.z (.str []),.z (.int .i64 0),.z (.int .i64 0),.z (.int .i64 0),.z (.int .i64 0),.z (.int .i64 0),.z (.int .i64 0),.z (.int .i64 0),.z (.bool false),.z (.bool false),.z (.bool false),.z (.bool false),.z (.int .i64 0)]),
⟨none,none,.store 18 (.t 1) (.t 11)⟩] [9,10,11]
(sr [
lq 12 18 1,
tq 2 (.alloc zal [.z (.str []),.z (.str []),.z (.str []),.z (.str []),.z (.str []),.z (.str []),.z (.int .i64 0),.z (.int .i64 0),.z (.int .i64 0),.z (.int .i64 0),.z (.int .i64 0),.z (.int .i64 0),.z (.int .i64 0),.z (.bool false),.z (.bool false),.z (.bool false),.z (.bool false),.z (.int .i64 0)]),
⟨none,none,.store 18 (.t 2) (.t 12)⟩] [12]
(sr [
fa 13 0 2,
fa 14 0 13,
⟨none,none,.store 1 (.t 14) (.k (.d (.str [98])))⟩,
fa 15 0 2,
fa 16 6 15,
fa 17 2 16,
⟨none,none,.store 1 (.t 17) (kq 127)⟩] [13,14,15,16,17]
(sr [
lq 19 18 1,
tq 20 (cl zln [.t 19,.k (.d (.str [100,97,121,115]))]),
mq 18 20,
xq 21 18 0,
xq 22 18 1,
mq 3 21,
mq 4 22] [18,19,20,21,22]
(.seq (.reg true [
tq 24 (cl zi1 []),
lq 25 18 1,
lq 26 18 2,
tq 27 (.mkList 18 2 [.t 25,.t 26]),
tq 28 (cl zdy [.t 24,kq 3,.t 27]),
mq 23 28,
xq 29 23 0,
xq 30 23 1,
mq 5 29,
mq 6 30] [2,23,24,25,26,27,28,29,30])
(sr [
fa 32 0 1,
fa 33 6 32,
lq 34 3 33,
tq 35 (cl zgl [.t 34]),
mq 31 35,
xq 36 31 0,
xq 37 31 1,
mq 7 36,
mq 8 37] [1,31,32,33,34,35,36,37]
(sr [
mq 38 4,
mq 39 6,
tq 40 (.bin .add (.t 38) (.t 39)),
mq 41 8,
tq 42 (.bin .add (.t 40) (.t 41)),
tq 43 (.bin .eql (.t 42) (kq 0)),
mq 44 43,
gq 45 44 true (.mv (.t 3)),
gq 46 44 true (.bin .eql (.t 45) (kq 2)),
tq 47 (.pick (.t 44) (.t 46) (.k (.d (.bool false)))),
mq 48 47,
gq 49 48 true (.mv (.t 7)),
gq 50 48 true (.bin .eql (.t 49) (kq 2)),
tq 51 (.pick (.t 48) (.t 50) (.k (.d (.bool false)))),
mq 52 51,
gq 53 52 true (.mv (.t 5)),
gq 54 52 true (.mkList 1 2 [kq 1,kq 0]),
gq 55 52 true (cl zed [.t 53,.t 54]),
tq 56 (.pick (.t 52) (.t 55) (.k (.d (.bool false)))),
mq 0 56] [3,4,5,6,7,8,38,39,40,41,42,43,44,45,46,47,48,49,50,51,52,53,54,55,56]
.ret))))))))⟩
def zfo:C:=
  (sr [
tq 41 (.bin .lss (.t 40) (.t 39))] []
(.seq (.cond (.t 41) .skip
 (.exit 2))
(.seq (.block 3 (sr [
tq 42 (.idxAddr 3 (.t 38) (.t 40)),
lq 43 3 42,
tq 11 (.alloc zay [.z (.str []),.z (.str []),.z (.int .i64 0)]),
⟨none,none,.store 3 (.t 11) (.t 43)⟩] [42,43]
(.reg true [
mq 44 9,
fa 45 0 11,
ld 46 45,
fa 47 1 11,
ld 48 47,
tq 49 (.bin .add (.t 46) (.t 48)),
fa 50 2 11,
ld 51 50,
tq 52 (cl n_strconv_Itoa [.t 51]),
tq 53 (.bin .add (.t 49) (.t 52)),
tq 54 (.mkList 1 1 [.t 53]),
tq 55 (.append ⟨false,zb3,1,16⟩ (.t 44) (.t 54)),
mq 9 55] [11,44,45,46,47,48,49,50,51,52,53,54,55])))
(rg [
tq 56 (.bin .add (.t 40) (kq 1)),
mq 40 56] [56]))))
def zch:C:=
  (sr [
tq 68 (.bin .lss (.t 67) (.t 66))] []
(.seq (.cond (.t 68) .skip
 (.exit 4))
(.seq (.block 5 (sr [
tq 69 (.idxAddr 2 (.t 65) (.t 67)),
lq 70 2 69,
tq 13 (.alloc zan [.z (.str []),.z (.bool false)]),
⟨none,none,.store 2 (.t 13) (.t 70)⟩] [69,70]
(.reg true [
mq 71 9,
fa 72 0 13,
ld 73 72,
lq 74 2 13,
tq 75 (cl zie [.t 74]),
tq 76 (.bin .add (.t 73) (.t 75)),
tq 77 (.mkList 1 1 [.t 76]),
tq 78 (.append ⟨false,zb3,1,16⟩ (.t 71) (.t 77)),
mq 9 78] [13,71,72,73,74,75,76,77,78])))
(rg [
tq 79 (.bin .add (.t 67) (kq 1)),
mq 67 79] [79]))))
def ztc:C:=
  (sr [
tq 24 (.bin .lss (.t 23) (.t 22))] []
(.seq (.cond (.t 24) .skip
 (.exit 0))
(.seq (.block 1 (sr [
tq 25 (.idxAddr 3 (.t 21) (.t 23)),
lq 26 3 25,
tq 8 (.alloc zaa [.z (.str []),.z (.list 0 []),.z (.list 0 [])]),
⟨none,none,.store 3 (.t 8) (.t 26)⟩] [25,26]
(sr [
fa 27 0 8,
ld 28 27,
tq 29 (.mkRow ⟨false,zb3,1,16⟩ 2 [.k (.d (.str [99,108,97,115,115])),.t 28]),
mq 9 29] [27,28,29]
(.seq (sr [
fa 30 1 8,
ld 31 30,
tq 32 (.len .slc (.t 31)),
tq 33 (.bin .gtr (.t 32) (kq 0))] [30,31,32]
(.cond (.t 33) (rg [
mq 34 9,
tq 35 (.mkList 1 1 [.k (.d (.str [119,104,101,110]))]),
tq 36 (.append ⟨false,zb3,1,16⟩ (.t 34) (.t 35)),
mq 9 36] [34,35,36])
 .skip))
(.seq (sr [
fa 37 1 8,
ld 38 37,
tq 39 (.len .slc (.t 38)),
tq 40 (.mv (kq 0))] [37]
(.block 2 (.loop [1,5,6,8,9,21,22,23,38,39,40] zfo)))
(.seq (sr [
fa 57 2 8,
ld 58 57,
tq 59 (.len .slc (.t 58)),
tq 60 (.bin .gtr (.t 59) (kq 0))] [57,58,59]
(.cond (.t 60) (rg [
mq 61 9,
tq 62 (.mkList 1 1 [.k (.d (.str [98,121]))]),
tq 63 (.append ⟨false,zb3,1,16⟩ (.t 61) (.t 62)),
mq 9 63] [61,62,63])
 .skip))
(.seq (sr [
fa 64 2 8,
ld 65 64,
tq 66 (.len .slc (.t 65)),
tq 67 (.mv (kq 0))] [8,64]
(.block 4 (.loop [1,5,6,9,21,22,23,65,66,67] zch)))
(rg [
mq 80 6,
mq 81 9,
tq 82 (.call true true (.t 80) [.t 81])] [9,80,81,82]))))))))
(rg [
tq 83 (.bin .add (.t 23) (kq 1)),
mq 23 83] [83]))))
def zx6:CF:=⟨[.tmp 2,.tmp 3],
  (sr [
tq 1 (.box zab (.t 0)),
tq 2 (.mv (.k (.d (.str [])))),
tq 3 (.mv (kq 0))] [0,2,3]
(.seq (sr [
lq 14 4 1,
tq 15 (cl zeq [.t 14]),
mq 4 15] [14,15]
(sr [
mq 16 4,
tq 17 (.bin .neq (.t 16) (kq 0))] [16]
(.cond (.t 17) (sr [
mq 18 4,
tq 2 (.mv (.k (.d (.str [])))),
mq 3 18] [4,18]
.ret)
 .skip)))
(sr [
tq 5 (.alloc ty_strings_Builder [.z .nilp,.own ⟨false,ty_uint8,1,1⟩])] []
(sr [
tq 19 (.mkFunc za1 [] [.t 5]),
mq 6 19] [19]
(.seq (sr [
fa 20 0 1,
ld 21 20,
tq 22 (.len .slc (.t 21)),
tq 23 (.mv (kq 0))] [20]
(.block 0 (.loop [1,5,6,21,22,23] ztc)))
(.seq (.reg true [
mq 84 6,
fa 85 1 1,
ld 86 85,
tq 87 (cl n_strconv_Itoa [.t 86]),
fa 88 3 1,
ld 89 88,
tq 90 (cl n_strconv_Itoa [.t 89]),
fa 91 2 1,
ld 92 91,
tq 93 (cl n_strconv_Itoa [.t 92]),
tq 94 (.mkList 1 6 [.k (.d (.str [112,111,111,108])),.t 87,.k (.d (.str [115,104,97,114,101])),.t 90,.k (.d (.str [111,102])),.t 93]),
tq 95 (.call true true (.t 84) [.t 94])] [1,6,84,85,86,87,88,89,90,91,92,93,94,95])
(sr [
tq 96 (.call true true (.k (.fn n_strings_Builder_String [] [])) [.t 5]),
mq 2 96,
tq 3 (.mv (kq 0))] [5,96]
.ret)))))))⟩
def zre:C:=
  (sr [
tq 32 (.bin .lss (.t 31) (.t 30))] []
(.seq (.cond (.t 32) .skip
 (.exit 2))
(.seq (.block 3 (sr [
tq 33 (.idxAddr 3 (.t 29) (.t 31)),
lq 34 3 33,
tq 8 (.alloc zgr [.z (.str []),.z (.str []),.z (.int .i64 0)]),
⟨none,none,.store 3 (.t 8) (.t 34)⟩] [33,34]
(rg [
fa 35 1 6,
ld 36 35,
lq 37 3 8,
tq 38 (.mkList 3 1 [.t 37]),
tq 39 (.append ⟨false,zay,3,40⟩ (.t 36) (.t 38)),
fa 40 1 6,
⟨none,none,.store 1 (.t 40) (.t 39)⟩] [8,35,36,37,38,39,40])))
(rg [
tq 41 (.bin .add (.t 31) (kq 1)),
mq 31 41] [41]))))
def zq4:C:=
  (sr [
tq 46 (.bin .lss (.t 45) (.t 44))] []
(.seq (.cond (.t 46) .skip
 (.exit 4))
(.seq (.block 5 (sr [
tq 47 (.idxAddr 2 (.t 43) (.t 45)),
lq 48 2 47,
tq 10 (.alloc zpu [.z (.str []),.z (.bool false)]),
⟨none,none,.store 2 (.t 10) (.t 48)⟩] [47,48]
(rg [
fa 49 2 6,
ld 50 49,
lq 51 2 10,
tq 52 (.mkList 2 1 [.t 51]),
tq 53 (.append ⟨false,zan,2,24⟩ (.t 50) (.t 52)),
fa 54 2 6,
⟨none,none,.store 1 (.t 54) (.t 53)⟩] [10,49,50,51,52,53,54])))
(rg [
tq 55 (.bin .add (.t 45) (kq 1)),
mq 45 55] [55]))))
def zq7:C:=
  (sr [
tq 22 (.bin .lss (.t 21) (.t 20))] []
(.seq (.cond (.t 22) .skip
 (.exit 0))
(.seq (.block 1 (sr [
tq 23 (.idxAddr 3 (.t 19) (.t 21)),
lq 24 3 23,
tq 5 (.alloc zcq [.z (.str []),.z (.list 0 []),.z (.list 0 [])]),
⟨none,none,.store 3 (.t 5) (.t 24)⟩] [23,24]
(sr [
fa 25 0 5,
ld 26 25,
tq 27 (.build [.z (.str []),.own ⟨false,zay,3,40⟩,.own ⟨false,zan,2,24⟩] [(0,1,.t 26)]),
tq 6 (.alloc zaa [.z (.str []),.own ⟨false,zay,3,40⟩,.own ⟨false,zan,2,24⟩]),
⟨none,none,.store 3 (.t 6) (.t 27)⟩] [25,26,27]
(.seq (sr [
fa 28 1 5,
ld 29 28,
tq 30 (.len .slc (.t 29)),
tq 31 (.mv (kq 0))] [28]
(.block 2 (.loop [2,3,5,6,19,20,21,29,30,31] zre)))
(.seq (sr [
fa 42 2 5,
ld 43 42,
tq 44 (.len .slc (.t 43)),
tq 45 (.mv (kq 0))] [5,42]
(.block 4 (.loop [2,3,6,19,20,21,43,44,45] zq4)))
(rg [
fa 56 0 3,
ld 57 56,
lq 58 3 6,
tq 59 (.mkList 3 1 [.t 58]),
tq 60 (.append ⟨false,zaa,3,64⟩ (.t 57) (.t 59)),
fa 61 0 3,
⟨none,none,.store 1 (.t 61) (.t 60)⟩] [6,56,57,58,59,60,61]))))))
(rg [
tq 62 (.bin .add (.t 21) (kq 1)),
mq 21 62] [62]))))
def ztb:CF:=⟨[.cell 2 (some 4)],
  (sr [
tq 1 (.box zat (.t 0)),
tq 2 (.alloc zab [.own ⟨false,zaa,3,64⟩,.z (.int .i64 0),.z (.int .i64 0),.z (.int .i64 0)])] [0]
(sr [
fa 11 1 1,
ld 12 11,
fa 13 2 1,
ld 14 13,
fa 15 3 1,
ld 16 15,
tq 17 (.build [.own ⟨false,zaa,3,64⟩,.z (.int .i64 0),.z (.int .i64 0),.z (.int .i64 0)] [(1,1,.t 12),(2,1,.t 14),(3,1,.t 16)]),
tq 3 (.alloc zab [.own ⟨false,zaa,3,64⟩,.z (.int .i64 0),.z (.int .i64 0),.z (.int .i64 0)]),
⟨none,none,.store 4 (.t 3) (.t 17)⟩] [11,12,13,14,15,16,17]
(.seq (sr [
fa 18 0 1,
ld 19 18,
tq 20 (.len .slc (.t 19)),
tq 21 (.mv (kq 0))] [1,18]
(.block 0 (.loop [2,3,19,20,21] zq7)))
(sr [
lq 63 4 3,
⟨none,none,.store 4 (.t 2) (.t 63)⟩] [3,63]
.ret))))⟩
def zi5:C:=
  (sr [
tq 33 (.bin .lss (.t 32) (.t 31))] []
(.seq (.cond (.t 33) .skip
 (.exit 0))
(.seq (.block 1 (sr [
mq 34 32,
tq 35 (.idxAddr 1 (.t 30) (.t 32)),
ld 36 35,
mq 7 34,
mq 8 36] [34,35,36]
(sr [
lq 38 4 6,
mq 39 8,
tq 40 (.call true false (.k (.fn zej [] [])) [.t 38,.t 39]),
mq 37 40,
xq 41 37 0,
xq 42 37 1,
xq 43 37 2,
tq 9 (.alloc zab [.own ⟨true,zaa,3,64⟩,.z (.int .i64 0),.z (.int .i64 0),.z (.int .i64 0)]),
⟨none,none,.store 4 (.t 9) (.t 41)⟩,
mq 10 42,
mq 11 43] [8,37,38,39,40,41,42,43]
(.seq (sr [
mq 44 11,
tq 45 (.bin .neq (.t 44) (kq 0))] [44]
(.cond (.t 45) (sr [
tq 46 (.build [.own ⟨true,zaa,3,64⟩,.z (.int .i64 0),.z (.int .i64 0),.z (.int .i64 0)] []),
mq 47 7,
mq 48 11,
⟨none,none,.store 4 (.t 2) (.t 46)⟩,
mq 3 47,
mq 4 48] [7,11,46,47,48]
.ret)
 .skip))
(.seq (sr [
mq 49 10,
mq 50 49,
gq 51 50 true (.mv (.t 7)),
gq 52 50 true (.bin .add (.t 51) (kq 1)),
gq 53 50 true (.mv (.t 5)),
gq 54 50 true (.len .slc (.t 53)),
gq 55 50 true (.bin .lss (.t 52) (.t 54)),
tq 56 (.pick (.t 50) (.t 55) (.k (.d (.bool false))))] [49,50,51,52,53,54,55]
(.cond (.t 56) (sr [
tq 57 (.build [.own ⟨true,zaa,3,64⟩,.z (.int .i64 0),.z (.int .i64 0),.z (.int .i64 0)] []),
mq 58 7,
tq 59 (.bin .add (.t 58) (kq 1)),
⟨none,none,.store 4 (.t 2) (.t 57)⟩,
mq 3 59,
tq 4 (.mv (kq 25))] [7,57,58,59]
.ret)
 .skip))
(.seq (sr [
mq 60 10] [10]
(.cond (.t 60) (sr [
lq 61 4 9,
⟨none,none,.store 4 (.t 2) (.t 61)⟩,
tq 3 (.mv (kq 0)),
tq 4 (.mv (kq 0))] [9,61]
.ret)
 .skip))
(rg [
lq 62 4 9,
⟨none,none,.store 4 (.t 6) (.t 62)⟩] [9,62])))))))
(rg [
tq 63 (.bin .add (.t 32) (kq 1)),
mq 32 63] [63]))))
def zyk:CF:=⟨[.cell 2 (some 4),.tmp 3,.tmp 4],
  (sr [
tq 2 (.alloc zab [.own ⟨true,zaa,3,64⟩,.z (.int .i64 0),.z (.int .i64 0),.z (.int .i64 0)]),
tq 3 (.mv (kq 0)),
tq 4 (.mv (kq 0))] [3,4]
(.seq (sr [
mq 12 0,
tq 13 (.len .str (.t 12)),
tq 14 (.bin .gtr (.t 13) (kq 4096))] [12,13]
(.cond (.t 14) (sr [
tq 15 (.build [.own ⟨true,zaa,3,64⟩,.z (.int .i64 0),.z (.int .i64 0),.z (.int .i64 0)] []),
⟨none,none,.store 4 (.t 2) (.t 15)⟩,
tq 3 (.mv (kq 0)),
tq 4 (.mv (kq 26))] [15]
.ret)
 .skip))
(sr [
mq 16 0,
tq 17 (cl zhx [.t 16,.k (.d (.str [10]))]),
mq 5 17] [0,16,17]
(.seq (sr [
mq 18 5,
mq 19 5,
tq 20 (.len .slc (.t 19)),
tq 21 (.bin .sub (.t 20) (kq 1)),
tq 22 (.idxAddr 1 (.t 18) (.t 21)),
ld 23 22,
tq 24 (.bin .eql (.t 23) (.k (.d (.str []))))] [18,19,20,21,22,23]
(.cond (.t 24) (rg [
mq 25 5,
mq 26 5,
tq 27 (.len .slc (.t 26)),
tq 28 (.bin .sub (.t 27) (kq 1)),
tq 29 (.slice 1 (.t 25) none (some (.t 28)) none),
mq 5 29] [25,26,27,28,29])
 .skip))
(sr [
tq 6 (.alloc zab [.own ⟨true,zaa,3,64⟩,.z (.int .i64 0),.z (.int .i64 0),.z (.int .i64 0)])] []
(.seq (sr [
mq 30 5,
tq 31 (.len .slc (.t 30)),
tq 32 (.mv (kq 0))] []
(.block 0 (.loop [2,5,6,30,31,32] zi5)))
(sr [
tq 64 (.build [.own ⟨true,zaa,3,64⟩,.z (.int .i64 0),.z (.int .i64 0),.z (.int .i64 0)] []),
mq 65 5,
tq 66 (.len .slc (.t 65)),
⟨none,none,.store 4 (.t 2) (.t 64)⟩,
mq 3 66,
tq 4 (.mv (kq 28))] [5,64,65,66]
.ret)))))))⟩
def z0m:CF:=⟨[.tmp 6,.tmp 7],
  (sr [
tq 3 (.box zab (.t 0)),
tq 6 (.mv (.k (.d (.list 0 [])))),
tq 7 (.mv (kq 0))] [0,6,7]
(.seq (sr [
lq 9 4 3,
mq 10 1,
mq 11 2,
tq 12 (cl zep [.t 9,.t 10,.t 11]),
mq 8 12] [9,10,11,12]
(sr [
mq 13 8,
tq 14 (.bin .neq (.t 13) (kq 0))] [13]
(.cond (.t 14) (sr [
mq 15 8,
tq 6 (.mv (.k (.d (.list 0 [])))),
mq 7 15] [8,15]
.ret)
 .skip)))
(sr [
lq 16 4 3,
mq 17 1,
mq 18 2,
tq 19 (cl zhl [.t 16,.t 17,.t 18]),
tq 20 (cl zea [.t 19]),
mq 6 20,
tq 7 (.mv (kq 0))] [1,2,3,16,17,18,19,20]
.ret)))⟩
def zsn:C:=
  (sr [
tq 9 (.bin .lss (.t 8) (.t 7))] []
(.seq (.cond (.t 9) .skip
 (.exit 0))
(.seq (.block 1 (sr [
tq 10 (.idxAddr 18 (.t 6) (.t 8)),
lq 11 18 10,
tq 5 (.alloc zax [.z (.str []),.z (.str []),.z (.str []),.z (.str []),.z (.str []),.z (.str []),.z (.int .i64 0),.z (.int .i64 0),.z (.int .i64 0),.z (.int .i64 0),.z (.int .i64 0),.z (.int .i64 0),.z (.int .i64 0),.z (.bool false),.z (.bool false),.z (.bool false),.z (.bool false),.z (.int .i64 0)]),
⟨none,none,.store 18 (.t 5) (.t 11)⟩] [10,11]
(rg [
mq 12 3,
lq 13 18 5,
tq 14 (.mkList 18 1 [.t 13]),
tq 15 (.append ⟨false,zal,18,168⟩ (.t 12) (.t 14)),
mq 3 15] [5,12,13,14,15])))
(rg [
tq 16 (.bin .add (.t 8) (kq 1)),
mq 8 16] [16]))))
def zw9:CF:=⟨[.tmp 2],
  (sr [
tq 2 (.ownNil ⟨false,zal,18,168⟩)] [2]
(sr [
tq 3 (.ownNil ⟨false,zal,18,168⟩)] []
(.seq (sr [
mq 6 0,
tq 7 (.len .slc (.t 6)),
tq 8 (.mv (kq 0))] [0]
(.block 0 (.loop [3,6,7,8] zsn)))
(sr [
mq 17 3,
mq 2 17] [3,17]
.ret))))⟩
def zwf:C:=
  (sr [
tq 21 (.bin .lss (.t 20) (.t 19))] []
(.seq (.cond (.t 21) .skip
 (.exit 0))
(.seq (.block 1 (sr [
tq 22 (.idxAddr 5 (.t 18) (.t 20)),
lq 23 5 22,
tq 6 (.alloc zae [.z (.str []),.z (.str []),.z (.str []),.z (.int .i64 0),.z (.list 0 [])]),
⟨none,none,.store 5 (.t 6) (.t 23)⟩] [22,23]
(sr [
lq 25 5 6,
tq 26 (cl zgt [.t 25]),
mq 24 26,
xq 27 24 0,
xq 28 24 1,
mq 7 27,
mq 8 28] [6,24,25,26,27,28]
(sr [
mq 30 7,
tq 31 (cl zgs [.t 30]),
mq 29 31,
xq 32 29 0,
xq 33 29 1,
xq 34 29 2,
tq 9 (.alloc zae [.z (.str []),.z (.str []),.z (.str []),.z (.int .i64 0),.z (.list 0 [])]),
⟨none,none,.store 5 (.t 9) (.t 32)⟩,
mq 10 33,
mq 11 34] [7,10,29,30,31,32,33,34]
(.seq (sr [
mq 35 8,
tq 36 (.bin .neq (.t 35) (kq 0)),
mq 37 36,
gq 38 37 false (.mv (.t 11)),
gq 39 37 false (.bin .neq (.t 38) (kq 0)),
tq 40 (.pick (.t 37) (.k (.d (.bool true))) (.t 39))] [8,11,35,36,37,38,39]
(.cond (.t 40) (sr [
tq 2 (.ownNil ⟨false,zbo,13,152⟩),
tq 3 (.mv (.k (.d (.bool false))))] []
.ret)
 .skip))
(rg [
mq 41 4,
lq 42 5 9,
tq 43 (.mkList 5 1 [.t 42]),
tq 44 (.append ⟨false,zae,5,80⟩ (.t 41) (.t 43)),
mq 4 44] [9,41,42,43,44]))))))
(rg [
tq 45 (.bin .add (.t 20) (kq 1)),
mq 20 45] [45]))))
def zw8:C:=
  (sr [
tq 55 (.bin .lss (.t 54) (.t 53))] []
(.seq (.cond (.t 55) .skip
 (.exit 2))
(.seq (.block 3 (sr [
tq 56 (.idxAddr 15 (.t 52) (.t 54)),
lq 57 15 56,
tq 17 (.alloc zac [.z (.str []),.z (.str []),.z (.str []),.z (.str []),.z (.str []),.z (.str []),.z (.int .i64 0),.z (.int .i64 0),.z (.int .i64 0),.z (.int .i64 0),.z (.int .i64 0),.z (.int .i64 0),.z (.int .i64 0),.z (.bool false),.z (.int .i64 0)]),
⟨none,none,.store 15 (.t 17) (.t 57)⟩] [56,57]
(rg [
mq 58 15,
fa 59 0 17,
lq 60 13 59,
tq 61 (.mkList 13 1 [.t 60]),
tq 62 (.append ⟨false,zbo,13,152⟩ (.t 58) (.t 61)),
mq 15 62] [17,58,59,60,61,62])))
(rg [
tq 63 (.bin .add (.t 54) (kq 1)),
mq 54 63] [63]))))
def z2k:CF:=⟨[.tmp 2,.tmp 3],
  (sr [
tq 2 (.ownNil ⟨false,zbo,13,152⟩),
tq 3 (.mv (.k (.d (.bool false))))] [2,3]
(sr [
tq 4 (.ownNil ⟨false,zae,5,80⟩)] []
(.seq (sr [
mq 18 0,
tq 19 (.len .slc (.t 18)),
tq 20 (.mv (kq 0))] [0]
(.block 0 (.loop [4,18,19,20] zwf)))
(sr [
mq 47 4,
tq 48 (cl zi7 [.t 47]),
mq 46 48,
xq 49 46 0,
xq 50 46 1,
xq 51 46 2,
mq 12 49,
mq 13 50,
mq 14 51] [4,13,46,47,48,49,50,51]
(sr [
tq 15 (.ownNil ⟨false,zbo,13,152⟩)] []
(.seq (sr [
mq 52 12,
tq 53 (.len .slc (.t 52)),
tq 54 (.mv (kq 0))] [12]
(.block 2 (.loop [14,15,52,53,54] zw8)))
(sr [
mq 64 15,
mq 65 14,
tq 66 (.bin .eql (.t 65) (kq 0)),
mq 2 64,
mq 3 66] [14,15,64,65,66]
.ret)))))))⟩
def zv3:C:=
  (sr [
tq 13 (.bin .lss (.t 12) (.t 11))] []
(.seq (.cond (.t 13) .skip
 (.exit 0))
(.seq (.block 1 (sr [
tq 14 (.idxAddr 13 (.t 10) (.t 12)),
lq 15 13 14,
tq 7 (.alloc zbo [.z (.str []),.z (.str []),.z (.str []),.z (.str []),.z (.str []),.z (.str []),.z (.int .i64 0),.z (.int .i64 0),.z (.int .i64 0),.z (.int .i64 0),.z (.int .i64 0),.z (.int .i64 0),.z (.int .i64 0)]),
⟨none,none,.store 13 (.t 7) (.t 15)⟩] [14,15]
(rg [
fa 16 4 5,
ld 17 16,
lq 18 13 7,
tq 19 (.build [.z (.str []),.z (.str []),.z (.str []),.z (.str []),.z (.str []),.z (.str []),.z (.str []),.z (.int .i64 0),.z (.int .i64 0),.z (.int .i64 0),.z (.int .i64 0),.z (.int .i64 0),.z (.int .i64 0),.z (.int .i64 0)] [(0,1,.k (.d (.str [78]))),(1,13,.t 18)]),
tq 20 (.mkList 14 1 [.t 19]),
tq 21 (.append ⟨false,zag,14,168⟩ (.t 17) (.t 20)),
fa 22 4 5,
⟨none,none,.store 1 (.t 22) (.t 21)⟩] [7,16,17,18,19,20,21,22])))
(rg [
tq 23 (.bin .add (.t 12) (kq 1)),
mq 12 23] [23]))))
def z0g:CF:=⟨[.cell 4 (some 5)],
  (sr [
tq 4 (.alloc zae [.z (.str []),.z (.str []),.z (.str []),.z (.int .i64 0),.own ⟨false,zag,14,168⟩])] []
(sr [
mq 8 1,
tq 9 (.build [.z (.str []),.z (.str []),.z (.str []),.z (.int .i64 0),.own ⟨false,zag,14,168⟩] [(0,1,.k (.d (.str [82,69,81]))),(1,1,.k (.d (.str [104,101,114,101]))),(2,1,.k (.d (.str [83,50,48,50,52]))),(3,1,.t 8)]),
tq 5 (.alloc zae [.z (.str []),.z (.str []),.z (.str []),.z (.int .i64 0),.own ⟨false,zag,14,168⟩]),
⟨none,none,.store 5 (.t 5) (.t 9)⟩] [1,8,9]
(.seq (sr [
mq 10 0,
tq 11 (.len .slc (.t 10)),
tq 12 (.mv (kq 0))] [0]
(.block 0 (.loop [4,5,10,11,12] zv3)))
(sr [
lq 24 5 5,
⟨none,none,.store 5 (.t 4) (.t 24)⟩] [5,24]
.ret))))⟩
def zoz:C:=
  (.seq (sr [
mq 11 5,
mq 12 0,
tq 13 (.len .slc (.t 12)),
tq 14 (.bin .lss (.t 11) (.t 13))] [11,12,13]
(.cond (.t 14) .skip
 (.exit 0)))
(.seq (.block 1 (.seq (.reg true [
mq 17 0,
mq 18 5,
tq 19 (.idxAddr 13 (.t 17) (.t 18)),
lq 20 13 19,
mq 21 1,
mq 22 5,
tq 23 (.idxAddr 13 (.t 21) (.t 22)),
lq 24 13 23,
tq 25 (.eqv (some [.str,.str,.str,.str,.str,.str,.int,.int,.int,.int,.int,.int,.int]) true (.t 20) (.t 24))] [17,18,19,20,21,22,23,24])
(.cond (.t 25) (sr [
tq 4 (.mv (.k (.d (.bool false))))] []
.ret)
 .skip)))
(rg [
mq 15 5,
tq 16 (.bin .add (.t 15) (kq 1)),
mq 5 16] [15,16])))
def zq1:CF:=⟨[.tmp 4],
  (sr [
tq 4 (.mv (.k (.d (.bool false))))] [4]
(.seq (sr [
mq 6 0,
tq 7 (.len .slc (.t 6)),
mq 8 1,
tq 9 (.len .slc (.t 8)),
tq 10 (.bin .neq (.t 7) (.t 9))] [6,7,8,9]
(.cond (.t 10) (sr [
tq 4 (.mv (.k (.d (.bool false))))] []
.ret)
 .skip))
(.seq (sr [
tq 5 (.mv (kq 0))] []
(.block 0 (.loop [0,1,5] zoz)))
(sr [
tq 4 (.mv (.k (.d (.bool true))))] []
.ret))))⟩
def zwu:C:=
  (.seq (sr [
mq 25 4,
mq 26 3,
tq 27 (.bin .lss (.t 25) (.t 26))] [25,26]
(.cond (.t 27) .skip
 (.exit 2)))
(.seq (.block 3 (.seq (.reg true [
mq 30 0,
mq 31 4,
tq 32 (.idxAddr 1 (.t 30) (.t 31)),
ld 33 32,
mq 34 0,
mq 35 3,
tq 36 (.idxAddr 1 (.t 34) (.t 35)),
ld 37 36,
tq 38 (.bin .eql (.t 33) (.t 37))] [30,31,32,33,34,35,36,37])
(.cond (.t 38) (sr [
tq 2 (.mv (.k (.d (.bool false))))] []
.ret)
 .skip)))
(rg [
mq 28 4,
tq 29 (.bin .add (.t 28) (kq 1)),
mq 4 29] [28,29])))
def zwc:C:=
  (.seq (sr [
mq 5 3,
mq 6 0,
tq 7 (.len .slc (.t 6)),
tq 8 (.bin .lss (.t 5) (.t 7))] [5,6,7]
(.cond (.t 8) .skip
 (.exit 0)))
(.seq (.block 1 (.seq (sr [
mq 11 0,
mq 12 3,
tq 13 (.idxAddr 1 (.t 11) (.t 12)),
ld 14 13,
tq 15 (.bin .lss (.t 14) (kq 0)),
mq 16 15,
gq 17 16 false (.mv (.t 0)),
gq 18 16 false (.mv (.t 3)),
gq 19 16 false (.idxAddr 1 (.t 17) (.t 18)),
gq 20 16 false (.load none (.t 19)),
gq 21 16 false (.mv (.t 0)),
gq 22 16 false (.len .slc (.t 21)),
gq 23 16 false (.bin .geq (.t 20) (.t 22)),
tq 24 (.pick (.t 16) (.k (.d (.bool true))) (.t 23))] [11,12,13,14,15,16,17,18,19,20,21,22,23]
(.cond (.t 24) (sr [
tq 2 (.mv (.k (.d (.bool false))))] []
.ret)
 .skip))
(sr [
tq 4 (.mv (kq 0))] []
(.block 2 (.loop [0,3,4] zwu)))))
(rg [
mq 9 3,
tq 10 (.bin .add (.t 9) (kq 1)),
mq 3 10] [9,10])))
def z0n:CF:=⟨[.tmp 2],
  (sr [
tq 2 (.mv (.k (.d (.bool false))))] [2]
(.seq (sr [
tq 3 (.mv (kq 0))] []
(.block 0 (.loop [0,3] zwc)))
(sr [
tq 2 (.mv (.k (.d (.bool true))))] []
.ret)))⟩
def zvw:CF:=⟨[.tmp 8,.tmp 9],
  (sr [
tq 4 (.box zab (.t 0)),
tq 8 (.mv (.k (.d (.list 0 [])))),
tq 9 (.mv (kq 0))] [0,8,9]
(.seq (sr [
lq 12 4 4,
mq 13 1,
mq 14 2,
tq 15 (cl zep [.t 12,.t 13,.t 14]),
mq 16 3,
tq 17 (.bin .lss (.t 16) (kq 0)),
mq 18 17,
gq 19 18 false (.mv (.t 3)),
gq 20 18 false (.mv (.t 2)),
gq 21 18 false (.len .slc (.t 20)),
gq 22 18 false (.bin .geq (.t 19) (.t 21)),
tq 23 (.pick (.t 18) (.k (.d (.bool true))) (.t 22)),
tq 24 (cl za8 [.t 23,kq 10]),
tq 25 (.mkList 1 2 [.t 15,.t 24]),
tq 26 (cl za3 [.t 25]),
mq 10 26] [12,13,14,15,16,17,18,19,20,21,22,23,24,25,26]
(sr [
mq 27 10,
tq 28 (.bin .neq (.t 27) (kq 0))] [27]
(.cond (.t 28) (sr [
mq 29 10,
tq 8 (.mv (.k (.d (.list 0 [])))),
mq 9 29] [10,29]
.ret)
 .skip)))
(sr [
lq 30 4 4,
mq 31 1,
mq 32 2,
tq 33 (cl zhl [.t 30,.t 31,.t 32]),
tq 34 (cl zea [.t 33]),
mq 11 34] [1,2,4,30,31,32,33,34]
(sr [
mq 35 11,
mq 36 11,
mq 37 3,
tq 38 (cl zgj [.t 36,.t 37]),
tq 39 (.slice 1 (.t 35) none (some (.t 38)) none),
mq 8 39,
tq 9 (.mv (kq 0))] [3,11,35,36,37,38,39]
.ret))))⟩
def zs4:C:=
  (.seq (sr [
mq 11 5,
mq 12 0,
tq 13 (.len .slc (.t 12)),
tq 14 (.bin .lss (.t 11) (.t 13))] [11,12,13]
(.cond (.t 14) .skip
 (.exit 0)))
(.seq (.block 1 (.seq (.reg true [
mq 17 0,
mq 18 5,
tq 19 (.idxAddr 1 (.t 17) (.t 18)),
ld 20 19,
mq 21 1,
mq 22 5,
tq 23 (.idxAddr 1 (.t 21) (.t 22)),
ld 24 23,
tq 25 (.bin .neq (.t 20) (.t 24))] [17,18,19,20,21,22,23,24])
(.cond (.t 25) (sr [
tq 4 (.mv (.k (.d (.bool false))))] []
.ret)
 .skip)))
(rg [
mq 15 5,
tq 16 (.bin .add (.t 15) (kq 1)),
mq 5 16] [15,16])))
def zyy:CF:=⟨[.tmp 4],
  (sr [
tq 4 (.mv (.k (.d (.bool false))))] [4]
(.seq (sr [
mq 6 0,
tq 7 (.len .slc (.t 6)),
mq 8 1,
tq 9 (.len .slc (.t 8)),
tq 10 (.bin .neq (.t 7) (.t 9))] [6,7,8,9]
(.cond (.t 10) (sr [
tq 4 (.mv (.k (.d (.bool false))))] []
.ret)
 .skip))
(.seq (sr [
tq 5 (.mv (kq 0))] []
(.block 0 (.loop [0,1,5] zs4)))
(sr [
tq 4 (.mv (.k (.d (.bool true))))] []
.ret))))⟩
def zxb:C:=
  (sr [
tq 24 (.bin .lss (.t 23) (.t 22))] []
(.seq (.cond (.t 24) .skip
 (.exit 0))
(.seq (.block 1 (sr [
mq 25 23,
tq 26 (.idxAddr 18 (.t 21) (.t 23)),
lq 27 18 26,
tq 11 (.alloc zax [.z (.str []),.z (.str []),.z (.str []),.z (.str []),.z (.str []),.z (.str []),.z (.int .i64 0),.z (.int .i64 0),.z (.int .i64 0),.z (.int .i64 0),.z (.int .i64 0),.z (.int .i64 0),.z (.int .i64 0),.z (.bool false),.z (.bool false),.z (.bool false),.z (.bool false),.z (.int .i64 0)]),
mq 10 25,
⟨none,none,.store 18 (.t 11) (.t 27)⟩] [25,26,27]
(sr [
mq 28 10,
mq 29 2,
tq 30 (.bin .neq (.t 28) (.t 29))] [10,28,29]
(.cond (.t 30) (rg [
mq 31 9,
lq 32 18 11,
tq 33 (.mkList 18 1 [.t 32]),
tq 34 (.append ⟨false,zax,18,168⟩ (.t 31) (.t 33)),
mq 9 34] [11,31,32,33,34])
 .skip))))
(rg [
tq 35 (.bin .add (.t 23) (kq 1)),
mq 23 35] [35]))))
def zvs:C:=
  (sr [
tq 43 (.bin .lss (.t 42) (.t 41))] []
(.seq (.cond (.t 43) .skip
 (.exit 4))
(.seq (.block 5 (sr [
mq 44 42,
mq 13 44] [44]
(.seq (.reg true [
lq 46 4 4,
mq 47 1,
mq 48 12,
tq 49 (.idxAddr 18 (.t 47) (.t 48)),
lq 50 18 49,
mq 51 1,
mq 52 13,
tq 53 (.idxAddr 18 (.t 51) (.t 52)),
lq 54 18 53,
tq 55 (cl zm4 [.t 46,.t 50,.t 54]),
mq 45 55,
xq 56 45 0,
xq 57 45 1,
mq 14 56,
mq 15 57] [13,15,45,46,47,48,49,50,51,52,53,54,55,56,57])
(sr [
mq 58 14,
tq 59 (.bin .eql (.t 58) (kq 0))] [14,58]
(.cond (.t 59) (sr [
tq 8 (.mv (.k (.d (.bool true))))] []
.ret)
 .skip)))))
(rg [
tq 60 (.bin .add (.t 42) (kq 1)),
mq 42 60] [60]))))
def zw6:C:=
  (sr [
tq 39 (.bin .lss (.t 38) (.t 37))] []
(.seq (.cond (.t 39) .skip
 (.exit 2))
(.seq (.block 3 (sr [
mq 40 38,
mq 12 40] [40]
(sr [
mq 41 12,
tq 42 (.mv (kq 0))] []
(.block 4 (.loop [1,2,3,4,9,12,37,38,41,42] zvs)))))
(rg [
tq 61 (.bin .add (.t 38) (kq 1)),
mq 38 61] [61]))))
def zw2:C:=
  (sr [
tq 87 (.bin .lss (.t 86) (.t 85))] []
(.seq (.cond (.t 87) .skip
 (.exit 6))
(.seq (.block 7 (sr [
tq 88 (.idxAddr 1 (.t 84) (.t 86)),
ld 89 88,
mq 20 89] [88,89]
(.seq (sr [
mq 90 20,
mq 91 2,
tq 92 (.bin .eql (.t 90) (.t 91))] [90,91]
(.cond (.t 92) (.exit 7)
 .skip))
(.seq (.seq (.reg true [
mq 93 9,
mq 94 16,
mq 95 18,
tq 96 (.idxAddr 1 (.t 94) (.t 95)),
ld 97 96,
tq 98 (.idxAddr 18 (.t 93) (.t 97)),
fa 99 0 98,
fa 100 0 99,
ld 101 100,
mq 102 1,
mq 103 20,
tq 104 (.idxAddr 18 (.t 102) (.t 103)),
fa 105 0 104,
fa 106 0 105,
ld 107 106,
tq 108 (.bin .neq (.t 101) (.t 107))] [20,93,94,95,96,97,98,99,100,101,102,103,104,105,106,107])
(.cond (.t 108) (sr [
tq 8 (.mv (.k (.d (.bool false))))] []
.ret)
 .skip))
(rg [
mq 109 18,
tq 110 (.bin .add (.t 109) (kq 1)),
mq 18 110] [109,110])))))
(rg [
tq 111 (.bin .add (.t 86) (kq 1)),
mq 86 111] [111]))))
def z17:CF:=⟨[.tmp 8],
  (sr [
tq 4 (.box zat (.t 0)),
tq 8 (.mv (.k (.d (.bool false))))] [0,8]
(sr [
tq 9 (.ownNil ⟨false,zax,18,168⟩)] []
(.seq (sr [
mq 21 1,
tq 22 (.len .slc (.t 21)),
tq 23 (.mv (kq 0))] []
(.block 0 (.loop [1,2,3,4,9,21,22,23] zxb)))
(.seq (sr [
mq 36 1,
tq 37 (.len .slc (.t 36)),
tq 38 (.mv (kq 0))] [36]
(.block 2 (.loop [1,2,3,4,9,37,38] zw6)))
(sr [
lq 63 4 4,
tq 64 (cl zd5 [.t 63]),
mq 65 9,
tq 66 (cl zf4 [.t 65]),
tq 67 (cl zdy [.t 64,kq 7,.t 66]),
mq 62 67,
xq 68 62 0,
xq 69 62 1,
mq 16 68,
mq 17 69] [4,62,63,64,65,66,67,68,69]
(.seq (sr [
mq 70 17,
tq 71 (.bin .neq (.t 70) (kq 0)),
mq 72 71,
gq 73 72 false (.mv (.t 16)),
gq 74 72 false (.len .slc (.t 73)),
gq 75 72 false (.mv (.t 9)),
gq 76 72 false (.len .slc (.t 75)),
gq 77 72 false (.bin .neq (.t 74) (.t 76)),
tq 78 (.pick (.t 72) (.k (.d (.bool true))) (.t 77)),
mq 79 78,
gq 80 79 false (.mv (.t 16)),
gq 81 79 false (cl zi0 [.t 80]),
gq 82 79 false (.un .not (.t 81)),
tq 83 (.pick (.t 79) (.k (.d (.bool true))) (.t 82))] [17,70,71,72,73,74,75,76,77,78,79,80,81,82]
(.cond (.t 83) (sr [
tq 8 (.mv (.k (.d (.bool false))))] []
.ret)
 .skip))
(sr [
tq 18 (.mv (kq 0))] []
(.seq (sr [
mq 84 3,
tq 85 (.len .slc (.t 84)),
tq 86 (.mv (kq 0))] [3]
(.block 6 (.loop [1,2,9,16,18,84,85,86] zw2)))
(sr [
tq 8 (.mv (.k (.d (.bool true))))] []
.ret)))))))))⟩
def zz5:C:=
  (.seq (sr [
mq 57 5,
fa 58 1 4,
ld 59 58,
tq 60 (.len .slc (.t 59)),
tq 61 (.bin .lss (.t 57) (.t 60))] [57,58,59,60]
(.cond (.t 61) .skip
 (.exit 2)))
(.seq (.block 3 (sr [
fa 64 1 4,
ld 65 64,
mq 66 5,
tq 67 (.idxAddr 3 (.t 65) (.t 66)),
fa 68 0 67,
ld 69 68,
tq 70 (.len .str (.t 69)),
tq 71 (.bin .gtr (.t 70) (kq 40)),
mq 72 71,
gq 73 72 false (.fieldAddr 1 (.t 4)),
gq 74 72 false (.load none (.t 73)),
gq 75 72 false (.mv (.t 5)),
gq 76 72 false (.idxAddr 3 (.t 74) (.t 75)),
gq 77 72 false (.fieldAddr 1 (.t 76)),
gq 78 72 false (.load none (.t 77)),
gq 79 72 false (.len .str (.t 78)),
gq 80 72 false (.bin .gtr (.t 79) (kq 40)),
tq 81 (.pick (.t 72) (.k (.d (.bool true))) (.t 80))] [64,65,66,67,68,69,70,71,72,73,74,75,76,77,78,79,80]
(.cond (.t 81) (sr [
tq 2 (.mv (.k (.d (.bool false))))] []
.ret)
 .skip)))
(rg [
mq 62 5,
tq 63 (.bin .add (.t 62) (kq 1)),
mq 5 63] [62,63])))
def z0z:C:=
  (.seq (sr [
mq 82 6,
fa 83 2 4,
ld 84 83,
tq 85 (.len .slc (.t 84)),
tq 86 (.bin .lss (.t 82) (.t 85))] [82,83,84,85]
(.cond (.t 86) .skip
 (.exit 4)))
(.seq (.block 5 (sr [
fa 89 2 4,
ld 90 89,
mq 91 6,
tq 92 (.idxAddr 2 (.t 90) (.t 91)),
fa 93 0 92,
ld 94 93,
tq 95 (.len .str (.t 94)),
tq 96 (.bin .gtr (.t 95) (kq 40))] [89,90,91,92,93,94,95]
(.cond (.t 96) (sr [
tq 2 (.mv (.k (.d (.bool false))))] []
.ret)
 .skip)))
(rg [
mq 87 6,
tq 88 (.bin .add (.t 87) (kq 1)),
mq 6 88] [87,88])))
def z2v:C:=
  (.seq (sr [
mq 17 3,
fa 18 0 1,
ld 19 18,
tq 20 (.len .slc (.t 19)),
tq 21 (.bin .lss (.t 17) (.t 20))] [17,18,19,20]
(.cond (.t 21) .skip
 (.exit 0)))
(.seq (.block 1 (sr [
fa 24 0 1,
ld 25 24,
mq 26 3,
tq 27 (.idxAddr 3 (.t 25) (.t 26)),
lq 28 3 27,
tq 4 (.alloc zcq [.z (.str []),.z (.list 0 []),.z (.list 0 [])]),
⟨none,none,.store 3 (.t 4) (.t 28)⟩] [24,25,26,27,28]
(.seq (sr [
fa 29 0 4,
ld 30 29,
tq 31 (.len .str (.t 30)),
tq 32 (.bin .gtr (.t 31) (kq 40)),
mq 33 32,
gq 34 33 false (.fieldAddr 1 (.t 4)),
gq 35 33 false (.load none (.t 34)),
gq 36 33 false (.len .slc (.t 35)),
gq 37 33 false (.bin .gtr (.t 36) (kq 4)),
gq 38 33 false (.mv (.t 37)),
gq 39 38 true (.fieldAddr 1 (.t 4)),
gq 40 38 true (.load none (.t 39)),
gq 41 38 true (.len .slc (.t 40)),
gq 42 38 true (.bin .neq (.t 41) (kq 9)),
gq 43 33 false (.pick (.t 38) (.t 42) (.k (.d (.bool false)))),
tq 44 (.pick (.t 33) (.k (.d (.bool true))) (.t 43)),
mq 45 44,
gq 46 45 false (.fieldAddr 2 (.t 4)),
gq 47 45 false (.load none (.t 46)),
gq 48 45 false (.len .slc (.t 47)),
gq 49 45 false (.bin .gtr (.t 48) (kq 4)),
gq 50 45 false (.mv (.t 49)),
gq 51 50 true (.fieldAddr 2 (.t 4)),
gq 52 50 true (.load none (.t 51)),
gq 53 50 true (.len .slc (.t 52)),
gq 54 50 true (.bin .neq (.t 53) (kq 9)),
gq 55 45 false (.pick (.t 50) (.t 54) (.k (.d (.bool false)))),
tq 56 (.pick (.t 45) (.k (.d (.bool true))) (.t 55))] [29,30,31,32,33,34,35,36,37,38,39,40,41,42,43,44,45,46,47,48,49,50,51,52,53,54,55]
(.cond (.t 56) (sr [
tq 2 (.mv (.k (.d (.bool false))))] []
.ret)
 .skip))
(.seq (sr [
tq 5 (.mv (kq 0))] []
(.block 2 (.loop [1,3,4,5] zz5)))
(sr [
tq 6 (.mv (kq 0))] []
(.block 4 (.loop [1,3,4,6] z0z)))))))
(rg [
mq 22 3,
tq 23 (.bin .add (.t 22) (kq 1)),
mq 3 23] [22,23])))
def z7u:CF:=⟨[.tmp 2],
  (sr [
tq 1 (.box zat (.t 0)),
tq 2 (.mv (.k (.d (.bool false))))] [0,2]
(.seq (sr [
fa 7 0 1,
ld 8 7,
tq 9 (.len .slc (.t 8)),
tq 10 (.bin .gtr (.t 9) (kq 5)),
mq 11 10,
gq 12 11 true (.fieldAddr 0 (.t 1)),
gq 13 11 true (.load none (.t 12)),
gq 14 11 true (.len .slc (.t 13)),
gq 15 11 true (.bin .neq (.t 14) (kq 17)),
tq 16 (.pick (.t 11) (.t 15) (.k (.d (.bool false))))] [7,8,9,10,11,12,13,14,15]
(.cond (.t 16) (sr [
tq 2 (.mv (.k (.d (.bool false))))] []
.ret)
 .skip))
(.seq (sr [
tq 3 (.mv (kq 0))] []
(.block 0 (.loop [1,3] z2v)))
(sr [
tq 2 (.mv (.k (.d (.bool true))))] []
.ret))))⟩
def zpg:C:=
  (.seq (sr [
mq 15 5,
mq 16 0,
tq 17 (.len .slc (.t 16)),
tq 18 (.bin .lss (.t 15) (.t 17))] [15,16,17]
(.cond (.t 18) .skip
 (.exit 0)))
(.seq (.block 1 (sr [
mq 21 0,
mq 22 5,
tq 23 (.idxAddr 18 (.t 21) (.t 22)),
fa 24 0 23,
lq 25 13 24,
tq 26 (cl zok [.t 25]),
tq 27 (.un .not (.t 26))] [21,22,23,24,25,26]
(.cond (.t 27) (sr [
tq 4 (.mv (.k (.d (.bool false))))] []
.ret)
 .skip)))
(rg [
mq 19 5,
tq 20 (.bin .add (.t 19) (kq 1)),
mq 5 20] [19,20])))
def zso:CF:=⟨[.tmp 4],
  (sr [
tq 4 (.mv (.k (.d (.bool false))))] [4]
(.seq (sr [
mq 6 0,
tq 7 (.len .slc (.t 6)),
mq 8 1,
tq 9 (.bin .gtr (.t 7) (.t 8)),
mq 10 9,
gq 11 10 true (.mv (.t 0)),
gq 12 10 true (.len .slc (.t 11)),
gq 13 10 true (.bin .neq (.t 12) (kq 65)),
tq 14 (.pick (.t 10) (.t 13) (.k (.d (.bool false))))] [1,6,7,8,9,10,11,12,13]
(.cond (.t 14) (sr [
tq 4 (.mv (.k (.d (.bool false))))] []
.ret)
 .skip))
(.seq (sr [
tq 5 (.mv (kq 0))] []
(.block 0 (.loop [0,5] zpg)))
(sr [
tq 4 (.mv (.k (.d (.bool true))))] []
.ret))))⟩
def zo9:C:=
  (.seq (sr [
mq 13 3,
fa 14 0 1,
ld 15 14,
tq 16 (.len .slc (.t 15)),
tq 17 (.bin .lss (.t 13) (.t 16))] [13,14,15,16]
(.cond (.t 17) .skip
 (.exit 0)))
(.seq (.block 1 (.seq (.reg true [
fa 20 0 1,
ld 21 20,
mq 22 3,
tq 23 (.slice 3 (.t 21) none (some (.t 22)) none),
fa 24 0 1,
ld 25 24,
mq 26 3,
tq 27 (.idxAddr 3 (.t 25) (.t 26)),
lq 28 3 27,
tq 29 (cl zom [.t 23,.t 28]),
mq 4 29] [20,21,22,23,24,25,26,27,28,29])
(sr [
mq 30 4,
tq 31 (.bin .neq (.t 30) (kq 0))] [30]
(.cond (.t 31) (sr [
mq 32 4,
mq 2 32] [4,32]
.ret)
 .skip))))
(rg [
mq 18 3,
tq 19 (.bin .add (.t 18) (kq 1)),
mq 3 19] [18,19])))
def zrd:CF:=⟨[.tmp 2],
  (sr [
tq 1 (.box zat (.t 0)),
tq 2 (.mv (kq 0))] [0,2]
(.seq (sr [
fa 5 0 1,
ld 6 5,
tq 7 (.len .slc (.t 6)),
tq 8 (.bin .eql (.t 7) (kq 0))] [5,6,7]
(.cond (.t 8) (sr [
tq 2 (.mv (kq 12))] []
.ret)
 .skip))
(.seq (sr [
fa 9 0 1,
ld 10 9,
tq 11 (.len .slc (.t 10)),
tq 12 (.bin .gtr (.t 11) (kq 16))] [9,10,11]
(.cond (.t 12) (sr [
tq 2 (.mv (kq 5))] []
.ret)
 .skip))
(.seq (sr [
tq 3 (.mv (kq 0))] []
(.block 0 (.loop [1,3] zo9)))
(sr [
lq 33 4 1,
tq 34 (cl zjt [.t 33]),
mq 2 34] [1,33,34]
.ret)))))⟩
def zpd:C:=
  (.seq (sr [
mq 20 5,
mq 21 3,
tq 22 (.bin .lss (.t 20) (.t 21)),
mq 23 22,
gq 24 23 true (.mv (.t 4)),
gq 25 23 true (.bin .eql (.t 24) (kq 0)),
tq 26 (.pick (.t 23) (.t 25) (.k (.d (.bool false))))] [20,21,22,23,24,25]
(.cond (.t 26) .skip
 (.exit 2)))
(.seq (.block 3 (.seq (.reg true [
mq 29 0,
mq 30 5,
tq 31 (.idxAddr 18 (.t 29) (.t 30)),
fa 32 0 31,
fa 33 0 32,
ld 34 33,
mq 35 0,
mq 36 3,
tq 37 (.idxAddr 18 (.t 35) (.t 36)),
fa 38 0 37,
fa 39 0 38,
ld 40 39,
tq 41 (.bin .eql (.t 34) (.t 40))] [29,30,31,32,33,34,35,36,37,38,39,40])
(.cond (.t 41) (rg [
tq 4 (.mv (kq 9))] [])
 .skip)))
(rg [
mq 27 5,
tq 28 (.bin .add (.t 27) (kq 1)),
mq 5 28] [27,28])))
def zpw:C:=
  (.seq (sr [
mq 9 3,
mq 10 0,
tq 11 (.len .slc (.t 10)),
tq 12 (.bin .lss (.t 9) (.t 11))] [9,10,11]
(.cond (.t 12) .skip
 (.exit 0)))
(.seq (.block 1 (sr [
mq 15 0,
mq 16 3,
tq 17 (.idxAddr 18 (.t 15) (.t 16)),
lq 18 18 17,
tq 19 (cl zi2 [.t 18]),
mq 4 19] [15,16,17,18,19]
(.seq (sr [
tq 5 (.mv (kq 0))] []
(.block 2 (.loop [0,3,4,5] zpd)))
(sr [
mq 42 4,
tq 43 (.bin .neq (.t 42) (kq 0))] [42]
(.cond (.t 43) (sr [
mq 44 4,
mq 2 44] [4,44]
.ret)
 .skip)))))
(rg [
mq 13 3,
tq 14 (.bin .add (.t 13) (kq 1)),
mq 3 14] [13,14])))
def zss:CF:=⟨[.tmp 2],
  (sr [
tq 2 (.mv (kq 0))] [2]
(.seq (sr [
mq 6 0,
tq 7 (.len .slc (.t 6)),
tq 8 (.bin .gtr (.t 7) (kq 64))] [6,7]
(.cond (.t 8) (sr [
tq 2 (.mv (kq 5))] []
.ret)
 .skip))
(.seq (sr [
tq 3 (.mv (kq 0))] []
(.block 0 (.loop [0,3] zpw)))
(sr [
tq 2 (.mv (kq 0))] []
.ret))))⟩
def z2b:CF:=⟨[.tmp 4,.tmp 5],
  (sr [
tq 2 (.box zal (.t 0)),
tq 4 (.mv (kq 0)),
tq 5 (.mv (kq 0))] [0,4,5]
(sr [
tq 10 (.call false false (.k (.fn zfj [] [])) []),
mq 11 1,
tq 12 (.lookup .str (.agg [.str [],.nilf]) true (.t 10) (.t 11)),
mq 9 12,
xq 13 9 0,
xq 14 9 1,
tq 6 (.alloc zh4 [.z (.str []),.z (.nilf)]),
⟨none,none,.store 2 (.t 6) (.t 13)⟩,
mq 7 14] [1,9,10,11,12,13,14]
(.seq (sr [
lq 15 18 2,
tq 16 (cl zfr [.t 15]),
mq 17 7,
tq 18 (.un .not (.t 17)),
tq 19 (cl za8 [.t 18,kq 10]),
tq 20 (.mkList 1 2 [.t 16,.t 19]),
tq 21 (cl za3 [.t 20]),
mq 8 21] [7,15,16,17,18,19,20,21]
(sr [
mq 22 8,
tq 23 (.bin .neq (.t 22) (kq 0))] [22]
(.cond (.t 23) (sr [
mq 24 8,
tq 4 (.mv (kq 0)),
mq 5 24] [8,24]
.ret)
 .skip)))
(sr [
fa 25 1 6,
ld 26 25,
lq 27 18 2,
tq 28 (.call false true (.t 26) [.t 27]),
mq 4 28,
tq 5 (.mv (kq 0))] [2,6,25,26,27,28]
.ret))))⟩
def zs7:CF:=⟨[.cell 0 (some 4)],
  (sr [
tq 0 (.alloc zab [.z (.list 0 []),.z (.int .i64 0),.z (.int .i64 0),.z (.int .i64 0)])] []
(sr [
tq 4 (.build [.z (.str []),.z (.bool false)] [(0,1,.k (.d (.str [100,97,121,115]))),(1,1,.k (.d (.bool true)))]),
tq 5 (.build [.z (.str []),.z (.bool false)] [(0,1,.k (.d (.str [115,101,97,116,115]))),(1,1,.k (.d (.bool true)))]),
tq 6 (.build [.z (.str []),.z (.bool false)] [(0,1,.k (.d (.str [100,105,115,116,97,110,99,101]))),(1,1,.k (.d (.bool true)))]),
tq 1 (.alloc zan [.z (.str []),.z (.bool false)]),
tq 2 (.alloc zan [.z (.str []),.z (.bool false)]),
tq 3 (.alloc zan [.z (.str []),.z (.bool false)]),
⟨none,none,.store 2 (.t 1) (.t 4)⟩,
⟨none,none,.store 2 (.t 2) (.t 5)⟩,
⟨none,none,.store 2 (.t 3) (.t 6)⟩] [4,5,6]
(sr [
tq 7 (.build [.z (.str []),.z (.str []),.z (.int .i64 0)] [(0,1,.k (.d (.str [104,105,115,116,111,114,105,99]))),(1,1,.k (.d (.str [61]))),(2,1,kq 1)]),
tq 8 (.build [.z (.str []),.z (.str []),.z (.int .i64 0)] [(0,1,.k (.d (.str [114,101,116,105,109,101,100]))),(1,1,.k (.d (.str [61]))),(2,1,kq 0)]),
tq 9 (.mkList 3 2 [.t 7,.t 8]),
lq 10 2 1,
lq 11 2 2,
tq 12 (.mkList 2 2 [.t 10,.t 11]),
tq 13 (.build [.z (.str []),.z (.list 0 []),.z (.list 0 [])] [(0,1,.k (.d (.str [104,105,115,116,111,114,105,99]))),(1,1,.t 9),(2,1,.t 12)]),
tq 14 (.build [.z (.str []),.z (.str []),.z (.int .i64 0)] [(0,1,.k (.d (.str [104,105,115,116,111,114,105,99]))),(1,1,.k (.d (.str [61]))),(2,1,kq 1)]),
tq 15 (.mkList 3 1 [.t 14]),
lq 16 2 1,
lq 17 2 2,
tq 18 (.mkList 2 2 [.t 16,.t 17]),
tq 19 (.build [.z (.str []),.z (.list 0 []),.z (.list 0 [])] [(0,1,.k (.d (.str [114,101,116,105,109,101,100]))),(1,1,.t 15),(2,1,.t 18)]),
tq 20 (.build [.z (.str []),.z (.str []),.z (.int .i64 0)] [(0,1,.k (.d (.str [121,101,97,114,114,111,117,110,100]))),(1,1,.k (.d (.str [61]))),(2,1,kq 1)]),
tq 21 (.mkList 3 1 [.t 20]),
lq 22 2 1,
lq 23 2 2,
lq 24 2 3,
tq 25 (.mkList 2 3 [.t 22,.t 23,.t 24]),
tq 26 (.build [.z (.str []),.z (.list 0 []),.z (.list 0 [])] [(0,1,.k (.d (.str [121,101,97,114,114,111,117,110,100]))),(1,1,.t 21),(2,1,.t 25)]),
lq 27 2 1,
lq 28 2 2,
lq 29 2 3,
tq 30 (.mkList 2 3 [.t 27,.t 28,.t 29]),
tq 31 (.build [.z (.str []),.z (.list 0 []),.z (.list 0 [])] [(0,1,.k (.d (.str [111,116,104,101,114,115]))),(1,1,.k (.d (.list 0 []))),(2,1,.t 30)]),
tq 32 (.mkList 3 4 [.t 13,.t 19,.t 26,.t 31]),
tq 33 (.build [.z (.list 0 []),.z (.int .i64 0),.z (.int .i64 0),.z (.int .i64 0)] [(0,1,.t 32),(1,1,kq 2),(2,1,kq 2),(3,1,kq 1)]),
⟨none,none,.store 4 (.t 0) (.t 33)⟩] [1,2,3,7,8,9,10,11,12,13,14,15,16,17,18,19,20,21,22,23,24,25,26,27,28,29,30,31,32,33]
.ret)))⟩
def zx5:CF:=⟨[.tmp 2,.tmp 3],
  (sr [
tq 1 (.box zcx (.t 0)),
tq 2 (.mv (kq 0)),
tq 3 (.mv (kq 0))] [0,2,3]
(sr [
lq 7 3 1,
tq 8 (cl zhk [.t 7]),
mq 6 8,
xq 9 6 0,
xq 10 6 1,
mq 4 9,
mq 5 10] [1,6,7,8,9,10]
(sr [
mq 11 4,
tq 12 (.len .slc (.t 11)),
mq 13 5,
mq 2 12,
mq 3 13] [4,5,11,12,13]
.ret)))⟩
def znw:CF:=⟨[.tmp 2],
  (sr [
tq 1 (.box zab (.t 0)),
tq 2 (.mv (kq 0))] [0,2]
(.seq (.seq (.reg true [
fa 4 0 1,
ld 5 4,
tq 6 (.len .slc (.t 5)),
tq 7 (.bin .eql (.t 6) (kq 0)),
tq 8 (cl za8 [.t 7,kq 12]),
fa 9 0 1,
ld 10 9,
tq 11 (.len .slc (.t 10)),
tq 12 (.bin .gtr (.t 11) (kq 16)),
tq 13 (cl za8 [.t 12,kq 5]),
tq 14 (.mkList 1 2 [.t 8,.t 13]),
tq 15 (cl za3 [.t 14]),
mq 3 15] [4,5,6,7,8,9,10,11,12,13,14,15])
(sr [
mq 16 3,
tq 17 (.bin .neq (.t 16) (kq 0))] [16]
(.cond (.t 17) (sr [
mq 18 3,
mq 2 18] [3,18]
.ret)
 .skip)))
(.seq (.reg true [
fa 19 0 1,
ld 20 19,
tq 21 (cl zd1 [.t 20,.k (.fn zdm [] [])]),
lq 22 4 1,
tq 23 (cl zdh [.t 22]),
tq 24 (.mkList 1 2 [.t 21,.t 23]),
tq 25 (cl za3 [.t 24]),
mq 2 25] [1,19,20,21,22,23,24,25])
.ret)))⟩
def ztz:CF:=⟨[],
  (rg [
mq 3 0,
tq 4 (cl n_strings_Join [.t 3,.k (.d (.str [32]))]),
tq 5 (.bin .add (.t 4) (.k (.d (.str [10])))),
tq 6 (.call true false (.k (.fn zak [] [])) [.t 1,.t 5])] [0,1,3,4,5,6])⟩
def zkj:CF:=⟨[.tmp 4,.tmp 5],
  (sr [
tq 4 (.mv (kq 0)),
tq 5 (.mv (.k (.d (.nili))))] [4,5]
(sr [
mq 6 0,
tq 7 (.call true true (.k (.fn n_strings_Builder_copyCheck [] [])) [.t 6])] [6,7]
(sr [
mq 8 0,
mq 9 0,
tq 10 (.nilCheck (.t 9)),
fa 11 1 10,
ld 12 11,
mq 13 1,
tq 14 (.appendS ⟨false,ty_uint8,1,1⟩ (.t 12) (.t 13)),
tq 15 (.nilCheck (.t 8)),
fa 16 1 15,
⟨none,none,.store 1 (.t 16) (.t 14)⟩] [0,8,9,10,11,12,13,14,15,16]
(sr [
mq 17 1,
tq 18 (.len .str (.t 17)),
mq 4 18,
tq 5 (.mv (.k (.d (.nili))))] [1,17,18]
.ret))))⟩
def zry:CF:=⟨[.tmp 2],
  (sr [
tq 1 (.box zan (.t 0)),
tq 2 (.mv (.k (.d (.str []))))] [0,2]
(.seq (sr [
fa 3 1 1,
ld 4 3] [1,3]
(.cond (.t 4) (sr [
tq 2 (.mv (.k (.d (.str [45]))))] []
.ret)
 .skip))
(sr [
tq 2 (.mv (.k (.d (.str [43]))))] []
.ret)))⟩
def zqs:CF:=⟨[.tmp 4],
  (sr [
tq 4 (.mv (.k (.d (.list 0 []))))] [4]
(sr [
mq 5 0,
mq 6 1,
mq 7 1,
tq 8 (.len .str (.t 7)),
tq 9 (cl n_strings_genSplit [.t 5,.t 6,.t 8,kq (-1)]),
mq 4 9] [0,1,5,6,7,8,9]
.ret))⟩
def zn6:CF:=⟨[.cell 4 (some 4),.tmp 5,.tmp 6],
  (sr [
tq 2 (.box zab (.t 0)),
tq 4 (.alloc zab [.own ⟨true,zaa,3,64⟩,.z (.int .i64 0),.z (.int .i64 0),.z (.int .i64 0)]),
tq 5 (.mv (.k (.d (.bool false)))),
tq 6 (.mv (kq 0))] [0,5,6]
(sr [
mq 17 1,
tq 18 (cl zex [.t 17,.k (.d (.str [10]))]),
mq 16 18,
xq 19 16 0,
xq 20 16 1,
mq 7 19,
mq 8 20] [1,16,17,18,19,20]
(sr [
mq 21 7,
tq 22 (cl n_strings_Split [.t 21,.k (.d (.str [32]))]),
tq 23 (.build [.z (.list 0 [])] [(0,1,.t 22)]),
tq 24 (.box zb6 (.t 23)),
mq 9 24] [7,21,22,23,24]
(.seq (sr [
mq 25 8,
tq 26 (.un .not (.t 25)),
mq 27 26,
gq 28 27 false (.mv (.t 9)),
gq 29 27 false (.nilCheck (.t 28)),
gq 30 27 false (.fieldAddr 0 (.t 29)),
gq 31 27 false (.load none (.t 30)),
gq 32 27 false (cl zbd [.t 31,.k (.d (.str []))]),
tq 33 (.pick (.t 27) (.k (.d (.bool true))) (.t 32))] [8,25,26,27,28,29,30,31,32]
(.cond (.t 33) (sr [
tq 34 (.build [.own ⟨true,zaa,3,64⟩,.z (.int .i64 0),.z (.int .i64 0),.z (.int .i64 0)] []),
⟨none,none,.store 4 (.t 4) (.t 34)⟩,
tq 5 (.mv (.k (.d (.bool false)))),
tq 6 (.mv (kq 25))] [34]
.ret)
 .skip))
(.seq (sr [
mq 35 9,
tq 36 (.call true true (.k (.fn zbv [] [])) [.t 35])] [35]
(.block 0 (sr [
tq 38 (.bin .eql (.t 36) (.k (.d (.str [99,108,97,115,115])))),
mq 37 38] [38]
(.cond (.t 37) (sr [
mq 40 9,
tq 41 (.call true true (.k (.fn zer [] [])) [.t 40]),
mq 39 41,
xq 42 39 0,
xq 43 39 1,
tq 10 (.alloc zaa [.z (.str []),.z (.list 0 []),.z (.list 0 [])]),
⟨none,none,.store 3 (.t 10) (.t 42)⟩,
mq 11 43] [9,39,40,41,42,43]
(.seq (.seq (.reg true [
mq 44 11,
tq 45 (.un .not (.t 44)),
tq 46 (cl za8 [.t 45,kq 25]),
fa 47 0 2,
ld 48 47,
tq 49 (.len .slc (.t 48)),
tq 50 (.bin .geq (.t 49) (kq 16)),
tq 51 (cl za8 [.t 50,kq 5]),
tq 52 (.mkList 1 2 [.t 46,.t 51]),
tq 53 (cl za3 [.t 52]),
mq 12 53] [11,44,45,46,47,48,49,50,51,52,53])
(sr [
mq 54 12,
tq 55 (.bin .neq (.t 54) (kq 0))] [54]
(.cond (.t 55) (sr [
tq 56 (.build [.own ⟨true,zaa,3,64⟩,.z (.int .i64 0),.z (.int .i64 0),.z (.int .i64 0)] []),
mq 57 12,
⟨none,none,.store 4 (.t 4) (.t 56)⟩,
tq 5 (.mv (.k (.d (.bool false)))),
mq 6 57] [12,56,57]
.ret)
 .skip)))
(sr [
fa 58 0 2,
ld 59 58,
lq 60 3 10,
tq 61 (.call true true (.k (.fn zdm [] [])) [.t 59,.t 60]),
mq 13 61] [58,59,60,61]
(sr [
fa 62 0 2,
ld 63 62,
lq 64 3 10,
tq 65 (.mkList 3 1 [.t 64]),
tq 66 (.append ⟨true,zaa,3,64⟩ (.t 63) (.t 65)),
fa 67 0 2,
⟨none,none,.store 1 (.t 67) (.t 66)⟩] [10,62,63,64,65,66,67]
(sr [
lq 68 4 2,
mq 69 13,
⟨none,none,.store 4 (.t 4) (.t 68)⟩,
tq 5 (.mv (.k (.d (.bool false)))),
mq 6 69] [2,13,68,69]
.ret)))))
 (sr [
tq 71 (.bin .eql (.t 36) (.k (.d (.str [112,111,111,108])))),
mq 70 71] [36,71]
(.cond (.t 70) (sr [
mq 73 9,
lq 74 4 2,
tq 75 (.call true false (.k (.fn ze7 [] [])) [.t 73,.t 74]),
mq 72 75,
xq 76 72 0,
xq 77 72 1,
tq 14 (.alloc zab [.own ⟨true,zaa,3,64⟩,.z (.int .i64 0),.z (.int .i64 0),.z (.int .i64 0)]),
⟨none,none,.store 4 (.t 14) (.t 76)⟩,
mq 15 77] [9,72,73,74,75,76,77]
(.seq (.reg true [
lq 78 4 14,
mq 79 15,
tq 80 (.un .not (.t 79)),
tq 81 (cl za8 [.t 80,kq 25]),
fa 82 0 2,
ld 83 82,
tq 84 (.len .slc (.t 83)),
tq 85 (.bin .eql (.t 84) (kq 0)),
tq 86 (cl za8 [.t 85,kq 12]),
lq 87 4 14,
tq 88 (.callR true (.k (.fn zdh [] [])) [.t 87] [14]),
tq 89 (.mkList 1 3 [.t 81,.t 86,.t 88]),
tq 90 (cl za3 [.t 89]),
⟨none,none,.store 4 (.t 4) (.t 78)⟩,
tq 5 (.mv (.k (.d (.bool true)))),
mq 6 90] [2,14,15,78,79,80,81,82,83,84,85,86,87,88,89,90])
.ret))
 .skip))))))
(sr [
tq 91 (.build [.own ⟨true,zaa,3,64⟩,.z (.int .i64 0),.z (.int .i64 0),.z (.int .i64 0)] []),
⟨none,none,.store 4 (.t 4) (.t 91)⟩,
tq 5 (.mv (.k (.d (.bool false)))),
tq 6 (.mv (kq 25))] [91]
.ret))))))⟩
def znz:CF:=⟨[.tmp 6],
  (sr [
tq 3 (.box zab (.t 0)),
tq 6 (.mv (kq 0))] [0,6]
(sr [
lq 7 4 3,
tq 8 (cl zeq [.t 7]),
mq 9 1,
tq 10 (cl zid [.t 9]),
mq 11 2,
tq 12 (cl zgo [.t 11]),
tq 13 (.mkList 1 3 [.t 8,.t 10,.t 12]),
tq 14 (cl za3 [.t 13]),
mq 6 14] [1,2,3,7,8,9,10,11,12,13,14]
.ret))⟩
def zwl:CF:=⟨[.cell 6 (some 6)],
  (sr [
tq 3 (.box zab (.t 0)),
tq 6 (.alloc za6 [.z (.list 0 []),.z (.int .i64 0),.z (.int .i64 0),.z (.int .i64 0),.z (.list 0 []),.z (.list 0 [])])] [0]
(.seq (.reg true [
lq 7 4 3,
mq 8 2,
mq 9 1,
mq 10 2,
tq 11 (cl zll [.t 9,.t 10]),
tq 12 (.build [.z (.list 0 []),.z (.int .i64 0),.z (.int .i64 0),.z (.int .i64 0),.z (.list 0 []),.z (.list 0 [])] [(0,4,.t 7),(4,1,.t 8),(5,1,.t 11)]),
⟨none,none,.store 6 (.t 6) (.t 12)⟩] [1,2,3,7,8,9,10,11,12])
.ret))⟩
def zmb:C:=
  (sr [
tq 37 (.bin .lss (.t 36) (.t 35))] []
(.seq (.cond (.t 37) .skip
 (.exit 0))
(.seq (.block 1 (sr [
tq 38 (.idxAddr 1 (.t 34) (.t 36)),
ld 39 38,
mq 8 39] [38,39]
(rg [
mq 40 6,
fa 41 4 1,
ld 42 41,
mq 43 8,
tq 44 (.idxAddr 18 (.t 42) (.t 43)),
fa 45 15 44,
ld 46 45,
tq 47 (.mkList 1 1 [.t 46]),
tq 48 (.append ⟨false,zv6,1,1⟩ (.t 40) (.t 47)),
mq 6 48] [8,40,41,42,43,44,45,46,47,48])))
(rg [
tq 49 (.bin .add (.t 36) (kq 1)),
mq 36 49] [49]))))
def zl9:C:=
  (sr [
tq 60 (.bin .lss (.t 59) (.t 58))] []
(.seq (.cond (.t 60) .skip
 (.exit 2))
(.seq (.block 3 (sr [
mq 61 59,
tq 62 (.idxAddr 1 (.t 57) (.t 59)),
ld 63 62,
mq 9 61,
mq 10 63] [61,62,63]
(rg [
mq 64 3,
mq 65 4,
mq 66 9,
tq 67 (.bin .add (.t 65) (.t 66)),
mq 68 5,
mq 69 10,
tq 70 (.idxAddr 1 (.t 68) (.t 69)),
ld 71 70,
tq 72 (.idxAddr 1 (.t 64) (.t 67)),
⟨none,none,.store 1 (.t 72) (.t 71)⟩] [9,10,64,65,66,67,68,69,70,71,72])))
(rg [
tq 73 (.bin .add (.t 59) (kq 1)),
mq 59 73] [73]))))
def zne:CF:=⟨[.tmp 2],
  (sr [
tq 1 (.box za6 (.t 0)),
tq 2 (.ownNil ⟨true,zam,1,8⟩)] [0,2]
(sr [
fa 11 4 1,
ld 12 11,
tq 13 (.len .slc (.t 12)),
tq 14 (.makeRow ⟨true,zam,1,8⟩ [.int .i64 0] (.t 13)),
mq 3 14] [11,12,13,14]
(sr [
mq 15 3,
fa 16 4 1,
ld 17 16,
tq 18 (.len .slc (.t 17)),
tq 19 (cl zdg [.t 18]),
tq 20 (.copy 1 (.t 15) (.t 19))] [15,16,17,18,19,20]
(sr [
mq 21 3,
tq 22 (.mkFunc zcb [] [.t 1]),
tq 23 (.call true true (.k (.fn zbp [] [])) [.t 21,.t 22])] [21,22,23]
(sr [
mq 24 3,
tq 25 (.mkFunc zcd [] [.t 1]),
tq 26 (.call true true (.k (.fn zdf [] [])) [.t 24,.t 25]),
mq 4 26] [24,25,26]
(.seq (sr [
mq 27 4,
tq 28 (.bin .lss (.t 27) (kq 0))] [27]
(.cond (.t 28) (sr [
mq 29 3,
mq 2 29] [3,29]
.ret)
 .skip))
(sr [
mq 30 3,
mq 31 4,
tq 32 (.slice 1 (.t 30) (some (.t 31)) none none),
tq 33 (.call true true (.k (.fn zge [] [])) [.t 32]),
mq 5 33] [30,31,32,33]
(sr [
tq 6 (.ownNil ⟨false,zv6,1,1⟩)] []
(.seq (sr [
mq 34 5,
tq 35 (.len .slc (.t 34)),
tq 36 (.mv (kq 0))] []
(.block 0 (.loop [1,3,4,5,6,34,35,36] zmb)))
(.seq (sr [
fa 50 0 1,
fa 51 2 50,
ld 52 51,
fa 53 0 1,
fa 54 3 53,
ld 55 54,
mq 56 6,
tq 57 (cl zdp [.t 52,.t 55,.t 56]),
tq 58 (.len .slc (.t 57)),
tq 59 (.mv (kq 0))] [1,6,50,51,52,53,54,55,56]
(.block 2 (.loop [3,4,5,57,58,59] zl9)))
(sr [
mq 74 3,
mq 2 74] [3,74]
.ret)))))))))))⟩
def znp:C:=
  (sr [
tq 38 (.bin .lss (.t 37) (.t 36))] []
(.seq (.cond (.t 38) .skip
 (.exit 0))
(.seq (.block 1 (sr [
tq 39 (.idxAddr 14 (.t 35) (.t 37)),
lq 40 14 39,
tq 8 (.alloc zag [.z (.str []),.z (.str []),.z (.str []),.z (.str []),.z (.str []),.z (.str []),.z (.str []),.z (.int .i64 0),.z (.int .i64 0),.z (.int .i64 0),.z (.int .i64 0),.z (.int .i64 0),.z (.int .i64 0),.z (.int .i64 0)]),
⟨none,none,.store 14 (.t 8) (.t 40)⟩] [39,40]
(rg [
mq 41 6,
lq 42 14 8,
tq 43 (cl zii [.t 42]),
tq 44 (.bin .add (.t 43) (.k (.d (.str [10])))),
tq 45 (.call true false (.t 41) [.t 44])] [8,41,42,43,44,45])))
(rg [
tq 46 (.bin .add (.t 37) (kq 1)),
mq 37 46] [46]))))
def zot:CF:=⟨[.tmp 2,.tmp 3],
  (sr [
tq 1 (.box zae (.t 0)),
tq 2 (.mv (.k (.d (.str [])))),
tq 3 (.mv (kq 0))] [0,2,3]
(.seq (sr [
lq 9 5 1,
tq 10 (cl ze6 [.t 9]),
mq 4 10] [9,10]
(sr [
mq 11 4,
tq 12 (.bin .neq (.t 11) (kq 0))] [11]
(.cond (.t 12) (sr [
mq 13 4,
tq 2 (.mv (.k (.d (.str [])))),
mq 3 13] [4,13]
.ret)
 .skip)))
(sr [
tq 5 (.alloc ty_strings_Builder [.z .nilp,.own ⟨false,ty_uint8,1,1⟩])] []
(sr [
tq 14 (.mkFunc zak [.t 5] []),
mq 6 14] [14]
(.seq (.reg true [
mq 15 6,
fa 16 0 1,
ld 17 16,
tq 18 (.bin .add (.k (.d (.str [83,76,79,84,83,32]))) (.t 17)),
tq 19 (.bin .add (.t 18) (.k (.d (.str [32])))),
fa 20 1 1,
ld 21 20,
tq 22 (.bin .add (.t 19) (.t 21)),
tq 23 (.bin .add (.t 22) (.k (.d (.str [32])))),
fa 24 2 1,
ld 25 24,
tq 26 (.bin .add (.t 23) (.t 25)),
tq 27 (.bin .add (.t 26) (.k (.d (.str [32])))),
fa 28 3 1,
ld 29 28,
tq 30 (cl zco [.t 29,kq 5]),
tq 31 (.bin .add (.t 27) (.t 30)),
tq 32 (.bin .add (.t 31) (.k (.d (.str [10])))),
tq 33 (.call true false (.t 15) [.t 32])] [15,16,17,18,19,20,21,22,23,24,25,26,27,28,29,30,31,32,33])
(.seq (sr [
fa 34 4 1,
ld 35 34,
tq 36 (.len .slc (.t 35)),
tq 37 (.mv (kq 0))] [34]
(.block 0 (.loop [1,5,6,35,36,37] znp)))
(sr [
mq 47 6,
fa 48 4 1,
ld 49 48,
tq 50 (.len .slc (.t 49)),
tq 51 (cl zco [.t 50,kq 2]),
tq 52 (.bin .add (.k (.d (.str [69,78,68,32]))) (.t 51)),
tq 53 (.bin .add (.t 52) (.k (.d (.str [10])))),
tq 54 (.call true false (.t 47) [.t 53])] [1,6,47,48,49,50,51,52,53,54]
(sr [
tq 55 (.call true true (.k (.fn n_strings_Builder_String [] [])) [.t 5]),
mq 2 55,
tq 3 (.mv (kq 0))] [5,55]
.ret))))))))⟩
def zio:C:=
  (sr [
mq 8 29] [29]
(rg [
mq 9 30] [30]))
def zil:C:=
  (.block 1 (sr [
mq 31 8,
tq 32 (.bin .add (.t 31) (kq 1)),
⟨none,none,.store 1 (.t 6) (.t 32)⟩] [6,31,32]
(sr [
mq 34 9,
tq 35 (cl zex [.t 34,.k (.d (.str [10]))]),
mq 33 35,
xq 36 33 0,
xq 37 33 1,
mq 10 36,
mq 11 37] [33,34,35,36,37]
(sr [
mq 38 10,
tq 39 (cl n_strings_Split [.t 38,.k (.d (.str [32]))]),
mq 12 39] [38,39]
(.block 2 (sr [
mq 72 8,
tq 73 (.bin .eql (.t 72) (kq 0)),
mq 71 73] [72,73]
(.cond (.t 71) (sr [
mq 75 9,
tq 76 (.call false false (.k (.fn zcf [] [])) [.t 75]),
mq 74 76,
xq 77 74 0,
xq 78 74 1,
tq 13 (.alloc zae [.z (.str []),.z (.str []),.z (.str []),.z (.int .i64 0),.own ⟨false,zag,14,168⟩]),
⟨none,none,.store 5 (.t 13) (.t 77)⟩,
mq 14 78] [9,74,75,76,77,78]
(.seq (sr [
mq 79 14,
tq 80 (.un .not (.t 79))] [14,79]
(.cond (.t 80) (sr [
tq 81 (.build [.z (.str []),.z (.str []),.z (.str []),.z (.int .i64 0),.own ⟨false,zag,14,168⟩] []),
⟨none,none,.store 5 (.t 2) (.t 81)⟩,
⟨none,none,.store 1 (.t 3) (kq 0)⟩,
⟨none,none,.store 1 (.t 4) (kq 25)⟩] [81]
.ret)
 .skip))
(rg [
lq 82 5 13,
⟨none,none,.store 5 (.t 5) (.t 82)⟩] [5,13,82])))
 (sr [
mq 84 11,
tq 85 (.un .not (.t 84)),
mq 86 85,
gq 87 86 false (.load none (.t 7)),
tq 88 (.pick (.t 86) (.k (.d (.bool true))) (.t 87)),
mq 83 88] [11,84,85,86,87,88]
(.cond (.t 83) (sr [
tq 89 (.build [.z (.str []),.z (.str []),.z (.str []),.z (.int .i64 0),.own ⟨false,zag,14,168⟩] []),
mq 90 8,
⟨none,none,.store 5 (.t 2) (.t 89)⟩,
⟨none,none,.store 1 (.t 3) (.t 90)⟩,
⟨none,none,.store 1 (.t 4) (kq 25)⟩] [8,89,90]
.ret)
 (sr [
mq 92 12,
tq 93 (.idxAddr 1 (.t 92) (kq 0)),
ld 94 93,
tq 95 (.bin .neq (.t 94) (.k (.d (.str [69,78,68])))),
mq 91 95] [92,93,94,95]
(.cond (.t 91) (sr [
mq 97 10,
tq 98 (cl zdr [.t 97]),
mq 96 98,
xq 99 96 0,
xq 100 96 1,
xq 101 96 2,
tq 15 (.alloc zag [.z (.str []),.z (.str []),.z (.str []),.z (.str []),.z (.str []),.z (.str []),.z (.str []),.z (.int .i64 0),.z (.int .i64 0),.z (.int .i64 0),.z (.int .i64 0),.z (.int .i64 0),.z (.int .i64 0),.z (.int .i64 0)]),
⟨none,none,.store 14 (.t 15) (.t 99)⟩,
mq 16 100,
mq 17 101] [10,16,96,97,98,99,100,101]
(.seq (sr [
mq 102 17,
fa 103 4 5,
ld 104 103,
tq 105 (.len .slc (.t 104)),
tq 106 (.bin .geq (.t 105) (kq 64)),
tq 107 (cl za7 [.t 106,kq 5]),
tq 108 (.mkList 1 2 [.t 102,.t 107]),
tq 109 (cl zbj [.t 108]),
mq 17 109] [102,103,104,105,106,107,108,109]
(sr [
mq 110 17,
tq 111 (.bin .neq (.t 110) (kq 0))] [110]
(.cond (.t 111) (sr [
tq 112 (.build [.z (.str []),.z (.str []),.z (.str []),.z (.int .i64 0),.own ⟨false,zag,14,168⟩] []),
mq 113 8,
mq 114 17,
⟨none,none,.store 5 (.t 2) (.t 112)⟩,
⟨none,none,.store 1 (.t 3) (.t 113)⟩,
⟨none,none,.store 1 (.t 4) (.t 114)⟩] [8,17,112,113,114]
.ret)
 .skip)))
(rg [
fa 115 4 5,
ld 116 115,
lq 117 14 15,
tq 118 (.mkList 14 1 [.t 117]),
tq 119 (.append ⟨false,zag,14,168⟩ (.t 116) (.t 118)),
fa 120 4 5,
⟨none,none,.store 1 (.t 120) (.t 119)⟩] [5,15,115,116,117,118,119,120])))
 (sr [
mq 41 12,
mq 42 12,
tq 43 (.len .slc (.t 42)),
tq 44 (.bin .sub (.t 43) (kq 1)),
tq 45 (.idxAddr 1 (.t 41) (.t 44)),
ld 46 45,
tq 47 (cl zbi [.t 46,kq 2]),
mq 40 47,
xq 48 40 0,
xq 49 40 1,
mq 18 48,
mq 19 49] [40,41,42,43,44,45,46,47,48,49]
(.seq (.seq (.reg true [
mq 50 12,
tq 51 (.len .slc (.t 50)),
tq 52 (.bin .neq (.t 51) (kq 2)),
mq 53 52,
gq 54 53 false (.mv (.t 19)),
gq 55 53 false (.un .not (.t 54)),
tq 56 (.pick (.t 53) (.k (.d (.bool true))) (.t 55)),
tq 57 (cl za7 [.t 56,kq 25]),
mq 58 18,
fa 59 4 5,
ld 60 59,
tq 61 (.len .slc (.t 60)),
tq 62 (.bin .neq (.t 58) (.t 61)),
tq 63 (cl za7 [.t 62,kq 27]),
tq 64 (.mkList 1 2 [.t 57,.t 63]),
tq 65 (cl zbj [.t 64]),
mq 20 65] [5,12,18,19,50,51,52,53,54,55,56,57,58,59,60,61,62,63,64,65])
(sr [
mq 66 20,
tq 67 (.bin .neq (.t 66) (kq 0))] [66]
(.cond (.t 67) (sr [
tq 68 (.build [.z (.str []),.z (.str []),.z (.str []),.z (.int .i64 0),.own ⟨false,zag,14,168⟩] []),
mq 69 8,
mq 70 20,
⟨none,none,.store 5 (.t 2) (.t 68)⟩,
⟨none,none,.store 1 (.t 3) (.t 69)⟩,
⟨none,none,.store 1 (.t 4) (.t 70)⟩] [8,20,68,69,70]
.ret)
 .skip)))
(rg [
⟨none,none,.store 1 (.t 7) (.k (.d (.bool true)))⟩] [7]))))))))))))))
def zo3:CF:=⟨[.cell 2 (some 5),.cell 3 none,.cell 4 none],
  (sr [
tq 2 (.alloc zae [.z (.str []),.z (.str []),.z (.str []),.z (.int .i64 0),.own ⟨false,zag,14,168⟩]),
tq 3 (.alloc zam [.z (.int .i64 0)]),
tq 4 (.alloc zxv [.z (.int .i64 0)])] []
(.seq (sr [
mq 23 0,
tq 24 (.len .str (.t 23)),
tq 25 (.bin .gtr (.t 24) (kq 16384))] [23,24]
(.cond (.t 25) (sr [
tq 26 (.build [.z (.str []),.z (.str []),.z (.str []),.z (.int .i64 0),.own ⟨false,zag,14,168⟩] []),
⟨none,none,.store 5 (.t 2) (.t 26)⟩,
⟨none,none,.store 1 (.t 3) (kq 0)⟩,
⟨none,none,.store 1 (.t 4) (kq 26)⟩] [26]
.ret)
 .skip))
(sr [
tq 5 (.alloc zae [.z (.str []),.z (.str []),.z (.str []),.z (.int .i64 0),.own ⟨false,zag,14,168⟩])] []
(sr [
tq 6 (.alloc zam [.z (.int .i64 0)]),
tq 7 (.alloc zv6 [.z (.bool false)]),
⟨none,none,.store 1 (.t 6) (kq 0)⟩,
⟨none,none,.store 1 (.t 7) (.k (.d (.bool false)))⟩] []
(.seq (sr [
mq 27 0,
tq 28 (.call false false (.k (.fn zhf [] [])) [.t 27])] [0,27]
(.block 0 (.rangeFn 141 (.t 28) [29,30] zio zil)))
(.seq (sr [
ld 121 7,
tq 122 (.un .not (.t 121))] [7,121]
(.cond (.t 122) (.seq (.reg true [
tq 123 (.build [.z (.str []),.z (.str []),.z (.str []),.z (.int .i64 0),.own ⟨false,zag,14,168⟩] []),
ld 124 6,
⟨none,none,.storeR 5 (.t 2) (.t 123) [6]⟩,
⟨none,none,.store 1 (.t 3) (.t 124)⟩,
⟨none,none,.store 1 (.t 4) (kq 28)⟩] [6,123,124])
.ret)
 .skip))
(.seq (sr [
fa 126 0 5,
ld 127 126,
fa 128 4 5,
ld 129 128,
tq 130 (cl zei [.t 127,.t 129]),
mq 125 130,
xq 131 125 0,
xq 132 125 1,
mq 21 131,
mq 22 132] [125,126,127,128,129,130,131,132]
(sr [
mq 133 22,
tq 134 (.bin .neq (.t 133) (kq 0))] [133]
(.cond (.t 134) (sr [
tq 135 (.build [.z (.str []),.z (.str []),.z (.str []),.z (.int .i64 0),.own ⟨false,zag,14,168⟩] []),
mq 136 21,
tq 137 (.bin .add (.t 136) (kq 1)),
mq 138 22,
⟨none,none,.store 5 (.t 2) (.t 135)⟩,
⟨none,none,.store 1 (.t 3) (.t 137)⟩,
⟨none,none,.store 1 (.t 4) (.t 138)⟩] [21,22,135,136,137,138]
.ret)
 .skip)))
(sr [
lq 139 5 5,
⟨none,none,.store 5 (.t 2) (.t 139)⟩,
⟨none,none,.store 1 (.t 3) (kq 0)⟩,
⟨none,none,.store 1 (.t 4) (kq 0)⟩] [5,139]
.ret))))))))⟩
def zhp:C:=
  (sr [
tq 67 (.bin .lss (.t 66) (.t 65))] []
(.seq (.cond (.t 67) .skip
 (.exit 2))
(.seq (.block 3 (sr [
tq 68 (.idxAddr 14 (.t 64) (.t 66)),
lq 69 14 68,
tq 12 (.alloc zag [.z (.str []),.z (.str []),.z (.str []),.z (.str []),.z (.str []),.z (.str []),.z (.str []),.z (.int .i64 0),.z (.int .i64 0),.z (.int .i64 0),.z (.int .i64 0),.z (.int .i64 0),.z (.int .i64 0),.z (.int .i64 0)]),
⟨none,none,.store 14 (.t 12) (.t 69)⟩] [68,69]
(sr [
mq 71 5,
lq 72 14 12,
fa 73 3 9,
ld 74 73,
tq 75 (.call true false (.k (.fn zda [] [])) [.t 71,.t 72,.t 74]),
mq 70 75,
xq 76 70 0,
xq 77 70 1,
mq 5 76,
mq 7 77] [12,70,71,72,73,74,75,76,77]
(sr [
mq 78 7,
tq 79 (.bin .neq (.t 78) (kq 0))] [78]
(.cond (.t 79) (.exit 0)
 .skip)))))
(rg [
tq 80 (.bin .add (.t 66) (kq 1)),
mq 66 80] [80]))))
def zqx:C:=
  (sr [
tq 19 (.bin .lss (.t 18) (.t 17))] []
(.seq (.cond (.t 19) .skip
 (.exit 0))
(.seq (.block 1 (sr [
mq 20 18,
tq 21 (.idxAddr 5 (.t 16) (.t 18)),
lq 22 5 21,
tq 9 (.alloc zae [.z (.str []),.z (.str []),.z (.str []),.z (.int .i64 0),.z (.list 0 [])]),
mq 8 20,
⟨none,none,.store 5 (.t 9) (.t 22)⟩] [20,21,22]
(sr [
mq 23 8,
mq 6 23] [23]
(sr [
mq 24 0,
mq 25 8,
tq 26 (.bin .sub (.t 25) (kq 1)),
tq 27 (.minmax true [kq 0,.t 26]),
tq 28 (.idxAddr 5 (.t 24) (.t 27)),
lq 29 5 28,
tq 10 (.alloc zae [.z (.str []),.z (.str []),.z (.str []),.z (.int .i64 0),.z (.list 0 [])]),
⟨none,none,.store 5 (.t 10) (.t 29)⟩] [8,24,25,26,27,28,29]
(.seq (.seq (.reg true [
lq 30 5 9,
tq 31 (cl ze6 [.t 30]),
fa 32 0 9,
ld 33 32,
tq 34 (.bin .neq (.t 33) (.k (.d (.str [82,69,81])))),
tq 35 (cl za7 [.t 34,kq 13]),
fa 36 1 9,
ld 37 36,
mq 38 0,
tq 39 (.idxAddr 5 (.t 38) (kq 0)),
fa 40 1 39,
ld 41 40,
tq 42 (.bin .neq (.t 37) (.t 41)),
mq 43 42,
gq 44 43 false (.fieldAddr 2 (.t 9)),
gq 45 43 false (.load none (.t 44)),
gq 46 43 false (.mv (.t 0)),
gq 47 43 false (.idxAddr 5 (.t 46) (kq 0)),
gq 48 43 false (.fieldAddr 2 (.t 47)),
gq 49 43 false (.load none (.t 48)),
gq 50 43 false (.bin .neq (.t 45) (.t 49)),
tq 51 (.pick (.t 43) (.k (.d (.bool true))) (.t 50)),
tq 52 (cl za7 [.t 51,kq 29]),
fa 53 3 9,
ld 54 53,
fa 55 3 10,
ld 56 55,
tq 57 (.bin .lss (.t 54) (.t 56)),
tq 58 (cl za7 [.t 57,kq 11]),
tq 59 (.mkList 1 4 [.t 31,.t 35,.t 52,.t 58]),
tq 60 (cl zbj [.t 59]),
mq 7 60] [10,30,31,32,33,34,35,36,37,38,39,40,41,42,43,44,45,46,47,48,49,50,51,52,53,54,55,56,57,58,59,60])
(sr [
mq 61 7,
tq 62 (.bin .neq (.t 61) (kq 0))] [61]
(.cond (.t 62) (.exit 0)
 .skip)))
(sr [
fa 63 4 9,
ld 64 63,
tq 65 (.len .slc (.t 64)),
tq 66 (.mv (kq 0))] [63]
(.block 2 (.loop [0,5,6,7,9,16,17,18,64,65,66] zhp))))))))
(rg [
tq 81 (.bin .add (.t 18) (kq 1)),
mq 18 81] [81]))))
def zua:CF:=⟨[.tmp 2,.tmp 3,.tmp 4],
  (sr [
tq 2 (.ownNil ⟨true,zac,15,168⟩),
tq 3 (.mv (kq 0)),
tq 4 (.mv (kq 0))] [2,3,4]
(.scope (.seq (sr [
mq 13 0,
tq 14 (.len .slc (.t 13)),
tq 15 (.bin .gtr (.t 14) (kq 64))] [13,14]
(.cond (.t 15) (sr [
tq 2 (.ownNil ⟨true,zac,15,168⟩),
tq 3 (.mv (kq 0)),
tq 4 (.mv (kq 5))] []
.ret)
 .skip))
(sr [
tq 5 (.ownNil ⟨true,zac,15,168⟩)] []
(sr [
tq 6 (.mv (kq 0)),
tq 7 (.mv (kq 0))] []
(.seq .label
(.seq (sr [
mq 16 0,
tq 17 (.len .slc (.t 16)),
tq 18 (.mv (kq 0))] []
(.block 0 (.loop [0,5,6,7,16,17,18] zqx)))
(.seq (sr [
mq 82 7,
tq 83 (.bin .neq (.t 82) (kq 0))] [82]
(.cond (.t 83) (sr [
mq 84 6,
mq 85 7,
tq 2 (.ownNil ⟨true,zac,15,168⟩),
mq 3 84,
mq 4 85] [6,7,84,85]
.ret)
 .skip))
(sr [
mq 86 5,
mq 2 86,
tq 3 (.mv (kq 0)),
tq 4 (.mv (kq 0))] [5,86]
.ret)))))))))⟩
def ztr:C:=
  (sr [
tq 8 (.bin .lss (.t 7) (.t 6))] []
(.seq (.cond (.t 8) .skip
 (.exit 0))
(.seq (.block 1 (sr [
tq 9 (.idxAddr 1 (.t 5) (.t 7)),
ld 10 9,
mq 4 10] [9,10]
(sr [
mq 11 4,
tq 12 (.bin .neq (.t 11) (kq 0))] [11]
(.cond (.t 12) (sr [
mq 13 4,
mq 2 13] [4,13]
.ret)
 .skip))))
(rg [
tq 14 (.bin .add (.t 7) (kq 1)),
mq 7 14] [14]))))
def zx7:CF:=⟨[.tmp 2],
  (sr [
tq 2 (.mv (kq 0))] [2]
(.seq (sr [
mq 5 0,
tq 6 (.len .slc (.t 5)),
tq 7 (.mv (kq 0))] [0]
(.block 0 (.loop [5,6,7] ztr)))
(sr [
tq 2 (.mv (kq 0))] []
.ret)))⟩
def z2u:CF:=⟨[.tmp 4],
  (sr [
tq 4 (.mv (kq 0))] [4]
(.seq (sr [
mq 5 0] [0]
(.cond (.t 5) (sr [
mq 6 1,
mq 4 6] [1,6]
.ret)
 .skip))
(sr [
tq 4 (.mv (kq 0))] []
.ret)))⟩
def zm5:C:=
  (sr [
tq 9 (.bin .lss (.t 8) (.t 7))] []
(.seq (.cond (.t 9) .skip
 (.exit 0))
(.seq (.block 1 (sr [
mq 10 8,
mq 5 10] [10]
(sr [
mq 11 1,
mq 12 0,
mq 13 5,
tq 14 (.idxAddr 1 (.t 12) (.t 13)),
ld 15 14,
tq 16 (.bin .eql (.t 11) (.t 15))] [11,12,13,14,15]
(.cond (.t 16) (sr [
mq 17 5,
mq 4 17] [5,17]
.ret)
 .skip))))
(rg [
tq 18 (.bin .add (.t 8) (kq 1)),
mq 8 18] [18]))))
def znv:CF:=⟨[.tmp 4],
  (sr [
tq 4 (.mv (kq 0))] [4]
(.seq (sr [
mq 6 0,
tq 7 (.len .slc (.t 6)),
tq 8 (.mv (kq 0))] [6]
(.block 0 (.loop [0,1,7,8] zm5)))
(sr [
tq 4 (.mv (kq (-1)))] []
.ret)))⟩
def zyp:C:=
  (.seq (sr [
mq 37 11,
mq 38 10,
tq 39 (.len .slc (.t 38)),
tq 40 (.bin .lss (.t 37) (.t 39))] [37,38,39]
(.cond (.t 40) .skip
 (.exit 0)))
(.seq (.block 1 (.seq (.reg true [
lq 43 18 4,
mq 44 10,
mq 45 11,
tq 46 (.idxAddr 2 (.t 44) (.t 45)),
fa 47 0 46,
ld 48 47,
tq 49 (cl zj8 [.t 43,.t 48]),
lq 50 18 5,
mq 51 10,
mq 52 11,
tq 53 (.idxAddr 2 (.t 51) (.t 52)),
fa 54 0 53,
ld 55 54,
tq 56 (cl zj8 [.t 50,.t 55]),
mq 12 49,
mq 13 56] [43,44,45,46,47,48,49,50,51,52,53,54,55,56])
(.seq (sr [
mq 57 12,
mq 58 13,
tq 59 (.bin .eql (.t 57) (.t 58))] [57,58]
(.cond (.t 59) (.exit 1)
 .skip))
(.seq (sr [
mq 60 12,
mq 61 13,
tq 62 (.bin .lss (.t 60) (.t 61)),
mq 63 10,
mq 64 11,
tq 65 (.idxAddr 2 (.t 63) (.t 64)),
fa 66 1 65,
ld 67 66,
tq 68 (.eqv none true (.t 62) (.t 67))] [12,13,60,61,62,63,64,65,66,67]
(.cond (.t 68) (.seq (.reg true [
mq 69 10,
mq 70 11,
tq 71 (.idxAddr 2 (.t 69) (.t 70)),
fa 72 0 71,
ld 73 72,
tq 6 (.mv (kq (-1))),
mq 7 73] [10,11,69,70,71,72,73])
.ret)
 .skip))
(.seq (.reg true [
mq 74 10,
mq 75 11,
tq 76 (.idxAddr 2 (.t 74) (.t 75)),
fa 77 0 76,
ld 78 77,
tq 6 (.mv (kq 1)),
mq 7 78] [10,11,74,75,76,77,78])
.ret)))))
(rg [
mq 41 11,
tq 42 (.bin .add (.t 41) (kq 1)),
mq 11 42] [41,42])))
def z3l:CF:=⟨[.tmp 6,.tmp 7],
  (sr [
tq 3 (.box zat (.t 0)),
tq 4 (.box zax (.t 1)),
tq 5 (.box zax (.t 2)),
tq 6 (.mv (kq 0)),
tq 7 (.mv (.k (.d (.str []))))] [0,1,2,6,7]
(.seq (.reg true [
lq 14 4 3,
lq 15 18 4,
tq 16 (cl ziu [.t 14,.t 15]),
lq 17 4 3,
lq 18 18 5,
tq 19 (cl ziu [.t 17,.t 18]),
mq 8 16,
mq 9 19] [14,15,16,17,18,19])
(.seq (sr [
mq 20 8,
mq 21 9,
tq 22 (.bin .lss (.t 20) (.t 21))] [20,21]
(.cond (.t 22) (sr [
tq 6 (.mv (kq (-1))),
tq 7 (.mv (.k (.d (.str [99,108,97,115,115]))))] []
.ret)
 .skip))
(.seq (sr [
mq 23 8,
mq 24 9,
tq 25 (.bin .gtr (.t 23) (.t 24))] [9,23,24]
(.cond (.t 25) (sr [
tq 6 (.mv (kq 1)),
tq 7 (.mv (.k (.d (.str [99,108,97,115,115]))))] []
.ret)
 .skip))
(.seq (sr [
mq 26 8,
fa 27 0 3,
ld 28 27,
tq 29 (.len .slc (.t 28)),
tq 30 (.bin .eql (.t 26) (.t 29))] [26,27,28,29]
(.cond (.t 30) (sr [
tq 6 (.mv (kq 0)),
tq 7 (.mv (.k (.d (.str []))))] []
.ret)
 .skip))
(sr [
fa 31 0 3,
ld 32 31,
mq 33 8,
tq 34 (.idxAddr 3 (.t 32) (.t 33)),
fa 35 2 34,
ld 36 35,
mq 10 36] [3,8,31,32,33,34,35,36]
(.seq (sr [
tq 11 (.mv (kq 0))] []
(.block 0 (.loop [4,5,10,11] zyp)))
(sr [
tq 6 (.mv (kq 0)),
tq 7 (.mv (.k (.d (.str []))))] []
.ret))))))))⟩
def z6l:CF:=⟨[.tmp 2],
  (sr [
tq 1 (.box zbo (.t 0)),
tq 2 (.mv (.k (.d (.bool false))))] [0,2]
(sr [
fa 3 0 1,
ld 4 3,
tq 5 (.len .str (.t 4)),
tq 6 (.bin .leq (.t 5) (kq 40)),
mq 7 6,
gq 8 7 true (.fieldAddr 1 (.t 1)),
gq 9 7 true (.load none (.t 8)),
gq 10 7 true (.len .str (.t 9)),
gq 11 7 true (.bin .leq (.t 10) (kq 40)),
tq 12 (.pick (.t 7) (.t 11) (.k (.d (.bool false)))),
mq 13 12,
gq 14 13 true (.fieldAddr 2 (.t 1)),
gq 15 13 true (.load none (.t 14)),
gq 16 13 true (.len .str (.t 15)),
gq 17 13 true (.bin .leq (.t 16) (kq 40)),
tq 18 (.pick (.t 13) (.t 17) (.k (.d (.bool false)))),
mq 19 18,
gq 20 19 true (.fieldAddr 3 (.t 1)),
gq 21 19 true (.load none (.t 20)),
gq 22 19 true (.len .str (.t 21)),
gq 23 19 true (.bin .leq (.t 22) (kq 40)),
tq 24 (.pick (.t 19) (.t 23) (.k (.d (.bool false)))),
mq 25 24,
gq 26 25 true (.fieldAddr 4 (.t 1)),
gq 27 25 true (.load none (.t 26)),
gq 28 25 true (.len .str (.t 27)),
gq 29 25 true (.bin .leq (.t 28) (kq 40)),
tq 30 (.pick (.t 25) (.t 29) (.k (.d (.bool false)))),
mq 31 30,
gq 32 31 true (.fieldAddr 5 (.t 1)),
gq 33 31 true (.load none (.t 32)),
gq 34 31 true (.len .str (.t 33)),
gq 35 31 true (.bin .leq (.t 34) (kq 40)),
tq 36 (.pick (.t 31) (.t 35) (.k (.d (.bool false)))),
mq 2 36] [1,3,4,5,6,7,8,9,10,11,12,13,14,15,16,17,18,19,20,21,22,23,24,25,26,27,28,29,30,31,32,33,34,35,36]
.ret))⟩
def z1f:C:=
  (.seq (sr [
mq 9 6,
mq 10 0,
tq 11 (.len .slc (.t 10)),
tq 12 (.bin .lss (.t 9) (.t 11)),
mq 13 12,
gq 14 13 true (.mv (.t 5)),
gq 15 13 true (.bin .eql (.t 14) (kq 0)),
tq 16 (.pick (.t 13) (.t 15) (.k (.d (.bool false))))] [9,10,11,12,13,14,15]
(.cond (.t 16) .skip
 (.exit 0)))
(.seq (.block 1 (.seq (.reg true [
mq 19 0,
mq 20 6,
tq 21 (.idxAddr 3 (.t 19) (.t 20)),
fa 22 0 21,
ld 23 22,
fa 24 0 3,
ld 25 24,
tq 26 (.bin .eql (.t 23) (.t 25))] [19,20,21,22,23,24,25])
(.cond (.t 26) (rg [
tq 5 (.mv (kq 9))] [])
 .skip)))
(rg [
mq 17 6,
tq 18 (.bin .add (.t 17) (kq 1)),
mq 6 18] [17,18])))
def z6k:CF:=⟨[.tmp 4],
  (sr [
tq 3 (.box zcq (.t 1)),
tq 4 (.mv (kq 0))] [1,4]
(sr [
lq 7 3 3,
tq 8 (cl ziy [.t 7]),
mq 5 8] [7,8]
(.seq (sr [
tq 6 (.mv (kq 0))] []
(.block 0 (.loop [0,3,5,6] z1f)))
(sr [
mq 27 5,
mq 4 27] [5,27]
.ret))))⟩
def zvt:CF:=⟨[.tmp 2],
  (sr [
tq 1 (.box zat (.t 0)),
tq 2 (.mv (kq 0))] [0,2]
(.seq (.reg true [
fa 3 1 1,
ld 4 3,
fa 5 0 1,
ld 6 5,
tq 7 (.len .slc (.t 6)),
tq 8 (cl zbm [.t 4,kq 0,.t 7]),
fa 9 2 1,
ld 10 9,
tq 11 (cl zbm [.t 10,kq 1,kq 100]),
fa 12 3 1,
ld 13 12,
fa 14 2 1,
ld 15 14,
tq 16 (cl zbm [.t 13,kq 0,.t 15]),
tq 17 (.mkList 1 3 [.t 8,.t 11,.t 16]),
tq 18 (cl zfl [.t 17]),
mq 2 18] [1,3,4,5,6,7,8,9,10,11,12,13,14,15,16,17,18])
.ret))⟩
def zvk:CF:=⟨[.tmp 2],
  (sr [
tq 1 (.box zax (.t 0)),
tq 2 (.mv (kq 0))] [0,2]
(.seq (.reg true [
fa 3 0 1,
lq 4 13 3,
tq 5 (cl zhv [.t 4]),
fa 6 17 1,
ld 7 6,
tq 8 (cl zbm [.t 7,kq 0,kq 20000]),
tq 9 (.mkList 1 2 [.t 5,.t 8]),
tq 10 (cl zfl [.t 9]),
mq 2 10] [1,3,4,5,6,7,8,9,10])
.ret))⟩
def zu9:C:=
  (sr [
tq 8 (.bin .lss (.t 7) (.t 6))] []
(.seq (.cond (.t 8) .skip
 (.exit 0))
(.seq (.block 1 (sr [
tq 9 (.idxAddr 2 (.t 5) (.t 7)),
lq 10 2 9,
tq 3 (.alloc zh4 [.z (.str []),.z (.nilf)]),
⟨none,none,.store 2 (.t 3) (.t 10)⟩] [9,10]
(rg [
mq 11 1,
fa 12 0 3,
ld 13 12,
lq 14 2 3,
⟨none,none,.mapSet .str (.t 11) (.t 13) (.t 14)⟩] [3,11,12,13,14])))
(rg [
tq 15 (.bin .add (.t 7) (kq 1)),
mq 7 15] [15]))))
def zym:CF:=⟨[.tmp 0],
  (sr [
tq 0 (.mv (.k (.d (.nilm))))] [0]
(sr [
tq 4 (.mkMap),
mq 1 4] [4]
(.seq (sr [
tq 5 (.call false false (.k (.fn zko [] [])) []),
tq 6 (.len .slc (.t 5)),
tq 7 (.mv (kq 0))] []
(.block 0 (.loop [1,5,6,7] zu9)))
(sr [
mq 16 1,
mq 0 16] [1,16]
.ret))))⟩
def zpm:CF:=⟨[.tmp 2],
  (sr [
tq 1 (.box zal (.t 0)),
tq 2 (.mv (kq 0))] [0,2]
(.seq (.reg true [
fa 3 0 1,
lq 4 13 3,
tq 5 (cl ze8 [.t 4]),
fa 6 17 1,
ld 7 6,
tq 8 (cl zc3 [.t 7,kq 0,kq 20000]),
tq 9 (.mkList 1 2 [.t 5,.t 8]),
tq 10 (cl za3 [.t 9]),
mq 2 10] [1,3,4,5,6,7,8,9,10])
.ret))⟩
def zvx:CF:=⟨[.tmp 2,.tmp 3],
  (sr [
tq 1 (.box zcx (.t 0)),
tq 2 (.mv (.k (.d (.list 0 [])))),
tq 3 (.mv (kq 0))] [0,2,3]
(.seq (sr [
lq 5 3 1,
tq 6 (cl zfa [.t 5]),
mq 4 6] [5,6]
(sr [
mq 7 4,
tq 8 (.bin .neq (.t 7) (kq 0))] [7]
(.cond (.t 8) (sr [
mq 9 4,
tq 2 (.mv (.k (.d (.list 0 [])))),
mq 3 9] [4,9]
.ret)
 .skip)))
(sr [
lq 10 3 1,
tq 11 (.call false false (.k (.fn zjr [] [])) [.t 10]),
tq 12 (.call true true (.k (.fn zf9 [] [])) [.t 11,.k (.fn zgi [] [])]),
mq 2 12,
tq 3 (.mv (kq 0))] [1,10,11,12]
.ret)))⟩
def zjg:C:=
  (sr [
tq 11 (.bin .lss (.t 10) (.t 9))] []
(.seq (.cond (.t 11) .skip
 (.exit 0))
(.seq (.block 1 (sr [
mq 12 10,
tq 13 (.idxAddr 3 (.t 8) (.t 10)),
lq 14 3 13,
tq 6 (.alloc zaa [.z (.str []),.z (.list 0 []),.z (.list 0 [])]),
mq 5 12,
⟨none,none,.store 3 (.t 6) (.t 14)⟩] [12,13,14]
(.seq (.reg true [
mq 15 1,
mq 16 0,
mq 17 5,
tq 18 (.slice 3 (.t 16) none (some (.t 17)) none),
lq 19 3 6,
tq 20 (.call false true (.t 15) [.t 18,.t 19]),
mq 7 20] [5,6,15,16,17,18,19,20])
(sr [
mq 21 7,
tq 22 (.bin .neq (.t 21) (kq 0))] [21]
(.cond (.t 22) (sr [
mq 23 7,
mq 4 23] [7,23]
.ret)
 .skip)))))
(rg [
tq 24 (.bin .add (.t 10) (kq 1)),
mq 10 24] [24]))))
def zke:CF:=⟨[.tmp 4],
  (sr [
tq 4 (.mv (kq 0))] [4]
(.seq (sr [
mq 8 0,
tq 9 (.len .slc (.t 8)),
tq 10 (.mv (kq 0))] []
(.block 0 (.loop [0,1,8,9,10] zjg)))
(sr [
tq 4 (.mv (kq 0))] []
.ret)))⟩
def zya:CF:=⟨[.tmp 4],
  (sr [
tq 3 (.box zaa (.t 1)),
tq 4 (.mv (kq 0))] [1,4]
(sr [
mq 6 0,
tq 7 (.mkFunc zb8 [] [.t 3]),
tq 8 (.call true true (.k (.fn zar [] [])) [.t 6,.t 7]),
mq 5 8] [0,6,7,8]
(sr [
lq 9 3 3,
tq 10 (cl zgq [.t 9]),
mq 11 5,
tq 12 (cl za8 [.t 11,kq 9]),
tq 13 (.mkList 1 2 [.t 10,.t 12]),
tq 14 (cl za3 [.t 13]),
mq 4 14] [3,5,9,10,11,12,13,14]
.ret)))⟩
def zn2:CF:=⟨[.tmp 2],
  (sr [
tq 1 (.box zab (.t 0)),
tq 2 (.mv (kq 0))] [0,2]
(.seq (.reg true [
fa 3 1 1,
ld 4 3,
fa 5 0 1,
ld 6 5,
tq 7 (.len .slc (.t 6)),
tq 8 (cl zc3 [.t 4,kq 0,.t 7]),
fa 9 2 1,
ld 10 9,
tq 11 (cl zc3 [.t 10,kq 1,kq 100]),
fa 12 3 1,
ld 13 12,
fa 14 2 1,
ld 15 14,
tq 16 (cl zc3 [.t 13,kq 0,.t 15]),
tq 17 (.mkList 1 3 [.t 8,.t 11,.t 16]),
tq 18 (cl za3 [.t 17]),
mq 2 18] [1,3,4,5,6,7,8,9,10,11,12,13,14,15,16,17,18])
.ret))⟩
def zsi:CF:=⟨[.tmp 4,.tmp 5],
  (sr [
tq 4 (.mv (.k (.d (.str [])))),
tq 5 (.mv (.k (.d (.bool false))))] [4,5]
(sr [
mq 6 0,
mq 7 1,
tq 8 (cl zdn [.t 6,.t 7]),
xq 9 8 0,
xq 10 8 1,
mq 4 9,
mq 5 10] [0,1,6,7,8,9,10]
.ret))⟩
def zjh:CF:=⟨[.tmp 4],
  (sr [
tq 4 (.mv (.k (.d (.bool false))))] [4]
(sr [
mq 5 0,
mq 6 1,
tq 7 (cl zee [.t 5,.t 6]),
tq 8 (.bin .geq (.t 7) (kq 0)),
mq 4 8] [0,1,5,6,7,8]
.ret))⟩
def zoy:CF:=⟨[.tmp 2],
  (sr [
tq 2 (.mv (.k (.d (.str []))))] [2]
(.seq (sr [
mq 4 0,
tq 5 (.nilCheck (.t 4)),
fa 6 0 5,
ld 7 6,
tq 8 (.len .slc (.t 7)),
tq 9 (.bin .eql (.t 8) (kq 0))] [4,5,6,7,8]
(.cond (.t 9) (sr [
tq 2 (.mv (.k (.d (.str []))))] []
.ret)
 .skip))
(sr [
mq 10 0,
tq 11 (.nilCheck (.t 10)),
fa 12 0 11,
ld 13 12,
tq 14 (.idxAddr 1 (.t 13) (kq 0)),
ld 15 14,
mq 3 15] [10,11,12,13,14,15]
(sr [
mq 16 0,
mq 17 0,
tq 18 (.nilCheck (.t 17)),
fa 19 0 18,
ld 20 19,
tq 21 (.slice 1 (.t 20) (some (kq 1)) none none),
tq 22 (.nilCheck (.t 16)),
fa 23 0 22,
⟨none,none,.store 1 (.t 23) (.t 21)⟩] [0,16,17,18,19,20,21,22,23]
(sr [
mq 24 3,
mq 2 24] [3,24]
.ret)))))⟩
def zn5:CF:=⟨[.cell 2 (some 3),.tmp 3],
  (sr [
tq 2 (.alloc zaa [.z (.str []),.z (.list 0 []),.z (.list 0 [])]),
tq 3 (.mv (.k (.d (.bool false))))] [3]
(sr [
mq 7 0,
tq 8 (.mkFunc zbv [.t 7] []),
mq 4 8] [7,8]
(sr [
mq 9 4,
tq 10 (.call true true (.t 9) []),
tq 11 (.build [.z (.str []),.z (.list 0 []),.z (.list 0 [])] [(0,1,.t 10)]),
tq 5 (.alloc zaa [.z (.str []),.z (.list 0 []),.z (.list 0 [])]),
⟨none,none,.store 3 (.t 5) (.t 11)⟩] [9,10,11]
(sr [
fa 12 0 5,
ld 13 12,
tq 14 (.bin .neq (.t 13) (.k (.d (.str [])))),
mq 6 14] [12,13,14]
(.seq (sr [
mq 15 6,
mq 16 15,
gq 17 16 true (.mv (.t 0)),
gq 18 16 true (.nilCheck (.t 17)),
gq 19 16 true (.fieldAddr 0 (.t 18)),
gq 20 16 true (.load none (.t 19)),
gq 21 16 true (.len .slc (.t 20)),
gq 22 16 true (.bin .gtr (.t 21) (kq 0)),
tq 23 (.pick (.t 16) (.t 22) (.k (.d (.bool false)))),
mq 24 23,
gq 25 24 true (.mv (.t 0)),
gq 26 24 true (.nilCheck (.t 25)),
gq 27 24 true (.fieldAddr 0 (.t 26)),
gq 28 24 true (.load none (.t 27)),
gq 29 24 true (.idxAddr 1 (.t 28) (kq 0)),
gq 30 24 true (.load none (.t 29)),
gq 31 24 true (.bin .eql (.t 30) (.k (.d (.str [119,104,101,110])))),
tq 32 (.pick (.t 24) (.t 31) (.k (.d (.bool false))))] [15,16,17,18,19,20,21,22,23,24,25,26,27,28,29,30,31]
(.cond (.t 32) (sr [
mq 33 4,
tq 34 (.call true true (.t 33) [])] [33,34]
(rg [
mq 36 0,
tq 37 (.call true true (.k (.fn zc5 [] [])) [.t 36,.k (.d (.str [98,121])),.k (.fn zhe [] [])]),
mq 35 37,
xq 38 35 0,
xq 39 35 1,
fa 40 1 5,
⟨none,none,.store 1 (.t 40) (.t 38)⟩,
mq 6 39] [35,36,37,38,39,40]))
 .skip))
(.seq (sr [
mq 41 6,
tq 42 (.un .not (.t 41)),
mq 43 42,
gq 44 43 false (.mv (.t 0)),
gq 45 43 false (.nilCheck (.t 44)),
gq 46 43 false (.fieldAddr 0 (.t 45)),
gq 47 43 false (.load none (.t 46)),
gq 48 43 false (.len .slc (.t 47)),
gq 49 43 false (.bin .eql (.t 48) (kq 0)),
tq 50 (.pick (.t 43) (.k (.d (.bool true))) (.t 49))] [41,42,43,44,45,46,47,48,49]
(.cond (.t 50) (sr [
lq 51 3 5,
mq 52 6,
⟨none,none,.store 3 (.t 2) (.t 51)⟩,
mq 3 52] [5,6,51,52]
.ret)
 .skip))
(.seq (sr [
mq 53 4,
tq 54 (.call true true (.t 53) []),
tq 55 (.bin .neq (.t 54) (.k (.d (.str [98,121]))))] [4,53,54]
(.cond (.t 55) (sr [
tq 56 (.build [.z (.str []),.z (.list 0 []),.z (.list 0 [])] []),
⟨none,none,.store 3 (.t 2) (.t 56)⟩,
tq 3 (.mv (.k (.d (.bool false))))] [56]
.ret)
 .skip))
(sr [
mq 58 0,
tq 59 (.call true true (.k (.fn zdd [] [])) [.t 58,.k (.d (.str [])),.k (.fn zh0 [] [])]),
mq 57 59,
xq 60 57 0,
xq 61 57 1,
fa 62 2 5,
⟨none,none,.store 1 (.t 62) (.t 60)⟩,
mq 6 61] [0,57,58,59,60,61,62]
(sr [
lq 63 3 5,
mq 64 6,
⟨none,none,.store 3 (.t 2) (.t 63)⟩,
mq 3 64] [5,6,63,64]
.ret)))))))))⟩
def zm9:C:=
  (sr [
tq 36 (.bin .lss (.t 35) (kq 3))] []
(.seq (.cond (.t 36) .skip
 (.exit 0))
(.seq (.block 1 (sr [
mq 37 35,
mq 7 37] [37]
(sr [
mq 39 0,
tq 40 (.nilCheck (.t 39)),
fa 41 0 40,
ld 42 41,
mq 43 7,
tq 44 (.bin .mul (kq 2) (.t 43)),
tq 45 (.idxAddr 1 (.t 42) (.t 44)),
ld 46 45,
tq 47 (cl zgv [.t 46]),
mq 38 47,
xq 48 38 0,
xq 49 38 1,
mq 8 48,
mq 9 49] [38,39,40,41,42,43,44,45,46,47,48,49]
(.seq (sr [
mq 50 9,
tq 51 (.un .not (.t 50))] [9,50]
(.cond (.t 51) (sr [
tq 52 (.build [.own ⟨true,zaa,3,64⟩,.z (.int .i64 0),.z (.int .i64 0),.z (.int .i64 0)] []),
⟨none,none,.store 4 (.t 4) (.t 52)⟩,
tq 5 (.mv (.k (.d (.bool false))))] [52]
.ret)
 .skip))
(rg [
mq 53 7,
mq 54 8,
tq 55 (.idxAddrA 3 1 (.t 6) (.t 53)),
⟨none,none,.store 1 (.t 55) (.t 54)⟩] [7,8,53,54,55])))))
(rg [
tq 56 (.bin .add (.t 35) (kq 1)),
mq 35 56] [56]))))
def zow:CF:=⟨[.cell 4 (some 4),.tmp 5],
  (sr [
tq 3 (.box zab (.t 1)),
tq 4 (.alloc zab [.own ⟨true,zaa,3,64⟩,.z (.int .i64 0),.z (.int .i64 0),.z (.int .i64 0)]),
tq 5 (.mv (.k (.d (.bool false))))] [1,5]
(.seq (sr [
mq 10 0,
tq 11 (.nilCheck (.t 10)),
fa 12 0 11,
ld 13 12,
tq 14 (.len .slc (.t 13)),
tq 15 (.bin .neq (.t 14) (kq 5)),
mq 16 15,
gq 17 16 false (.mv (.t 0)),
gq 18 16 false (.nilCheck (.t 17)),
gq 19 16 false (.fieldAddr 0 (.t 18)),
gq 20 16 false (.load none (.t 19)),
gq 21 16 false (.idxAddr 1 (.t 20) (kq 1)),
gq 22 16 false (.load none (.t 21)),
gq 23 16 false (.bin .neq (.t 22) (.k (.d (.str [115,104,97,114,101])))),
tq 24 (.pick (.t 16) (.k (.d (.bool true))) (.t 23)),
mq 25 24,
gq 26 25 false (.mv (.t 0)),
gq 27 25 false (.nilCheck (.t 26)),
gq 28 25 false (.fieldAddr 0 (.t 27)),
gq 29 25 false (.load none (.t 28)),
gq 30 25 false (.idxAddr 1 (.t 29) (kq 3)),
gq 31 25 false (.load none (.t 30)),
gq 32 25 false (.bin .neq (.t 31) (.k (.d (.str [111,102])))),
tq 33 (.pick (.t 25) (.k (.d (.bool true))) (.t 32))] [10,11,12,13,14,15,16,17,18,19,20,21,22,23,24,25,26,27,28,29,30,31,32]
(.cond (.t 33) (sr [
tq 34 (.build [.own ⟨true,zaa,3,64⟩,.z (.int .i64 0),.z (.int .i64 0),.z (.int .i64 0)] []),
⟨none,none,.store 4 (.t 4) (.t 34)⟩,
tq 5 (.mv (.k (.d (.bool false))))] [34]
.ret)
 .skip))
(sr [
tq 6 (.alloc z64 [.z (.int .i64 0),.z (.int .i64 0),.z (.int .i64 0)])] []
(.seq (sr [
tq 35 (.mv (kq 0))] []
(.block 0 (.loop [0,3,4,6,35] zm9)))
(.seq (.reg true [
tq 57 (.idxAddrA 3 1 (.t 6) (kq 0)),
ld 58 57,
tq 59 (.idxAddrA 3 1 (.t 6) (kq 1)),
ld 60 59,
tq 61 (.idxAddrA 3 1 (.t 6) (kq 2)),
ld 62 61,
fa 63 1 3,
⟨none,none,.storeR 1 (.t 63) (.t 58) [6]⟩,
fa 64 3 3,
⟨none,none,.storeR 1 (.t 64) (.t 60) [6]⟩,
fa 65 2 3,
⟨none,none,.store 1 (.t 65) (.t 62)⟩] [6,57,58,59,60,61,62,63,64,65])
(sr [
lq 66 4 3,
⟨none,none,.store 4 (.t 4) (.t 66)⟩,
tq 5 (.mv (.k (.d (.bool true))))] [3,66]
.ret))))))⟩
def zse:CF:=⟨[.tmp 2],
  (sr [
tq 2 (.mv (kq 0))] [2]
(sr [
mq 3 0,
tq 4 (cl zc3 [.t 3,kq 1,kq 2147483646]),
mq 2 4] [0,3,4]
.ret))⟩
def zo6:CF:=⟨[.tmp 2],
  (sr [
tq 2 (.mv (kq 0))] [2]
(.seq (sr [
mq 3 0,
tq 4 (.len .slc (.t 3)),
tq 5 (.bin .gtr (.t 4) (kq 64))] [3,4]
(.cond (.t 5) (sr [
tq 2 (.mv (kq 5))] []
.ret)
 .skip))
(sr [
mq 6 0,
tq 7 (cl zd0 [.t 6,.k (.fn zc2 [] [])]),
mq 2 7] [0,6,7]
.ret)))⟩
def zw0:C:=
  (sr [
tq 30 (.bin .lss (.t 29) (.t 28))] []
(.seq (.cond (.t 30) .skip
 (.exit 0))
(.seq (.block 1 (sr [
mq 31 29,
tq 32 (.idxAddr 1 (.t 27) (.t 29)),
ld 33 32,
mq 9 31,
mq 10 33] [31,32,33]
(rg [
mq 34 8,
mq 35 10,
mq 36 6,
mq 37 9,
tq 38 (.idxAddr 1 (.t 36) (.t 37)),
ld 39 38,
tq 40 (.idxAddr 1 (.t 34) (.t 35)),
⟨none,none,.store 1 (.t 40) (.t 39)⟩] [9,10,34,35,36,37,38,39,40])))
(rg [
tq 41 (.bin .add (.t 29) (kq 1)),
mq 29 41] [41]))))
def z1d:CF:=⟨[.tmp 4],
  (sr [
tq 3 (.box zbh (.t 1)),
tq 4 (.ownNil ⟨true,zam,1,8⟩)] [1,4]
(sr [
ld 11 3,
tq 12 (.len .slc (.t 11)),
tq 13 (.call false false (.k (.fn zdg [] [])) [.t 12]),
mq 5 13] [11,12,13]
(sr [
mq 14 5,
tq 15 (.mkFunc zf5 [] [.t 3]),
tq 16 (.call true true (.k (.fn zbp [] [])) [.t 14,.t 15])] [14,15,16]
(sr [
mq 18 0,
ld 19 3,
tq 20 (.len .slc (.t 19)),
tq 21 (cl zl0 [.t 18,.t 20]),
mq 17 21,
xq 22 17 0,
xq 23 17 1,
mq 6 22,
mq 7 23] [0,7,17,18,19,20,21,22,23]
(sr [
ld 24 3,
tq 25 (.len .slc (.t 24)),
tq 26 (.makeRow ⟨true,zam,1,8⟩ [.int .i64 0] (.t 25)),
mq 8 26] [3,24,25,26]
(.seq (sr [
mq 27 5,
tq 28 (.len .slc (.t 27)),
tq 29 (.mv (kq 0))] [5]
(.block 0 (.loop [6,8,27,28,29] zw0)))
(sr [
mq 42 8,
mq 4 42] [8,42]
.ret)))))))⟩
def zqz:C:=
  (sr [
tq 7 (.bin .lss (.t 6) (.t 5))] []
(.seq (.cond (.t 7) .skip
 (.exit 0))
(.seq (.block 1 (sr [
mq 8 6,
mq 4 8] [8]
(rg [
mq 9 3,
mq 10 4,
tq 11 (.mkList 1 1 [.t 10]),
tq 12 (.append ⟨true,zam,1,8⟩ (.t 9) (.t 11)),
mq 3 12] [4,9,10,11,12])))
(rg [
tq 13 (.bin .add (.t 6) (kq 1)),
mq 6 13] [13]))))
def ztx:CF:=⟨[.tmp 2],
  (sr [
tq 2 (.ownNil ⟨true,zam,1,8⟩)] [2]
(sr [
tq 3 (.ownNil ⟨true,zam,1,8⟩)] []
(.seq (sr [
mq 5 0,
tq 6 (.mv (kq 0))] [0]
(.block 0 (.loop [3,5,6] zqz)))
(sr [
mq 14 3,
mq 2 14] [3,14]
.ret))))⟩
def zl6:CF:=⟨[],
  (sr [
mq 5 0,
tq 6 (.len .slc (.t 5)),
mq 4 6] [5,6]
(rg [
mq 7 0,
mq 8 4,
mq 9 4,
tq 10 (.conv .u64 (.t 9)),
tq 11 (cl zlj [.t 10]),
mq 12 1,
tq 13 (.call true true (.k (.fn zb5 [] [])) [.t 7,kq 0,.t 8,.t 11,.t 12])] [0,1,4,7,8,9,10,11,12,13]))⟩
def zme:CF:=⟨[.tmp 5],
  (sr [
tq 5 (.mv (kq 0))] [5]
(sr [
lq 9 6 2,
mq 10 0,
mq 11 1,
tq 12 (cl zfg [.t 9,.t 10,.t 11]),
mq 8 12,
xq 13 8 0,
xq 14 8 1,
mq 6 13,
mq 7 14] [0,1,2,7,8,9,10,11,12,13,14]
(sr [
mq 15 6,
mq 5 15] [6,15]
.ret)))⟩
def zl8:CF:=⟨[.tmp 6,.tmp 7],
  (sr [
tq 3 (.box za6 (.t 0)),
tq 6 (.mv (kq 0)),
tq 7 (.mv (.k (.d (.str []))))] [0,6,7]
(.seq (.reg true [
fa 11 0 3,
lq 12 4 11,
fa 13 4 3,
ld 14 13,
mq 15 1,
tq 16 (.idxAddr 18 (.t 14) (.t 15)),
lq 17 18 16,
fa 18 4 3,
ld 19 18,
mq 20 2,
tq 21 (.idxAddr 18 (.t 19) (.t 20)),
lq 22 18 21,
tq 23 (cl zfx [.t 12,.t 17,.t 22]),
mq 10 23,
xq 24 10 0,
xq 25 10 1,
mq 8 24,
mq 9 25] [10,11,12,13,14,15,16,17,18,19,20,21,22,23,24,25])
(.seq (sr [
mq 26 8,
tq 27 (.bin .eql (.t 26) (kq 0))] [26]
(.cond (.t 27) (.seq (.reg true [
fa 28 5 3,
ld 29 28,
mq 30 1,
tq 31 (.idxAddr 1 (.t 29) (.t 30)),
ld 32 31,
fa 33 5 3,
ld 34 33,
mq 35 2,
tq 36 (.idxAddr 1 (.t 34) (.t 35)),
ld 37 36,
tq 38 (cl zj1 [.t 32,.t 37]),
mq 6 38,
tq 7 (.mv (.k (.d (.str [108,111,116]))))] [1,2,3,28,29,30,31,32,33,34,35,36,37,38])
.ret)
 .skip))
(sr [
mq 39 8,
mq 40 9,
mq 6 39,
mq 7 40] [8,9,39,40]
.ret))))⟩
def zku:C:=
  (sr [
tq 9 (.bin .lss (.t 8) (.t 7))] []
(.seq (.cond (.t 9) .skip
 (.exit 0))
(.seq (.block 1 (sr [
mq 10 8,
mq 5 10] [10]
(sr [
mq 11 1,
mq 12 0,
mq 13 5,
tq 14 (.idxAddr 1 (.t 12) (.t 13)),
ld 15 14,
tq 16 (.call true true (.t 11) [.t 15])] [11,12,13,14,15]
(.cond (.t 16) (sr [
mq 17 5,
mq 4 17] [5,17]
.ret)
 .skip))))
(rg [
tq 18 (.bin .add (.t 8) (kq 1)),
mq 8 18] [18]))))
def zlg:CF:=⟨[.tmp 4],
  (sr [
tq 4 (.mv (kq 0))] [4]
(.seq (sr [
mq 6 0,
tq 7 (.len .slc (.t 6)),
tq 8 (.mv (kq 0))] [6]
(.block 0 (.loop [0,1,7,8] zku)))
(sr [
tq 4 (.mv (kq (-1)))] []
.ret)))⟩
def zl3:CF:=⟨[.tmp 3],
  (sr [
tq 3 (.mv (.k (.d (.bool false))))] [3]
(.seq (.reg true [
fa 4 0 1,
lq 5 4 4,
fa 6 4 1,
ld 7 6,
mq 8 0,
tq 9 (.idxAddr 18 (.t 7) (.t 8)),
lq 10 18 9,
tq 11 (cl zcr [.t 5,.t 10]),
fa 12 0 1,
fa 13 1 12,
ld 14 13,
tq 15 (.bin .geq (.t 11) (.t 14)),
mq 3 15] [0,1,4,5,6,7,8,9,10,11,12,13,14,15])
.ret))⟩
def zkz:C:=
  (sr [
tq 21 (.bin .lss (.t 20) (.t 19))] []
(.seq (.cond (.t 21) .skip
 (.exit 2))
(.seq (.block 3 (sr [
tq 22 (.idxAddr 3 (.t 18) (.t 20)),
lq 23 3 22,
tq 8 (.alloc zay [.z (.str []),.z (.str []),.z (.int .i64 0)]),
⟨none,none,.store 3 (.t 8) (.t 23)⟩] [22,23]
(sr [
lq 24 18 3,
lq 25 3 8,
tq 26 (cl zh5 [.t 24,.t 25]),
tq 27 (.un .not (.t 26))] [8,24,25,26]
(.cond (.t 27) (.exit 1)
 .skip))))
(rg [
tq 28 (.bin .add (.t 20) (kq 1)),
mq 20 28] [28]))))
def zk9:C:=
  (sr [
tq 13 (.bin .lss (.t 12) (.t 11))] []
(.seq (.cond (.t 13) .skip
 (.exit 0))
(.seq (.block 1 (sr [
mq 14 12,
tq 15 (.idxAddr 3 (.t 10) (.t 12)),
lq 16 3 15,
tq 6 (.alloc zaa [.z (.str []),.z (.list 0 []),.z (.list 0 [])]),
mq 5 14,
⟨none,none,.store 3 (.t 6) (.t 16)⟩] [14,15,16]
(.seq (sr [
fa 17 1 6,
ld 18 17,
tq 19 (.len .slc (.t 18)),
tq 20 (.mv (kq 0))] [6,17]
(.block 2 (.loop [2,3,5,10,11,12,18,19,20] zkz)))
(sr [
mq 29 5,
mq 4 29] [5,29]
.ret))))
(rg [
tq 30 (.bin .add (.t 12) (kq 1)),
mq 12 30] [30]))))
def zl5:CF:=⟨[.tmp 4],
  (sr [
tq 2 (.box zab (.t 0)),
tq 3 (.box zal (.t 1)),
tq 4 (.mv (kq 0))] [0,1,4]
(.scope (.seq .label
(.seq (sr [
fa 9 0 2,
ld 10 9,
tq 11 (.len .slc (.t 10)),
tq 12 (.mv (kq 0))] [9]
(.block 0 (.loop [2,3,10,11,12] zk9)))
(sr [
fa 31 0 2,
ld 32 31,
tq 33 (.len .slc (.t 32)),
mq 4 33] [2,31,32,33]
.ret)))))⟩
def zn1:CF:=⟨[.tmp 2],
  (sr [
tq 2 (.ownNil ⟨false,zam,1,8⟩)] [2]
(.seq (sr [
mq 3 0,
tq 4 (.nilEq 2 false (.t 3))] [3]
(.cond (.t 4) (sr [
tq 2 (.ownNil ⟨false,zam,1,8⟩)] []
.ret)
 .skip))
(sr [
tq 5 (.mkRow ⟨false,zam,1,8⟩ 0 []),
mq 6 0,
tq 7 (.append ⟨false,zam,1,8⟩ (.t 5) (.t 6)),
mq 2 7] [0,5,6,7]
.ret)))⟩
def zni:C:=
  (sr [
tq 16 (.bin .lss (.t 15) (.t 14))] []
(.seq (.cond (.t 16) .skip
 (.exit 0))
(.seq (.block 1 (sr [
mq 17 15,
tq 18 (.idxAddr 1 (.t 13) (.t 15)),
ld 19 18,
mq 8 17,
mq 9 19] [17,18,19]
(rg [
mq 20 9,
tq 21 (.un .not (.t 20)),
tq 22 (cl zb1 [.t 21]),
mq 23 9,
tq 24 (.un .not (.t 23)),
tq 25 (cl zb1 [.t 24]),
tq 26 (.idxAddrA 2 1 (.t 7) (.t 25)),
ld 27 26,
mq 28 8,
tq 29 (.mkList 1 1 [.t 28]),
tq 30 (.append ⟨false,zam,1,8⟩ (.t 27) (.t 29)),
tq 31 (.idxAddrA 2 1 (.t 7) (.t 22)),
⟨none,none,.store 1 (.t 31) (.t 30)⟩] [8,9,20,21,22,23,24,25,26,27,28,29,30,31])))
(rg [
tq 32 (.bin .add (.t 15) (kq 1)),
mq 15 32] [32]))))
def znj:C:=
  (sr [
tq 36 (.bin .lss (.t 35) (.t 34))] []
(.seq (.cond (.t 36) .skip
 (.exit 2))
(.seq (.block 3 (sr [
mq 37 35,
mq 11 37] [37]
(sr [
mq 38 11,
mq 39 0,
tq 40 (.bin .rem (.t 38) (.t 39)),
mq 41 1,
tq 42 (.bin .geq (.t 40) (.t 41)),
tq 43 (cl zb1 [.t 42]),
mq 12 43] [11,38,39,40,41,42,43]
(.seq (sr [
mq 44 12,
tq 45 (.idxAddrA 2 1 (.t 7) (.t 44)),
ld 46 45,
tq 47 (.len .slc (.t 46)),
tq 48 (.bin .eql (.t 47) (kq 0))] [44,45,46,47]
(.cond (.t 48) (rg [
mq 49 12,
tq 50 (.bin .sub (kq 1) (.t 49)),
mq 12 50] [49,50])
 .skip))
(.regC [
mq 51 12,
mq 52 10,
mq 53 12,
tq 54 (.idxAddrA 2 1 (.t 7) (.t 53)),
ld 55 54,
tq 56 (.idxAddr 1 (.t 55) (kq 0)),
ld 57 56,
tq 58 (.mkList 1 1 [.t 57]),
tq 59 (.append ⟨false,zam,1,8⟩ (.t 52) (.t 58)),
mq 60 12,
tq 61 (.idxAddrA 2 1 (.t 7) (.t 60)),
ld 62 61,
tq 63 (.slice 1 (.t 62) (some (kq 1)) none none),
mq 10 59,
tq 64 (.idxAddrA 2 1 (.t 7) (.t 51)),
⟨none,none,.store 1 (.t 64) (.t 63)⟩] [12,51,52,53,54,55,56,57,58,59,60,61,62,63,64] [(7,59),(61,59),(62,59)])))))
(rg [
tq 65 (.bin .add (.t 35) (kq 1)),
mq 35 65] [65]))))
def zo8:CF:=⟨[.tmp 6],
  (sr [
tq 6 (.ownNil ⟨false,zam,1,8⟩)] [6]
(sr [
tq 7 (.alloc zz4 [.own ⟨false,zam,1,8⟩,.own ⟨false,zam,1,8⟩])] []
(.seq (sr [
mq 13 2,
tq 14 (.len .slc (.t 13)),
tq 15 (.mv (kq 0))] []
(.block 0 (.loop [0,1,2,7,13,14,15] zni)))
(sr [
tq 10 (.ownNil ⟨false,zam,1,8⟩)] []
(.seq (sr [
mq 33 2,
tq 34 (.len .slc (.t 33)),
tq 35 (.mv (kq 0))] [2,33]
(.block 2 (.loop [0,1,7,10,34,35] znj)))
(sr [
mq 66 10,
mq 6 66] [10,66]
.ret))))))⟩
def zou:CF:=⟨[.tmp 2],
  (sr [
tq 1 (.box zae (.t 0)),
tq 2 (.mv (kq 0))] [0,2]
(.seq (.seq (.reg true [
fa 6 0 1,
ld 7 6,
tq 8 (cl zgg [.t 7]),
tq 9 (.un .not (.t 8)),
tq 10 (cl za7 [.t 9,kq 13]),
fa 11 1 1,
ld 12 11,
fa 13 2 1,
ld 14 13,
fa 15 3 1,
ld 16 15,
tq 17 (cl zgh [.t 12,.t 14,.t 16]),
fa 18 4 1,
ld 19 18,
tq 20 (.len .slc (.t 19)),
tq 21 (.bin .gtr (.t 20) (kq 64)),
tq 22 (cl za7 [.t 21,kq 5]),
tq 23 (.mkList 1 3 [.t 10,.t 17,.t 22]),
tq 24 (cl zbj [.t 23]),
mq 3 24] [6,7,8,9,10,11,12,13,14,15,16,17,18,19,20,21,22,23,24])
(sr [
mq 25 3,
tq 26 (.bin .neq (.t 25) (kq 0))] [25]
(.cond (.t 26) (sr [
mq 27 3,
mq 2 27] [3,27]
.ret)
 .skip)))
(sr [
fa 29 0 1,
ld 30 29,
fa 31 4 1,
ld 32 31,
tq 33 (cl zei [.t 30,.t 32]),
mq 28 33,
xq 34 28 0,
xq 35 28 1,
mq 4 34,
mq 5 35] [1,4,28,29,30,31,32,33,34,35]
(sr [
mq 36 5,
mq 2 36] [5,36]
.ret))))⟩
def z4a:CF:=⟨[.tmp 4],
  (sr [
tq 4 (.mv (.k (.d (.str []))))] [4]
(sr [
mq 6 0,
tq 7 (cl n_strconv_Itoa [.t 6]),
mq 5 7] [0,6,7]
(sr [
mq 8 1,
mq 9 5,
tq 10 (.len .str (.t 9)),
tq 11 (.bin .sub (.t 8) (.t 10)),
tq 12 (.minmax true [kq 0,.t 11]),
tq 13 (cl n_strings_Repeat [.k (.d (.str [48])),.t 12]),
mq 14 5,
tq 15 (.bin .add (.t 13) (.t 14)),
mq 4 15] [1,5,8,9,10,11,12,13,14,15]
.ret)))⟩
def zai:C:=
  (sr [
tq 8 (.bin .lss (.t 7) (kq 14))] []
(.seq (.cond (.t 8) .skip
 (.exit 0))
(.seq (.block 1 (sr [
tq 9 (.idxA 14 2 (some 2) (.t 6) (.t 7)),
tq 5 (.alloc zh3 [.z (.nilf),.z (.nilf)]),
⟨none,none,.store 2 (.t 5) (.t 9)⟩] [9]
(rg [
mq 10 3,
fa 11 0 5,
ld 12 11,
lq 13 14 1,
tq 14 (.call true true (.t 12) [.t 13]),
tq 15 (.mkList 1 1 [.t 14]),
tq 16 (.append ⟨false,zb3,1,16⟩ (.t 10) (.t 15)),
mq 3 16] [5,10,11,12,13,14,15,16])))
(rg [
tq 17 (.bin .add (.t 7) (kq 1)),
mq 7 17] [17]))))
def zsr:CF:=⟨[.tmp 2],
  (sr [
tq 1 (.box zag (.t 0)),
tq 2 (.mv (.k (.d (.str []))))] [0,2]
(sr [
tq 3 (.ownNil ⟨false,zb3,1,16⟩)] []
(.seq (sr [
tq 6 (.call false false (.k (.fn zgm [] [])) []),
tq 7 (.mv (kq 0))] []
(.block 0 (.loop [1,3,6,7] zai)))
(sr [
mq 18 3,
tq 19 (cl n_strings_Join [.t 18,.k (.d (.str [32]))]),
mq 2 19] [3,18,19]
.ret))))⟩
def z25:CF:=⟨[.tmp 2],
  (sr [
tq 1 (.box zb3 (.t 0)),
tq 2 (.mv (.k (.d (.nilf))))] [0,2]
(sr [
tq 3 (.mkFunc zdu [] [.t 1]),
mq 2 3] [1,3]
.ret))⟩
def z3p:CF:=⟨[.cell 2 (some 5),.tmp 3],
  (sr [
tq 2 (.alloc zae [.z (.str []),.z (.str []),.z (.str []),.z (.int .i64 0),.own ⟨false,zag,14,168⟩]),
tq 3 (.mv (.k (.d (.bool false))))] [3]
(sr [
mq 10 0,
tq 11 (cl zex [.t 10,.k (.d (.str [10]))]),
mq 9 11,
xq 12 9 0,
xq 13 9 1,
mq 4 12,
mq 5 13] [0,9,10,11,12,13]
(sr [
mq 14 4,
tq 15 (cl n_strings_Split [.t 14,.k (.d (.str [32]))]),
mq 6 15] [4,14,15]
(.seq (sr [
mq 16 5,
tq 17 (.un .not (.t 16)),
mq 18 17,
gq 19 18 false (.mv (.t 6)),
gq 20 18 false (.len .slc (.t 19)),
gq 21 18 false (.bin .neq (.t 20) (kq 5)),
tq 22 (.pick (.t 18) (.k (.d (.bool true))) (.t 21)),
mq 23 22,
gq 24 23 false (.mv (.t 6)),
gq 25 23 false (.idxAddr 1 (.t 24) (kq 0)),
gq 26 23 false (.load none (.t 25)),
gq 27 23 false (.bin .neq (.t 26) (.k (.d (.str [83,76,79,84,83])))),
tq 28 (.pick (.t 23) (.k (.d (.bool true))) (.t 27)),
mq 29 28,
gq 30 29 false (.mv (.t 6)),
gq 31 29 false (.idxAddr 1 (.t 30) (kq 1)),
gq 32 29 false (.load none (.t 31)),
gq 33 29 false (cl zgg [.t 32]),
gq 34 29 false (.un .not (.t 33)),
tq 35 (.pick (.t 29) (.k (.d (.bool true))) (.t 34))] [5,16,17,18,19,20,21,22,23,24,25,26,27,28,29,30,31,32,33,34]
(.cond (.t 35) (sr [
tq 36 (.build [.z (.str []),.z (.str []),.z (.str []),.z (.int .i64 0),.own ⟨false,zag,14,168⟩] []),
⟨none,none,.store 5 (.t 2) (.t 36)⟩,
tq 3 (.mv (.k (.d (.bool false))))] [36]
.ret)
 .skip))
(sr [
mq 38 6,
tq 39 (.idxAddr 1 (.t 38) (kq 4)),
ld 40 39,
tq 41 (cl zbi [.t 40,kq 5]),
mq 37 41,
xq 42 37 0,
xq 43 37 1,
mq 7 42,
mq 8 43] [37,38,39,40,41,42,43]
(.seq (.reg true [
mq 44 6,
tq 45 (.idxAddr 1 (.t 44) (kq 1)),
ld 46 45,
mq 47 6,
tq 48 (.idxAddr 1 (.t 47) (kq 2)),
ld 49 48,
mq 50 6,
tq 51 (.idxAddr 1 (.t 50) (kq 3)),
ld 52 51,
mq 53 7,
tq 54 (.build [.z (.str []),.z (.str []),.z (.str []),.z (.int .i64 0),.own ⟨false,zag,14,168⟩] [(0,1,.t 46),(1,1,.t 49),(2,1,.t 52),(3,1,.t 53)]),
mq 55 8,
mq 56 55,
gq 57 56 true (.mv (.t 6)),
gq 58 56 true (.idxAddr 1 (.t 57) (kq 2)),
gq 59 56 true (.load none (.t 58)),
gq 60 56 true (.mv (.t 6)),
gq 61 56 true (.idxAddr 1 (.t 60) (kq 3)),
gq 62 56 true (.load none (.t 61)),
gq 63 56 true (.mv (.t 7)),
gq 64 56 true (cl zgh [.t 59,.t 62,.t 63]),
gq 65 56 true (.bin .eql (.t 64) (kq 0)),
tq 66 (.pick (.t 56) (.t 65) (.k (.d (.bool false)))),
⟨none,none,.store 5 (.t 2) (.t 54)⟩,
mq 3 66] [6,7,8,44,45,46,47,48,49,50,51,52,53,54,55,56,57,58,59,60,61,62,63,64,65,66])
.ret))))))⟩
def zaj:C:=
  (sr [
tq 22 (.bin .lss (.t 21) (kq 14))] []
(.seq (.cond (.t 22) .skip
 (.exit 0))
(.seq (.block 1 (sr [
mq 23 21,
mq 8 23] [23]
(sr [
mq 24 8,
tq 25 (.idxAddrA 14 2 (.t 7) (.t 24)),
fa 26 1 25,
ld 27 26,
mq 9 27] [24,25,26,27]
(sr [
mq 28 9,
mq 29 5,
mq 30 8,
tq 31 (.idxAddr 1 (.t 29) (.t 30)),
ld 32 31,
tq 33 (.call true true (.t 28) [.t 6,.t 32]),
tq 34 (.un .not (.t 33))] [9,28,29,30,31,32,33]
(.cond (.t 34) (sr [
tq 35 (.build [.z (.str []),.z (.str []),.z (.str []),.z (.str []),.z (.str []),.z (.str []),.z (.str []),.z (.int .i64 0),.z (.int .i64 0),.z (.int .i64 0),.z (.int .i64 0),.z (.int .i64 0),.z (.int .i64 0),.z (.int .i64 0)] []),
mq 36 8,
⟨none,none,.store 14 (.t 2) (.t 35)⟩,
mq 3 36,
tq 4 (.mv (kq 25))] [8,35,36]
.ret)
 .skip)))))
(rg [
tq 37 (.bin .add (.t 21) (kq 1)),
mq 21 37] [37]))))
def zsq:CF:=⟨[.cell 2 (some 14),.tmp 3,.tmp 4],
  (sr [
tq 2 (.alloc zag [.z (.str []),.z (.str []),.z (.str []),.z (.str []),.z (.str []),.z (.str []),.z (.str []),.z (.int .i64 0),.z (.int .i64 0),.z (.int .i64 0),.z (.int .i64 0),.z (.int .i64 0),.z (.int .i64 0),.z (.int .i64 0)]),
tq 3 (.mv (kq 0)),
tq 4 (.mv (kq 0))] [3,4]
(sr [
mq 11 0,
tq 12 (cl n_strings_Split [.t 11,.k (.d (.str [32]))]),
mq 5 12] [0,11,12]
(.seq (sr [
mq 13 5,
tq 14 (.len .slc (.t 13)),
tq 15 (.bin .neq (.t 14) (kq 14))] [13,14]
(.cond (.t 15) (sr [
tq 16 (.build [.z (.str []),.z (.str []),.z (.str []),.z (.str []),.z (.str []),.z (.str []),.z (.str []),.z (.int .i64 0),.z (.int .i64 0),.z (.int .i64 0),.z (.int .i64 0),.z (.int .i64 0),.z (.int .i64 0),.z (.int .i64 0)] []),
mq 17 5,
tq 18 (.len .slc (.t 17)),
tq 19 (.minmax false [.t 18,kq 13]),
⟨none,none,.store 14 (.t 2) (.t 16)⟩,
mq 3 19,
tq 4 (.mv (kq 25))] [5,16,17,18,19]
.ret)
 .skip))
(sr [
tq 6 (.alloc zag [.z (.str []),.z (.str []),.z (.str []),.z (.str []),.z (.str []),.z (.str []),.z (.str []),.z (.int .i64 0),.z (.int .i64 0),.z (.int .i64 0),.z (.int .i64 0),.z (.int .i64 0),.z (.int .i64 0),.z (.int .i64 0)])] []
(sr [
tq 20 (.call false false (.k (.fn zgm [] [])) []),
tq 7 (.alloc zcm [.z (.nilf),.z (.nilf),.z (.nilf),.z (.nilf),.z (.nilf),.z (.nilf),.z (.nilf),.z (.nilf),.z (.nilf),.z (.nilf),.z (.nilf),.z (.nilf),.z (.nilf),.z (.nilf),.z (.nilf),.z (.nilf),.z (.nilf),.z (.nilf),.z (.nilf),.z (.nilf),.z (.nilf),.z (.nilf),.z (.nilf),.z (.nilf),.z (.nilf),.z (.nilf),.z (.nilf),.z (.nilf)]),
⟨none,none,.store 28 (.t 7) (.t 20)⟩] [20]
(.seq (sr [
tq 21 (.mv (kq 0))] []
(.block 0 (.loop [2,5,6,7,21] zaj)))
(.seq (sr [
lq 38 14 6,
tq 39 (cl ze3 [.t 38]),
mq 10 39] [38,39]
(sr [
mq 40 10,
tq 41 (.bin .neq (.t 40) (kq 0))] [40]
(.cond (.t 41) (sr [
tq 42 (.build [.z (.str []),.z (.str []),.z (.str []),.z (.str []),.z (.str []),.z (.str []),.z (.str []),.z (.int .i64 0),.z (.int .i64 0),.z (.int .i64 0),.z (.int .i64 0),.z (.int .i64 0),.z (.int .i64 0),.z (.int .i64 0)] []),
mq 43 10,
⟨none,none,.store 14 (.t 2) (.t 42)⟩,
tq 3 (.mv (kq 14)),
mq 4 43] [10,42,43]
.ret)
 .skip)))
(sr [
lq 44 14 6,
⟨none,none,.store 14 (.t 2) (.t 44)⟩,
tq 3 (.mv (kq 0)),
tq 4 (.mv (kq 0))] [6,44]
.ret))))))))⟩
def zv0:C:=
  (sr [
tq 8 (.bin .lss (.t 7) (.t 6))] []
(.seq (.cond (.t 8) .skip
 (.exit 0))
(.seq (.block 1 (sr [
tq 9 (.idxAddr 1 (.t 5) (.t 7)),
ld 10 9,
mq 4 10] [9,10]
(sr [
mq 11 4,
tq 12 (.bin .neq (.t 11) (kq 0))] [11]
(.cond (.t 12) (sr [
mq 13 4,
mq 2 13] [4,13]
.ret)
 .skip))))
(rg [
tq 14 (.bin .add (.t 7) (kq 1)),
mq 7 14] [14]))))
def z0q:CF:=⟨[.tmp 2],
  (sr [
tq 2 (.mv (kq 0))] [2]
(.seq (sr [
mq 5 0,
tq 6 (.len .slc (.t 5)),
tq 7 (.mv (kq 0))] [0]
(.block 0 (.loop [5,6,7] zv0)))
(sr [
tq 2 (.mv (kq 0))] []
.ret)))⟩
def z35:CF:=⟨[.tmp 4],
  (sr [
tq 4 (.mv (kq 0))] [4]
(.seq (sr [
mq 5 0] [0]
(.cond (.t 5) (sr [
mq 6 1,
mq 4 6] [1,6]
.ret)
 .skip))
(sr [
tq 4 (.mv (kq 0))] []
.ret)))⟩
def zts:C:=
  (sr [
tq 15 (.nextS (.t 14)),
xq 16 15 0] []
(.seq (.cond (.t 16) .skip
 (.exit 0))
(.block 1 (sr [
xq 17 15 2,
mq 8 17] [15,17]
(.seq (sr [
mq 18 8,
tq 19 (.bin .lss (.t 18) (.k (.d (.int .i32 48)))),
mq 20 19,
gq 21 20 false (.mv (.t 8)),
gq 22 20 false (.bin .gtr (.t 21) (.k (.d (.int .i32 57)))),
tq 23 (.pick (.t 20) (.k (.d (.bool true))) (.t 22))] [18,19,20,21,22]
(.cond (.t 23) (sr [
tq 4 (.mv (kq 0)),
tq 5 (.mv (.k (.d (.bool false))))] []
.ret)
 .skip))
(rg [
mq 24 6,
tq 25 (.bin .mul (kq 10) (.t 24)),
mq 26 8,
tq 27 (.bin .sub (.t 26) (.k (.d (.int .i32 48)))),
tq 28 (.conv .i64 (.t 27)),
tq 29 (.bin .add (.t 25) (.t 28)),
mq 6 29] [8,24,25,26,27,28,29]))))))
def zyl:CF:=⟨[.tmp 4,.tmp 5],
  (sr [
tq 4 (.mv (kq 0)),
tq 5 (.mv (.k (.d (.bool false))))] [4,5]
(.seq (sr [
mq 9 0,
tq 10 (.len .str (.t 9)),
mq 11 1,
tq 12 (.bin .neq (.t 10) (.t 11))] [1,9,10,11]
(.cond (.t 12) (sr [
tq 4 (.mv (kq 0)),
tq 5 (.mv (.k (.d (.bool false))))] []
.ret)
 .skip))
(sr [
tq 6 (.mv (kq 0))] []
(.seq (sr [
mq 13 0,
tq 14 (.rangeS (.t 13))] [0,13]
(.block 0 (.loop [6,14] zts)))
(sr [
mq 30 6,
mq 4 30,
tq 5 (.mv (.k (.d (.bool true))))] [6,30]
.ret)))))⟩
def ze9:C:=
  (sr [
tq 15 (.bin .lss (.t 14) (.t 13))] []
(.seq (.cond (.t 15) .skip
 (.exit 0))
(.seq (.block 1 (sr [
mq 16 14,
tq 17 (.idxAddr 14 (.t 12) (.t 14)),
lq 18 14 17,
tq 7 (.alloc zag [.z (.str []),.z (.str []),.z (.str []),.z (.str []),.z (.str []),.z (.str []),.z (.str []),.z (.int .i64 0),.z (.int .i64 0),.z (.int .i64 0),.z (.int .i64 0),.z (.int .i64 0),.z (.int .i64 0),.z (.int .i64 0)]),
mq 6 16,
⟨none,none,.store 14 (.t 7) (.t 18)⟩] [16,17,18]
(sr [
mq 19 6,
tq 20 (.bin .gtr (.t 19) (kq 0)),
mq 21 20,
gq 22 21 true (.mv (.t 1)),
gq 23 21 true (.mv (.t 6)),
gq 24 21 true (.bin .sub (.t 23) (kq 1)),
gq 25 21 true (.idxAddr 14 (.t 22) (.t 24)),
gq 26 21 true (.fieldAddr 0 (.t 25)),
gq 27 21 true (.load none (.t 26)),
gq 28 21 true (.bin .eql (.t 27) (.k (.d (.str [67])))),
tq 29 (.pick (.t 21) (.t 28) (.k (.d (.bool false)))),
mq 8 29] [19,20,21,22,23,24,25,26,27,28,29]
(.seq (.reg true [
mq 30 8,
mq 31 30,
gq 32 31 true (.fieldAddr 0 (.t 7)),
gq 33 31 true (.load none (.t 32)),
gq 34 31 true (.bin .eql (.t 33) (.k (.d (.str [82])))),
tq 35 (.pick (.t 31) (.t 34) (.k (.d (.bool false)))),
mq 36 35,
gq 37 36 true (.mv (.t 1)),
gq 38 36 true (.mv (.t 6)),
gq 39 36 true (.bin .sub (.t 38) (kq 1)),
gq 40 36 true (.idxAddr 14 (.t 37) (.t 39)),
gq 41 36 true (.fieldAddr 1 (.t 40)),
gq 42 36 true (.load (some 13) (.t 41)),
gq 43 36 true (.fieldAddr 1 (.t 7)),
gq 44 36 true (.load (some 13) (.t 43)),
gq 45 36 true (cl zlo [.t 42,.t 44]),
tq 46 (.pick (.t 36) (.t 45) (.k (.d (.bool false)))),
mq 9 46] [30,31,32,33,34,35,36,37,38,39,40,41,42,43,44,45,46])
(.seq (.reg true [
lq 47 14 7,
tq 48 (cl ze3 [.t 47]),
tq 49 (.call false false (.k (.fn zev [] [])) []),
fa 50 0 7,
ld 51 50,
tq 52 (.lookup .str (.str []) false (.t 49) (.t 51)),
mq 53 0,
tq 54 (.bin .neq (.t 52) (.t 53)),
tq 55 (cl za7 [.t 54,kq 18]),
mq 56 8,
mq 57 56,
gq 58 57 false (.fieldAddr 0 (.t 7)),
gq 59 57 false (.load none (.t 58)),
gq 60 57 false (.bin .eql (.t 59) (.k (.d (.str [82])))),
tq 61 (.pick (.t 57) (.k (.d (.bool true))) (.t 60)),
mq 62 61,
gq 63 62 true (.mv (.t 9)),
gq 64 62 true (.un .not (.t 63)),
tq 65 (.pick (.t 62) (.t 64) (.k (.d (.bool false)))),
tq 66 (cl za7 [.t 65,kq 11]),
tq 67 (.mkList 1 3 [.t 48,.t 55,.t 66]),
tq 68 (cl zbj [.t 67]),
mq 10 68] [7,8,9,47,48,49,50,51,52,53,54,55,56,57,58,59,60,61,62,63,64,65,66,67,68])
(sr [
mq 69 10,
tq 70 (.bin .neq (.t 69) (kq 0))] [69]
(.cond (.t 70) (sr [
mq 71 6,
mq 72 10,
mq 4 71,
mq 5 72] [6,10,71,72]
.ret)
 .skip)))))))
(rg [
tq 73 (.bin .add (.t 14) (kq 1)),
mq 14 73] [73]))))
def zq0:CF:=⟨[.tmp 4,.tmp 5],
  (sr [
tq 4 (.mv (kq 0)),
tq 5 (.mv (kq 0))] [4,5]
(.seq (sr [
mq 12 1,
tq 13 (.len .slc (.t 12)),
tq 14 (.mv (kq 0))] []
(.block 0 (.loop [0,1,12,13,14] ze9)))
(.seq (sr [
mq 74 1,
tq 75 (.len .slc (.t 74)),
mq 11 75] [74,75]
(sr [
mq 76 11,
tq 77 (.bin .gtr (.t 76) (kq 0)),
mq 78 77,
gq 79 78 true (.mv (.t 1)),
gq 80 78 true (.mv (.t 11)),
gq 81 78 true (.bin .sub (.t 80) (kq 1)),
gq 82 78 true (.idxAddr 14 (.t 79) (.t 81)),
gq 83 78 true (.fieldAddr 0 (.t 82)),
gq 84 78 true (.load none (.t 83)),
gq 85 78 true (.bin .eql (.t 84) (.k (.d (.str [67])))),
tq 86 (.pick (.t 78) (.t 85) (.k (.d (.bool false))))] [1,76,77,78,79,80,81,82,83,84,85]
(.cond (.t 86) (sr [
mq 87 11,
tq 88 (.bin .sub (.t 87) (kq 1)),
mq 4 88,
tq 5 (.mv (kq 11))] [11,87,88]
.ret)
 .skip)))
(sr [
tq 4 (.mv (kq 0)),
tq 5 (.mv (kq 0))] []
.ret))))⟩
def z3f:CF:=⟨[.tmp 6,.tmp 7],
  (sr [
tq 4 (.box zag (.t 1)),
tq 6 (.ownNil ⟨true,zac,15,168⟩),
tq 7 (.mv (kq 0))] [1,6,7]
(sr [
mq 11 0,
fa 12 1 4,
fa 13 0 12,
ld 14 13,
tq 15 (.call true true (.k (.fn zc9 [] [])) [.t 11,.t 14]),
mq 8 15] [11,12,13,14,15]
(.seq (sr [
fa 16 0 4,
ld 17 16] [16]
(.block 0 (.seq (sr [
tq 19 (.bin .eql (.t 17) (.k (.d (.str [78])))),
mq 18 19] [19]
(.cond (.t 18) .skip
 (rg [
tq 20 (.bin .eql (.t 17) (.k (.d (.str [72])))),
mq 18 20] [20])))
(.cond (.t 18) (.seq (sr [
mq 21 8,
tq 22 (.bin .geq (.t 21) (kq 0)),
tq 23 (cl za7 [.t 22,kq 9]),
mq 24 0,
tq 25 (.len .slc (.t 24)),
tq 26 (.bin .geq (.t 25) (kq 64)),
tq 27 (cl za7 [.t 26,kq 5]),
tq 28 (.mkList 1 2 [.t 23,.t 27]),
tq 29 (cl zbj [.t 28]),
mq 9 29] [8,21,22,23,24,25,26,27,28,29]
(sr [
mq 30 9,
tq 31 (.bin .neq (.t 30) (kq 0))] [30]
(.cond (.t 31) (sr [
mq 32 9,
tq 6 (.ownNil ⟨true,zac,15,168⟩),
mq 7 32] [9,32]
.ret)
 .skip)))
(sr [
mq 33 0,
fa 34 1 4,
lq 35 13 34,
fa 36 0 4,
ld 37 36,
tq 38 (.bin .eql (.t 37) (.k (.d (.str [72])))),
mq 39 2,
tq 40 (.build [.z (.str []),.z (.str []),.z (.str []),.z (.str []),.z (.str []),.z (.str []),.z (.int .i64 0),.z (.int .i64 0),.z (.int .i64 0),.z (.int .i64 0),.z (.int .i64 0),.z (.int .i64 0),.z (.int .i64 0),.z (.bool false),.z (.int .i64 0)] [(0,13,.t 35),(13,1,.t 38),(14,1,.t 39)]),
tq 41 (.mkList 15 1 [.t 40]),
tq 42 (.append ⟨true,zac,15,168⟩ (.t 33) (.t 41)),
mq 6 42,
tq 7 (.mv (kq 0))] [0,2,4,33,34,35,36,37,38,39,40,41,42]
.ret))
 (sr [
tq 44 (.bin .eql (.t 17) (.k (.d (.str [82])))),
mq 43 44] [17,44]
(.cond (.t 43) (.seq (.reg true [
mq 45 0,
mq 46 8,
fa 47 1 4,
lq 48 13 47,
mq 49 0,
mq 50 8,
tq 51 (.idxAddr 15 (.t 49) (.t 50)),
fa 52 13 51,
ld 53 52,
mq 54 2,
tq 55 (.build [.z (.str []),.z (.str []),.z (.str []),.z (.str []),.z (.str []),.z (.str []),.z (.int .i64 0),.z (.int .i64 0),.z (.int .i64 0),.z (.int .i64 0),.z (.int .i64 0),.z (.int .i64 0),.z (.int .i64 0),.z (.bool false),.z (.int .i64 0)] [(0,13,.t 48),(13,1,.t 53),(14,1,.t 54)]),
tq 56 (.idxAddr 15 (.t 45) (.t 46)),
⟨none,none,.store 15 (.t 56) (.t 55)⟩] [2,4,8,45,46,47,48,49,50,51,52,53,54,55,56])
(sr [
mq 57 0,
mq 6 57,
tq 7 (.mv (kq 0))] [0,57]
.ret))
 .skip))))))
(.seq (sr [
mq 58 8,
tq 59 (.bin .lss (.t 58) (kq 0))] [58]
(.cond (.t 59) (sr [
tq 6 (.ownNil ⟨true,zac,15,168⟩),
tq 7 (.mv (kq 10))] []
.ret)
 .skip))
(.seq (.seq (.reg true [
mq 60 0,
mq 61 8,
tq 62 (.idxAddr 15 (.t 60) (.t 61)),
fa 63 0 62,
lq 64 13 63,
fa 65 1 4,
lq 66 13 65,
tq 67 (.eqv (some [.str,.str,.str,.str,.str,.str,.int,.int,.int,.int,.int,.int,.int]) true (.t 64) (.t 66))] [60,61,62,63,64,65,66])
(.cond (.t 67) (sr [
tq 6 (.ownNil ⟨true,zac,15,168⟩),
tq 7 (.mv (kq 29))] []
.ret)
 .skip))
(.seq (sr [
fa 68 0 4,
ld 69 68,
tq 70 (.bin .eql (.t 69) (.k (.d (.str [68]))))] [4,68,69]
(.cond (.t 70) (sr [
mq 71 0,
tq 72 (.len .slc (.t 71)),
tq 73 (.bin .sub (.t 72) (kq 1)),
tq 74 (.makeRow ⟨true,zac,15,168⟩ [.str [],.str [],.str [],.str [],.str [],.str [],.int .i64 0,.int .i64 0,.int .i64 0,.int .i64 0,.int .i64 0,.int .i64 0,.int .i64 0,.bool false,.int .i64 0] (.t 73)),
mq 10 74] [71,72,73,74]
(sr [
mq 75 10,
mq 76 0,
mq 77 8,
tq 78 (.slice 15 (.t 76) none (some (.t 77)) none),
tq 79 (.copy 15 (.t 75) (.t 78))] [75,76,77,78,79]
(.seq (.reg true [
mq 80 10,
mq 81 8,
tq 82 (.slice 15 (.t 80) (some (.t 81)) none none),
mq 83 0,
mq 84 8,
tq 85 (.bin .add (.t 84) (kq 1)),
tq 86 (.slice 15 (.t 83) (some (.t 85)) none none),
tq 87 (.copy 15 (.t 82) (.t 86))] [0,8,80,81,82,83,84,85,86,87])
(sr [
mq 88 10,
mq 6 88,
tq 7 (.mv (kq 0))] [10,88]
.ret))))
 .skip))
(sr [
mq 89 0,
mq 6 89,
tq 7 (.mv (kq 0))] [0,89]
.ret)))))))⟩
def zvu:C:=
  (.seq (sr [
mq 15 7,
fa 16 0 2,
ld 17 16,
mq 18 5,
tq 19 (.idxAddr 3 (.t 17) (.t 18)),
fa 20 1 19,
ld 21 20,
tq 22 (.len .slc (.t 21)),
tq 23 (.bin .lss (.t 15) (.t 22))] [15,16,17,18,19,20,21,22]
(.cond (.t 23) .skip
 (.exit 2)))
(.seq (.block 3 (.reg true [
mq 26 6,
mq 27 26,
gq 28 27 true (.load (some 18) (.t 3)),
gq 29 27 true (.fieldAddr 0 (.t 2)),
gq 30 27 true (.load none (.t 29)),
gq 31 27 true (.mv (.t 5)),
gq 32 27 true (.idxAddr 3 (.t 30) (.t 31)),
gq 33 27 true (.fieldAddr 1 (.t 32)),
gq 34 27 true (.load none (.t 33)),
gq 35 27 true (.mv (.t 7)),
gq 36 27 true (.idxAddr 3 (.t 34) (.t 35)),
gq 37 27 true (.load (some 3) (.t 36)),
gq 38 27 true (cl zk8 [.t 28,.t 37]),
tq 39 (.pick (.t 27) (.t 38) (.k (.d (.bool false)))),
mq 6 39] [26,27,28,29,30,31,32,33,34,35,36,37,38,39]))
(rg [
mq 24 7,
tq 25 (.bin .add (.t 24) (kq 1)),
mq 7 25] [24,25])))
def zwn:C:=
  (.seq (sr [
mq 8 5,
fa 9 0 2,
ld 10 9,
tq 11 (.len .slc (.t 10)),
tq 12 (.bin .lss (.t 8) (.t 11))] [8,9,10,11]
(.cond (.t 12) .skip
 (.exit 0)))
(.seq (.block 1 (sr [
tq 6 (.mv (.k (.d (.bool true))))] []
(.seq (sr [
tq 7 (.mv (kq 0))] []
(.block 2 (.loop [2,3,5,6,7] zvu)))
(sr [
mq 40 6] [6]
(.cond (.t 40) (sr [
mq 41 5,
mq 4 41] [5,41]
.ret)
 .skip)))))
(rg [
mq 13 5,
tq 14 (.bin .add (.t 13) (kq 1)),
mq 5 14] [13,14])))
def z2e:CF:=⟨[.tmp 4],
  (sr [
tq 2 (.box zat (.t 0)),
tq 3 (.box zax (.t 1)),
tq 4 (.mv (kq 0))] [0,1,4]
(.seq (sr [
tq 5 (.mv (kq 0))] []
(.block 0 (.loop [2,3,5] zwn)))
(sr [
fa 42 0 2,
ld 43 42,
tq 44 (.len .slc (.t 43)),
mq 4 44] [2,42,43,44]
.ret)))⟩
def z86:CF:=⟨[.tmp 4],
  (sr [
tq 2 (.box zax (.t 0)),
tq 4 (.mv (kq 0))] [0,4]
(.seq (sr [
mq 5 1] [1]
(.block 0 (sr [
tq 7 (.bin .eql (.t 5) (.k (.d (.str [104,105,115,116,111,114,105,99])))),
mq 6 7] [7]
(.cond (.t 6) (sr [
fa 8 13 2,
ld 9 8,
tq 10 (cl zjy [.t 9]),
mq 4 10] [2,8,9,10]
.ret)
 (sr [
tq 12 (.bin .eql (.t 5) (.k (.d (.str [114,101,116,105,109,101,100])))),
mq 11 12] [12]
(.cond (.t 11) (sr [
fa 13 14 2,
ld 14 13,
tq 15 (cl zjy [.t 14]),
mq 4 15] [2,13,14,15]
.ret)
 (sr [
tq 17 (.bin .eql (.t 5) (.k (.d (.str [110,101,119,99,111,109,101,114])))),
mq 16 17] [17]
(.cond (.t 16) (sr [
fa 18 15 2,
ld 19 18,
tq 20 (cl zjy [.t 19]),
mq 4 20] [2,18,19,20]
.ret)
 (sr [
tq 22 (.bin .eql (.t 5) (.k (.d (.str [121,101,97,114,114,111,117,110,100])))),
mq 21 22] [22]
(.cond (.t 21) (sr [
fa 23 16 2,
ld 24 23,
tq 25 (cl zjy [.t 24]),
mq 4 25] [2,23,24,25]
.ret)
 (sr [
tq 27 (.bin .eql (.t 5) (.k (.d (.str [100,97,121,115])))),
mq 26 27] [27]
(.cond (.t 26) (sr [
fa 28 0 2,
fa 29 6 28,
lq 30 3 29,
tq 31 (cl zmv [.t 30]),
tq 32 (.len .slc (.t 31)),
mq 4 32] [2,28,29,30,31,32]
.ret)
 (sr [
tq 34 (.bin .eql (.t 5) (.k (.d (.str [115,101,97,116,115])))),
mq 33 34] [34]
(.cond (.t 33) (sr [
fa 35 0 2,
fa 36 10 35,
ld 37 36,
mq 4 37] [2,35,36,37]
.ret)
 (sr [
tq 39 (.bin .eql (.t 5) (.k (.d (.str [115,105,122,101])))),
mq 38 39] [39]
(.cond (.t 38) (sr [
fa 40 0 2,
fa 41 11 40,
ld 42 41,
mq 4 42] [2,40,41,42]
.ret)
 (sr [
tq 44 (.bin .eql (.t 5) (.k (.d (.str [110,111,105,115,101])))),
mq 43 44] [44]
(.cond (.t 43) (sr [
fa 45 0 2,
fa 46 12 45,
ld 47 46,
mq 4 47] [2,45,46,47]
.ret)
 (sr [
tq 49 (.bin .eql (.t 5) (.k (.d (.str [100,105,115,116,97,110,99,101])))),
mq 48 49] [5,49]
(.cond (.t 48) (sr [
fa 50 17 2,
ld 51 50,
mq 4 51] [2,50,51]
.ret)
 .skip))))))))))))))))))))
(sr [
fa 52 0 2,
fa 53 9 52,
ld 54 53,
mq 4 54] [2,52,53,54]
.ret)))⟩
def zq6:C:=
  (.seq (sr [
mq 15 3,
fa 16 1 1,
ld 17 16,
tq 18 (.len .slc (.t 17)),
tq 19 (.bin .lss (.t 15) (.t 18))] [15,16,17,18]
(.cond (.t 19) .skip
 (.exit 0)))
(.seq (.block 1 (sr [
fa 22 1 1,
ld 23 22,
mq 24 3,
tq 25 (.idxAddr 3 (.t 23) (.t 24)),
lq 26 3 25,
tq 27 (cl zj0 [.t 26]),
mq 4 27] [22,23,24,25,26,27]
(sr [
mq 28 4,
tq 29 (.bin .neq (.t 28) (kq 0))] [28]
(.cond (.t 29) (sr [
mq 30 4,
mq 2 30] [4,30]
.ret)
 .skip))))
(rg [
mq 20 3,
tq 21 (.bin .add (.t 20) (kq 1)),
mq 3 21] [20,21])))
def zq8:C:=
  (.seq (sr [
mq 51 6,
mq 52 5,
tq 53 (.bin .lss (.t 51) (.t 52))] [51,52]
(.cond (.t 53) .skip
 (.exit 4)))
(.seq (.block 5 (.seq (.reg true [
fa 56 2 1,
ld 57 56,
mq 58 6,
tq 59 (.idxAddr 2 (.t 57) (.t 58)),
fa 60 0 59,
ld 61 60,
fa 62 2 1,
ld 63 62,
mq 64 5,
tq 65 (.idxAddr 2 (.t 63) (.t 64)),
fa 66 0 65,
ld 67 66,
tq 68 (.bin .eql (.t 61) (.t 67))] [56,57,58,59,60,61,62,63,64,65,66,67])
(.cond (.t 68) (sr [
tq 2 (.mv (kq 9))] []
.ret)
 .skip)))
(rg [
mq 54 6,
tq 55 (.bin .add (.t 54) (kq 1)),
mq 6 55] [54,55])))
def zqv:C:=
  (.seq (sr [
mq 35 5,
fa 36 2 1,
ld 37 36,
tq 38 (.len .slc (.t 37)),
tq 39 (.bin .lss (.t 35) (.t 38))] [35,36,37,38]
(.cond (.t 39) .skip
 (.exit 2)))
(.seq (.block 3 (.seq (.seq (.reg true [
tq 42 (cl zk7 []),
fa 43 2 1,
ld 44 43,
mq 45 5,
tq 46 (.idxAddr 2 (.t 44) (.t 45)),
fa 47 0 46,
ld 48 47,
tq 49 (cl zhg [.t 42,.t 48]),
tq 50 (.un .not (.t 49))] [42,43,44,45,46,47,48,49])
(.cond (.t 50) (sr [
tq 2 (.mv (kq 10))] []
.ret)
 .skip))
(sr [
tq 6 (.mv (kq 0))] []
(.block 4 (.loop [1,5,6] zq8)))))
(rg [
mq 40 5,
tq 41 (.bin .add (.t 40) (kq 1)),
mq 5 41] [40,41])))
def zue:CF:=⟨[.tmp 2],
  (sr [
tq 1 (.box zcq (.t 0)),
tq 2 (.mv (kq 0))] [0,2]
(.seq (sr [
fa 7 0 1,
ld 8 7,
tq 9 (cl zfu [.t 8]),
tq 10 (.un .not (.t 9))] [7,8,9]
(.cond (.t 10) (sr [
tq 2 (.mv (kq 8))] []
.ret)
 .skip))
(.seq (sr [
fa 11 1 1,
ld 12 11,
tq 13 (.len .slc (.t 12)),
tq 14 (.bin .gtr (.t 13) (kq 8))] [11,12,13]
(.cond (.t 14) (sr [
tq 2 (.mv (kq 5))] []
.ret)
 .skip))
(.seq (sr [
tq 3 (.mv (kq 0))] []
(.block 0 (.loop [1,3] zq6)))
(.seq (sr [
fa 31 2 1,
ld 32 31,
tq 33 (.len .slc (.t 32)),
tq 34 (.bin .gtr (.t 33) (kq 8))] [31,32,33]
(.cond (.t 34) (sr [
tq 2 (.mv (kq 5))] []
.ret)
 .skip))
(.seq (sr [
tq 5 (.mv (kq 0))] []
(.block 2 (.loop [1,5] zqv)))
(sr [
tq 2 (.mv (kq 0))] []
.ret)))))))⟩
def z2j:C:=
  (.seq (sr [
mq 4 3,
mq 5 0,
tq 6 (.len .slc (.t 5)),
tq 7 (.bin .lss (.t 4) (.t 6))] [4,5,6]
(.cond (.t 7) .skip
 (.exit 0)))
(.seq (.block 1 (sr [
mq 10 0,
mq 11 3,
tq 12 (.idxAddr 1 (.t 10) (.t 11)),
ld 13 12,
tq 14 (.bin .neq (.t 13) (kq 0))] [10,11,12,13]
(.cond (.t 14) (sr [
mq 15 0,
mq 16 3,
tq 17 (.idxAddr 1 (.t 15) (.t 16)),
ld 18 17,
mq 2 18] [0,3,15,16,17,18]
.ret)
 .skip)))
(rg [
mq 8 3,
tq 9 (.bin .add (.t 8) (kq 1)),
mq 3 9] [8,9])))
def z7i:CF:=⟨[.tmp 2],
  (sr [
tq 2 (.mv (kq 0))] [2]
(.seq (sr [
tq 3 (.mv (kq 0))] []
(.block 0 (.loop [0,3] z2j)))
(sr [
tq 2 (.mv (kq 0))] []
.ret)))⟩
def zve:CF:=⟨[.tmp 6],
  (sr [
tq 6 (.mv (kq 0))] [6]
(.seq (sr [
mq 7 0,
mq 8 1,
tq 9 (.bin .lss (.t 7) (.t 8)),
mq 10 9,
gq 11 10 false (.mv (.t 0)),
gq 12 10 false (.mv (.t 2)),
gq 13 10 false (.bin .gtr (.t 11) (.t 12)),
tq 14 (.pick (.t 10) (.k (.d (.bool true))) (.t 13))] [0,1,2,7,8,9,10,11,12,13]
(.cond (.t 14) (sr [
tq 6 (.mv (kq 3))] []
.ret)
 .skip))
(sr [
tq 6 (.mv (kq 0))] []
.ret)))⟩
def zq2:CF:=⟨[.tmp 2],
  (sr [
tq 1 (.box zbo (.t 0)),
tq 2 (.mv (kq 0))] [0,2]
(.seq (sr [
fa 4 0 1,
ld 5 4,
tq 6 (cl zfu [.t 5]),
tq 7 (.un .not (.t 6)),
mq 8 7,
gq 9 8 false (.fieldAddr 1 (.t 1)),
gq 10 8 false (.load none (.t 9)),
gq 11 8 false (cl zfu [.t 10]),
gq 12 8 false (.un .not (.t 11)),
tq 13 (.pick (.t 8) (.k (.d (.bool true))) (.t 12)),
mq 14 13,
gq 15 14 false (.fieldAddr 4 (.t 1)),
gq 16 14 false (.load none (.t 15)),
gq 17 14 false (cl zfu [.t 16]),
gq 18 14 false (.un .not (.t 17)),
tq 19 (.pick (.t 14) (.k (.d (.bool true))) (.t 18)),
mq 20 19,
gq 21 20 false (.fieldAddr 3 (.t 1)),
gq 22 20 false (.load none (.t 21)),
gq 23 20 false (cl zh9 [.t 22]),
gq 24 20 false (.un .not (.t 23)),
tq 25 (.pick (.t 20) (.k (.d (.bool true))) (.t 24)),
mq 26 25,
gq 27 26 false (.fieldAddr 5 (.t 1)),
gq 28 26 false (.load none (.t 27)),
gq 29 26 false (cl zh9 [.t 28]),
gq 30 26 false (.un .not (.t 29)),
tq 31 (.pick (.t 26) (.k (.d (.bool true))) (.t 30))] [4,5,6,7,8,9,10,11,12,13,14,15,16,17,18,19,20,21,22,23,24,25,26,27,28,29,30]
(.cond (.t 31) (sr [
tq 2 (.mv (kq 8))] []
.ret)
 .skip))
(.seq (sr [
fa 32 2 1,
ld 33 32,
tq 34 (.bin .neq (.t 33) (.k (.d (.str [65])))),
mq 35 34,
gq 36 35 true (.fieldAddr 2 (.t 1)),
gq 37 35 true (.load none (.t 36)),
gq 38 35 true (.bin .neq (.t 37) (.k (.d (.str [68])))),
tq 39 (.pick (.t 35) (.t 38) (.k (.d (.bool false))))] [32,33,34,35,36,37,38]
(.cond (.t 39) (sr [
tq 2 (.mv (kq 13))] []
.ret)
 .skip))
(.seq (sr [
fa 40 5 1,
ld 41 40,
fa 42 0 1,
ld 43 42,
tq 44 (.bin .eql (.t 41) (.t 43))] [40,41,42,43]
(.cond (.t 44) (sr [
tq 2 (.mv (kq 32))] []
.ret)
 .skip))
(sr [
fa 45 6 1,
lq 46 3 45,
tq 47 (cl zik [.t 46]),
mq 3 47] [45,46,47]
(.seq (sr [
mq 48 3,
tq 49 (.bin .neq (.t 48) (kq 0))] [48]
(.cond (.t 49) (sr [
mq 50 3,
mq 2 50] [3,50]
.ret)
 .skip))
(.seq (.reg true [
fa 51 9 1,
ld 52 51,
tq 53 (cl zbm [.t 52,kq 0,kq 1439]),
fa 54 10 1,
ld 55 54,
tq 56 (cl zbm [.t 55,kq 0,kq 999]),
fa 57 11 1,
ld 58 57,
tq 59 (cl zbm [.t 58,kq 1,kq 9]),
fa 60 12 1,
ld 61 60,
tq 62 (cl zbm [.t 61,kq 0,kq 99]),
tq 63 (.mkList 1 4 [.t 53,.t 56,.t 59,.t 62]),
tq 64 (cl zfl [.t 63]),
mq 2 64] [1,51,52,53,54,55,56,57,58,59,60,61,62,63,64])
.ret)))))))⟩
def zyu:CF:=⟨[.tmp 0],
  (sr [
tq 0 (.mv (.k (.d (.list 0 []))))] [0]
(sr [
tq 1 (.build [.z (.str []),.z (.nilf)] [(0,1,.k (.d (.str [104,105,115,116,111,114,105,99]))),(1,1,.k (.fn zg7 [] []))]),
tq 2 (.build [.z (.str []),.z (.nilf)] [(0,1,.k (.d (.str [114,101,116,105,109,101,100]))),(1,1,.k (.fn zg1 [] []))]),
tq 3 (.build [.z (.str []),.z (.nilf)] [(0,1,.k (.d (.str [110,101,119,99,111,109,101,114]))),(1,1,.k (.fn zg2 [] []))]),
tq 4 (.build [.z (.str []),.z (.nilf)] [(0,1,.k (.d (.str [121,101,97,114,114,111,117,110,100]))),(1,1,.k (.fn zg4 [] []))]),
tq 5 (.build [.z (.str []),.z (.nilf)] [(0,1,.k (.d (.str [100,97,121,115]))),(1,1,.k (.fn zgz [] []))]),
tq 6 (.build [.z (.str []),.z (.nilf)] [(0,1,.k (.d (.str [115,101,97,116,115]))),(1,1,.k (.fn zgu [] []))]),
tq 7 (.build [.z (.str []),.z (.nilf)] [(0,1,.k (.d (.str [115,105,122,101]))),(1,1,.k (.fn zgy [] []))]),
tq 8 (.build [.z (.str []),.z (.nilf)] [(0,1,.k (.d (.str [110,111,105,115,101]))),(1,1,.k (.fn zg6 [] []))]),
tq 9 (.build [.z (.str []),.z (.nilf)] [(0,1,.k (.d (.str [100,105,115,116,97,110,99,101]))),(1,1,.k (.fn zg5 [] []))]),
tq 10 (.build [.z (.str []),.z (.nilf)] [(0,1,.k (.d (.str [109,105,110,117,116,101]))),(1,1,.k (.fn zgc [] []))]),
tq 11 (.mkList 2 10 [.t 1,.t 2,.t 3,.t 4,.t 5,.t 6,.t 7,.t 8,.t 9,.t 10]),
mq 0 11] [1,2,3,4,5,6,7,8,9,10,11]
.ret))⟩
def zo1:CF:=⟨[.tmp 2],
  (sr [
tq 1 (.box zbo (.t 0)),
tq 2 (.mv (kq 0))] [0,2]
(.seq (.reg true [
fa 3 0 1,
ld 4 3,
tq 5 (cl zf7 [.t 4]),
fa 6 1 1,
ld 7 6,
tq 8 (cl zf7 [.t 7]),
fa 9 4 1,
ld 10 9,
tq 11 (cl zf7 [.t 10]),
fa 12 3 1,
ld 13 12,
tq 14 (cl zgw [.t 13]),
fa 15 5 1,
ld 16 15,
tq 17 (cl zgw [.t 16]),
fa 18 2 1,
ld 19 18,
tq 20 (cl zdk [.t 19]),
tq 21 (.un .not (.t 20)),
tq 22 (cl za7 [.t 21,kq 13]),
fa 23 5 1,
ld 24 23,
fa 25 0 1,
ld 26 25,
tq 27 (.bin .eql (.t 24) (.t 26)),
tq 28 (cl za7 [.t 27,kq 32]),
fa 29 6 1,
lq 30 3 29,
tq 31 (cl zfa [.t 30]),
fa 32 9 1,
ld 33 32,
tq 34 (cl zdl [.t 33,kq 0,kq 1439]),
fa 35 10 1,
ld 36 35,
tq 37 (cl zdl [.t 36,kq 0,kq 999]),
fa 38 11 1,
ld 39 38,
tq 40 (cl zdl [.t 39,kq 1,kq 9]),
fa 41 12 1,
ld 42 41,
tq 43 (cl zdl [.t 42,kq 0,kq 99]),
tq 44 (.mkList 1 12 [.t 5,.t 8,.t 11,.t 14,.t 17,.t 22,.t 28,.t 31,.t 34,.t 37,.t 40,.t 43]),
tq 45 (cl zbj [.t 44]),
mq 2 45] [1,3,4,5,6,7,8,9,10,11,12,13,14,15,16,17,18,19,20,21,22,23,24,25,26,27,28,29,30,31,32,33,34,35,36,37,38,39,40,41,42,43,44,45])
.ret))⟩
def zwg:CF:=⟨[.tmp 6],
  (sr [
tq 6 (.mv (kq 0))] [6]
(sr [
mq 7 0,
mq 8 1,
tq 9 (.bin .lss (.t 7) (.t 8)),
mq 10 9,
gq 11 10 false (.mv (.t 0)),
gq 12 10 false (.mv (.t 2)),
gq 13 10 false (.bin .gtr (.t 11) (.t 12)),
tq 14 (.pick (.t 10) (.k (.d (.bool true))) (.t 13)),
tq 15 (cl za8 [.t 14,kq 3]),
mq 6 15] [0,1,2,7,8,9,10,11,12,13,14,15]
.ret))⟩
def zpa:CF:=⟨[.tmp 2],
  (sr [
tq 1 (.box zcx (.t 0)),
tq 2 (.mv (kq 0))] [0,2]
(.seq (.seq (.reg true [
fa 4 0 1,
ld 5 4,
tq 6 (cl zgb [.t 5]),
fa 7 1 1,
ld 8 7,
tq 9 (cl zgb [.t 8]),
tq 10 (.mkList 1 2 [.t 6,.t 9]),
tq 11 (cl zeh [.t 10]),
mq 3 11] [4,5,6,7,8,9,10,11])
(sr [
mq 12 3,
tq 13 (.bin .neq (.t 12) (kq 0))] [12]
(.cond (.t 13) (sr [
mq 14 3,
mq 2 14] [3,14]
.ret)
 .skip)))
(.seq (.reg true [
fa 15 1 1,
ld 16 15,
fa 17 0 1,
ld 18 17,
tq 19 (.bin .lss (.t 16) (.t 18)),
tq 20 (cl zhd [.t 19,kq 11]),
fa 21 1 1,
ld 22 21,
fa 23 0 1,
ld 24 23,
tq 25 (.bin .sub (.t 22) (.t 24)),
tq 26 (.bin .gtr (.t 25) (kq 400)),
tq 27 (cl zhd [.t 26,kq 4]),
fa 28 2 1,
ld 29 28,
tq 30 (cl zdv [.t 29,kq 1,kq 127]),
tq 31 (.mkList 1 3 [.t 20,.t 27,.t 30]),
tq 32 (cl zeh [.t 31]),
mq 2 32] [1,15,16,17,18,19,20,21,22,23,24,25,26,27,28,29,30,31,32])
.ret)))⟩
def zl4:C:=
  (rg [
mq 6 8] [8])
def zmc:C:=
  (.block 1 (sr [
ld 9 3,
mq 10 6,
tq 11 (.call true true (.t 9) [.t 10])] [3,9,10]
(.cond (.t 11) (rg [
ld 12 5,
mq 13 6,
tq 14 (.mkList 1 1 [.t 13]),
tq 15 (.append ⟨false,zam,1,8⟩ (.t 12) (.t 14)),
⟨none,none,.store 1 (.t 5) (.t 15)⟩] [5,6,12,13,14,15])
 .skip)))
def zm8:CF:=⟨[.tmp 4],
  (sr [
tq 3 (.box zop (.t 1)),
tq 4 (.ownNil ⟨false,zam,1,8⟩)] [1]
(sr [
tq 5 (.alloc ymx [.own ⟨false,zam,1,8⟩])] []
(.seq (sr [
mq 7 0] [0]
(.block 0 (.rangeFn 18 (.t 7) [8] zl4 zmc)))
(sr [
ld 16 5,
mq 4 16] [5,16]
.ret))))⟩
def zvz:CF:=⟨[.tmp 2],
  (sr [
tq 1 (.box zcx (.t 0)),
tq 2 (.mv (.k (.d (.nilf))))] [0,2]
(sr [
tq 3 (.mkFunc zez [] [.t 1]),
mq 2 3] [1,3]
.ret))⟩
def zst:CF:=⟨[.tmp 2],
  (sr [
tq 2 (.mv (.k (.d (.bool false))))] [2]
(sr [
tq 2 (.mv (.k (.d (.bool true))))] []
.ret))⟩
def zeu:CF:=⟨[.tmp 4],
  (sr [
tq 4 (.mv (.k (.d (.bool false))))] [4]
(sr [
mq 5 0,
mq 6 1,
tq 7 (.call true true (.k (.fn zaw [] [])) [.t 5,.t 6]),
tq 8 (.bin .geq (.t 7) (kq 0)),
mq 4 8] [0,1,5,6,7,8]
.ret))⟩
def zuf:CF:=⟨[.tmp 3],
  (sr [
tq 2 (.box zaa (.t 0)),
tq 3 (.mv (.k (.d (.bool false))))] [0,3]
(sr [
fa 4 0 2,
ld 5 4,
fa 6 0 1,
ld 7 6,
tq 8 (.bin .eql (.t 5) (.t 7)),
mq 3 8] [1,2,4,5,6,7,8]
.ret))⟩
def zo2:CF:=⟨[.tmp 2],
  (sr [
tq 1 (.box zaa (.t 0)),
tq 2 (.mv (kq 0))] [0,2]
(.seq (.seq (.reg true [
fa 5 0 1,
ld 6 5,
tq 7 (cl zao [.t 6]),
tq 8 (.un .not (.t 7)),
tq 9 (cl za8 [.t 8,kq 8]),
fa 10 1 1,
ld 11 10,
tq 12 (.len .slc (.t 11)),
tq 13 (.bin .gtr (.t 12) (kq 8)),
tq 14 (cl za8 [.t 13,kq 5]),
tq 15 (.mkList 1 2 [.t 9,.t 14]),
tq 16 (cl za3 [.t 15]),
mq 3 16] [5,6,7,8,9,10,11,12,13,14,15,16])
(sr [
mq 17 3,
tq 18 (.bin .neq (.t 17) (kq 0))] [17]
(.cond (.t 18) (sr [
mq 19 3,
mq 2 19] [3,19]
.ret)
 .skip)))
(sr [
fa 20 1 1,
ld 21 20,
tq 22 (cl zeg [.t 21,.k (.fn zcz [] [])]),
mq 4 22] [20,21,22]
(.seq (.reg true [
mq 23 4,
fa 24 2 1,
ld 25 24,
tq 26 (.len .slc (.t 25)),
tq 27 (.bin .gtr (.t 26) (kq 8)),
tq 28 (cl za8 [.t 27,kq 5]),
fa 29 2 1,
ld 30 29,
tq 31 (cl zeo [.t 30,.k (.fn zc1 [] [])]),
tq 32 (.mkList 1 3 [.t 23,.t 28,.t 31]),
tq 33 (cl za3 [.t 32]),
mq 2 33] [1,4,23,24,25,26,27,28,29,30,31,32,33])
.ret))))⟩
def zjk:CF:=⟨[.tmp 4,.tmp 5],
  (sr [
tq 4 (.mv (.k (.d (.str [])))),
tq 5 (.mv (.k (.d (.bool false))))] [4,5]
(.seq (sr [
mq 6 0,
mq 7 1,
tq 8 (cl n_internal_stringslite_HasSuffix [.t 6,.t 7]),
tq 9 (.un .not (.t 8))] [6,7,8]
(.cond (.t 9) (sr [
mq 10 0,
mq 4 10,
tq 5 (.mv (.k (.d (.bool false))))] [0,10]
.ret)
 .skip))
(sr [
mq 11 0,
mq 12 0,
tq 13 (.len .str (.t 12)),
mq 14 1,
tq 15 (.len .str (.t 14)),
tq 16 (.bin .sub (.t 13) (.t 15)),
tq 17 (.sliceS (.t 11) none (some (.t 16))),
mq 4 17,
tq 5 (.mv (.k (.d (.bool true))))] [0,1,11,12,13,14,15,16,17]
.ret)))⟩
def zjp:C:=
  (sr [
tq 9 (.bin .lss (.t 8) (.t 7))] []
(.seq (.cond (.t 9) .skip
 (.exit 0))
(.seq (.block 1 (sr [
mq 10 8,
mq 5 10] [10]
(sr [
mq 11 1,
mq 12 0,
mq 13 5,
tq 14 (.idxAddr 1 (.t 12) (.t 13)),
ld 15 14,
tq 16 (.bin .eql (.t 11) (.t 15))] [11,12,13,14,15]
(.cond (.t 16) (sr [
mq 17 5,
mq 4 17] [5,17]
.ret)
 .skip))))
(rg [
tq 18 (.bin .add (.t 8) (kq 1)),
mq 8 18] [18]))))
def zkn:CF:=⟨[.tmp 4],
  (sr [
tq 4 (.mv (kq 0))] [4]
(.seq (sr [
mq 6 0,
tq 7 (.len .slc (.t 6)),
tq 8 (.mv (kq 0))] [6]
(.block 0 (.loop [0,1,7,8] zjp)))
(sr [
tq 4 (.mv (kq (-1)))] []
.ret)))⟩
def zkf:C:=
  (.seq (sr [
mq 11 0,
tq 12 (.nilCheck (.t 11)),
fa 13 0 12,
ld 14 13,
tq 15 (.len .slc (.t 14)),
tq 16 (.bin .gtr (.t 15) (kq 0)),
mq 17 16,
gq 18 17 true (.mv (.t 0)),
gq 19 17 true (.nilCheck (.t 18)),
gq 20 17 true (.fieldAddr 0 (.t 19)),
gq 21 17 true (.load none (.t 20)),
gq 22 17 true (.idxAddr 1 (.t 21) (kq 0)),
gq 23 17 true (.load none (.t 22)),
gq 24 17 true (.mv (.t 1)),
gq 25 17 true (.bin .neq (.t 23) (.t 24)),
tq 26 (.pick (.t 17) (.t 25) (.k (.d (.bool false))))] [11,12,13,14,15,16,17,18,19,20,21,22,23,24,25]
(.cond (.t 26) .skip
 (.exit 0)))
(.block 1 (sr [
mq 28 2,
mq 29 0,
tq 30 (.call true true (.k (.fn zbv [] [])) [.t 29]),
tq 31 (.call false true (.t 28) [.t 30]),
mq 27 31,
xq 32 27 0,
xq 33 27 1,
tq 9 (.alloc zay [.z (.str []),.z (.str []),.z (.int .i64 0)]),
⟨none,none,.store 3 (.t 9) (.t 32)⟩,
mq 10 33] [27,28,29,30,31,32,33]
(.seq (sr [
mq 34 10,
tq 35 (.un .not (.t 34))] [10,34]
(.cond (.t 35) (sr [
tq 6 (.ownNil ⟨false,zay,3,40⟩),
tq 7 (.mv (.k (.d (.bool false))))] []
.ret)
 .skip))
(rg [
mq 36 8,
lq 37 3 9,
tq 38 (.mkList 3 1 [.t 37]),
tq 39 (.append ⟨false,zay,3,40⟩ (.t 36) (.t 38)),
mq 8 39] [9,36,37,38,39])))))
def zk5:CF:=⟨[.tmp 6,.tmp 7],
  (sr [
tq 6 (.ownNil ⟨false,zay,3,40⟩),
tq 7 (.mv (.k (.d (.bool false))))] [6,7]
(sr [
tq 8 (.ownNil ⟨false,zay,3,40⟩)] []
(.seq (.block 0 (.loop [0,1,2,8] zkf))
(sr [
mq 40 8,
mq 41 8,
tq 42 (.len .slc (.t 41)),
tq 43 (.bin .gtr (.t 42) (kq 0)),
mq 6 40,
mq 7 43] [8,40,41,42,43]
.ret))))⟩
def z2d:CF:=⟨[.cell 2 (some 3),.tmp 3],
  (sr [
tq 2 (.alloc zay [.z (.str []),.z (.str []),.z (.int .i64 0)]),
tq 3 (.mv (.k (.d (.bool false))))] [3]
(sr [
mq 7 0,
tq 8 (cl n_strings_IndexAny [.t 7,.k (.d (.str [61,60,62]))]),
mq 4 8] [7,8]
(.seq (sr [
mq 9 4,
tq 10 (.bin .lss (.t 9) (kq 0))] [9]
(.cond (.t 10) (sr [
tq 11 (.build [.z (.str []),.z (.str []),.z (.int .i64 0)] []),
⟨none,none,.store 3 (.t 2) (.t 11)⟩,
tq 3 (.mv (.k (.d (.bool false))))] [11]
.ret)
 .skip))
(sr [
mq 13 0,
mq 14 4,
tq 15 (.bin .add (.t 14) (kq 1)),
tq 16 (.sliceS (.t 13) (some (.t 15)) none),
tq 17 (cl zgv [.t 16]),
mq 12 17,
xq 18 12 0,
xq 19 12 1,
mq 5 18,
mq 6 19] [12,13,14,15,16,17,18,19]
(.seq (.reg true [
mq 20 0,
mq 21 4,
tq 22 (.sliceS (.t 20) none (some (.t 21))),
mq 23 0,
mq 24 4,
mq 25 4,
tq 26 (.bin .add (.t 25) (kq 1)),
tq 27 (.sliceS (.t 23) (some (.t 24)) (some (.t 26))),
mq 28 5,
tq 29 (.build [.z (.str []),.z (.str []),.z (.int .i64 0)] [(0,1,.t 22),(1,1,.t 27),(2,1,.t 28)]),
mq 30 6,
⟨none,none,.store 3 (.t 2) (.t 29)⟩,
mq 3 30] [0,4,5,6,20,21,22,23,24,25,26,27,28,29,30])
.ret)))))⟩
def zkm:C:=
  (.seq (sr [
mq 11 0,
tq 12 (.nilCheck (.t 11)),
fa 13 0 12,
ld 14 13,
tq 15 (.len .slc (.t 14)),
tq 16 (.bin .gtr (.t 15) (kq 0)),
mq 17 16,
gq 18 17 true (.mv (.t 0)),
gq 19 17 true (.nilCheck (.t 18)),
gq 20 17 true (.fieldAddr 0 (.t 19)),
gq 21 17 true (.load none (.t 20)),
gq 22 17 true (.idxAddr 1 (.t 21) (kq 0)),
gq 23 17 true (.load none (.t 22)),
gq 24 17 true (.mv (.t 1)),
gq 25 17 true (.bin .neq (.t 23) (.t 24)),
tq 26 (.pick (.t 17) (.t 25) (.k (.d (.bool false))))] [11,12,13,14,15,16,17,18,19,20,21,22,23,24,25]
(.cond (.t 26) .skip
 (.exit 0)))
(.block 1 (sr [
mq 28 2,
mq 29 0,
tq 30 (.call true true (.k (.fn zbv [] [])) [.t 29]),
tq 31 (.call false true (.t 28) [.t 30]),
mq 27 31,
xq 32 27 0,
xq 33 27 1,
tq 9 (.alloc zan [.z (.str []),.z (.bool false)]),
⟨none,none,.store 2 (.t 9) (.t 32)⟩,
mq 10 33] [27,28,29,30,31,32,33]
(.seq (sr [
mq 34 10,
tq 35 (.un .not (.t 34))] [10,34]
(.cond (.t 35) (sr [
tq 6 (.ownNil ⟨false,zan,2,24⟩),
tq 7 (.mv (.k (.d (.bool false))))] []
.ret)
 .skip))
(rg [
mq 36 8,
lq 37 2 9,
tq 38 (.mkList 2 1 [.t 37]),
tq 39 (.append ⟨false,zan,2,24⟩ (.t 36) (.t 38)),
mq 8 39] [9,36,37,38,39])))))
def zlx:CF:=⟨[.tmp 6,.tmp 7],
  (sr [
tq 6 (.ownNil ⟨false,zan,2,24⟩),
tq 7 (.mv (.k (.d (.bool false))))] [6,7]
(sr [
tq 8 (.ownNil ⟨false,zan,2,24⟩)] []
(.seq (.block 0 (.loop [0,1,2,8] zkm))
(sr [
mq 40 8,
mq 41 8,
tq 42 (.len .slc (.t 41)),
tq 43 (.bin .gtr (.t 42) (kq 0)),
mq 6 40,
mq 7 43] [8,40,41,42,43]
.ret))))⟩
def zyj:C:=
  (sr [
tq 9 (.nextS (.t 8)),
xq 10 9 0] []
(.seq (.cond (.t 10) .skip
 (.exit 0))
(.block 1 (sr [
xq 11 9 2,
mq 6 11] [9,11]
(rg [
mq 12 6,
mq 4 12] [6,12])))))
def z3n:CF:=⟨[.cell 2 (some 2),.tmp 3],
  (sr [
tq 2 (.alloc zan [.z (.str []),.z (.bool false)]),
tq 3 (.mv (.k (.d (.bool false))))] [3]
(sr [
tq 4 (.mv (.k (.d (.int .i32 0))))] []
(.seq (sr [
mq 7 0,
tq 8 (.rangeS (.t 7))] [7]
(.block 0 (.loop [0,2,4,8] zyj)))
(.seq (sr [
mq 13 4,
tq 14 (.bin .neq (.t 13) (.k (.d (.int .i32 43)))),
mq 15 14,
gq 16 15 true (.mv (.t 4)),
gq 17 15 true (.bin .neq (.t 16) (.k (.d (.int .i32 45)))),
tq 18 (.pick (.t 15) (.t 17) (.k (.d (.bool false))))] [13,14,15,16,17]
(.cond (.t 18) (sr [
tq 19 (.build [.z (.str []),.z (.bool false)] []),
⟨none,none,.store 2 (.t 2) (.t 19)⟩,
tq 3 (.mv (.k (.d (.bool false))))] [19]
.ret)
 .skip))
(sr [
mq 20 0,
mq 21 0,
tq 22 (.len .str (.t 21)),
tq 23 (.bin .sub (.t 22) (kq 1)),
tq 24 (.sliceS (.t 20) none (some (.t 23))),
mq 25 4,
tq 26 (.bin .eql (.t 25) (.k (.d (.int .i32 45)))),
tq 27 (.build [.z (.str []),.z (.bool false)] [(0,1,.t 24),(1,1,.t 26)]),
⟨none,none,.store 2 (.t 2) (.t 27)⟩,
tq 3 (.mv (.k (.d (.bool true))))] [0,4,20,21,22,23,24,25,26,27]
.ret)))))⟩
def zt6:CF:=⟨[.tmp 2,.tmp 3],
  (sr [
tq 2 (.mv (kq 0)),
tq 3 (.mv (.k (.d (.bool false))))] [2,3]
(sr [
mq 7 0,
tq 8 (.call false false (.k (.fn n_strconv_Atoi [] [])) [.t 7]),
mq 6 8,
xq 9 6 0,
xq 10 6 1,
mq 4 9,
mq 5 10] [6,7,8,9,10]
(sr [
mq 11 4,
mq 12 5,
tq 13 (.nilEq 1 false (.t 12)),
mq 14 13,
gq 15 14 true (.mv (.t 4)),
gq 16 14 true (.bin .geq (.t 15) (kq 0)),
tq 17 (.pick (.t 14) (.t 16) (.k (.d (.bool false)))),
mq 18 17,
gq 19 18 true (.mv (.t 4)),
gq 20 18 true (.bin .leq (.t 19) (kq 999999999)),
tq 21 (.pick (.t 18) (.t 20) (.k (.d (.bool false)))),
mq 22 21,
gq 23 22 true (.mv (.t 4)),
gq 24 22 true (cl n_strconv_Itoa [.t 23]),
gq 25 22 true (.mv (.t 0)),
gq 26 22 true (.bin .eql (.t 24) (.t 25)),
tq 27 (.pick (.t 22) (.t 26) (.k (.d (.bool false)))),
mq 2 11,
mq 3 27] [0,4,5,11,12,13,14,15,16,17,18,19,20,21,22,23,24,25,26,27]
.ret)))⟩
def zjm:C:=
  (sr [
tq 11 (.bin .lss (.t 10) (.t 9))] []
(.seq (.cond (.t 11) .skip
 (.exit 0))
(.seq (.block 1 (sr [
mq 12 10,
tq 13 (.idxAddr 18 (.t 8) (.t 10)),
lq 14 18 13,
tq 6 (.alloc zal [.z (.str []),.z (.str []),.z (.str []),.z (.str []),.z (.str []),.z (.str []),.z (.int .i64 0),.z (.int .i64 0),.z (.int .i64 0),.z (.int .i64 0),.z (.int .i64 0),.z (.int .i64 0),.z (.int .i64 0),.z (.bool false),.z (.bool false),.z (.bool false),.z (.bool false),.z (.int .i64 0)]),
mq 5 12,
⟨none,none,.store 18 (.t 6) (.t 14)⟩] [12,13,14]
(.seq (.reg true [
mq 15 1,
mq 16 0,
mq 17 5,
tq 18 (.slice 18 (.t 16) none (some (.t 17)) none),
lq 19 18 6,
tq 20 (.call false true (.t 15) [.t 18,.t 19]),
mq 7 20] [5,6,15,16,17,18,19,20])
(sr [
mq 21 7,
tq 22 (.bin .neq (.t 21) (kq 0))] [21]
(.cond (.t 22) (sr [
mq 23 7,
mq 4 23] [7,23]
.ret)
 .skip)))))
(rg [
tq 24 (.bin .add (.t 10) (kq 1)),
mq 10 24] [24]))))
def zkc:CF:=⟨[.tmp 4],
  (sr [
tq 4 (.mv (kq 0))] [4]
(.seq (sr [
mq 8 0,
tq 9 (.len .slc (.t 8)),
tq 10 (.mv (kq 0))] []
(.block 0 (.loop [0,1,8,9,10] zjm)))
(sr [
tq 4 (.mv (kq 0))] []
.ret)))⟩
def znk:CF:=⟨[.tmp 4],
  (sr [
tq 3 (.box zal (.t 1)),
tq 4 (.mv (kq 0))] [1,4]
(sr [
mq 6 0,
tq 7 (.mkFunc zcc [] [.t 3]),
tq 8 (.call true true (.k (.fn za9 [] [])) [.t 6,.t 7]),
mq 5 8] [0,6,7,8]
(sr [
lq 9 18 3,
tq 10 (cl zfr [.t 9]),
mq 11 5,
tq 12 (cl za8 [.t 11,kq 9]),
tq 13 (.mkList 1 2 [.t 10,.t 12]),
tq 14 (cl za3 [.t 13]),
mq 4 14] [3,5,9,10,11,12,13,14]
.ret)))⟩
def zew:CF:=⟨[.tmp 4],
  (sr [
tq 4 (.mv (.k (.d (.bool false))))] [4]
(sr [
mq 5 0,
mq 6 1,
tq 7 (.call true true (.k (.fn zbf [] [])) [.t 5,.t 6]),
tq 8 (.bin .geq (.t 7) (kq 0)),
mq 4 8] [0,1,5,6,7,8]
.ret))⟩
def zmf:CF:=⟨[.tmp 3],
  (sr [
tq 2 (.box zal (.t 0)),
tq 3 (.mv (.k (.d (.bool false))))] [0,3]
(sr [
fa 4 0 2,
fa 5 0 4,
ld 6 5,
fa 7 0 1,
fa 8 0 7,
ld 9 8,
tq 10 (.bin .eql (.t 6) (.t 9)),
mq 3 10] [1,2,4,5,6,7,8,9,10]
.ret))⟩
def zws:CF:=⟨[.tmp 5],
  (sr [
tq 5 (.mv (kq 0))] [5]
(.seq (.reg true [
ld 6 2,
mq 7 0,
tq 8 (.idxAddr 18 (.t 6) (.t 7)),
fa 9 0 8,
fa 10 0 9,
ld 11 10,
ld 12 2,
mq 13 1,
tq 14 (.idxAddr 18 (.t 12) (.t 13)),
fa 15 0 14,
fa 16 0 15,
ld 17 16,
tq 18 (cl zht [.t 11,.t 17]),
mq 5 18] [0,1,2,6,7,8,9,10,11,12,13,14,15,16,17,18])
.ret))⟩
def zq9:CF:=⟨[.tmp 4],
  (sr [
tq 4 (.mv (kq 0))] [4]
(sr [
mq 7 0,
tq 8 (cl zg0 [.t 7]),
mq 5 8] [7,8]
(sr [
mq 9 1,
tq 10 (cl zg0 [.t 9]),
mq 6 10] [9,10]
(.seq (sr [
mq 11 5] [5]
(.cond (.t 11) (.seq (sr [
mq 12 6] [6]
(.cond (.t 12) (sr [
tq 4 (.mv (kq 0))] []
.ret)
 .skip))
(sr [
tq 4 (.mv (kq (-1)))] []
.ret))
 .skip))
(.seq (sr [
mq 13 6] [6]
(.cond (.t 13) (sr [
tq 4 (.mv (kq 1))] []
.ret)
 .skip))
(.seq (sr [
mq 14 0,
mq 15 1,
tq 16 (.bin .lss (.t 14) (.t 15))] [14,15]
(.cond (.t 16) (sr [
tq 4 (.mv (kq (-1)))] []
.ret)
 .skip))
(.seq (sr [
mq 17 0,
mq 18 1,
tq 19 (.bin .gtr (.t 17) (.t 18))] [0,1,17,18]
(.cond (.t 19) (sr [
tq 4 (.mv (kq 1))] []
.ret)
 .skip))
(sr [
tq 4 (.mv (kq 0))] []
.ret))))))))⟩
def zww:C:=
  (sr [
tq 24 (.bin .lss (.t 23) (.t 22))] []
(.seq (.cond (.t 24) .skip
 (.exit 0))
(.seq (.block 1 (sr [
mq 25 23,
mq 8 25] [25]
(rg [
mq 26 7,
mq 27 8,
tq 28 (.mkList 1 1 [.t 27]),
tq 29 (.append ⟨false,zam,1,8⟩ (.t 26) (.t 28)),
mq 7 29] [8,26,27,28,29])))
(rg [
tq 30 (.bin .add (.t 23) (kq 1)),
mq 23 30] [30]))))
def zxc:C:=
  (.seq (sr [
mq 39 11,
tq 40 (.bin .gtr (.t 39) (kq 0))] [39]
(.cond (.t 40) .skip
 (.exit 2)))
(.seq (.block 3 (sr [
mq 43 10,
tq 44 (.bin .mul (kq 48271) (.t 43)),
tq 45 (.bin .rem (.t 44) (kq 2147483647)),
mq 10 45] [43,44,45]
(sr [
mq 46 10,
mq 47 11,
tq 48 (.bin .add (.t 47) (kq 1)),
tq 49 (.bin .rem (.t 46) (.t 48)),
mq 12 49] [46,47,48,49]
(.reg true [
mq 50 9,
mq 51 11,
mq 52 9,
mq 53 12,
mq 54 9,
mq 55 12,
tq 56 (.idxAddr 1 (.t 54) (.t 55)),
ld 57 56,
mq 58 9,
mq 59 11,
tq 60 (.idxAddr 1 (.t 58) (.t 59)),
ld 61 60,
tq 62 (.idxAddr 1 (.t 50) (.t 51)),
⟨none,none,.store 1 (.t 62) (.t 57)⟩,
tq 63 (.idxAddr 1 (.t 52) (.t 53)),
⟨none,none,.store 1 (.t 63) (.t 61)⟩] [12,50,51,52,53,54,55,56,57,58,59,60,61,62,63]))))
(rg [
mq 41 11,
tq 42 (.bin .sub (.t 41) (kq 1)),
mq 11 42] [41,42])))
def z1q:CF:=⟨[.tmp 4,.tmp 5],
  (sr [
tq 4 (.ownNil ⟨true,zam,1,8⟩),
tq 5 (.mv (kq 0))] [4,5]
(.seq (sr [
mq 13 0,
tq 14 (cl zdv [.t 13,kq 1,kq 2147483646]),
mq 15 1,
tq 16 (cl zdv [.t 15,kq 0,kq 256]),
tq 17 (.mkList 1 2 [.t 14,.t 16]),
tq 18 (cl zeh [.t 17]),
mq 6 18] [13,14,15,16,17,18]
(sr [
mq 19 6,
tq 20 (.bin .neq (.t 19) (kq 0))] [19]
(.cond (.t 20) (sr [
mq 21 6,
tq 4 (.ownNil ⟨true,zam,1,8⟩),
mq 5 21] [6,21]
.ret)
 .skip)))
(sr [
tq 7 (.ownNil ⟨false,zam,1,8⟩)] []
(.seq (sr [
mq 22 1,
tq 23 (.mv (kq 0))] []
(.block 0 (.loop [0,1,7,22,23] zww)))
(sr [
mq 31 1,
tq 32 (.makeRow ⟨true,zam,1,8⟩ [.int .i64 0] (.t 31)),
mq 9 32] [31,32]
(sr [
mq 33 9,
mq 34 7,
tq 35 (.copy 1 (.t 33) (.t 34))] [7,33,34,35]
(sr [
mq 36 0,
mq 10 36] [0,36]
(.seq (sr [
mq 37 1,
tq 38 (.bin .sub (.t 37) (kq 1)),
mq 11 38] [1,37,38]
(.block 2 (.loop [9,10,11] zxc)))
(sr [
mq 64 9,
mq 4 64,
tq 5 (.mv (kq 0))] [9,64]
.ret)))))))))⟩
def zkr:C:=
  (.block 1 (sr [
mq 21 2,
mq 22 1,
tq 23 (.bin .sub (.t 21) (.t 22)),
mq 12 23] [21,22,23]
(.seq (sr [
mq 24 12,
tq 25 (.bin .leq (.t 24) (kq 12))] [24]
(.cond (.t 25) (sr [
mq 26 0,
mq 27 1,
mq 28 2,
mq 29 4,
tq 30 (.call true true (.k (.fn zbn [] [])) [.t 26,.t 27,.t 28,.t 29])] [0,1,2,4,26,27,28,29,30]
.ret)
 .skip))
(.seq (sr [
mq 31 3,
tq 32 (.bin .eql (.t 31) (kq 0))] [31]
(.cond (.t 32) (sr [
mq 33 0,
mq 34 1,
mq 35 2,
mq 36 4,
tq 37 (.call true true (.k (.fn zk6 [] [])) [.t 33,.t 34,.t 35,.t 36])] [0,1,2,4,33,34,35,36,37]
.ret)
 .skip))
(.seq (sr [
mq 38 10,
tq 39 (.un .not (.t 38))] [38]
(.cond (.t 39) (sr [
mq 40 0,
mq 41 1,
mq 42 2,
mq 43 4,
tq 44 (.call true true (.k (.fn zi6 [] [])) [.t 40,.t 41,.t 42,.t 43])] [40,41,42,43,44]
(rg [
mq 45 3,
tq 46 (.bin .sub (.t 45) (kq 1)),
mq 3 46] [45,46]))
 .skip))
(sr [
mq 48 0,
mq 49 1,
mq 50 2,
mq 51 4,
tq 52 (.call true true (.k (.fn zjs [] [])) [.t 48,.t 49,.t 50,.t 51]),
mq 47 52,
xq 53 47 0,
xq 54 47 1,
mq 13 53,
mq 14 54] [47,48,49,50,51,52,53,54]
(.seq (sr [
mq 55 14,
tq 56 (.bin .eql (.t 55) (kq 2))] [55]
(.cond (.t 56) (sr [
mq 57 0,
mq 58 1,
mq 59 2,
mq 60 4,
tq 61 (.call true true (.k (.fn zjf [] [])) [.t 57,.t 58,.t 59,.t 60])] [57,58,59,60,61]
(sr [
mq 62 2,
tq 63 (.bin .sub (.t 62) (kq 1)),
mq 64 13,
mq 65 1,
tq 66 (.bin .sub (.t 64) (.t 65)),
tq 67 (.bin .sub (.t 63) (.t 66)),
mq 13 67] [62,63,64,65,66,67]
(rg [
tq 14 (.mv (kq 1))] [])))
 .skip))
(.seq (sr [
mq 68 10,
mq 69 68,
gq 70 69 true (.mv (.t 11)),
tq 71 (.pick (.t 69) (.t 70) (.k (.d (.bool false)))),
mq 72 71,
gq 73 72 true (.mv (.t 14)),
gq 74 72 true (.bin .eql (.t 73) (kq 1)),
tq 75 (.pick (.t 72) (.t 74) (.k (.d (.bool false))))] [14,68,69,70,71,72,73,74]
(.cond (.t 75) (sr [
mq 76 0,
mq 77 1,
mq 78 2,
mq 79 4,
tq 80 (.call true true (.k (.fn zg8 [] [])) [.t 76,.t 77,.t 78,.t 79])] [76,77,78,79]
(.cond (.t 80) .ret
 .skip))
 .skip))
(.seq (.seq (.reg true [
mq 81 1,
tq 82 (.bin .gtr (.t 81) (kq 0)),
mq 83 82,
gq 84 83 true (.mv (.t 4)),
gq 85 83 true (.mv (.t 0)),
gq 86 83 true (.mv (.t 1)),
gq 87 83 true (.bin .sub (.t 86) (kq 1)),
gq 88 83 true (.idxAddr 1 (.t 85) (.t 87)),
gq 89 83 true (.load none (.t 88)),
gq 90 83 true (.mv (.t 0)),
gq 91 83 true (.mv (.t 13)),
gq 92 83 true (.idxAddr 1 (.t 90) (.t 91)),
gq 93 83 true (.load none (.t 92)),
gq 94 83 true (.call true true (.t 84) [.t 89,.t 93]),
gq 95 83 true (.bin .lss (.t 94) (kq 0)),
gq 96 83 true (.un .not (.t 95)),
tq 97 (.pick (.t 83) (.t 96) (.k (.d (.bool false))))] [81,82,83,84,85,86,87,88,89,90,91,92,93,94,95,96])
(.cond (.t 97) (sr [
mq 98 0,
mq 99 1,
mq 100 2,
mq 101 13,
mq 102 4,
tq 103 (.call true true (.k (.fn zir [] [])) [.t 98,.t 99,.t 100,.t 101,.t 102]),
mq 15 103] [1,13,98,99,100,101,102,103]
(sr [
mq 104 15,
mq 1 104] [15,104]
(.exit 1)))
 .skip))
(sr [
mq 106 0,
mq 107 1,
mq 108 2,
mq 109 13,
mq 110 4,
tq 111 (.call true true (.k (.fn zkl [] [])) [.t 106,.t 107,.t 108,.t 109,.t 110]),
mq 105 111,
xq 112 105 0,
xq 113 105 1,
mq 16 112,
mq 17 113] [13,105,106,107,108,109,110,111,112,113]
(sr [
mq 114 17,
mq 11 114] [17,114]
(sr [
mq 115 16,
mq 116 1,
tq 117 (.bin .sub (.t 115) (.t 116)),
mq 118 2,
mq 119 16,
tq 120 (.bin .sub (.t 118) (.t 119)),
mq 18 117,
mq 19 120] [115,116,117,118,119,120]
(sr [
mq 121 12,
tq 122 (.bin .quo (.t 121) (kq 8)),
mq 20 122] [12,121,122]
(sr [
mq 123 18,
mq 124 19,
tq 125 (.bin .lss (.t 123) (.t 124))] [123,124]
(.cond (.t 125) (sr [
mq 126 18,
mq 127 20,
tq 128 (.bin .geq (.t 126) (.t 127)),
mq 10 128] [18,20,126,127,128]
(sr [
mq 129 0,
mq 130 1,
mq 131 16,
mq 132 3,
mq 133 4,
tq 134 (.call true true (.k (.fn zb5 [] [])) [.t 129,.t 130,.t 131,.t 132,.t 133])] [1,129,130,131,132,133,134]
(rg [
mq 135 16,
tq 136 (.bin .add (.t 135) (kq 1)),
mq 1 136] [16,135,136])))
 (sr [
mq 137 19,
mq 138 20,
tq 139 (.bin .geq (.t 137) (.t 138)),
mq 10 139] [19,20,137,138,139]
(sr [
mq 140 0,
mq 141 16,
tq 142 (.bin .add (.t 141) (kq 1)),
mq 143 2,
mq 144 3,
mq 145 4,
tq 146 (.call true true (.k (.fn zb5 [] [])) [.t 140,.t 142,.t 143,.t 144,.t 145])] [2,140,141,142,143,144,145,146]
(rg [
mq 147 16,
mq 2 147] [16,147]))))))))))))))))))
def zlp:CF:=⟨[],
  (sr [
tq 10 (.mv (.k (.d (.bool true))))] []
(sr [
tq 11 (.mv (.k (.d (.bool true))))] []
(.block 0 (.loop [0,1,2,3,4,10,11] zkr))))⟩
def z1v:CF:=⟨[.tmp 2],
  (sr [
tq 2 (.mv (kq 0))] [2]
(.seq (.cond (.k (.d (.bool false))) (sr [
mq 3 0,
tq 4 (.conv .u32 (.t 3)),
tq 5 (cl zno [.t 4]),
mq 2 5] [0,3,4,5]
.ret)
 .skip)
(sr [
mq 6 0,
tq 7 (cl znc [.t 6]),
mq 2 7] [0,6,7]
.ret)))⟩
def zlu:C:=
  (sr [
tq 10 (.alloc zan [.z (.str []),.z (.bool false)]),
⟨none,none,.store 2 (.t 10) (.t 42)⟩] [42]
(rg [
tq 11 (.alloc zh4 [.z (.str []),.z (.nilf)]),
⟨none,none,.store 2 (.t 11) (.t 43)⟩] [43]))
def zlm:C:=
  (.block 1 (.seq (.reg true [
fa 44 1 11,
ld 45 44,
lq 46 18 4,
tq 47 (.call false true (.t 45) [.t 46]),
fa 48 1 11,
ld 49 48,
lq 50 18 5,
tq 51 (.call false true (.t 49) [.t 50]),
mq 12 47,
mq 13 51] [4,5,11,44,45,46,47,48,49,50,51])
(sr [
mq 52 12,
mq 53 13,
tq 54 (.bin .neq (.t 52) (.t 53))] [52,53]
(.cond (.t 54) (.seq (.reg true [
mq 55 12,
mq 56 13,
tq 57 (.bin .gtr (.t 55) (.t 56)),
fa 58 1 10,
ld 59 58,
tq 60 (.eqv none true (.t 57) (.t 59)),
tq 61 (cl zb1 [.t 60]),
tq 62 (.bin .mul (kq 2) (.t 61)),
tq 63 (.bin .sub (.t 62) (kq 1)),
fa 64 0 10,
ld 65 64,
⟨none,none,.storeR 1 (.t 6) (.t 63) [10]⟩,
⟨none,none,.store 1 (.t 7) (.t 65)⟩] [10,12,13,55,56,57,58,59,60,61,62,63,64,65])
.ret)
 .skip))))
def zm3:CF:=⟨[.cell 6 none,.cell 7 none],
  (sr [
tq 3 (.box zab (.t 0)),
tq 4 (.box zal (.t 1)),
tq 5 (.box zal (.t 2)),
tq 6 (.alloc zam [.z (.int .i64 0)]),
tq 7 (.alloc zb3 [.z (.str [])])] [0,1,2]
(.seq (.reg true [
lq 14 4 3,
lq 15 18 4,
tq 16 (cl zcr [.t 14,.t 15]),
lq 17 4 3,
lq 18 18 5,
tq 19 (cl zcr [.t 17,.t 18]),
mq 8 16,
mq 9 19] [14,15,16,17,18,19])
(.seq (sr [
mq 20 8,
mq 21 9,
tq 22 (.bin .neq (.t 20) (.t 21))] [20,21]
(.cond (.t 22) (sr [
mq 23 8,
mq 24 9,
tq 25 (.bin .gtr (.t 23) (.t 24)),
tq 26 (cl zb1 [.t 25]),
tq 27 (.bin .mul (kq 2) (.t 26)),
tq 28 (.bin .sub (.t 27) (kq 1)),
⟨none,none,.store 1 (.t 6) (.t 28)⟩,
⟨none,none,.store 1 (.t 7) (.k (.d (.str [99,108,97,115,115])))⟩] [8,9,23,24,25,26,27,28]
.ret)
 .skip))
(.seq (sr [
fa 29 0 4,
lq 30 13 29,
fa 31 0 5,
lq 32 13 31,
tq 33 (.eqv (some [.str,.str,.str,.str,.str,.str,.int,.int,.int,.int,.int,.int,.int]) false (.t 30) (.t 32)),
mq 34 33,
gq 35 34 true (.load (some 18) (.t 4)),
gq 36 34 true (.load (some 18) (.t 5)),
gq 37 34 true (.eqv (some [.str,.str,.str,.str,.str,.str,.int,.int,.int,.int,.int,.int,.int,.bool,.bool,.bool,.bool,.int]) false (.t 35) (.t 36)),
tq 38 (.pick (.t 34) (.t 37) (.k (.d (.bool false))))] [29,30,31,32,33,34,35,36,37]
(.cond (.t 38) (sr [
⟨none,none,.store 1 (.t 6) (kq 0)⟩,
⟨none,none,.store 1 (.t 7) (.k (.d (.str [])))⟩] []
.ret)
 .skip))
(.seq (sr [
lq 39 4 3,
mq 40 8,
tq 41 (.call false false (.k (.fn zde [] [])) [.t 39,.t 40])] [3,8,39,40]
(.block 0 (.rangeFn 67 (.t 41) [42,43] zlu zlm)))
(sr [
⟨none,none,.store 1 (.t 6) (kq 0)⟩,
⟨none,none,.store 1 (.t 7) (.k (.d (.str [])))⟩] []
.ret))))))⟩
def zv5:CF:=⟨[.tmp 4],
  (sr [
tq 4 (.mv (kq 0))] [4]
(sr [
mq 7 0,
tq 8 (cl zit [.t 7]),
mq 5 8] [7,8]
(sr [
mq 9 1,
tq 10 (cl zit [.t 9]),
mq 6 10] [9,10]
(.seq (sr [
mq 11 5] [5]
(.cond (.t 11) (.seq (sr [
mq 12 6] [6]
(.cond (.t 12) (sr [
tq 4 (.mv (kq 0))] []
.ret)
 .skip))
(sr [
tq 4 (.mv (kq (-1)))] []
.ret))
 .skip))
(.seq (sr [
mq 13 6] [6]
(.cond (.t 13) (sr [
tq 4 (.mv (kq 1))] []
.ret)
 .skip))
(.seq (sr [
mq 14 0,
mq 15 1,
tq 16 (.bin .lss (.t 14) (.t 15))] [14,15]
(.cond (.t 16) (sr [
tq 4 (.mv (kq (-1)))] []
.ret)
 .skip))
(.seq (sr [
mq 17 0,
mq 18 1,
tq 19 (.bin .gtr (.t 17) (.t 18))] [0,1,17,18]
(.cond (.t 19) (sr [
tq 4 (.mv (kq 1))] []
.ret)
 .skip))
(sr [
tq 4 (.mv (kq 0))] []
.ret))))))))⟩
def zx9:CF:=⟨[.tmp 4],
  (sr [
tq 2 (.box zal (.t 0)),
tq 3 (.box zay (.t 1)),
tq 4 (.mv (.k (.d (.bool false))))] [0,1,4]
(.seq (.reg true [
tq 6 (.call false false (.k (.fn zfj [] [])) []),
fa 7 0 3,
ld 8 7,
tq 9 (.lookup .str (.agg [.str [],.nilf]) false (.t 6) (.t 8)),
tq 10 (.field 1 none (.t 9)),
lq 11 18 2,
tq 12 (.call false true (.t 10) [.t 11]),
mq 5 12] [2,6,7,8,9,10,11,12])
(sr [
mq 13 5,
fa 14 2 3,
ld 15 14,
tq 16 (.bin .eql (.t 13) (.t 15)),
mq 17 16,
gq 18 17 true (.fieldAddr 1 (.t 3)),
gq 19 17 true (.load none (.t 18)),
gq 20 17 true (.bin .eql (.t 19) (.k (.d (.str [61])))),
tq 21 (.pick (.t 17) (.t 20) (.k (.d (.bool false)))),
mq 22 21,
gq 23 22 false (.mv (.t 5)),
gq 24 22 false (.fieldAddr 2 (.t 3)),
gq 25 22 false (.load none (.t 24)),
gq 26 22 false (.bin .lss (.t 23) (.t 25)),
gq 27 22 false (.mv (.t 26)),
gq 28 27 true (.fieldAddr 1 (.t 3)),
gq 29 27 true (.load none (.t 28)),
gq 30 27 true (.bin .eql (.t 29) (.k (.d (.str [60])))),
gq 31 22 false (.pick (.t 27) (.t 30) (.k (.d (.bool false)))),
tq 32 (.pick (.t 22) (.k (.d (.bool true))) (.t 31)),
mq 33 32,
gq 34 33 false (.mv (.t 5)),
gq 35 33 false (.fieldAddr 2 (.t 3)),
gq 36 33 false (.load none (.t 35)),
gq 37 33 false (.bin .gtr (.t 34) (.t 36)),
gq 38 33 false (.mv (.t 37)),
gq 39 38 true (.fieldAddr 1 (.t 3)),
gq 40 38 true (.load none (.t 39)),
gq 41 38 true (.bin .eql (.t 40) (.k (.d (.str [62])))),
gq 42 33 false (.pick (.t 38) (.t 41) (.k (.d (.bool false)))),
tq 43 (.pick (.t 33) (.k (.d (.bool true))) (.t 42)),
mq 4 43] [3,5,13,14,15,16,17,18,19,20,21,22,23,24,25,26,27,28,29,30,31,32,33,34,35,36,37,38,39,40,41,42,43]
.ret)))⟩
def z32:CF:=⟨[.tmp 2],
  (sr [
tq 2 (.mv (kq 0))] [2]
(.seq (sr [
mq 3 0] [0]
(.cond (.t 3) (sr [
tq 2 (.mv (kq 1))] []
.ret)
 .skip))
(sr [
tq 2 (.mv (kq 0))] []
.ret)))⟩
def zr0:CF:=⟨[.tmp 2],
  (sr [
tq 2 (.mv (.k (.d (.bool false))))] [2]
(sr [
mq 3 0,
tq 4 (.bin .eql (.t 3) (.k (.d (.str [82,69,81])))),
mq 5 4,
gq 6 5 false (.mv (.t 0)),
gq 7 5 false (.bin .eql (.t 6) (.k (.d (.str [65,78,83])))),
tq 8 (.pick (.t 5) (.k (.d (.bool true))) (.t 7)),
mq 2 8] [0,3,4,5,6,7,8]
.ret))⟩
def zrp:CF:=⟨[.tmp 6],
  (sr [
tq 6 (.mv (kq 0))] [6]
(sr [
mq 7 0,
tq 8 (cl zf7 [.t 7]),
mq 9 1,
tq 10 (cl zjb [.t 9]),
tq 11 (.un .not (.t 10)),
tq 12 (cl za7 [.t 11,kq 1]),
mq 13 2,
tq 14 (cl zdl [.t 13,kq 0,kq 99999]),
tq 15 (.mkList 1 3 [.t 8,.t 12,.t 14]),
tq 16 (cl zbj [.t 15]),
mq 6 16] [0,1,2,7,8,9,10,11,12,13,14,15,16]
.ret))⟩
def zyv:CF:=⟨[.cell 0 (some 28)],
  (sr [
tq 0 (.alloc zcm [.z (.nilf),.z (.nilf),.z (.nilf),.z (.nilf),.z (.nilf),.z (.nilf),.z (.nilf),.z (.nilf),.z (.nilf),.z (.nilf),.z (.nilf),.z (.nilf),.z (.nilf),.z (.nilf),.z (.nilf),.z (.nilf),.z (.nilf),.z (.nilf),.z (.nilf),.z (.nilf),.z (.nilf),.z (.nilf),.z (.nilf),.z (.nilf),.z (.nilf),.z (.nilf),.z (.nilf),.z (.nilf)])] []
(sr [
tq 1 (.call true false (.k (.fn zgn [] [])) [.k (.fn zd9 [] []),.k (.fn zcu [] [])]),
tq 2 (.call true false (.k (.fn zgn [] [])) [.k (.fn zec [] []),.k (.fn zao [] [])]),
tq 3 (.call true false (.k (.fn zgn [] [])) [.k (.fn zd4 [] []),.k (.fn zao [] [])]),
tq 4 (.call true false (.k (.fn zgn [] [])) [.k (.fn zd8 [] []),.k (.fn zdk [] [])]),
tq 5 (.call true false (.k (.fn zgn [] [])) [.k (.fn zd7 [] []),.k (.fn zao [] [])]),
tq 6 (.call true false (.k (.fn zfk [] [])) [.k (.fn zeb [] []),kq 5]),
tq 7 (.call true false (.k (.fn zfk [] [])) [.k (.fn zd3 [] []),kq 5]),
tq 8 (.build [.z (.nilf),.z (.nilf)] [(0,1,.k (.fn zfq [] [])),(1,1,.k (.fn zfp [] []))]),
tq 9 (.build [.z (.nilf),.z (.nilf)] [(0,1,.k (.fn ze0 [] [])),(1,1,.k (.fn ze5 [] []))]),
tq 10 (.call true false (.k (.fn zfk [] [])) [.k (.fn zdw [] []),kq 3]),
tq 11 (.call true false (.k (.fn zfk [] [])) [.k (.fn zdq [] []),kq 1]),
tq 12 (.call true false (.k (.fn zfk [] [])) [.k (.fn zds [] []),kq 2]),
tq 13 (.call true false (.k (.fn zki [] [])) [.k (.fn zck [] [])]),
tq 14 (.call true false (.k (.fn zki [] [])) [.k (.fn zcl [] [])]),
tq 15 (.build [.z (.nilf),.z (.nilf),.z (.nilf),.z (.nilf),.z (.nilf),.z (.nilf),.z (.nilf),.z (.nilf),.z (.nilf),.z (.nilf),.z (.nilf),.z (.nilf),.z (.nilf),.z (.nilf),.z (.nilf),.z (.nilf),.z (.nilf),.z (.nilf),.z (.nilf),.z (.nilf),.z (.nilf),.z (.nilf),.z (.nilf),.z (.nilf),.z (.nilf),.z (.nilf),.z (.nilf),.z (.nilf)] [(0,2,.t 1),(2,2,.t 2),(4,2,.t 3),(6,2,.t 4),(8,2,.t 5),(10,2,.t 6),(12,2,.t 7),(14,2,.t 8),(16,2,.t 9),(18,2,.t 10),(20,2,.t 11),(22,2,.t 12),(24,2,.t 13),(26,2,.t 14)]),
⟨none,none,.store 28 (.t 0) (.t 15)⟩] [1,2,3,4,5,6,7,8,9,10,11,12,13,14,15]
.ret))⟩
def zr1:C:=
  (.seq (sr [
ld 5 1,
tq 6 (.bin .neq (.t 5) (.k (.d (.str []))))] [5]
(.cond (.t 6) .skip
 (.exit 0)))
(.seq (.block 1 (sr [
ld 9 1,
tq 10 (cl zib [.t 9,.k (.d (.int .u8 10))]),
tq 11 (.bin .add (.t 10) (kq 1)),
mq 4 11] [9,10,11]
(.seq (sr [
mq 12 4,
tq 13 (.bin .eql (.t 12) (kq 0))] [12]
(.cond (.t 13) (rg [
ld 14 1,
tq 15 (.len .str (.t 14)),
mq 4 15] [14,15])
 .skip))
(.seq (sr [
mq 16 0,
mq 17 3,
ld 18 1,
mq 19 4,
tq 20 (.sliceS (.t 18) none (some (.t 19))),
tq 21 (.call true true (.t 16) [.t 17,.t 20]),
tq 22 (.un .not (.t 21))] [16,17,18,19,20,21]
(.cond (.t 22) .ret
 .skip))
(rg [
ld 23 1,
mq 24 4,
tq 25 (.sliceS (.t 23) (some (.t 24)) none),
⟨none,none,.store 1 (.t 1) (.t 25)⟩] [4,23,24,25])))))
(rg [
mq 7 3,
tq 8 (.bin .add (.t 7) (kq 1)),
mq 3 8] [7,8])))
def zwi:CF:=⟨[],
  (sr [
tq 3 (.mv (kq 0))] []
(.block 0 (.loop [0,1,3] zr1)))⟩
def zr7:CF:=⟨[.tmp 4],
  (sr [
tq 4 (.mv (kq 0))] [4]
(sr [
mq 5 0,
mq 6 1,
tq 7 (cl n_internal_stringslite_IndexByte [.t 5,.t 6]),
mq 4 7] [0,1,5,6,7]
.ret))⟩
def zsc:CF:=⟨[.tmp 2],
  (sr [
tq 1 (.box zag (.t 0)),
tq 2 (.mv (kq 0))] [0,2]
(.seq (.reg true [
fa 3 0 1,
ld 4 3,
tq 5 (cl zcu [.t 4]),
tq 6 (.un .not (.t 5)),
tq 7 (cl za7 [.t 6,kq 13]),
fa 8 1 1,
lq 9 13 8,
tq 10 (cl ze8 [.t 9]),
tq 11 (.mkList 1 2 [.t 7,.t 10]),
tq 12 (cl zbj [.t 11]),
mq 2 12] [1,3,4,5,6,7,8,9,10,11,12])
.ret))⟩
def z0h:CF:=⟨[.tmp 4],
  (sr [
tq 2 (.box zbo (.t 0)),
tq 3 (.box zbo (.t 1)),
tq 4 (.mv (.k (.d (.bool false))))] [0,1,4]
(sr [
fa 5 1 2,
ld 6 5,
fa 7 1 3,
ld 8 7,
tq 9 (.bin .eql (.t 6) (.t 8)),
mq 10 9,
gq 11 10 true (.fieldAddr 0 (.t 2)),
gq 12 10 true (.load none (.t 11)),
gq 13 10 true (.fieldAddr 0 (.t 3)),
gq 14 10 true (.load none (.t 13)),
gq 15 10 true (.bin .eql (.t 12) (.t 14)),
tq 16 (.pick (.t 10) (.t 15) (.k (.d (.bool false)))),
mq 4 16] [2,3,5,6,7,8,9,10,11,12,13,14,15,16]
.ret))⟩
def zv2:CF:=⟨[.tmp 0],
  (sr [
tq 0 (.mv (.k (.d (.nilm))))] [0]
(sr [
tq 1 (.mkMap),
⟨none,none,.mapSet .str (.t 1) (.k (.d (.str [78]))) (.k (.d (.str [82,69,81])))⟩,
⟨none,none,.mapSet .str (.t 1) (.k (.d (.str [72]))) (.k (.d (.str [82,69,81])))⟩,
⟨none,none,.mapSet .str (.t 1) (.k (.d (.str [67]))) (.k (.d (.str [82,69,81])))⟩,
⟨none,none,.mapSet .str (.t 1) (.k (.d (.str [82]))) (.k (.d (.str [82,69,81])))⟩,
⟨none,none,.mapSet .str (.t 1) (.k (.d (.str [68]))) (.k (.d (.str [82,69,81])))⟩,
⟨none,none,.mapSet .str (.t 1) (.k (.d (.str [75]))) (.k (.d (.str [65,78,83])))⟩,
⟨none,none,.mapSet .str (.t 1) (.k (.d (.str [79]))) (.k (.d (.str [65,78,83])))⟩,
⟨none,none,.mapSet .str (.t 1) (.k (.d (.str [85]))) (.k (.d (.str [65,78,83])))⟩,
⟨none,none,.mapSet .str (.t 1) (.k (.d (.str [88]))) (.k (.d (.str [65,78,83])))⟩,
mq 2 1,
mq 0 2] [1,2]
.ret))⟩
def z36:CF:=⟨[.tmp 4],
  (sr [
tq 3 (.box zb3 (.t 1)),
tq 4 (.mv (kq 0))] [1,4]
(sr [
mq 5 0,
tq 6 (.mkFunc zbs [] [.t 3]),
tq 7 (.call true true (.k (.fn zaz [] [])) [.t 5,.t 6]),
mq 4 7] [0,3,5,6,7]
.ret))⟩
def z62:CF:=⟨[.tmp 4],
  (sr [
tq 2 (.box zax (.t 0)),
tq 3 (.box zgr (.t 1)),
tq 4 (.mv (.k (.d (.bool false))))] [0,1,4]
(sr [
lq 6 18 2,
fa 7 0 3,
ld 8 7,
tq 9 (cl zj8 [.t 6,.t 8]),
mq 5 9] [2,6,7,8,9]
(.seq (sr [
fa 10 1 3,
ld 11 10] [10]
(.block 0 (sr [
tq 13 (.bin .eql (.t 11) (.k (.d (.str [60])))),
mq 12 13] [13]
(.cond (.t 12) (sr [
mq 14 5,
fa 15 2 3,
ld 16 15,
tq 17 (.bin .lss (.t 14) (.t 16)),
mq 4 17] [3,5,14,15,16,17]
.ret)
 (sr [
tq 19 (.bin .eql (.t 11) (.k (.d (.str [62])))),
mq 18 19] [11,19]
(.cond (.t 18) (sr [
mq 20 5,
fa 21 2 3,
ld 22 21,
tq 23 (.bin .gtr (.t 20) (.t 22)),
mq 4 23] [3,5,20,21,22,23]
.ret)
 .skip))))))
(sr [
mq 24 5,
fa 25 2 3,
ld 26 25,
tq 27 (.bin .eql (.t 24) (.t 26)),
mq 4 27] [3,5,24,25,26,27]
.ret))))⟩
def ydq:CF:=⟨[.tmp 2],
  (sr [
tq 2 (.mv (kq 0))] [2]
(.seq (sr [
mq 3 0] [0]
(.cond (.t 3) (sr [
tq 2 (.mv (kq 1))] []
.ret)
 .skip))
(sr [
tq 2 (.mv (kq 0))] []
.ret)))⟩
def zyn:C:=
  (.seq (sr [
mq 7 4,
fa 8 1 1,
ld 9 8,
tq 10 (.bin .leq (.t 7) (.t 9))] [7,8,9]
(.cond (.t 10) .skip
 (.exit 0)))
(.seq (.block 1 (sr [
lq 13 3 1,
mq 14 4,
tq 15 (cl zsd [.t 13,.t 14])] [13,14]
(.cond (.t 15) (rg [
mq 16 3,
mq 17 4,
tq 18 (.mkList 1 1 [.t 17]),
tq 19 (.append ⟨false,zam,1,8⟩ (.t 16) (.t 18)),
mq 3 19] [16,17,18,19])
 .skip)))
(rg [
mq 11 4,
tq 12 (.bin .add (.t 11) (kq 1)),
mq 4 12] [11,12])))
def z3b:CF:=⟨[.tmp 2],
  (sr [
tq 1 (.box zcx (.t 0)),
tq 2 (.ownNil ⟨false,zam,1,8⟩)] [0,2]
(sr [
tq 3 (.ownNil ⟨false,zam,1,8⟩)] []
(.seq (sr [
fa 5 0 1,
ld 6 5,
mq 4 6] [5,6]
(.block 0 (.loop [1,3,4] zyn)))
(sr [
mq 20 3,
mq 2 20] [3,20]
.ret))))⟩
def zx2:C:=
  (.seq (sr [
mq 14 3,
mq 15 0,
tq 16 (.len .str (.t 15)),
tq 17 (.bin .lss (.t 14) (.t 16))] [14,15,16]
(.cond (.t 17) .skip
 (.exit 0)))
(.seq (.block 1 (sr [
mq 20 0,
mq 21 3,
tq 22 (.idxS (.t 20) (.t 21)),
mq 4 22] [20,21,22]
(sr [
mq 23 4,
tq 24 (.bin .geq (.t 23) (.k (.d (.int .u8 97)))),
mq 25 24,
gq 26 25 true (.mv (.t 4)),
gq 27 25 true (.bin .leq (.t 26) (.k (.d (.int .u8 122)))),
tq 28 (.pick (.t 25) (.t 27) (.k (.d (.bool false)))),
mq 29 28,
gq 30 29 false (.mv (.t 4)),
gq 31 29 false (.bin .geq (.t 30) (.k (.d (.int .u8 65)))),
gq 32 29 false (.mv (.t 31)),
gq 33 32 true (.mv (.t 4)),
gq 34 32 true (.bin .leq (.t 33) (.k (.d (.int .u8 90)))),
gq 35 29 false (.pick (.t 32) (.t 34) (.k (.d (.bool false)))),
tq 36 (.pick (.t 29) (.k (.d (.bool true))) (.t 35)),
mq 5 36] [23,24,25,26,27,28,29,30,31,32,33,34,35,36]
(sr [
mq 37 5,
tq 38 (.un .not (.t 37)),
mq 39 38,
gq 40 39 true (.mv (.t 3)),
gq 41 39 true (.bin .eql (.t 40) (kq 0)),
gq 42 39 true (.mv (.t 41)),
gq 43 42 false (.mv (.t 4)),
gq 44 42 false (.bin .neq (.t 43) (.k (.d (.int .u8 95)))),
gq 45 42 false (.mv (.t 44)),
gq 46 45 true (.mv (.t 4)),
gq 47 45 true (.bin .lss (.t 46) (.k (.d (.int .u8 48)))),
gq 48 45 true (.mv (.t 47)),
gq 49 48 false (.mv (.t 4)),
gq 50 48 false (.bin .gtr (.t 49) (.k (.d (.int .u8 57)))),
gq 51 45 true (.pick (.t 48) (.k (.d (.bool true))) (.t 50)),
gq 52 42 false (.pick (.t 45) (.t 51) (.k (.d (.bool false)))),
gq 53 39 true (.pick (.t 42) (.k (.d (.bool true))) (.t 52)),
tq 54 (.pick (.t 39) (.t 53) (.k (.d (.bool false))))] [4,5,37,38,39,40,41,42,43,44,45,46,47,48,49,50,51,52,53]
(.cond (.t 54) (sr [
tq 2 (.mv (.k (.d (.bool false))))] []
.ret)
 .skip)))))
(rg [
mq 18 3,
tq 19 (.bin .add (.t 18) (kq 1)),
mq 3 19] [18,19])))
def z3x:CF:=⟨[.tmp 2],
  (sr [
tq 2 (.mv (.k (.d (.bool false))))] [2]
(.seq (sr [
mq 6 0,
tq 7 (.len .str (.t 6)),
tq 8 (.bin .eql (.t 7) (kq 0)),
mq 9 8,
gq 10 9 false (.mv (.t 0)),
gq 11 9 false (.len .str (.t 10)),
gq 12 9 false (.bin .gtr (.t 11) (kq 24)),
tq 13 (.pick (.t 9) (.k (.d (.bool true))) (.t 12))] [6,7,8,9,10,11,12]
(.cond (.t 13) (sr [
tq 2 (.mv (.k (.d (.bool false))))] []
.ret)
 .skip))
(.seq (sr [
tq 3 (.mv (kq 0))] []
(.block 0 (.loop [0,3] zx2)))
(sr [
tq 2 (.mv (.k (.d (.bool true))))] []
.ret))))⟩
def zwx:CF:=⟨[.tmp 2],
  (sr [
tq 1 (.box zgr (.t 0)),
tq 2 (.mv (kq 0))] [0,2]
(.seq (.seq (.reg true [
tq 3 (cl zk7 []),
fa 4 0 1,
ld 5 4,
tq 6 (cl zhg [.t 3,.t 5]),
tq 7 (.un .not (.t 6))] [3,4,5,6])
(.cond (.t 7) (sr [
tq 2 (.mv (kq 10))] []
.ret)
 .skip))
(.seq (sr [
fa 8 1 1,
ld 9 8,
tq 10 (.bin .neq (.t 9) (.k (.d (.str [61])))),
mq 11 10,
gq 12 11 true (.fieldAddr 1 (.t 1)),
gq 13 11 true (.load none (.t 12)),
gq 14 11 true (.bin .neq (.t 13) (.k (.d (.str [60])))),
tq 15 (.pick (.t 11) (.t 14) (.k (.d (.bool false)))),
mq 16 15,
gq 17 16 true (.fieldAddr 1 (.t 1)),
gq 18 16 true (.load none (.t 17)),
gq 19 16 true (.bin .neq (.t 18) (.k (.d (.str [62])))),
tq 20 (.pick (.t 16) (.t 19) (.k (.d (.bool false))))] [8,9,10,11,12,13,14,15,16,17,18,19]
(.cond (.t 20) (sr [
tq 2 (.mv (kq 13))] []
.ret)
 .skip))
(sr [
fa 21 2 1,
ld 22 21,
tq 23 (cl zbm [.t 22,kq 0,kq 999999999]),
mq 2 23] [1,21,22,23]
.ret))))⟩
def zwk:C:=
  (.seq (sr [
mq 6 5,
mq 7 0,
tq 8 (.len .slc (.t 7)),
tq 9 (.bin .lss (.t 6) (.t 8))] [6,7,8]
(.cond (.t 9) .skip
 (.exit 0)))
(.seq (.block 1 (sr [
mq 12 0,
mq 13 5,
tq 14 (.idxAddr 1 (.t 12) (.t 13)),
ld 15 14,
mq 16 1,
tq 17 (.bin .eql (.t 15) (.t 16))] [12,13,14,15,16]
(.cond (.t 17) (sr [
tq 4 (.mv (.k (.d (.bool true))))] []
.ret)
 .skip)))
(rg [
mq 10 5,
tq 11 (.bin .add (.t 10) (kq 1)),
mq 5 11] [10,11])))
def z0f:CF:=⟨[.tmp 4],
  (sr [
tq 4 (.mv (.k (.d (.bool false))))] [4]
(.seq (sr [
tq 5 (.mv (kq 0))] []
(.block 0 (.loop [0,1,5] zwk)))
(sr [
tq 4 (.mv (.k (.d (.bool false))))] []
.ret)))⟩
def z56:CF:=⟨[.tmp 0],
  (sr [
tq 0 (.mv (.k (.d (.list 0 []))))] [0]
(sr [
tq 1 (.mkList 1 10 [.k (.d (.str [104,105,115,116,111,114,105,99])),.k (.d (.str [114,101,116,105,109,101,100])),.k (.d (.str [110,101,119,99,111,109,101,114])),.k (.d (.str [121,101,97,114,114,111,117,110,100])),.k (.d (.str [100,97,121,115])),.k (.d (.str [115,101,97,116,115])),.k (.d (.str [115,105,122,101])),.k (.d (.str [110,111,105,115,101])),.k (.d (.str [100,105,115,116,97,110,99,101])),.k (.d (.str [109,105,110,117,116,101]))]),
mq 0 1] [1]
.ret))⟩
def zyw:CF:=⟨[.tmp 2],
  (sr [
tq 2 (.mv (.k (.d (.bool false))))] [2]
(sr [
mq 3 0,
tq 4 (.bin .eql (.t 3) (.k (.d (.str [])))),
mq 5 4,
gq 6 5 false (.mv (.t 0)),
gq 7 5 false (cl zfu [.t 6]),
tq 8 (.pick (.t 5) (.k (.d (.bool true))) (.t 7)),
mq 2 8] [0,3,4,5,6,7,8]
.ret))⟩
def zsv:CF:=⟨[.tmp 2],
  (sr [
tq 1 (.box zcx (.t 0)),
tq 2 (.mv (kq 0))] [0,2]
(.seq (sr [
fa 3 0 1,
ld 4 3,
tq 5 (cl zh2 [.t 4]),
tq 6 (.bin .neq (.t 5) (kq 0)),
mq 7 6,
gq 8 7 false (.fieldAddr 1 (.t 1)),
gq 9 7 false (.load none (.t 8)),
gq 10 7 false (cl zh2 [.t 9]),
gq 11 7 false (.bin .neq (.t 10) (kq 0)),
tq 12 (.pick (.t 7) (.k (.d (.bool true))) (.t 11))] [3,4,5,6,7,8,9,10,11]
(.cond (.t 12) (sr [
tq 2 (.mv (kq 3))] []
.ret)
 .skip))
(.seq (sr [
fa 13 1 1,
ld 14 13,
fa 15 0 1,
ld 16 15,
tq 17 (.bin .lss (.t 14) (.t 16))] [13,14,15,16]
(.cond (.t 17) (sr [
tq 2 (.mv (kq 11))] []
.ret)
 .skip))
(.seq (sr [
fa 18 1 1,
ld 19 18,
fa 20 0 1,
ld 21 20,
tq 22 (.bin .sub (.t 19) (.t 21)),
tq 23 (.bin .gtr (.t 22) (kq 400))] [18,19,20,21,22]
(.cond (.t 23) (sr [
tq 2 (.mv (kq 4))] []
.ret)
 .skip))
(sr [
fa 24 2 1,
ld 25 24,
tq 26 (cl zbm [.t 25,kq 1,kq 127]),
mq 2 26] [1,24,25,26]
.ret)))))⟩
def zte:CF:=⟨[.tmp 2],
  (sr [
tq 1 (.box zal (.t 0)),
tq 2 (.mv (kq 0))] [0,2]
(sr [
fa 3 13 1,
ld 4 3,
tq 5 (cl zb1 [.t 4]),
mq 2 5] [1,3,4,5]
.ret))⟩
def zuy:CF:=⟨[.tmp 2],
  (sr [
tq 1 (.box zal (.t 0)),
tq 2 (.mv (kq 0))] [0,2]
(sr [
fa 3 14 1,
ld 4 3,
tq 5 (cl zb1 [.t 4]),
mq 2 5] [1,3,4,5]
.ret))⟩
def zuz:CF:=⟨[.tmp 2],
  (sr [
tq 1 (.box zal (.t 0)),
tq 2 (.mv (kq 0))] [0,2]
(sr [
fa 3 15 1,
ld 4 3,
tq 5 (cl zb1 [.t 4]),
mq 2 5] [1,3,4,5]
.ret))⟩
def zut:CF:=⟨[.tmp 2],
  (sr [
tq 1 (.box zal (.t 0)),
tq 2 (.mv (kq 0))] [0,2]
(sr [
fa 3 16 1,
ld 4 3,
tq 5 (cl zb1 [.t 4]),
mq 2 5] [1,3,4,5]
.ret))⟩
def zul:CF:=⟨[.tmp 2],
  (sr [
tq 1 (.box zal (.t 0)),
tq 2 (.mv (kq 0))] [0,2]
(sr [
fa 6 0 1,
fa 7 6 6,
lq 8 3 7,
tq 9 (cl zgl [.t 8]),
mq 5 9,
xq 10 5 0,
xq 11 5 1,
mq 3 10,
mq 4 11] [1,4,5,6,7,8,9,10,11]
(sr [
mq 12 3,
mq 2 12] [3,12]
.ret)))⟩
def zs6:CF:=⟨[.tmp 2],
  (sr [
tq 1 (.box zal (.t 0)),
tq 2 (.mv (kq 0))] [0,2]
(sr [
fa 3 0 1,
fa 4 10 3,
ld 5 4,
mq 2 5] [1,3,4,5]
.ret))⟩
def zsx:CF:=⟨[.tmp 2],
  (sr [
tq 1 (.box zal (.t 0)),
tq 2 (.mv (kq 0))] [0,2]
(sr [
fa 3 0 1,
fa 4 11 3,
ld 5 4,
mq 2 5] [1,3,4,5]
.ret))⟩
def zug:CF:=⟨[.tmp 2],
  (sr [
tq 1 (.box zal (.t 0)),
tq 2 (.mv (kq 0))] [0,2]
(sr [
fa 3 0 1,
fa 4 12 3,
ld 5 4,
mq 2 5] [1,3,4,5]
.ret))⟩
def zui:CF:=⟨[.tmp 2],
  (sr [
tq 1 (.box zal (.t 0)),
tq 2 (.mv (kq 0))] [0,2]
(sr [
fa 3 17 1,
ld 4 3,
mq 2 4] [1,3,4]
.ret))⟩
def zrz:CF:=⟨[.tmp 2],
  (sr [
tq 1 (.box zal (.t 0)),
tq 2 (.mv (kq 0))] [0,2]
(sr [
fa 3 0 1,
fa 4 9 3,
ld 5 4,
mq 2 5] [1,3,4,5]
.ret))⟩
def z10:CF:=⟨[.tmp 2],
  (sr [
tq 2 (.mv (kq 0))] [2]
(sr [
mq 3 0,
tq 4 (cl zao [.t 3]),
tq 5 (.un .not (.t 4)),
tq 6 (cl za7 [.t 5,kq 8]),
mq 2 6] [0,3,4,5,6]
.ret))⟩
def zt2:CF:=⟨[.tmp 2],
  (sr [
tq 2 (.mv (kq 0))] [2]
(sr [
mq 3 0,
tq 4 (.bin .neq (.t 3) (.k (.d (.str [])))),
mq 5 4,
gq 6 5 true (.mv (.t 0)),
gq 7 5 true (cl zao [.t 6]),
gq 8 5 true (.un .not (.t 7)),
tq 9 (.pick (.t 5) (.t 8) (.k (.d (.bool false)))),
tq 10 (cl za7 [.t 9,kq 8]),
mq 2 10] [0,3,4,5,6,7,8,9,10]
.ret))⟩
def zx4:CF:=⟨[.tmp 2],
  (sr [
tq 2 (.mv (.k (.d (.bool false))))] [2]
(sr [
mq 3 0,
tq 4 (.bin .eql (.t 3) (.k (.d (.str [65])))),
mq 5 4,
gq 6 5 false (.mv (.t 0)),
gq 7 5 false (.bin .eql (.t 6) (.k (.d (.str [68])))),
tq 8 (.pick (.t 5) (.k (.d (.bool true))) (.t 7)),
mq 2 8] [0,3,4,5,6,7,8]
.ret))⟩
def zyt:CF:=⟨[.tmp 6],
  (sr [
tq 6 (.mv (kq 0))] [6]
(sr [
mq 7 0,
mq 8 1,
tq 9 (.bin .lss (.t 7) (.t 8)),
mq 10 9,
gq 11 10 false (.mv (.t 0)),
gq 12 10 false (.mv (.t 2)),
gq 13 10 false (.bin .gtr (.t 11) (.t 12)),
tq 14 (.pick (.t 10) (.k (.d (.bool true))) (.t 13)),
tq 15 (cl za7 [.t 14,kq 3]),
mq 6 15] [0,1,2,7,8,9,10,11,12,13,14,15]
.ret))⟩
def zvm:C:=
  (sr [
tq 8 (.bin .lss (.t 7) (.t 6))] []
(.seq (.cond (.t 8) .skip
 (.exit 0))
(.seq (.block 1 (sr [
tq 9 (.idxAddr 1 (.t 5) (.t 7)),
ld 10 9,
mq 4 10] [9,10]
(sr [
mq 11 4,
tq 12 (.bin .neq (.t 11) (kq 0))] [11]
(.cond (.t 12) (sr [
mq 13 4,
mq 2 13] [4,13]
.ret)
 .skip))))
(rg [
tq 14 (.bin .add (.t 7) (kq 1)),
mq 7 14] [14]))))
def zy1:CF:=⟨[.tmp 2],
  (sr [
tq 2 (.mv (kq 0))] [2]
(.seq (sr [
mq 5 0,
tq 6 (.len .slc (.t 5)),
tq 7 (.mv (kq 0))] [0]
(.block 0 (.loop [5,6,7] zvm)))
(sr [
tq 2 (.mv (kq 0))] []
.ret)))⟩
def zrs:CF:=⟨[.tmp 2],
  (sr [
tq 2 (.mv (kq 0))] [2]
(sr [
mq 3 0,
tq 4 (cl zdv [.t 3,kq 0,kq 99999]),
mq 2 4] [0,3,4]
.ret))⟩
def z03:CF:=⟨[.tmp 4],
  (sr [
tq 4 (.mv (kq 0))] [4]
(.seq (sr [
mq 5 0] [0]
(.cond (.t 5) (sr [
mq 6 1,
mq 4 6] [1,6]
.ret)
 .skip))
(sr [
tq 4 (.mv (kq 0))] []
.ret)))⟩
def zwz:CF:=⟨[.tmp 6],
  (sr [
tq 6 (.mv (kq 0))] [6]
(sr [
mq 7 0,
mq 8 1,
tq 9 (.bin .lss (.t 7) (.t 8)),
mq 10 9,
gq 11 10 false (.mv (.t 0)),
gq 12 10 false (.mv (.t 2)),
gq 13 10 false (.bin .gtr (.t 11) (.t 12)),
tq 14 (.pick (.t 10) (.k (.d (.bool true))) (.t 13)),
tq 15 (cl zhd [.t 14,kq 3]),
mq 6 15] [0,1,2,7,8,9,10,11,12,13,14,15]
.ret))⟩
def zpr:C:=
  (.seq (sr [
mq 6 3,
fa 7 1 1,
ld 8 7,
tq 9 (.bin .leq (.t 6) (.t 8))] [6,7,8]
(.cond (.t 9) .skip
 (.exit 0)))
(.seq (.block 1 (.seq (.reg true [
fa 12 2 1,
ld 13 12,
mq 14 3,
tq 15 (cl zjd [.t 14]),
tq 16 (cl zhj [.t 13,.t 15]),
mq 17 16,
gq 18 17 true (.mv (.t 0)),
gq 19 17 true (.mv (.t 3)),
gq 20 17 true (.call true true (.t 18) [.t 19]),
gq 21 17 true (.un .not (.t 20)),
tq 22 (.pick (.t 17) (.t 21) (.k (.d (.bool false))))] [12,13,14,15,16,17,18,19,20,21])
(.cond (.t 22) .ret
 .skip)))
(rg [
mq 10 3,
tq 11 (.bin .add (.t 10) (kq 1)),
mq 3 11] [10,11])))
def zsj:CF:=⟨[],
  (sr [
fa 4 0 1,
ld 5 4,
mq 3 5] [4,5]
(.block 0 (.loop [0,1,3] zpr)))⟩
def zw5:CF:=⟨[.tmp 4],
  (sr [
tq 4 (.mv (.k (.d (.bool false))))] [4]
(sr [
mq 5 0,
mq 6 1,
tq 7 (.bin .shr (.t 5) (.t 6)),
tq 8 (.bin .and (.t 7) (kq 1)),
tq 9 (.bin .eql (.t 8) (kq 1)),
mq 4 9] [0,1,5,6,7,8,9]
.ret))⟩
def zt1:CF:=⟨[.tmp 2],
  (sr [
tq 2 (.mv (kq 0))] [2]
(sr [
mq 3 0,
tq 4 (.bin .add (.t 3) (kq 5)),
tq 5 (.bin .rem (.t 4) (kq 7)),
mq 2 5] [0,3,4,5]
.ret))⟩
def ze2:C:=
  (sr [
tq 9 (.bin .lss (.t 8) (.t 7))] []
(.seq (.cond (.t 9) .skip
 (.exit 0))
(.seq (.block 1 (sr [
mq 10 8,
mq 5 10] [10]
(sr [
mq 11 1,
mq 12 0,
mq 13 5,
tq 14 (.idxAddr 3 (.t 12) (.t 13)),
lq 15 3 14,
tq 16 (.call true true (.t 11) [.t 15])] [11,12,13,14,15]
(.cond (.t 16) (sr [
mq 17 5,
mq 4 17] [5,17]
.ret)
 .skip))))
(rg [
tq 18 (.bin .add (.t 8) (kq 1)),
mq 8 18] [18]))))
def zfi:CF:=⟨[.tmp 4],
  (sr [
tq 4 (.mv (kq 0))] [4]
(.seq (sr [
mq 6 0,
tq 7 (.len .slc (.t 6)),
tq 8 (.mv (kq 0))] [6]
(.block 0 (.loop [0,1,7,8] ze2)))
(sr [
tq 4 (.mv (kq (-1)))] []
.ret)))⟩
def zsp:C:=
  (sr [
tq 16 (.nextS (.t 15)),
xq 17 16 0] []
(.seq (.cond (.t 17) .skip
 (.exit 0))
(.block 1 (sr [
xq 18 16 1,
xq 19 16 2,
mq 3 18,
mq 4 19] [16,18,19]
(sr [
mq 20 4,
tq 21 (.bin .geq (.t 20) (.k (.d (.int .i32 65)))),
mq 22 21,
gq 23 22 true (.mv (.t 4)),
gq 24 22 true (.bin .leq (.t 23) (.k (.d (.int .i32 90)))),
tq 25 (.pick (.t 22) (.t 24) (.k (.d (.bool false)))),
mq 26 25,
gq 27 26 false (.mv (.t 4)),
gq 28 26 false (.bin .geq (.t 27) (.k (.d (.int .i32 97)))),
gq 29 26 false (.mv (.t 28)),
gq 30 29 true (.mv (.t 4)),
gq 31 29 true (.bin .leq (.t 30) (.k (.d (.int .i32 122)))),
gq 32 26 false (.pick (.t 29) (.t 31) (.k (.d (.bool false)))),
tq 33 (.pick (.t 26) (.k (.d (.bool true))) (.t 32)),
mq 5 33] [20,21,22,23,24,25,26,27,28,29,30,31,32,33]
(sr [
mq 34 5,
tq 35 (.un .not (.t 34)),
mq 36 35,
gq 37 36 true (.mv (.t 3)),
gq 38 36 true (.bin .eql (.t 37) (kq 0)),
gq 39 36 true (.mv (.t 38)),
gq 40 39 false (.mv (.t 4)),
gq 41 39 false (.bin .neq (.t 40) (.k (.d (.int .i32 95)))),
gq 42 39 false (.mv (.t 41)),
gq 43 42 true (.mv (.t 4)),
gq 44 42 true (.bin .lss (.t 43) (.k (.d (.int .i32 48)))),
gq 45 42 true (.mv (.t 44)),
gq 46 45 false (.mv (.t 4)),
gq 47 45 false (.bin .gtr (.t 46) (.k (.d (.int .i32 57)))),
gq 48 42 true (.pick (.t 45) (.k (.d (.bool true))) (.t 47)),
gq 49 39 false (.pick (.t 42) (.t 48) (.k (.d (.bool false)))),
gq 50 36 true (.pick (.t 39) (.k (.d (.bool true))) (.t 49)),
tq 51 (.pick (.t 36) (.t 50) (.k (.d (.bool false))))] [3,4,5,34,35,36,37,38,39,40,41,42,43,44,45,46,47,48,49,50]
(.cond (.t 51) (sr [
tq 2 (.mv (.k (.d (.bool false))))] []
.ret)
 .skip)))))))
def zwa:CF:=⟨[.tmp 2],
  (sr [
tq 2 (.mv (.k (.d (.bool false))))] [2]
(.seq (sr [
mq 6 0,
tq 7 (.len .str (.t 6)),
tq 8 (.bin .eql (.t 7) (kq 0)),
mq 9 8,
gq 10 9 false (.mv (.t 0)),
gq 11 9 false (.len .str (.t 10)),
gq 12 9 false (.bin .gtr (.t 11) (kq 24)),
tq 13 (.pick (.t 9) (.k (.d (.bool true))) (.t 12))] [6,7,8,9,10,11,12]
(.cond (.t 13) (sr [
tq 2 (.mv (.k (.d (.bool false))))] []
.ret)
 .skip))
(.seq (sr [
mq 14 0,
tq 15 (.rangeS (.t 14))] [0,14]
(.block 0 (.loop [15] zsp)))
(sr [
tq 2 (.mv (.k (.d (.bool true))))] []
.ret))))⟩
def zjq:C:=
  (sr [
tq 11 (.bin .lss (.t 10) (.t 9))] []
(.seq (.cond (.t 11) .skip
 (.exit 0))
(.seq (.block 1 (sr [
mq 12 10,
tq 13 (.idxAddr 3 (.t 8) (.t 10)),
lq 14 3 13,
tq 6 (.alloc zay [.z (.str []),.z (.str []),.z (.int .i64 0)]),
mq 5 12,
⟨none,none,.store 3 (.t 6) (.t 14)⟩] [12,13,14]
(.seq (.reg true [
mq 15 1,
mq 16 0,
mq 17 5,
tq 18 (.slice 3 (.t 16) none (some (.t 17)) none),
lq 19 3 6,
tq 20 (.call false true (.t 15) [.t 18,.t 19]),
mq 7 20] [5,6,15,16,17,18,19,20])
(sr [
mq 21 7,
tq 22 (.bin .neq (.t 21) (kq 0))] [21]
(.cond (.t 22) (sr [
mq 23 7,
mq 4 23] [7,23]
.ret)
 .skip)))))
(rg [
tq 24 (.bin .add (.t 10) (kq 1)),
mq 10 24] [24]))))
def zkp:CF:=⟨[.tmp 4],
  (sr [
tq 4 (.mv (kq 0))] [4]
(.seq (sr [
mq 8 0,
tq 9 (.len .slc (.t 8)),
tq 10 (.mv (kq 0))] []
(.block 0 (.loop [0,1,8,9,10] zjq)))
(sr [
tq 4 (.mv (kq 0))] []
.ret)))⟩
def znn:CF:=⟨[.tmp 4],
  (sr [
tq 3 (.box zay (.t 1)),
tq 4 (.mv (kq 0))] [1,4]
(sr [
lq 5 3 3,
tq 6 (cl zhc [.t 5]),
mq 4 6] [3,5,6]
.ret))⟩
def zpi:CF:=⟨[.tmp 2],
  (sr [
tq 1 (.box zay (.t 0)),
tq 2 (.mv (kq 0))] [0,2]
(.seq (.reg true [
tq 4 (cl zh7 []),
fa 5 0 1,
ld 6 5,
tq 7 (cl zbd [.t 4,.t 6]),
mq 3 7] [4,5,6,7])
(.seq (.reg true [
mq 8 3,
tq 9 (.un .not (.t 8)),
tq 10 (cl za8 [.t 9,kq 10]),
fa 11 1 1,
ld 12 11,
tq 13 (.bin .neq (.t 12) (.k (.d (.str [61])))),
mq 14 13,
gq 15 14 true (.fieldAddr 1 (.t 1)),
gq 16 14 true (.load none (.t 15)),
gq 17 14 true (.bin .neq (.t 16) (.k (.d (.str [60])))),
tq 18 (.pick (.t 14) (.t 17) (.k (.d (.bool false)))),
mq 19 18,
gq 20 19 true (.fieldAddr 1 (.t 1)),
gq 21 19 true (.load none (.t 20)),
gq 22 19 true (.bin .neq (.t 21) (.k (.d (.str [62])))),
tq 23 (.pick (.t 19) (.t 22) (.k (.d (.bool false)))),
tq 24 (cl za8 [.t 23,kq 13]),
fa 25 2 1,
ld 26 25,
tq 27 (cl zc3 [.t 26,kq 0,kq 999999999]),
tq 28 (.mkList 1 3 [.t 10,.t 24,.t 27]),
tq 29 (cl za3 [.t 28]),
mq 2 29] [1,3,8,9,10,11,12,13,14,15,16,17,18,19,20,21,22,23,24,25,26,27,28,29])
.ret)))⟩
def zkb:C:=
  (sr [
tq 11 (.bin .lss (.t 10) (.t 9))] []
(.seq (.cond (.t 11) .skip
 (.exit 0))
(.seq (.block 1 (sr [
mq 12 10,
tq 13 (.idxAddr 2 (.t 8) (.t 10)),
lq 14 2 13,
tq 6 (.alloc zan [.z (.str []),.z (.bool false)]),
mq 5 12,
⟨none,none,.store 2 (.t 6) (.t 14)⟩] [12,13,14]
(.seq (.reg true [
mq 15 1,
mq 16 0,
mq 17 5,
tq 18 (.slice 2 (.t 16) none (some (.t 17)) none),
lq 19 2 6,
tq 20 (.call false true (.t 15) [.t 18,.t 19]),
mq 7 20] [5,6,15,16,17,18,19,20])
(sr [
mq 21 7,
tq 22 (.bin .neq (.t 21) (kq 0))] [21]
(.cond (.t 22) (sr [
mq 23 7,
mq 4 23] [7,23]
.ret)
 .skip)))))
(rg [
tq 24 (.bin .add (.t 10) (kq 1)),
mq 10 24] [24]))))
def zk2:CF:=⟨[.tmp 4],
  (sr [
tq 4 (.mv (kq 0))] [4]
(.seq (sr [
mq 8 0,
tq 9 (.len .slc (.t 8)),
tq 10 (.mv (kq 0))] []
(.block 0 (.loop [0,1,8,9,10] zkb)))
(sr [
tq 4 (.mv (kq 0))] []
.ret)))⟩
def znh:CF:=⟨[.tmp 4],
  (sr [
tq 3 (.box zan (.t 1)),
tq 4 (.mv (kq 0))] [1,4]
(sr [
mq 6 0,
tq 7 (.mkFunc zce [] [.t 3]),
tq 8 (.call true true (.k (.fn zbg [] [])) [.t 6,.t 7]),
mq 5 8] [0,6,7,8]
(.seq (.reg true [
tq 9 (cl zh7 []),
fa 10 0 3,
ld 11 10,
tq 12 (cl zbd [.t 9,.t 11]),
tq 13 (.un .not (.t 12)),
tq 14 (cl za8 [.t 13,kq 10]),
mq 15 5,
tq 16 (cl za8 [.t 15,kq 9]),
tq 17 (.mkList 1 2 [.t 14,.t 16]),
tq 18 (cl za3 [.t 17]),
mq 4 18] [3,5,9,10,11,12,13,14,15,16,17,18])
.ret)))⟩
def zfn:CF:=⟨[.tmp 4],
  (sr [
tq 4 (.mv (.k (.d (.bool false))))] [4]
(sr [
mq 5 0,
mq 6 1,
tq 7 (.call true true (.k (.fn zbl [] [])) [.t 5,.t 6]),
tq 8 (.bin .geq (.t 7) (kq 0)),
mq 4 8] [0,1,5,6,7,8]
.ret))⟩
def zl7:CF:=⟨[.tmp 3],
  (sr [
tq 2 (.box zan (.t 0)),
tq 3 (.mv (.k (.d (.bool false))))] [0,3]
(sr [
fa 4 0 2,
ld 5 4,
fa 6 0 1,
ld 7 6,
tq 8 (.bin .eql (.t 5) (.t 7)),
mq 3 8] [1,2,4,5,6,7,8]
.ret))⟩
def zs3:C:=
  (sr [
tq 7 (.bin .lss (.t 6) (.t 5))] []
(.seq (.cond (.t 7) .skip
 (.exit 0))
(.seq (.block 1 (sr [
tq 8 (.idxAddr 2 (.t 4) (.t 6)),
lq 9 2 8,
tq 3 (.alloc zh4 [.z (.str []),.z (.nilf)]),
⟨none,none,.store 2 (.t 3) (.t 9)⟩] [8,9]
(rg [
mq 10 1,
fa 11 0 3,
ld 12 11,
tq 13 (.mkList 1 1 [.t 12]),
tq 14 (.append ⟨false,zb3,1,16⟩ (.t 10) (.t 13)),
mq 1 14] [3,10,11,12,13,14])))
(rg [
tq 15 (.bin .add (.t 6) (kq 1)),
mq 6 15] [15]))))
def zyx:CF:=⟨[.tmp 0],
  (sr [
tq 0 (.ownNil ⟨false,zb3,1,16⟩)] [0]
(sr [
tq 1 (.ownNil ⟨false,zb3,1,16⟩)] []
(.seq (sr [
tq 4 (.call false false (.k (.fn zko [] [])) []),
tq 5 (.len .slc (.t 4)),
tq 6 (.mv (kq 0))] []
(.block 0 (.loop [1,4,5,6] zs3)))
(sr [
mq 16 1,
mq 0 16] [1,16]
.ret))))⟩
def ze1:C:=
  (sr [
tq 9 (.bin .lss (.t 8) (.t 7))] []
(.seq (.cond (.t 9) .skip
 (.exit 0))
(.seq (.block 1 (sr [
mq 10 8,
mq 5 10] [10]
(sr [
mq 11 1,
mq 12 0,
mq 13 5,
tq 14 (.idxAddr 18 (.t 12) (.t 13)),
lq 15 18 14,
tq 16 (.call true true (.t 11) [.t 15])] [11,12,13,14,15]
(.cond (.t 16) (sr [
mq 17 5,
mq 4 17] [5,17]
.ret)
 .skip))))
(rg [
tq 18 (.bin .add (.t 8) (kq 1)),
mq 8 18] [18]))))
def zff:CF:=⟨[.tmp 4],
  (sr [
tq 4 (.mv (kq 0))] [4]
(.seq (sr [
mq 6 0,
tq 7 (.len .slc (.t 6)),
tq 8 (.mv (kq 0))] [6]
(.block 0 (.loop [0,1,7,8] ze1)))
(sr [
tq 4 (.mv (kq (-1)))] []
.ret)))⟩
def zup:CF:=⟨[.tmp 2],
  (sr [
tq 2 (.mv (.k (.d (.bool false))))] [2]
(sr [
mq 3 0,
mq 4 0,
tq 5 (.bin .neq (.t 3) (.t 4)),
mq 2 5] [0,3,4,5]
.ret))⟩
def zic:C:=
  (.seq (.seq (.reg true [
mq 18 9,
mq 19 1,
tq 20 (.bin .gtr (.t 18) (.t 19)),
mq 21 20,
gq 22 21 true (.mv (.t 3)),
gq 23 21 true (.mv (.t 0)),
gq 24 21 true (.mv (.t 9)),
gq 25 21 true (.idxAddr 1 (.t 23) (.t 24)),
gq 26 21 true (.load none (.t 25)),
gq 27 21 true (.mv (.t 0)),
gq 28 21 true (.mv (.t 9)),
gq 29 21 true (.bin .sub (.t 28) (kq 1)),
gq 30 21 true (.idxAddr 1 (.t 27) (.t 29)),
gq 31 21 true (.load none (.t 30)),
gq 32 21 true (.call true true (.t 22) [.t 26,.t 31]),
gq 33 21 true (.bin .lss (.t 32) (kq 0)),
tq 34 (.pick (.t 21) (.t 33) (.k (.d (.bool false))))] [18,19,20,21,22,23,24,25,26,27,28,29,30,31,32,33])
(.cond (.t 34) .skip
 (.exit 2)))
(.seq (.block 3 (.reg true [
mq 37 0,
mq 38 9,
mq 39 0,
mq 40 9,
tq 41 (.bin .sub (.t 40) (kq 1)),
mq 42 0,
mq 43 9,
tq 44 (.bin .sub (.t 43) (kq 1)),
tq 45 (.idxAddr 1 (.t 42) (.t 44)),
ld 46 45,
mq 47 0,
mq 48 9,
tq 49 (.idxAddr 1 (.t 47) (.t 48)),
ld 50 49,
tq 51 (.idxAddr 1 (.t 37) (.t 38)),
⟨none,none,.store 1 (.t 51) (.t 46)⟩,
tq 52 (.idxAddr 1 (.t 39) (.t 41)),
⟨none,none,.store 1 (.t 52) (.t 50)⟩] [37,38,39,40,41,42,43,44,45,46,47,48,49,50,51,52]))
(rg [
mq 35 9,
tq 36 (.bin .sub (.t 35) (kq 1)),
mq 9 36] [35,36])))
def zih:C:=
  (.seq (sr [
mq 12 8,
mq 13 2,
tq 14 (.bin .lss (.t 12) (.t 13))] [12,13]
(.cond (.t 14) .skip
 (.exit 0)))
(.seq (.block 1 (sr [
mq 17 8,
mq 9 17] [17]
(.block 2 (.loop [0,1,2,3,8,9] zic))))
(rg [
mq 15 8,
tq 16 (.bin .add (.t 15) (kq 1)),
mq 8 16] [15,16])))
def zi4:CF:=⟨[],
  (sr [
mq 10 1,
tq 11 (.bin .add (.t 10) (kq 1)),
mq 8 11] [10,11]
(.block 0 (.loop [0,1,2,3,8] zih)))⟩
def zwj:CF:=⟨[.tmp 2],
  (sr [
tq 2 (.mv (kq 0))] []
(.seq (sr [
mq 3 0,
tq 4 (.bin .geq (.t 3) (.k (.d (.int .u32 65536))))] [3]
(.cond (.t 4) (sr [
mq 5 0,
tq 6 (.bin .shr (.t 5) (.k (.d (.int .u64 16)))),
mq 0 6] [5,6]
(rg [
tq 2 (.mv (kq 16))] []))
 .skip))
(.seq (sr [
mq 7 0,
tq 8 (.bin .geq (.t 7) (.k (.d (.int .u32 256))))] [7]
(.cond (.t 8) (sr [
mq 9 0,
tq 10 (.bin .shr (.t 9) (.k (.d (.int .u64 8)))),
mq 0 10] [9,10]
(rg [
mq 11 2,
tq 12 (.bin .add (.t 11) (kq 8)),
mq 2 12] [11,12]))
 .skip))
(sr [
mq 13 2,
mq 14 0,
tq 15 (.conv .u8 (.t 14)),
tq 16 (.idxS (.k (.d (.str [0,1,2,2,3,3,3,3,4,4,4,4,4,4,4,4,5,5,5,5,5,5,5,5,5,5,5,5,5,5,5,5,6,6,6,6,6,6,6,6,6,6,6,6,6,6,6,6,6,6,6,6,6,6,6,6,6,6,6,6,6,6,6,6,7,7,7,7,7,7,7,7,7,7,7,7,7,7,7,7,7,7,7,7,7,7,7,7,7,7,7,7,7,7,7,7,7,7,7,7,7,7,7,7,7,7,7,7,7,7,7,7,7,7,7,7,7,7,7,7,7,7,7,7,7,7,7,7,8,8,8,8,8,8,8,8,8,8,8,8,8,8,8,8,8,8,8,8,8,8,8,8,8,8,8,8,8,8,8,8,8,8,8,8,8,8,8,8,8,8,8,8,8,8,8,8,8,8,8,8,8,8,8,8,8,8,8,8,8,8,8,8,8,8,8,8,8,8,8,8,8,8,8,8,8,8,8,8,8,8,8,8,8,8,8,8,8,8,8,8,8,8,8,8,8,8,8,8,8,8,8,8,8,8,8,8,8,8,8,8,8,8,8,8,8,8,8,8,8,8,8,8,8,8,8,8]))) (.t 15)),
tq 17 (.conv .i64 (.t 16)),
tq 18 (.bin .add (.t 13) (.t 17)),
mq 2 18] [0,13,14,15,16,17,18]
.ret))))⟩
def zwe:CF:=⟨[.tmp 2],
  (sr [
tq 2 (.mv (kq 0))] []
(.seq (sr [
mq 3 0,
tq 4 (.bin .geq (.t 3) (.k (.d (.int .u64 4294967296))))] [3]
(.cond (.t 4) (sr [
mq 5 0,
tq 6 (.bin .shr (.t 5) (.k (.d (.int .u64 32)))),
mq 0 6] [5,6]
(rg [
tq 2 (.mv (kq 32))] []))
 .skip))
(.seq (sr [
mq 7 0,
tq 8 (.bin .geq (.t 7) (.k (.d (.int .u64 65536))))] [7]
(.cond (.t 8) (sr [
mq 9 0,
tq 10 (.bin .shr (.t 9) (.k (.d (.int .u64 16)))),
mq 0 10] [9,10]
(rg [
mq 11 2,
tq 12 (.bin .add (.t 11) (kq 16)),
mq 2 12] [11,12]))
 .skip))
(.seq (sr [
mq 13 0,
tq 14 (.bin .geq (.t 13) (.k (.d (.int .u64 256))))] [13]
(.cond (.t 14) (sr [
mq 15 0,
tq 16 (.bin .shr (.t 15) (.k (.d (.int .u64 8)))),
mq 0 16] [15,16]
(rg [
mq 17 2,
tq 18 (.bin .add (.t 17) (kq 8)),
mq 2 18] [17,18]))
 .skip))
(sr [
mq 19 2,
mq 20 0,
tq 21 (.conv .u8 (.t 20)),
tq 22 (.idxS (.k (.d (.str [0,1,2,2,3,3,3,3,4,4,4,4,4,4,4,4,5,5,5,5,5,5,5,5,5,5,5,5,5,5,5,5,6,6,6,6,6,6,6,6,6,6,6,6,6,6,6,6,6,6,6,6,6,6,6,6,6,6,6,6,6,6,6,6,7,7,7,7,7,7,7,7,7,7,7,7,7,7,7,7,7,7,7,7,7,7,7,7,7,7,7,7,7,7,7,7,7,7,7,7,7,7,7,7,7,7,7,7,7,7,7,7,7,7,7,7,7,7,7,7,7,7,7,7,7,7,7,7,8,8,8,8,8,8,8,8,8,8,8,8,8,8,8,8,8,8,8,8,8,8,8,8,8,8,8,8,8,8,8,8,8,8,8,8,8,8,8,8,8,8,8,8,8,8,8,8,8,8,8,8,8,8,8,8,8,8,8,8,8,8,8,8,8,8,8,8,8,8,8,8,8,8,8,8,8,8,8,8,8,8,8,8,8,8,8,8,8,8,8,8,8,8,8,8,8,8,8,8,8,8,8,8,8,8,8,8,8,8,8,8,8,8,8,8,8,8,8,8,8,8,8,8,8,8,8,8]))) (.t 21)),
tq 23 (.conv .i64 (.t 22)),
tq 24 (.bin .add (.t 19) (.t 23)),
mq 2 24] [0,19,20,21,22,23,24]
.ret)))))⟩
def zoc:CF:=⟨[.tmp 4],
  (sr [
tq 2 (.box zab (.t 0)),
tq 3 (.box zam (.t 1)),
tq 4 (.mv (.k (.d (.nilf))))] [0,1,4]
(sr [
tq 5 (.mkFunc zby [] [.t 3,.t 2]),
mq 4 5] [2,3,5]
.ret))⟩
def zz6:CF:=⟨[.tmp 2],
  (sr [
tq 2 (.mv (.k (.d (.bool false))))] [2]
(sr [
mq 3 0,
mq 4 0,
tq 5 (.bin .neq (.t 3) (.t 4)),
mq 2 5] [0,3,4,5]
.ret))⟩
def zqu:C:=
  (sr [
tq 21 (.nextS (.t 20)),
xq 22 21 0] []
(.seq (.cond (.t 22) .skip
 (.exit 0))
(.block 1 (sr [
xq 23 21 2,
mq 4 23] [21,23]
(sr [
mq 24 4,
tq 25 (.bin .lss (.t 24) (.k (.d (.int .i32 48)))),
mq 26 25,
gq 27 26 false (.mv (.t 4)),
gq 28 26 false (.bin .gtr (.t 27) (.k (.d (.int .i32 57)))),
tq 29 (.pick (.t 26) (.k (.d (.bool true))) (.t 28))] [4,24,25,26,27,28]
(.cond (.t 29) (sr [
tq 2 (.mv (.k (.d (.bool false))))] []
.ret)
 .skip))))))
def zvo:CF:=⟨[.tmp 2],
  (sr [
tq 2 (.mv (.k (.d (.bool false))))] [2]
(.seq (sr [
mq 5 0,
tq 6 (.len .str (.t 5)),
tq 7 (.bin .neq (.t 6) (kq 5)),
mq 8 7,
gq 9 8 false (.mv (.t 0)),
gq 10 8 false (.idxS (.t 9) (kq 0)),
gq 11 8 false (.bin .neq (.t 10) (.k (.d (.int .u8 83)))),
gq 12 8 false (.mv (.t 11)),
gq 13 12 true (.mv (.t 0)),
gq 14 12 true (.idxS (.t 13) (kq 0)),
gq 15 12 true (.bin .neq (.t 14) (.k (.d (.int .u8 87)))),
gq 16 8 false (.pick (.t 12) (.t 15) (.k (.d (.bool false)))),
tq 17 (.pick (.t 8) (.k (.d (.bool true))) (.t 16))] [5,6,7,8,9,10,11,12,13,14,15,16]
(.cond (.t 17) (sr [
tq 2 (.mv (.k (.d (.bool false))))] []
.ret)
 .skip))
(.seq (sr [
mq 18 0,
tq 19 (.sliceS (.t 18) (some (kq 1)) none),
tq 20 (.rangeS (.t 19))] [0,18,19]
(.block 0 (.loop [20] zqu)))
(sr [
tq 2 (.mv (.k (.d (.bool true))))] []
.ret))))⟩
def z3y:CF:=⟨[.cell 4 (some 2)],
  (sr [
tq 2 (.box zah (.t 0)),
tq 3 (.box zbt (.t 1)),
tq 4 (.alloc zh3 [.z (.nilf),.z (.nilf)])] [0,1]
(sr [
tq 5 (.mkFunc zbc [] [.t 2]),
tq 6 (.mkFunc zbb [] [.t 2,.t 3]),
tq 7 (.build [.z (.nilf),.z (.nilf)] [(0,1,.t 5),(1,1,.t 6)]),
⟨none,none,.store 2 (.t 4) (.t 7)⟩] [2,3,5,6,7]
.ret))⟩
def zvb:CF:=⟨[.tmp 2],
  (sr [
tq 2 (.mv (.k (.d (.nilp))))] [2]
(sr [
mq 3 0,
tq 4 (.nilCheck (.t 3)),
fa 5 0 4,
mq 2 5] [0,3,4,5]
.ret))⟩
def zt0:CF:=⟨[.tmp 2],
  (sr [
tq 2 (.mv (.k (.d (.bool false))))] [2]
(sr [
tq 3 (.call false false (.k (.fn zev [] [])) []),
mq 4 0,
tq 5 (.lookup .str (.str []) false (.t 3) (.t 4)),
tq 6 (.bin .neq (.t 5) (.k (.d (.str [])))),
mq 2 6] [0,3,4,5,6]
.ret))⟩
def ztj:CF:=⟨[.tmp 2],
  (sr [
tq 2 (.mv (.k (.d (.nilp))))] [2]
(sr [
mq 3 0,
tq 4 (.nilCheck (.t 3)),
fa 5 1 4,
fa 6 1 5,
mq 2 6] [0,3,4,5,6]
.ret))⟩
def zsz:CF:=⟨[.tmp 2],
  (sr [
tq 2 (.mv (.k (.d (.nilp))))] [2]
(sr [
mq 3 0,
tq 4 (.nilCheck (.t 3)),
fa 5 1 4,
fa 6 0 5,
mq 2 6] [0,3,4,5,6]
.ret))⟩
def zuv:CF:=⟨[.tmp 2],
  (sr [
tq 2 (.mv (.k (.d (.nilp))))] [2]
(sr [
mq 3 0,
tq 4 (.nilCheck (.t 3)),
fa 5 1 4,
fa 6 2 5,
mq 2 6] [0,3,4,5,6]
.ret))⟩
def ztl:CF:=⟨[.tmp 2],
  (sr [
tq 2 (.mv (.k (.d (.nilp))))] [2]
(sr [
mq 3 0,
tq 4 (.nilCheck (.t 3)),
fa 5 1 4,
fa 6 4 5,
mq 2 6] [0,3,4,5,6]
.ret))⟩
def zyf:CF:=⟨[.cell 4 (some 2)],
  (sr [
tq 2 (.box zaq (.t 0)),
tq 3 (.box zam (.t 1)),
tq 4 (.alloc zh3 [.z (.nilf),.z (.nilf)])] [0,1]
(sr [
tq 5 (.mkFunc za4 [] [.t 2,.t 3]),
tq 6 (.mkFunc za5 [] [.t 3,.t 2]),
tq 7 (.build [.z (.nilf),.z (.nilf)] [(0,1,.t 5),(1,1,.t 6)]),
⟨none,none,.store 2 (.t 4) (.t 7)⟩] [2,3,5,6,7]
.ret))⟩
def zt8:CF:=⟨[.tmp 2],
  (sr [
tq 2 (.mv (.k (.d (.nilp))))] [2]
(sr [
mq 3 0,
tq 4 (.nilCheck (.t 3)),
fa 5 1 4,
fa 6 6 5,
fa 7 0 6,
mq 2 7] [0,3,4,5,6,7]
.ret))⟩
def zuj:CF:=⟨[.tmp 2],
  (sr [
tq 2 (.mv (.k (.d (.nilp))))] [2]
(sr [
mq 3 0,
tq 4 (.nilCheck (.t 3)),
fa 5 1 4,
fa 6 6 5,
fa 7 1 6,
mq 2 7] [0,3,4,5,6,7]
.ret))⟩
def zuo:CF:=⟨[.tmp 2],
  (sr [
tq 1 (.box zag (.t 0)),
tq 2 (.mv (.k (.d (.str []))))] [0,2]
(sr [
fa 6 1 1,
fa 7 6 6,
fa 8 2 7,
ld 9 8,
tq 10 (cl zfz [.t 9]),
mq 5 10,
xq 11 5 0,
xq 12 5 1,
mq 3 11,
mq 4 12] [1,4,5,6,7,8,9,10,11,12]
(sr [
mq 13 3,
mq 2 13] [3,13]
.ret)))⟩
def zrc:CF:=⟨[.tmp 2,.tmp 3],
  (sr [
tq 2 (.mv (.k (.d (.str [])))),
tq 3 (.mv (kq 0))] [2,3]
(.seq (sr [
mq 5 0,
tq 6 (cl zdv [.t 5,kq 1,kq 127]),
mq 4 6] [5,6]
(sr [
mq 7 4,
tq 8 (.bin .neq (.t 7) (kq 0))] [7]
(.cond (.t 8) (sr [
mq 9 4,
tq 2 (.mv (.k (.d (.str [])))),
mq 3 9] [4,9]
.ret)
 .skip)))
(sr [
mq 10 0,
tq 11 (cl zf0 [.t 10]),
mq 2 11,
tq 3 (.mv (kq 0))] [0,10,11]
.ret)))⟩
def ztg:CF:=⟨[.tmp 4],
  (sr [
tq 4 (.mv (.k (.d (.bool false))))] [4]
(sr [
mq 8 1,
tq 9 (cl zdj [.t 8]),
mq 7 9,
xq 10 7 0,
xq 11 7 1,
mq 5 10,
mq 6 11] [1,7,8,9,10,11]
(sr [
mq 12 0,
mq 13 5,
tq 14 (.nilCheck (.t 12)),
fa 15 1 14,
fa 16 6 15,
fa 17 2 16,
⟨none,none,.store 1 (.t 17) (.t 13)⟩] [0,5,12,13,14,15,16,17]
(sr [
mq 18 6,
tq 19 (.bin .eql (.t 18) (kq 0)),
mq 4 19] [6,18,19]
.ret))))⟩
def zo7:C:=
  (sr [
tq 10 (.bin .lss (.t 9) (.t 8))] []
(.seq (.cond (.t 10) .skip
 (.exit 0))
(.seq (.block 1 (sr [
mq 11 9,
mq 5 11] [11]
(sr [
mq 12 0,
mq 13 5,
tq 14 (.idxS (.t 12) (.t 13)),
tq 15 (.bin .neq (.t 14) (.k (.d (.int .u8 48))))] [12,13,14]
(.cond (.t 15) (rg [
mq 16 4,
mq 17 5,
tq 18 (.bin .shl (kq 1) (.t 17)),
tq 19 (.bin .or (.t 16) (.t 18)),
mq 4 19] [5,16,17,18,19])
 .skip))))
(rg [
tq 20 (.bin .add (.t 9) (kq 1)),
mq 9 20] [20]))))
def zqy:CF:=⟨[.tmp 2,.tmp 3],
  (sr [
tq 2 (.mv (kq 0)),
tq 3 (.mv (kq 0))] [2,3]
(sr [
tq 4 (.mv (kq 0))] []
(.seq (sr [
mq 6 0,
tq 7 (.len .str (.t 6)),
tq 8 (.minmax false [kq 7,.t 7]),
tq 9 (.mv (kq 0))] [6,7]
(.block 0 (.loop [0,4,8,9] zo7)))
(.seq (sr [
mq 21 4,
tq 22 (.bin .eql (.t 21) (kq 0)),
mq 23 22,
gq 24 23 false (.mv (.t 4)),
gq 25 23 false (cl zf0 [.t 24]),
gq 26 23 false (.mv (.t 0)),
gq 27 23 false (.bin .neq (.t 25) (.t 26)),
tq 28 (.pick (.t 23) (.k (.d (.bool true))) (.t 27))] [0,21,22,23,24,25,26,27]
(.cond (.t 28) (sr [
tq 2 (.mv (kq 0)),
tq 3 (.mv (kq 25))] []
.ret)
 .skip))
(sr [
mq 29 4,
mq 2 29,
tq 3 (.mv (kq 0))] [4,29]
.ret)))))⟩
def zsa:CF:=⟨[.tmp 2],
  (sr [
tq 1 (.box zag (.t 0)),
tq 2 (.mv (.k (.d (.str []))))] [0,2]
(sr [
fa 6 1 1,
fa 7 9 6,
ld 8 7,
tq 9 (cl zfm [.t 8]),
mq 5 9,
xq 10 5 0,
xq 11 5 1,
mq 3 10,
mq 4 11] [1,4,5,6,7,8,9,10,11]
(sr [
mq 12 3,
mq 2 12] [3,12]
.ret)))⟩
def zp1:CF:=⟨[.tmp 2,.tmp 3],
  (sr [
tq 2 (.mv (.k (.d (.str [])))),
tq 3 (.mv (kq 0))] [2,3]
(.seq (sr [
mq 5 0,
tq 6 (cl zdl [.t 5,kq 0,kq 1439]),
mq 4 6] [5,6]
(sr [
mq 7 4,
tq 8 (.bin .neq (.t 7) (kq 0))] [7]
(.cond (.t 8) (sr [
mq 9 4,
tq 2 (.mv (.k (.d (.str [])))),
mq 3 9] [4,9]
.ret)
 .skip)))
(sr [
mq 10 0,
tq 11 (.bin .quo (.t 10) (kq 60)),
tq 12 (cl zco [.t 11,kq 2]),
mq 13 0,
tq 14 (.bin .rem (.t 13) (kq 60)),
tq 15 (cl zco [.t 14,kq 2]),
tq 16 (.bin .add (.t 12) (.t 15)),
mq 2 16,
tq 3 (.mv (kq 0))] [0,10,11,12,13,14,15,16]
.ret)))⟩
def zsu:CF:=⟨[.tmp 4],
  (sr [
tq 4 (.mv (.k (.d (.bool false))))] [4]
(sr [
mq 8 1,
tq 9 (cl zc4 [.t 8]),
mq 7 9,
xq 10 7 0,
xq 11 7 1,
mq 5 10,
mq 6 11] [1,7,8,9,10,11]
(sr [
mq 12 0,
mq 13 5,
tq 14 (.nilCheck (.t 12)),
fa 15 1 14,
fa 16 9 15,
⟨none,none,.store 1 (.t 16) (.t 13)⟩] [0,5,12,13,14,15,16]
(sr [
mq 17 6,
tq 18 (.bin .eql (.t 17) (kq 0)),
mq 4 18] [6,17,18]
.ret))))⟩
def zpy:CF:=⟨[.tmp 2,.tmp 3],
  (sr [
tq 2 (.mv (kq 0)),
tq 3 (.mv (kq 0))] [2,3]
(sr [
mq 7 0,
tq 8 (cl zbi [.t 7,kq 4]),
mq 6 8,
xq 9 6 0,
xq 10 6 1,
mq 4 9,
mq 5 10] [0,6,7,8,9,10]
(.seq (sr [
mq 11 5,
tq 12 (.un .not (.t 11)),
mq 13 12,
gq 14 13 false (.mv (.t 4)),
gq 15 13 false (.bin .quo (.t 14) (kq 100)),
gq 16 13 false (.bin .gtr (.t 15) (kq 23)),
tq 17 (.pick (.t 13) (.k (.d (.bool true))) (.t 16)),
mq 18 17,
gq 19 18 false (.mv (.t 4)),
gq 20 18 false (.bin .rem (.t 19) (kq 100)),
gq 21 18 false (.bin .gtr (.t 20) (kq 59)),
tq 22 (.pick (.t 18) (.k (.d (.bool true))) (.t 21))] [5,11,12,13,14,15,16,17,18,19,20,21]
(.cond (.t 22) (sr [
tq 2 (.mv (kq 0)),
tq 3 (.mv (kq 25))] []
.ret)
 .skip))
(sr [
mq 23 4,
tq 24 (.bin .quo (.t 23) (kq 100)),
tq 25 (.bin .mul (.t 24) (kq 60)),
mq 26 4,
tq 27 (.bin .rem (.t 26) (kq 100)),
tq 28 (.bin .add (.t 25) (.t 27)),
mq 2 28,
tq 3 (.mv (kq 0))] [4,23,24,25,26,27,28]
.ret))))⟩
def zr8:CF:=⟨[.tmp 2],
  (sr [
tq 2 (.mv (.k (.d (.nilp))))] [2]
(sr [
mq 3 0,
tq 4 (.nilCheck (.t 3)),
fa 5 1 4,
fa 6 10 5,
mq 2 6] [0,3,4,5,6]
.ret))⟩
def zr5:CF:=⟨[.tmp 2],
  (sr [
tq 2 (.mv (.k (.d (.nilp))))] [2]
(sr [
mq 3 0,
tq 4 (.nilCheck (.t 3)),
fa 5 1 4,
fa 6 11 5,
mq 2 6] [0,3,4,5,6]
.ret))⟩
def zr6:CF:=⟨[.tmp 2],
  (sr [
tq 2 (.mv (.k (.d (.nilp))))] [2]
(sr [
mq 3 0,
tq 4 (.nilCheck (.t 3)),
fa 5 1 4,
fa 6 12 5,
mq 2 6] [0,3,4,5,6]
.ret))⟩
def zyo:CF:=⟨[.cell 2 (some 2)],
  (sr [
tq 1 (.box zah (.t 0)),
tq 2 (.alloc zh3 [.z (.nilf),.z (.nilf)])] [0]
(sr [
tq 3 (.mkFunc zb7 [] [.t 1]),
tq 4 (.mkFunc zb9 [] [.t 1]),
tq 5 (.build [.z (.nilf),.z (.nilf)] [(0,1,.t 3),(1,1,.t 4)]),
⟨none,none,.store 2 (.t 2) (.t 5)⟩] [1,3,4,5]
.ret))⟩
def zrx:CF:=⟨[.tmp 2],
  (sr [
tq 2 (.mv (.k (.d (.nilp))))] [2]
(sr [
mq 3 0,
tq 4 (.nilCheck (.t 3)),
fa 5 1 4,
fa 6 3 5,
mq 2 6] [0,3,4,5,6]
.ret))⟩
def zr9:CF:=⟨[.tmp 2],
  (sr [
tq 2 (.mv (.k (.d (.nilp))))] [2]
(sr [
mq 3 0,
tq 4 (.nilCheck (.t 3)),
fa 5 1 4,
fa 6 5 5,
mq 2 6] [0,3,4,5,6]
.ret))⟩
def zfh:C:=
  (sr [
tq 9 (.bin .lss (.t 8) (.t 7))] []
(.seq (.cond (.t 9) .skip
 (.exit 0))
(.seq (.block 1 (sr [
mq 10 8,
mq 5 10] [10]
(sr [
mq 11 1,
mq 12 0,
mq 13 5,
tq 14 (.idxAddr 15 (.t 12) (.t 13)),
lq 15 15 14,
tq 16 (.call true true (.t 11) [.t 15])] [11,12,13,14,15]
(.cond (.t 16) (sr [
mq 17 5,
mq 4 17] [5,17]
.ret)
 .skip))))
(rg [
tq 18 (.bin .add (.t 8) (kq 1)),
mq 8 18] [18]))))
def zft:CF:=⟨[.tmp 4],
  (sr [
tq 4 (.mv (kq 0))] [4]
(.seq (sr [
mq 6 0,
tq 7 (.len .slc (.t 6)),
tq 8 (.mv (kq 0))] [6]
(.block 0 (.loop [0,1,7,8] zfh)))
(sr [
tq 4 (.mv (kq (-1)))] []
.ret)))⟩
def zyq:CF:=⟨[.tmp 3],
  (sr [
tq 2 (.box zac (.t 0)),
tq 3 (.mv (.k (.d (.bool false))))] [0,3]
(sr [
fa 4 0 2,
fa 5 0 4,
ld 6 5,
ld 7 1,
tq 8 (.bin .eql (.t 6) (.t 7)),
mq 3 8] [1,2,4,5,6,7,8]
.ret))⟩
def ydj:CF:=⟨[.tmp 4],
  (sr [
tq 2 (.box zcx (.t 0)),
tq 4 (.mv (.k (.d (.bool false))))] [0,4]
(.seq (.reg true [
mq 5 1,
fa 6 0 2,
ld 7 6,
tq 8 (.bin .geq (.t 5) (.t 7)),
mq 9 8,
gq 10 9 true (.mv (.t 1)),
gq 11 9 true (.fieldAddr 1 (.t 2)),
gq 12 9 true (.load none (.t 11)),
gq 13 9 true (.bin .leq (.t 10) (.t 12)),
tq 14 (.pick (.t 9) (.t 13) (.k (.d (.bool false)))),
mq 15 14,
gq 16 15 true (.fieldAddr 2 (.t 2)),
gq 17 15 true (.load none (.t 16)),
gq 18 15 true (.mv (.t 1)),
gq 19 15 true (cl zl1 [.t 18]),
gq 20 15 true (cl zmy [.t 17,.t 19]),
tq 21 (.pick (.t 15) (.t 20) (.k (.d (.bool false)))),
mq 4 21] [1,2,5,6,7,8,9,10,11,12,13,14,15,16,17,18,19,20,21])
.ret))⟩
def zy0:CF:=⟨[.tmp 2],
  (sr [
tq 2 (.mv (kq 0))] [2]
(sr [
mq 3 0,
tq 4 (cl zbm [.t 3,kq 0,kq 99999]),
mq 2 4] [0,3,4]
.ret))⟩
def zfw:C:=
  (sr [
tq 9 (.bin .lss (.t 8) (.t 7))] []
(.seq (.cond (.t 9) .skip
 (.exit 0))
(.seq (.block 1 (sr [
mq 10 8,
mq 5 10] [10]
(sr [
mq 11 1,
mq 12 0,
mq 13 5,
tq 14 (.idxAddr 2 (.t 12) (.t 13)),
lq 15 2 14,
tq 16 (.call true true (.t 11) [.t 15])] [11,12,13,14,15]
(.cond (.t 16) (sr [
mq 17 5,
mq 4 17] [5,17]
.ret)
 .skip))))
(rg [
tq 18 (.bin .add (.t 8) (kq 1)),
mq 8 18] [18]))))
def zga:CF:=⟨[.tmp 4],
  (sr [
tq 4 (.mv (kq 0))] [4]
(.seq (sr [
mq 6 0,
tq 7 (.len .slc (.t 6)),
tq 8 (.mv (kq 0))] [6]
(.block 0 (.loop [0,1,7,8] zfw)))
(sr [
tq 4 (.mv (kq (-1)))] []
.ret)))⟩
def zlk:C:=
  (sr [
tq 19 (.bin .lss (.t 18) (.t 17))] []
(.seq (.cond (.t 19) .skip
 (.exit 0))
(.seq (.block 1 (sr [
tq 20 (.idxAddr 2 (.t 16) (.t 18)),
lq 21 2 20,
tq 5 (.alloc zan [.z (.str []),.z (.bool false)]),
⟨none,none,.store 2 (.t 5) (.t 21)⟩] [20,21]
(.seq (.reg true [
mq 22 0,
lq 23 2 5,
tq 24 (.call false false (.k (.fn zfj [] [])) []),
fa 25 0 5,
ld 26 25,
tq 27 (.lookup .str (.agg [.str [],.nilf]) false (.t 24) (.t 26)),
tq 28 (.call true true (.t 22) [.t 23,.t 27]),
tq 29 (.un .not (.t 28))] [5,22,23,24,25,26,27,28])
(.cond (.t 29) .ret
 .skip))))
(rg [
tq 30 (.bin .add (.t 18) (kq 1)),
mq 18 30] [30]))))
def zmz:CF:=⟨[],
  (.seq (sr [
ld 6 1,
fa 7 0 2,
ld 8 7,
tq 9 (.len .slc (.t 8)),
tq 10 (.bin .geq (.t 6) (.t 9))] [6,7,8,9]
(.cond (.t 10) .ret
 .skip))
(sr [
fa 11 0 2,
ld 12 11,
ld 13 1,
tq 14 (.idxAddr 3 (.t 12) (.t 13)),
fa 15 2 14,
ld 16 15,
tq 17 (.len .slc (.t 16)),
tq 18 (.mv (kq 0))] [1,2,11,12,13,14,15]
(.block 0 (.loop [0,16,17,18] zlk))))⟩
def zyb:CF:=⟨[.tmp 3],
  (sr [
tq 2 (.box zag (.t 0)),
tq 3 (.mv (.k (.d (.str []))))] [0,3]
(sr [
ld 4 1,
tq 5 (.call true false (.t 4) [.t 2]),
tq 6 (.nilCheck (.t 5)),
ld 7 6,
mq 3 7] [1,2,4,5,6,7]
.ret))⟩
def zyh:CF:=⟨[.tmp 6],
  (sr [
tq 6 (.mv (.k (.d (.bool false))))] [6]
(sr [
ld 7 2,
mq 8 0,
tq 9 (.call true false (.t 7) [.t 8]),
mq 10 1,
tq 11 (.nilCheck (.t 9)),
⟨none,none,.store 1 (.t 11) (.t 10)⟩] [0,2,7,8,9,10,11]
(sr [
ld 12 3,
mq 13 1,
tq 14 (.call false true (.t 12) [.t 13]),
mq 6 14] [1,3,12,13,14]
.ret)))⟩
def zu5:CF:=⟨[.tmp 4],
  (sr [
tq 3 (.box zag (.t 0)),
tq 4 (.mv (.k (.d (.str []))))] [0,4]
(.seq (.reg true [
ld 5 1,
tq 6 (.callR false (.t 5) [.t 3] [2]),
tq 7 (.nilCheck (.t 6)),
ld 8 7,
ld 9 2,
tq 10 (cl zco [.t 8,.t 9]),
mq 4 10] [1,2,3,5,6,7,8,9,10])
.ret))⟩
def ztu:CF:=⟨[.tmp 6],
  (sr [
tq 6 (.mv (.k (.d (.bool false))))] [6]
(sr [
mq 10 1,
ld 11 2,
tq 12 (cl zbi [.t 10,.t 11]),
mq 9 12,
xq 13 9 0,
xq 14 9 1,
mq 7 13,
mq 8 14] [1,2,9,10,11,12,13,14]
(sr [
ld 15 3,
mq 16 0,
tq 17 (.call true false (.t 15) [.t 16]),
mq 18 7,
tq 19 (.nilCheck (.t 17)),
⟨none,none,.store 1 (.t 19) (.t 18)⟩] [0,3,7,15,16,17,18,19]
(sr [
mq 20 8,
mq 6 20] [8,20]
.ret))))⟩
def zov:C:=
  (sr [
tq 6 (.bin .lss (.t 5) (kq 7))] []
(.seq (.cond (.t 6) .skip
 (.exit 0))
(.seq (.block 1 (sr [
mq 7 5,
mq 4 7] [7]
(.seq (sr [
mq 8 0,
mq 9 4,
tq 10 (cl zhj [.t 8,.t 9])] [8,9]
(.cond (.t 10) (sr [
mq 11 4,
tq 12 (.bin .add (.t 11) (kq 1)),
tq 13 (cl n_strconv_Itoa [.t 12]),
tq 14 (.call true false (.k (.fn zak [] [])) [.t 3,.t 13])] [4,11,12,13,14]
(.exit 1))
 .skip))
(rg [
tq 15 (.call true false (.k (.fn zdb [] [])) [.t 3,.k (.d (.int .u8 48))])] [15]))))
(rg [
tq 16 (.bin .add (.t 5) (kq 1)),
mq 5 16] [16]))))
def zqw:CF:=⟨[.tmp 2],
  (sr [
tq 2 (.mv (.k (.d (.str []))))] [2]
(sr [
tq 3 (.alloc ty_strings_Builder [.z .nilp,.own ⟨false,ty_uint8,1,1⟩])] []
(.seq (sr [
tq 5 (.mv (kq 0))] []
(.block 0 (.loop [0,3,5] zov)))
(sr [
tq 17 (.call true true (.k (.fn n_strings_Builder_String [] [])) [.t 3]),
mq 2 17] [3,17]
.ret))))⟩
def zum:CF:=⟨[.tmp 3],
  (sr [
tq 2 (.box zag (.t 0)),
tq 3 (.mv (.k (.d (.str []))))] [0,3]
(.seq (sr [
ld 5 1,
tq 6 (.call true false (.t 5) [.t 2]),
tq 7 (.nilCheck (.t 6)),
ld 8 7,
mq 4 8] [1,2,5,6,7,8]
(sr [
mq 9 4,
tq 10 (.bin .neq (.t 9) (.k (.d (.str []))))] [9]
(.cond (.t 10) (sr [
mq 11 4,
mq 3 11] [4,11]
.ret)
 .skip)))
(sr [
tq 3 (.mv (.k (.d (.str [45]))))] []
.ret)))⟩
def zs5:CF:=⟨[.tmp 5],
  (sr [
tq 5 (.mv (.k (.d (.bool false))))] [5]
(.seq (sr [
mq 6 1,
tq 7 (.bin .eql (.t 6) (.k (.d (.str [45]))))] [6]
(.cond (.t 7) (sr [
tq 5 (.mv (.k (.d (.bool true))))] []
.ret)
 .skip))
(sr [
ld 8 2,
mq 9 0,
tq 10 (.call true false (.t 8) [.t 9]),
mq 11 1,
tq 12 (.nilCheck (.t 10)),
⟨none,none,.store 1 (.t 12) (.t 11)⟩] [0,2,8,9,10,11,12]
(sr [
mq 13 1,
tq 14 (cl zao [.t 13]),
mq 5 14] [1,13,14]
.ret))))⟩
def zyc:C:=
  (.seq (sr [
mq 6 5,
mq 7 1,
tq 8 (.bin .lss (.t 6) (.t 7))] [6,7]
(.cond (.t 8) .skip
 (.exit 0)))
(.seq (.block 1 (rg [
mq 11 0,
tq 12 (.bin .quo (.t 11) (kq 2)),
mq 0 12] [11,12]))
(rg [
mq 9 5,
tq 10 (.bin .add (.t 9) (kq 1)),
mq 5 10] [9,10])))
def z28:CF:=⟨[.tmp 4],
  (sr [
tq 4 (.mv (.k (.d (.bool false))))] [4]
(.seq (sr [
tq 5 (.mv (kq 0))] []
(.block 0 (.loop [0,1,5] zyc)))
(sr [
mq 13 0,
tq 14 (.bin .rem (.t 13) (kq 2)),
tq 15 (.bin .eql (.t 14) (kq 1)),
mq 4 15] [0,13,14,15]
.ret)))⟩
def z1s:CF:=⟨[.tmp 2],
  (sr [
tq 2 (.mv (kq 0))] [2]
(sr [
mq 3 0,
tq 4 (.bin .add (.t 3) (kq 5)),
tq 5 (.bin .rem (.t 4) (kq 7)),
mq 2 5] [0,3,4,5]
.ret))⟩
def zle:CF:=⟨[.tmp 4],
  (sr [
tq 4 (.mv (.k (.d (.nili))))] [4]
(sr [
mq 5 0,
tq 6 (.call true true (.k (.fn n_strings_Builder_copyCheck [] [])) [.t 5])] [5,6]
(sr [
mq 7 0,
mq 8 0,
tq 9 (.nilCheck (.t 8)),
fa 10 1 9,
ld 11 10,
mq 12 1,
tq 13 (.mkList 1 1 [.t 12]),
tq 14 (.append ⟨false,ty_uint8,1,1⟩ (.t 11) (.t 13)),
tq 15 (.nilCheck (.t 7)),
fa 16 1 15,
⟨none,none,.store 1 (.t 16) (.t 14)⟩] [0,1,7,8,9,10,11,12,13,14,15,16]
(sr [
tq 4 (.mv (.k (.d (.nili))))] []
.ret))))⟩
def codes:List (Nat×CF):=[
  (zig,zru),
  (zi3,z0l),
  (zh8,zx3),
  (zh6,zx6),
  (zd5,ztb),
  (zh1,zyk),
  (zdy,z0m),
  (zf4,zw9),
  (zi9,z2k),
  (zi8,z0g),
  (zho,zq1),
  (zi0,z0n),
  (zhi,zvw),
  (zed,zyy),
  (ziz,z17),
  (zol,z7u),
  (zif,zso),
  (zhr,zrd),
  (zij,zss),
  (zln,z2b),
  (zi1,zs7),
  (zgl,zx5),
  (zeq,znw),
  (za1,ztz),
  (zak,zkj),
  (zie,zry),
  (zhx,zqs),
  (zej,zn6),
  (zep,znz),
  (zhl,zwl),
  (zea,zne),
  (zgt,zot),
  (zgs,zo3),
  (zi7,zua),
  (za3,zx7),
  (za8,z2u),
  (zgj,znv),
  (zm4,z3l),
  (zok,z6l),
  (zom,z6k),
  (zjt,zvt),
  (zi2,zvk),
  (zfj,zym),
  (zfr,zpm),
  (zhk,zvx),
  (zd1,zke),
  (zdm,zya),
  (zdh,zn2),
  (zex,zsi),
  (zbd,zjh),
  (zbv,zoy),
  (zer,zn5),
  (ze7,zow),
  (zid,zse),
  (zgo,zo6),
  (zll,z1d),
  (zdg,ztx),
  (zbp,zl6),
  (zcb,zme),
  (zfg,zl8),
  (zdf,zlg),
  (zcd,zl3),
  (zcr,zl5),
  (zge,zn1),
  (zdp,zo8),
  (ze6,zou),
  (zco,z4a),
  (zii,zsr),
  (zhf,z25),
  (zcf,z3p),
  (zdr,zsq),
  (zbj,z0q),
  (za7,z35),
  (zbi,zyl),
  (zei,zq0),
  (zda,z3f),
  (ziu,z2e),
  (zj8,z86),
  (ziy,zue),
  (zfl,z7i),
  (zbm,zve),
  (zhv,zq2),
  (zko,zyu),
  (ze8,zo1),
  (zc3,zwg),
  (zfa,zpa),
  (zf9,zm8),
  (zjr,zvz),
  (zgi,zst),
  (zar,zeu),
  (zb8,zuf),
  (zgq,zo2),
  (zdn,zjk),
  (zee,zkn),
  (zc5,zk5),
  (zhe,z2d),
  (zdd,zlx),
  (zh0,z3n),
  (zgv,zt6),
  (zd0,zkc),
  (zc2,znk),
  (za9,zew),
  (zcc,zmf),
  (zf5,zws),
  (zht,zq9),
  (zl0,z1q),
  (zb5,zlp),
  (zlj,z1v),
  (zfx,zm3),
  (zj1,zv5),
  (zh5,zx9),
  (zb1,z32),
  (zgg,zr0),
  (zgh,zrp),
  (zgm,zyv),
  (zdu,zwi),
  (zib,zr7),
  (ze3,zsc),
  (zlo,z0h),
  (zev,zv2),
  (zc9,z36),
  (zk8,z62),
  (zjy,ydq),
  (zmv,z3b),
  (zfu,z3x),
  (zj0,zwx),
  (zhg,z0f),
  (zk7,z56),
  (zh9,zyw),
  (zik,zsv),
  (zg7,zte),
  (zg1,zuy),
  (zg2,zuz),
  (zg4,zut),
  (zgz,zul),
  (zgu,zs6),
  (zgy,zsx),
  (zg6,zug),
  (zg5,zui),
  (zgc,zrz),
  (zf7,z10),
  (zgw,zt2),
  (zdk,zx4),
  (zdl,zyt),
  (zeh,zy1),
  (zgb,zrs),
  (zhd,z03),
  (zdv,zwz),
  (zez,zsj),
  (zhj,zw5),
  (zjd,zt1),
  (zaw,zfi),
  (zao,zwa),
  (zeg,zkp),
  (zcz,znn),
  (zhc,zpi),
  (zeo,zk2),
  (zc1,znh),
  (zbg,zfn),
  (zce,zl7),
  (zh7,zyx),
  (zbf,zff),
  (zg0,zup),
  (zbn,zi4),
  (zno,zwj),
  (znc,zwe),
  (zde,zoc),
  (zit,zz6),
  (zjb,zvo),
  (zgn,z3y),
  (zd9,zvb),
  (zcu,zt0),
  (zec,ztj),
  (zd4,zsz),
  (zd8,zuv),
  (zd7,ztl),
  (zfk,zyf),
  (zeb,zt8),
  (zd3,zuj),
  (zfq,zuo),
  (zfz,zrc),
  (zfp,ztg),
  (zdj,zqy),
  (ze0,zsa),
  (zfm,zp1),
  (ze5,zsu),
  (zc4,zpy),
  (zdw,zr8),
  (zdq,zr5),
  (zds,zr6),
  (zki,zyo),
  (zck,zrx),
  (zcl,zr9),
  (zaz,zft),
  (zbs,zyq),
  (zsd,ydj),
  (zh2,zy0),
  (zbl,zga),
  (zby,zmz),
  (zbc,zyb),
  (zbb,zyh),
  (za4,zu5),
  (za5,ztu),
  (zf0,zqw),
  (zb7,zum),
  (zb9,zs5),
  (zmy,z28),
  (zl1,z1s),
  (zdb,zle)]
def code (f:Nat):Option CF:=findC f codes
def globs:Globs:=[(1,[.int .u64 1,.int .u64 10,.int .u64 100,.int .u64 1000,.int .u64 10000,.int .u64 100000,.int .u64 1000000,.int .u64 10000000,.int .u64 100000000,.int .u64 1000000000,.int .u64 10000000000,.int .u64 100000000000,.int .u64 1000000000000,.int .u64 10000000000000,.int .u64 100000000000000,.int .u64 1000000000000000,.int .u64 10000000000000000,.int .u64 100000000000000000,.int .u64 1000000000000000000,.int .u64 10000000000000000000]),(6,[.ifc true]),(7,[.ifc true])]
end Go.Proofs.YthmfkkpmjcbgeabGreatDoor.Co
