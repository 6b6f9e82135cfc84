/-
  The functions of the seat in the evaluator's syntax (printed by a program of mine; checked in a text that follows).
-/
import Derived.Test.YtmbofbehkalgkaaGreatDoorEvE
namespace Go.Proofs.YtmbofbehkalgkaaGreatDoor.Co
open Go.Evl
def zd1:Nat:=3
def zeh:Nat:=5
def zit:Nat:=6
def zis:Nat:=7
def zeg:Nat:=8
def zde:Nat:=9
def zg1:Nat:=10
def zcf:Nat:=11
def zjs:Nat:=17
def zmp:Nat:=18
def zcw:Nat:=19
def ze0:Nat:=20
def zki:Nat:=21
def zkg:Nat:=22
def zhd:Nat:=23
def zny:Nat:=24
def zc8:Nat:=25
def zjr:Nat:=26
def znx:Nat:=27
def zfs:Nat:=28
def zjq:Nat:=29
def znw:Nat:=30
def zpc:Nat:=31
def zba:Nat:=32
def zhe:Nat:=33
def zkh:Nat:=34
def zru:Nat:=35
def zeb:Nat:=36
def zb1:Nat:=37
def zam:Nat:=38
def zbn:Nat:=39
def zpb:Nat:=40
def zg0:Nat:=41
def zhc:Nat:=42
def zc4:Nat:=43
def zb6:Nat:=44
def zmr:Nat:=49
def zgq:Nat:=50
def zs0:Nat:=51
def zqy:Nat:=52
def zcq:Nat:=53
def zcr:Nat:=54
def zaz:Nat:=55
def zbq:Nat:=56
def zd9:Nat:=57
def zeq:Nat:=58
def zf1:Nat:=59
def zm7:Nat:=60
def znd:Nat:=61
def zi8:Nat:=62
def zfk:Nat:=63
def zay:Nat:=64
def zak:Nat:=65
def zn2:Nat:=66
def zma:Nat:=67
def zkl:Nat:=68
def zer:Nat:=69
def zmq:Nat:=70
def zc7:Nat:=71
def zan:Nat:=72
def zap:Nat:=73
def zev:Nat:=76
def zpe:Nat:=77
def zpi:Nat:=78
def zln:Nat:=79
def zne:Nat:=80
def zu5:Nat:=81
def zfj:Nat:=82
def zcm:Nat:=83
def zai:Nat:=84
def zaf:Nat:=85
def zir:Nat:=86
def zf4:Nat:=87
def zfm:Nat:=88
def zaw:Nat:=90
def zs2:Nat:=91
def zu4:Nat:=92
def zph:Nat:=93
def ze1:Nat:=94
def zjo:Nat:=95
def ze2:Nat:=96
def zcp:Nat:=97
def zbp:Nat:=98
def zch:Nat:=99
def zea:Nat:=100
def zf6:Nat:=101
def znz:Nat:=102
def zbj:Nat:=103
def zgp:Nat:=104
def za3:Nat:=105
def zdp:Nat:=106
def zfr:Nat:=107
def zkf:Nat:=108
def zhv:Nat:=109
def ziq:Nat:=110
def zjp:Nat:=111
def zh8:Nat:=112
def zm8:Nat:=113
def zlk:Nat:=114
def zdd:Nat:=115
def zg5:Nat:=116
def zkm:Nat:=117
def zkn:Nat:=118
def zd6:Nat:=119
def zi9:Nat:=120
def zko:Nat:=121
def zkp:Nat:=122
def zkq:Nat:=123
def zfa:Nat:=124
def zja:Nat:=125
def zdf:Nat:=126
def zjb:Nat:=127
def zc1:Nat:=129
def zhp:Nat:=130
def zat:Nat:=131
def zau:Nat:=132
def za9:Nat:=133
def zhq:Nat:=134
def zby:Nat:=135
def za4:Nat:=136
def zb0:Nat:=137
def za7:Nat:=138
def zbr:Nat:=139
def zkr:Nat:=140
def zcd:Nat:=141
def zei:Nat:=142
def zdg:Nat:=143
def zej:Nat:=144
def zdk:Nat:=145
def zfl:Nat:=146
def zs1:Nat:=151
def zpf:Nat:=152
def znf:Nat:=153
def zlo:Nat:=154
def zeu:Nat:=155
def zpd:Nat:=156
def zpg:Nat:=157
def zc6:Nat:=158
def zek:Nat:=159
def zbc:Nat:=160
def za5:Nat:=161
def zlm:Nat:=162
def zcx:Nat:=163
def zcg:Nat:=165
def zb3:Nat:=166
def zbe:Nat:=167
def zbl:Nat:=168
def zax:Nat:=169
def zcc:Nat:=170
def zll:Nat:=171
def zm9:Nat:=172
def zl9:Nat:=173
def zc3:Nat:=174
def zf5:Nat:=175
def zft:Nat:=177
def zca:Nat:=179
def zbo:Nat:=180
def zcy:Nat:=181
def zdz:Nat:=182
def zfb:Nat:=186
def zg6:Nat:=187
def znc:Nat:=191
def zn0:Nat:=192
def zhw:Nat:=193
def za2:Nat:=194
def zdr:Nat:=195
def zc5:Nat:=196
def zdh:Nat:=197
def zda:Nat:=198
def zb7:Nat:=199
def zcz:Nat:=200
def zdm:Nat:=201
def zna:Nat:=202
def znb:Nat:=203
def zbh:Nat:=213
def zbd:Nat:=222
def zbs:Nat:=223
def zf7:Nat:=230
def zhx:Nat:=235
def zce:Nat:=236
def zbf:Nat:=239
def zco:Nat:=240
def zbt:Nat:=260
def z16:Nat:=285
def n_strconv_Itoa:Nat:=74
def n_strings_Join:Nat:=75
def n_slices_Sort_Lstring_string:Nat:=89
def n_strings_Split:Nat:=128
def n_strings_Builder_String:Nat:=150
def z9s:Nat:=176
def n_strconv_Atoi:Nat:=178
def n_strings_Builder_copyCheck:Nat:=184
def n_strings_Repeat:Nat:=188
def n_internal_stringslite_IndexByte:Nat:=189
def n_internal_stringslite_HasSuffix:Nat:=190
def ze9:Nat:=214
def zl1:Nat:=215
def zgc:Nat:=216
def zn1:Nat:=237
def zoo:Nat:=238
def zcl:Nat:=3
def ty_uint8:Nat:=5
def zag:Nat:=9
def zpr:Nat:=22
def zab:Nat:=29
def z5r:Nat:=30
def yjp:Nat:=37
def zao:Nat:=39
def zbv:Nat:=48
def ztl:Nat:=50
def zdt:Nat:=52
def z0v:Nat:=56
def zk5:Nat:=66
def zf3:Nat:=75
def zf2:Nat:=81
def zaa:Nat:=84
def zfu:Nat:=92
def zk6:Nat:=100
def zjt:Nat:=105
def zae:Nat:=120
def zcb:Nat:=123
def zhm:Nat:=131
def zvu:Nat:=135
def zet:Nat:=137
def zvt:Nat:=138
def ze3:Nat:=144
def zas:Nat:=146
def zmg:Nat:=153
def zmv:Nat:=161
def zjf:Nat:=184
def zac:Nat:=197
def ztm:Nat:=211
def zad:Nat:=217
def zvv:Nat:=225
def ty_strings_Builder:Nat:=233
def zaj:Nat:=251
def ztn:Nat:=303
def zbm:C:=
  (sr [
tq 50 (.bin .lss (.t 49) (.t 48))] []
(.seq (.cond (.t 50) .skip
 (.exit 0))
(.seq (.block 1 (sr [
tq 51 (.idxAddr 4 (.t 47) (.t 49)),
lq 52 4 51,
tq 6 (.alloc zab [.z (.str []),.z (.int .i64 0),.z (.int .i64 0),.z (.str [])]),
⟨none,none,.store 4 (.t 6) (.t 52)⟩] [51,52]
(rg [
lq 53 4 6,
tq 54 (.mkRow ⟨false,zab,4,48⟩ 1 [.t 53]),
mq 55 4,
tq 56 (.append ⟨false,zab,4,48⟩ (.t 54) (.t 55)),
mq 4 56] [6,53,54,55,56])))
(rg [
tq 57 (.bin .add (.t 49) (kq 1)),
mq 49 57] [57]))))
def zhz:C:=
  (sr [
tq 107 (.bin .lss (.t 106) (.t 105))] []
(.seq (.cond (.t 107) .skip
 (.exit 2))
(.seq (.block 3 (sr [
mq 108 106,
mq 13 108] [108]
(.seq (.reg true [
mq 109 13,
tq 110 (.bin .gtr (.t 109) (kq 0)),
mq 111 110,
gq 112 111 true (.mv (.t 7)),
gq 113 111 true (.mv (.t 13)),
gq 114 111 true (.idxAddr 4 (.t 112) (.t 113)),
gq 115 111 true (.fieldAddr 2 (.t 114)),
gq 116 111 true (.load none (.t 115)),
gq 117 111 true (.mv (.t 7)),
gq 118 111 true (.mv (.t 13)),
gq 119 111 true (.bin .sub (.t 118) (kq 1)),
gq 120 111 true (.idxAddr 4 (.t 117) (.t 119)),
gq 121 111 true (.fieldAddr 2 (.t 120)),
gq 122 111 true (.load none (.t 121)),
gq 123 111 true (.bin .lss (.t 116) (.t 122)),
gq 124 111 true (.mv (.t 123)),
gq 125 124 false (.mv (.t 7)),
gq 126 124 false (.mv (.t 13)),
gq 127 124 false (.idxAddr 4 (.t 125) (.t 126)),
gq 128 124 false (.fieldAddr 2 (.t 127)),
gq 129 124 false (.load none (.t 128)),
gq 130 124 false (.mv (.t 7)),
gq 131 124 false (.mv (.t 13)),
gq 132 124 false (.bin .sub (.t 131) (kq 1)),
gq 133 124 false (.idxAddr 4 (.t 130) (.t 132)),
gq 134 124 false (.fieldAddr 2 (.t 133)),
gq 135 124 false (.load none (.t 134)),
gq 136 124 false (.bin .eql (.t 129) (.t 135)),
gq 137 124 false (.mv (.t 136)),
gq 138 137 true (.mv (.t 7)),
gq 139 137 true (.mv (.t 13)),
gq 140 137 true (.idxAddr 4 (.t 138) (.t 139)),
gq 141 137 true (.fieldAddr 0 (.t 140)),
gq 142 137 true (.load none (.t 141)),
gq 143 137 true (.mv (.t 7)),
gq 144 137 true (.mv (.t 13)),
gq 145 137 true (.bin .sub (.t 144) (kq 1)),
gq 146 137 true (.idxAddr 4 (.t 143) (.t 145)),
gq 147 137 true (.fieldAddr 0 (.t 146)),
gq 148 137 true (.load none (.t 147)),
gq 149 137 true (.bin .lss (.t 142) (.t 148)),
gq 150 137 true (.mv (.t 149)),
gq 151 150 false (.mv (.t 7)),
gq 152 150 false (.mv (.t 13)),
gq 153 150 false (.idxAddr 4 (.t 151) (.t 152)),
gq 154 150 false (.fieldAddr 0 (.t 153)),
gq 155 150 false (.load none (.t 154)),
gq 156 150 false (.mv (.t 7)),
gq 157 150 false (.mv (.t 13)),
gq 158 150 false (.bin .sub (.t 157) (kq 1)),
gq 159 150 false (.idxAddr 4 (.t 156) (.t 158)),
gq 160 150 false (.fieldAddr 0 (.t 159)),
gq 161 150 false (.load none (.t 160)),
gq 162 150 false (.bin .eql (.t 155) (.t 161)),
gq 163 150 false (.mv (.t 162)),
gq 164 163 true (.mv (.t 7)),
gq 165 163 true (.mv (.t 13)),
gq 166 163 true (.idxAddr 4 (.t 164) (.t 165)),
gq 167 163 true (.fieldAddr 1 (.t 166)),
gq 168 163 true (.load none (.t 167)),
gq 169 163 true (.mv (.t 7)),
gq 170 163 true (.mv (.t 13)),
gq 171 163 true (.bin .sub (.t 170) (kq 1)),
gq 172 163 true (.idxAddr 4 (.t 169) (.t 171)),
gq 173 163 true (.fieldAddr 1 (.t 172)),
gq 174 163 true (.load none (.t 173)),
gq 175 163 true (.bin .leq (.t 168) (.t 174)),
gq 176 150 false (.pick (.t 163) (.t 175) (.k (.d (.bool false)))),
gq 177 137 true (.pick (.t 150) (.k (.d (.bool true))) (.t 176)),
gq 178 124 false (.pick (.t 137) (.t 177) (.k (.d (.bool false)))),
gq 179 111 true (.pick (.t 124) (.k (.d (.bool true))) (.t 178)),
tq 180 (.pick (.t 111) (.t 179) (.k (.d (.bool false))))] [13,109,110,111,112,113,114,115,116,117,118,119,120,121,122,123,124,125,126,127,128,129,130,131,132,133,134,135,136,137,138,139,140,141,142,143,144,145,146,147,148,149,150,151,152,153,154,155,156,157,158,159,160,161,162,163,164,165,166,167,168,169,170,171,172,173,174,175,176,177,178,179])
(.cond (.t 180) (sr [
tq 2 (.mv (.k (.d (.bool false))))] []
.ret)
 .skip))))
(rg [
tq 181 (.bin .add (.t 106) (kq 1)),
mq 106 181] [181]))))
def zh0:C:=
  (sr [
tq 191 (.bin .lss (.t 190) (.t 189))] []
(.seq (.cond (.t 191) .skip
 (.exit 6))
(.seq (.block 7 (sr [
tq 192 (.idxAddr 4 (.t 188) (.t 190)),
lq 193 4 192,
tq 18 (.alloc zab [.z (.str []),.z (.int .i64 0),.z (.int .i64 0),.z (.str [])]),
⟨none,none,.store 4 (.t 18) (.t 193)⟩] [192,193]
(rg [
mq 194 16,
mq 195 194,
gq 196 195 false (.load (some 4) (.t 18)),
gq 197 195 false (.load (some 4) (.t 15)),
gq 198 195 false (.eqv (some [.str,.int,.int,.str]) false (.t 196) (.t 197)),
tq 199 (.pick (.t 195) (.k (.d (.bool true))) (.t 198)),
mq 16 199] [18,194,195,196,197,198,199])))
(rg [
tq 200 (.bin .add (.t 190) (kq 1)),
mq 190 200] [200]))))
def zh1:C:=
  (sr [
tq 185 (.bin .lss (.t 184) (.t 183))] []
(.seq (.cond (.t 185) .skip
 (.exit 4))
(.seq (.block 5 (sr [
tq 186 (.idxAddr 4 (.t 182) (.t 184)),
lq 187 4 186,
tq 15 (.alloc zab [.z (.str []),.z (.int .i64 0),.z (.int .i64 0),.z (.str [])]),
⟨none,none,.store 4 (.t 15) (.t 187)⟩] [186,187]
(sr [
tq 16 (.mv (.k (.d (.bool false))))] []
(.seq (sr [
mq 188 7,
tq 189 (.len .slc (.t 188)),
tq 190 (.mv (kq 0))] []
(.block 6 (.loop [0,7,15,16,182,183,184,188,189,190] zh0)))
(sr [
mq 201 16,
tq 202 (.un .not (.t 201))] [16,201]
(.cond (.t 202) (sr [
tq 2 (.mv (.k (.d (.bool false))))] []
.ret)
 .skip))))))
(rg [
tq 203 (.bin .add (.t 184) (kq 1)),
mq 184 203] [203]))))
def zh2:C:=
  (sr [
tq 235 (.bin .lss (.t 234) (.t 233))] []
(.seq (.cond (.t 235) .skip
 (.exit 12))
(.seq (.block 13 (sr [
tq 236 (.idxAddr 4 (.t 232) (.t 234)),
lq 237 4 236,
tq 28 (.alloc zab [.z (.str []),.z (.int .i64 0),.z (.int .i64 0),.z (.str [])]),
⟨none,none,.store 4 (.t 28) (.t 237)⟩] [236,237]
(sr [
fa 238 0 28,
ld 239 238,
fa 240 0 24,
ld 241 240,
tq 242 (.bin .eql (.t 239) (.t 241)),
mq 243 242,
gq 244 243 true (.fieldAddr 1 (.t 28)),
gq 245 243 true (.load none (.t 244)),
gq 246 243 true (.mv (.t 26)),
gq 247 243 true (.bin .eql (.t 245) (.t 246)),
tq 248 (.pick (.t 243) (.t 247) (.k (.d (.bool false))))] [28,238,239,240,241,242,243,244,245,246,247]
(.cond (.t 248) (sr [
tq 2 (.mv (.k (.d (.bool false))))] []
.ret)
 .skip))))
(rg [
tq 249 (.bin .add (.t 234) (kq 1)),
mq 234 249] [249]))))
def zh3:C:=
  (sr [
tq 229 (.bin .lss (.t 228) (.t 227))] []
(.seq (.cond (.t 229) .skip
 (.exit 10))
(.seq (.block 11 (sr [
tq 230 (.idxAddr 1 (.t 226) (.t 228)),
ld 231 230,
mq 26 231] [230,231]
(.seq (sr [
mq 232 0,
tq 233 (.len .slc (.t 232)),
tq 234 (.mv (kq 0))] []
(.block 12 (.loop [0,21,22,24,26,219,220,221,226,227,228,232,233,234] zh2)))
(sr [
mq 250 21,
fa 251 0 24,
ld 252 251,
mq 253 26,
tq 254 (.build [.z (.str []),.z (.int .i64 0),.z (.int .i64 0),.z (.str [])] [(0,1,.t 252),(1,1,.t 253),(2,1,kq 5),(3,1,.k (.d (.str [120])))]),
tq 255 (.mkList 4 1 [.t 254]),
tq 256 (.append ⟨false,zab,4,48⟩ (.t 250) (.t 255)),
mq 21 256] [26,250,251,252,253,254,255,256]
(rg [
mq 257 22,
tq 258 (.bin .add (.t 257) (kq 1)),
mq 22 258] [257,258])))))
(rg [
tq 259 (.bin .add (.t 228) (kq 1)),
mq 228 259] [259]))))
def zh4:C:=
  (sr [
tq 222 (.bin .lss (.t 221) (.t 220))] []
(.seq (.cond (.t 222) .skip
 (.exit 8))
(.seq (.block 9 (sr [
tq 223 (.idxAddr 2 (.t 219) (.t 221)),
lq 224 2 223,
tq 24 (.alloc zao [.z (.str []),.z (.list 0 [])]),
⟨none,none,.store 2 (.t 24) (.t 224)⟩] [223,224]
(sr [
fa 225 1 24,
ld 226 225,
tq 227 (.len .slc (.t 226)),
tq 228 (.mv (kq 0))] [225]
(.block 10 (.loop [0,21,22,24,219,220,221,226,227,228] zh3)))))
(rg [
tq 260 (.bin .add (.t 221) (kq 1)),
mq 221 260] [260]))))
def zof:CF:=⟨[.tmp 2],
  (sr [
tq 2 (.mv (.k (.d (.bool false))))] [2]
(sr [
mq 31 0,
tq 32 (cl zeh [.t 31]),
mq 3 32] [31,32]
(.seq (sr [
mq 33 0,
tq 34 (.len .slc (.t 33)),
tq 35 (.bin .gtr (.t 34) (kq 12)),
mq 36 35,
gq 37 36 false (.mv (.t 3)),
gq 38 36 false (cl zit [.t 37,kq 12]),
gq 39 36 false (.un .not (.t 38)),
tq 40 (.pick (.t 36) (.k (.d (.bool true))) (.t 39)),
mq 41 40,
gq 42 41 false (.mv (.t 3)),
gq 43 41 false (cl zis [.t 42]),
gq 44 41 false (.bin .neq (.t 43) (kq 0)),
tq 45 (.pick (.t 41) (.k (.d (.bool true))) (.t 44))] [3,33,34,35,36,37,38,39,40,41,42,43,44]
(.cond (.t 45) (sr [
tq 46 (cl zeg []),
mq 2 46] [46]
.ret)
 .skip))
(sr [
tq 4 (.ownNil ⟨false,zab,4,48⟩)] []
(.seq (sr [
mq 47 0,
tq 48 (.len .slc (.t 47)),
tq 49 (.mv (kq 0))] []
(.block 0 (.loop [0,4,47,48,49] zbm)))
(sr [
mq 59 0,
tq 60 (cl zde [.t 59]),
mq 58 60,
xq 61 58 0,
xq 62 58 1,
mq 7 61,
mq 8 62] [58,59,60,61,62]
(sr [
mq 64 4,
mq 65 0,
tq 66 (.append ⟨false,zab,4,48⟩ (.t 64) (.t 65)),
tq 67 (cl zde [.t 66]),
mq 63 67,
xq 68 63 0,
xq 69 63 1,
mq 9 68,
mq 10 69] [4,63,64,65,66,67,68,69]
(sr [
mq 71 7,
tq 72 (cl zde [.t 71]),
mq 70 72,
xq 73 70 0,
xq 74 70 1,
mq 11 73,
mq 12 74] [70,71,72,73,74]
(.seq (sr [
mq 75 8,
mq 76 10,
tq 77 (.bin .add (.t 75) (.t 76)),
mq 78 12,
tq 79 (.bin .add (.t 77) (.t 78)),
tq 80 (.bin .neq (.t 79) (kq 0)),
mq 81 80,
gq 82 81 false (.mv (.t 7)),
gq 83 81 false (cl zeh [.t 82]),
gq 84 81 false (.mv (.t 9)),
gq 85 81 false (cl zeh [.t 84]),
gq 86 81 false (cl zg1 [.t 83,.t 85]),
gq 87 81 false (.un .not (.t 86)),
tq 88 (.pick (.t 81) (.k (.d (.bool true))) (.t 87)),
mq 89 88,
gq 90 89 false (.mv (.t 11)),
gq 91 89 false (cl zeh [.t 90]),
gq 92 89 false (.mv (.t 7)),
gq 93 89 false (cl zeh [.t 92]),
gq 94 89 false (cl zg1 [.t 91,.t 93]),
gq 95 89 false (.un .not (.t 94)),
tq 96 (.pick (.t 89) (.k (.d (.bool true))) (.t 95)),
mq 97 96,
gq 98 97 false (.mv (.t 7)),
gq 99 97 false (.len .slc (.t 98)),
gq 100 97 false (.mv (.t 0)),
gq 101 97 false (.len .slc (.t 100)),
gq 102 97 false (.bin .gtr (.t 99) (.t 101)),
tq 103 (.pick (.t 97) (.k (.d (.bool true))) (.t 102))] [8,9,10,11,12,75,76,77,78,79,80,81,82,83,84,85,86,87,88,89,90,91,92,93,94,95,96,97,98,99,100,101,102]
(.cond (.t 103) (sr [
tq 2 (.mv (.k (.d (.bool false))))] []
.ret)
 .skip))
(.seq (sr [
mq 104 7,
tq 105 (.len .slc (.t 104)),
tq 106 (.mv (kq 0))] [104]
(.block 2 (.loop [0,7,105,106] zhz)))
(.seq (sr [
mq 182 0,
tq 183 (.len .slc (.t 182)),
tq 184 (.mv (kq 0))] []
(.block 4 (.loop [0,7,182,183,184] zh1)))
(sr [
mq 205 0,
tq 206 (cl zcf [.t 205]),
mq 204 206,
xq 207 204 0,
xq 208 204 1,
mq 19 207,
mq 20 208] [204,205,206,207,208]
(.seq (sr [
mq 209 20,
tq 210 (.bin .neq (.t 209) (kq 0))] [209]
(.cond (.t 210) (sr [
mq 211 20,
tq 212 (.bin .eql (.t 211) (kq 22)),
mq 213 212,
gq 214 213 true (cl zeg []),
tq 215 (.pick (.t 213) (.t 214) (.k (.d (.bool false)))),
mq 2 215] [20,211,212,213,214,215]
.ret)
 .skip))
(sr [
tq 216 (.mkRow ⟨false,zab,4,48⟩ 0 []),
mq 217 0,
tq 218 (.append ⟨false,zab,4,48⟩ (.t 216) (.t 217)),
mq 21 218,
tq 22 (.mv (kq 0))] [216,217,218]
(.seq (sr [
mq 219 19,
tq 220 (.len .slc (.t 219)),
tq 221 (.mv (kq 0))] [19]
(.block 8 (.loop [0,21,22,219,220,221] zh4)))
(.seq (sr [
mq 261 22,
tq 262 (.bin .gtr (.t 261) (kq 200))] [22,261]
(.cond (.t 262) (sr [
tq 263 (cl zeg []),
mq 2 263] [263]
.ret)
 .skip))
(sr [
mq 265 21,
tq 266 (cl zcf [.t 265]),
mq 264 266,
xq 267 264 0,
xq 268 264 1,
mq 29 267,
mq 30 268] [21,264,265,266,267,268]
(sr [
mq 269 30,
tq 270 (.bin .eql (.t 269) (kq 0)),
mq 271 270,
gq 272 271 true (.mv (.t 29)),
gq 273 271 true (.len .slc (.t 272)),
gq 274 271 true (.bin .eql (.t 273) (kq 0)),
tq 275 (.pick (.t 271) (.t 274) (.k (.d (.bool false)))),
mq 276 275,
gq 277 276 true (cl zeg []),
tq 278 (.pick (.t 276) (.t 277) (.k (.d (.bool false)))),
mq 2 278] [29,30,269,270,271,272,273,274,275,276,277,278]
.ret))))))))))))))))))⟩
def zwl:C:=
  (sr [
tq 9 (.bin .lss (.t 8) (.t 7))] []
(.seq (.cond (.t 9) .skip
 (.exit 0))
(.seq (.block 1 (sr [
tq 10 (.idxAddr 4 (.t 6) (.t 8)),
lq 11 4 10,
tq 5 (.alloc zab [.z (.str []),.z (.int .i64 0),.z (.int .i64 0),.z (.str [])]),
⟨none,none,.store 4 (.t 5) (.t 11)⟩] [10,11]
(rg [
mq 12 3,
lq 13 4 5,
tq 14 (.mkList 4 1 [.t 13]),
tq 15 (.append ⟨false,zbv,4,48⟩ (.t 12) (.t 14)),
mq 3 15] [5,12,13,14,15])))
(rg [
tq 16 (.bin .add (.t 8) (kq 1)),
mq 8 16] [16]))))
def z08:CF:=⟨[.tmp 2],
  (sr [
tq 2 (.ownNil ⟨false,zbv,4,48⟩)] [2]
(sr [
tq 3 (.ownNil ⟨false,zbv,4,48⟩)] []
(.seq (sr [
mq 6 0,
tq 7 (.len .slc (.t 6)),
tq 8 (.mv (kq 0))] [0]
(.block 0 (.loop [3,6,7,8] zwl)))
(sr [
mq 17 3,
mq 2 17] [3,17]
.ret))))⟩
def zqh:C:=
  (.seq (sr [
mq 20 5,
mq 21 0,
tq 22 (.len .slc (.t 21)),
tq 23 (.bin .lss (.t 20) (.t 22))] [20,21,22]
(.cond (.t 23) .skip
 (.exit 0)))
(.seq (.block 1 (sr [
mq 26 0,
mq 27 5,
tq 28 (.idxAddr 4 (.t 26) (.t 27)),
fa 29 0 28,
ld 30 29,
tq 31 (.len .str (.t 30)),
tq 32 (.bin .gtr (.t 31) (kq 40)),
mq 33 32,
gq 34 33 false (.mv (.t 0)),
gq 35 33 false (.mv (.t 5)),
gq 36 33 false (.idxAddr 4 (.t 34) (.t 35)),
gq 37 33 false (.fieldAddr 3 (.t 36)),
gq 38 33 false (.load none (.t 37)),
gq 39 33 false (.len .str (.t 38)),
gq 40 33 false (.bin .gtr (.t 39) (kq 120)),
tq 41 (.pick (.t 33) (.k (.d (.bool true))) (.t 40))] [26,27,28,29,30,31,32,33,34,35,36,37,38,39,40]
(.cond (.t 41) (sr [
tq 4 (.mv (.k (.d (.bool false))))] []
.ret)
 .skip)))
(rg [
mq 24 5,
tq 25 (.bin .add (.t 24) (kq 1)),
mq 5 25] [24,25])))
def zsk:CF:=⟨[.tmp 4],
  (sr [
tq 4 (.mv (.k (.d (.bool false))))] [4]
(.seq (sr [
mq 6 0,
tq 7 (.len .slc (.t 6)),
mq 8 1,
tq 9 (.bin .gtr (.t 7) (.t 8)),
mq 10 9,
gq 11 10 true (.mv (.t 0)),
gq 12 10 true (.len .slc (.t 11)),
gq 13 10 true (.bin .leq (.t 12) (kq 256)),
tq 14 (.pick (.t 10) (.t 13) (.k (.d (.bool false)))),
mq 15 14,
gq 16 15 false (.mv (.t 0)),
gq 17 15 false (.len .slc (.t 16)),
gq 18 15 false (.bin .gtr (.t 17) (kq 258)),
tq 19 (.pick (.t 15) (.k (.d (.bool true))) (.t 18))] [1,6,7,8,9,10,11,12,13,14,15,16,17,18]
(.cond (.t 19) (sr [
tq 4 (.mv (.k (.d (.bool false))))] []
.ret)
 .skip))
(.seq (sr [
tq 5 (.mv (kq 0))] []
(.block 0 (.loop [0,5] zqh)))
(sr [
tq 4 (.mv (.k (.d (.bool true))))] []
.ret))))⟩
def zqf:C:=
  (.seq (sr [
mq 23 5,
mq 24 3,
tq 25 (.bin .lss (.t 23) (.t 24))] [23,24]
(.cond (.t 25) .skip
 (.exit 2)))
(.seq (.block 3 (.seq (.reg true [
mq 28 0,
mq 29 5,
tq 30 (.idxAddr 4 (.t 28) (.t 29)),
fa 31 0 30,
ld 32 31,
mq 33 0,
mq 34 3,
tq 35 (.idxAddr 4 (.t 33) (.t 34)),
fa 36 0 35,
ld 37 36,
tq 38 (.bin .eql (.t 32) (.t 37)),
mq 39 38,
gq 40 39 true (.mv (.t 0)),
gq 41 39 true (.mv (.t 5)),
gq 42 39 true (.idxAddr 4 (.t 40) (.t 41)),
gq 43 39 true (.fieldAddr 1 (.t 42)),
gq 44 39 true (.load none (.t 43)),
gq 45 39 true (.mv (.t 0)),
gq 46 39 true (.mv (.t 3)),
gq 47 39 true (.idxAddr 4 (.t 45) (.t 46)),
gq 48 39 true (.fieldAddr 1 (.t 47)),
gq 49 39 true (.load none (.t 48)),
gq 50 39 true (.bin .eql (.t 44) (.t 49)),
tq 51 (.pick (.t 39) (.t 50) (.k (.d (.bool false)))),
mq 52 51,
gq 53 52 true (.mv (.t 0)),
gq 54 52 true (.mv (.t 5)),
gq 55 52 true (.idxAddr 4 (.t 53) (.t 54)),
gq 56 52 true (.load (some 4) (.t 55)),
gq 57 52 true (.mv (.t 0)),
gq 58 52 true (.mv (.t 3)),
gq 59 52 true (.idxAddr 4 (.t 57) (.t 58)),
gq 60 52 true (.load (some 4) (.t 59)),
gq 61 52 true (.eqv (some [.str,.int,.int,.str]) true (.t 56) (.t 60)),
tq 62 (.pick (.t 52) (.t 61) (.k (.d (.bool false))))] [28,29,30,31,32,33,34,35,36,37,38,39,40,41,42,43,44,45,46,47,48,49,50,51,52,53,54,55,56,57,58,59,60,61])
(.cond (.t 62) (sr [
tq 2 (.mv (kq 29))] []
.ret)
 .skip)))
(rg [
mq 26 5,
tq 27 (.bin .add (.t 26) (kq 1)),
mq 5 27] [26,27])))
def zqg:C:=
  (.seq (sr [
mq 9 3,
mq 10 0,
tq 11 (.len .slc (.t 10)),
tq 12 (.bin .lss (.t 9) (.t 11))] [9,10,11]
(.cond (.t 12) .skip
 (.exit 0)))
(.seq (.block 1 (.seq (sr [
mq 15 0,
mq 16 3,
tq 17 (.idxAddr 4 (.t 15) (.t 16)),
lq 18 4 17,
tq 19 (cl zjs [.t 18]),
mq 4 19] [15,16,17,18,19]
(sr [
mq 20 4,
tq 21 (.bin .neq (.t 20) (kq 0))] [20]
(.cond (.t 21) (sr [
mq 22 4,
mq 2 22] [4,22]
.ret)
 .skip)))
(sr [
tq 5 (.mv (kq 0))] []
(.block 2 (.loop [0,3,5] zqf)))))
(rg [
mq 13 3,
tq 14 (.bin .add (.t 13) (kq 1)),
mq 3 14] [13,14])))
def zsj:CF:=⟨[.tmp 2],
  (sr [
tq 2 (.mv (kq 0))] [2]
(.seq (sr [
mq 6 0,
tq 7 (.len .slc (.t 6)),
tq 8 (.bin .gtr (.t 7) (kq 256))] [6,7]
(.cond (.t 8) (sr [
tq 2 (.mv (kq 5))] []
.ret)
 .skip))
(.seq (sr [
tq 3 (.mv (kq 0))] []
(.block 0 (.loop [0,3] zqg)))
(sr [
tq 2 (.mv (kq 0))] []
.ret))))⟩
def zwj:C:=
  (sr [
tq 43 (.bin .lss (.t 42) (.t 41))] []
(.seq (.cond (.t 43) .skip
 (.exit 0))
(.seq (.block 1 (sr [
tq 44 (.idxAddr 4 (.t 40) (.t 42)),
lq 45 4 44,
tq 3 (.alloc zdt [.z (.str []),.z (.int .i64 0),.z (.int .i64 0),.z (.int .i64 0)]),
⟨none,none,.store 4 (.t 3) (.t 45)⟩] [44,45]
(sr [
mq 47 1,
fa 48 0 3,
ld 49 48,
fa 50 1 3,
ld 51 50,
fa 52 2 3,
ld 53 52,
tq 54 (cl zcw [.t 47,.t 49,.t 51,.t 53]),
mq 46 54,
xq 55 46 0,
xq 56 46 1,
mq 4 55,
mq 5 56] [46,47,48,49,50,51,52,53,54,55,56]
(sr [
mq 57 5,
tq 58 (.bin .neq (.t 57) (kq 0)),
mq 59 58,
gq 60 59 false (.mv (.t 4)),
gq 61 59 false (.fieldAddr 3 (.t 3)),
gq 62 59 false (.load none (.t 61)),
gq 63 59 false (.bin .neq (.t 60) (.t 62)),
tq 64 (.pick (.t 59) (.k (.d (.bool true))) (.t 63))] [3,4,5,57,58,59,60,61,62,63]
(.cond (.t 64) (sr [
tq 0 (.mv (.k (.d (.bool false))))] []
.ret)
 .skip)))))
(rg [
tq 65 (.bin .add (.t 42) (kq 1)),
mq 42 65] [65]))))
def zwk:C:=
  (sr [
tq 231 (.bin .lss (.t 230) (.t 229))] []
(.seq (.cond (.t 231) .skip
 (.exit 2))
(.seq (.block 3 (sr [
tq 232 (.idxAddr 3 (.t 228) (.t 230)),
lq 233 3 232,
tq 25 (.alloc zaa [.z (.str []),.z (.str []),.z (.int .i64 0)]),
⟨none,none,.store 3 (.t 25) (.t 233)⟩] [232,233]
(sr [
mq 235 23,
fa 236 0 25,
ld 237 236,
tq 238 (.callU true (.k (.fn zba [] [])) [.t 235,.t 237]),
mq 234 238,
xq 239 234 0,
xq 240 234 1,
mq 26 239,
mq 27 240] [234,235,236,237,238,239,240]
(sr [
mq 241 26,
fa 242 1 25,
ld 243 242,
tq 244 (.bin .neq (.t 241) (.t 243)),
mq 245 244,
gq 246 245 false (.mv (.t 27)),
gq 247 245 false (.fieldAddr 2 (.t 25)),
gq 248 245 false (.load none (.t 247)),
gq 249 245 false (.bin .neq (.t 246) (.t 248)),
tq 250 (.pick (.t 245) (.k (.d (.bool true))) (.t 249))] [25,26,27,241,242,243,244,245,246,247,248,249]
(.cond (.t 250) (sr [
tq 0 (.mv (.k (.d (.bool false))))] []
.ret)
 .skip)))))
(rg [
tq 251 (.bin .add (.t 230) (kq 1)),
mq 230 251] [251]))))
def z06:CF:=⟨[.tmp 0],
  (sr [
tq 0 (.mv (.k (.d (.bool false))))] [0]
(sr [
tq 32 (cl zmp []),
mq 1 32] [32]
(.seq (sr [
tq 33 (.build [.z (.str []),.z (.int .i64 0),.z (.int .i64 0),.z (.int .i64 0)] [(0,1,.k (.d (.str [97]))),(1,1,kq 6),(2,1,kq 16),(3,1,kq 600)]),
tq 34 (.build [.z (.str []),.z (.int .i64 0),.z (.int .i64 0),.z (.int .i64 0)] [(0,1,.k (.d (.str [97]))),(1,1,kq 7),(2,1,kq 16),(3,1,kq 660)]),
tq 35 (.build [.z (.str []),.z (.int .i64 0),.z (.int .i64 0),.z (.int .i64 0)] [(0,1,.k (.d (.str [98]))),(1,1,kq 8),(2,1,kq 16),(3,1,kq 700)]),
tq 36 (.build [.z (.str []),.z (.int .i64 0),.z (.int .i64 0),.z (.int .i64 0)] [(0,1,.k (.d (.str [97]))),(1,1,kq 9),(2,1,kq 12),(3,1,kq 600)]),
tq 37 (.build [.z (.str []),.z (.int .i64 0),.z (.int .i64 0),.z (.int .i64 0)] [(0,1,.k (.d (.str [97]))),(1,1,kq 9),(2,1,kq 16),(3,1,kq 600)]),
tq 38 (.build [.z (.str []),.z (.int .i64 0),.z (.int .i64 0),.z (.int .i64 0)] [(0,1,.k (.d (.str [98]))),(1,1,kq 9),(2,1,kq 16),(3,1,kq 1440)]),
tq 39 (.build [.z (.str []),.z (.int .i64 0),.z (.int .i64 0),.z (.int .i64 0)] [(0,1,.k (.d (.str [97]))),(1,1,kq 4),(2,1,kq 16),(3,1,kq 1440)]),
tq 40 (.mkList 4 7 [.t 33,.t 34,.t 35,.t 36,.t 37,.t 38,.t 39]),
tq 41 (.len .slc (.t 40)),
tq 42 (.mv (kq 0))] [33,34,35,36,37,38,39]
(.block 0 (.loop [1,40,41,42] zwj)))
(sr [
mq 67 1,
tq 68 (cl ze0 [.t 67,kq 8]),
mq 66 68,
xq 69 66 0,
xq 70 66 1,
mq 6 69,
mq 7 70] [66,67,68,69,70]
(sr [
mq 72 1,
tq 73 (cl ze0 [.t 72,kq 9]),
mq 71 73,
xq 74 71 0,
xq 75 71 1,
mq 8 74,
mq 9 75] [71,72,73,74,75]
(sr [
mq 77 1,
tq 78 (cl zki [.t 77,.k (.d (.str [114]))]),
mq 76 78,
xq 79 76 0,
xq 80 76 1,
mq 10 79,
mq 11 80] [76,77,78,79,80]
(sr [
mq 82 1,
tq 83 (cl zkg [.t 82,.k (.d (.str [97])),kq 16]),
mq 81 83,
xq 84 81 0,
xq 85 81 1,
mq 12 84,
mq 13 85] [81,82,83,84,85]
(sr [
mq 87 1,
tq 88 (.build [.z (.int .i64 0),.z (.int .i64 0),.z (.int .i64 0)] [(0,1,kq 10),(1,1,kq 20),(2,1,kq 127)]),
tq 89 (cl zhd [.t 87,.k (.d (.str [97])),kq 8,kq 9,.t 88]),
mq 86 89,
xq 90 86 0,
xq 91 86 1,
mq 14 90,
mq 15 91] [86,87,88,89,90,91]
(sr [
mq 93 1,
tq 94 (cl zny [.t 93,kq 8,kq 16]),
mq 92 94,
xq 95 92 0,
xq 96 92 1,
mq 16 95,
mq 17 96] [1,92,93,94,95,96]
(.seq (sr [
mq 97 7,
mq 98 9,
tq 99 (.bin .add (.t 97) (.t 98)),
mq 100 11,
tq 101 (.bin .add (.t 99) (.t 100)),
mq 102 13,
tq 103 (.bin .add (.t 101) (.t 102)),
mq 104 15,
tq 105 (.bin .add (.t 103) (.t 104)),
mq 106 17,
tq 107 (.bin .add (.t 105) (.t 106)),
tq 108 (.bin .neq (.t 107) (kq 0)),
mq 109 108,
gq 110 109 false (.mv (.t 6)),
gq 111 109 false (.mkList 1 3 [.k (.d (.str [101])),.k (.d (.str [114])),.k (.d (.str [102]))]),
gq 112 109 false (cl zc8 [.t 110,.t 111]),
gq 113 109 false (.un .not (.t 112)),
tq 114 (.pick (.t 109) (.k (.d (.bool true))) (.t 113)),
mq 115 114,
gq 116 115 false (.mv (.t 8)),
gq 117 115 false (.mkList 1 1 [.k (.d (.str [101]))]),
gq 118 115 false (cl zc8 [.t 116,.t 117]),
gq 119 115 false (.un .not (.t 118)),
tq 120 (.pick (.t 115) (.k (.d (.bool true))) (.t 119)),
mq 121 120,
gq 122 121 false (.mv (.t 10)),
gq 123 121 false (.mkList 1 1 [.k (.d (.str [102]))]),
gq 124 121 false (cl zc8 [.t 122,.t 123]),
gq 125 121 false (.un .not (.t 124)),
tq 126 (.pick (.t 121) (.k (.d (.bool true))) (.t 125)),
mq 127 126,
gq 128 127 false (.mv (.t 12)),
gq 129 127 false (cl znx [.t 128]),
gq 130 127 false (.build [.z (.int .i64 0),.z (.int .i64 0)] [(0,1,kq 5),(1,1,kq 600)]),
gq 131 127 false (.build [.z (.int .i64 0),.z (.int .i64 0)] [(0,1,kq 7),(1,1,kq 660)]),
gq 132 127 false (.build [.z (.int .i64 0),.z (.int .i64 0)] [(0,1,kq 9),(1,1,kq 600)]),
gq 133 127 false (.mkList 2 3 [.t 130,.t 131,.t 132]),
gq 134 127 false (cl zjr [.t 129,.t 133]),
gq 135 127 false (.un .not (.t 134)),
tq 136 (.pick (.t 127) (.k (.d (.bool true))) (.t 135)),
mq 137 136,
gq 138 137 false (.mv (.t 14)),
gq 139 137 false (.mkList 1 6 [kq 15,kq 16,kq 17,kq 18,kq 19,kq 20]),
gq 140 137 false (cl zfs [.t 138,.t 139]),
gq 141 137 false (.un .not (.t 140)),
tq 142 (.pick (.t 137) (.k (.d (.bool true))) (.t 141)),
mq 143 142,
gq 144 143 false (.mv (.t 16)),
gq 145 143 false (cl znw [.t 144]),
gq 146 143 false (.build [.z (.str []),.z (.int .i64 0)] [(0,1,.k (.d (.str [97]))),(1,1,kq 660)]),
gq 147 143 false (.build [.z (.str []),.z (.int .i64 0)] [(0,1,.k (.d (.str [98]))),(1,1,kq 700)]),
gq 148 143 false (.mkList 2 2 [.t 146,.t 147]),
gq 149 143 false (cl zjq [.t 145,.t 148]),
gq 150 143 false (.un .not (.t 149)),
tq 151 (.pick (.t 143) (.k (.d (.bool true))) (.t 150))] [6,7,8,9,10,11,12,13,14,15,16,17,97,98,99,100,101,102,103,104,105,106,107,108,109,110,111,112,113,114,115,116,117,118,119,120,121,122,123,124,125,126,127,128,129,130,131,132,133,134,135,136,137,138,139,140,141,142,143,144,145,146,147,148,149,150]
(.cond (.t 151) (sr [
tq 0 (.mv (.k (.d (.bool false))))] []
.ret)
 .skip))
(sr [
tq 152 (.build [.z (.str []),.z (.int .i64 0),.z (.int .i64 0),.z (.str [])] [(0,1,.k (.d (.str [84]))),(1,1,kq 2),(2,1,kq 4),(3,1,.k (.d (.str [108,97,116,101])))]),
tq 153 (.build [.z (.str []),.z (.int .i64 0),.z (.int .i64 0),.z (.str [])] [(0,1,.k (.d (.str [84]))),(1,1,kq 1),(2,1,kq 3),(3,1,.k (.d (.str [97])))]),
tq 154 (.build [.z (.str []),.z (.int .i64 0),.z (.int .i64 0),.z (.str [])] [(0,1,.k (.d (.str [78]))),(1,1,kq 1),(2,1,kq 3),(3,1,.k (.d (.str [98])))]),
tq 155 (.build [.z (.str []),.z (.int .i64 0),.z (.int .i64 0),.z (.str [])] [(0,1,.k (.d (.str [84]))),(1,1,kq 2),(2,1,kq 4),(3,1,.k (.d (.str [108,97,116,101])))]),
tq 156 (.mkList 4 4 [.t 152,.t 153,.t 154,.t 155]),
mq 18 156] [152,153,154,155,156]
(sr [
mq 158 18,
tq 159 (cl zde [.t 158]),
mq 157 159,
xq 160 157 0,
xq 161 157 1,
mq 19 160,
mq 20 161] [157,158,159,160,161]
(sr [
mq 163 18,
tq 164 (.idxAddr 4 (.t 163) (kq 1)),
lq 165 4 164,
tq 166 (.build [.z (.str []),.z (.int .i64 0),.z (.int .i64 0),.z (.str [])] [(0,1,.k (.d (.str [84]))),(1,1,kq 4),(2,1,kq 5),(3,1,.k (.d (.str [99])))]),
tq 167 (.mkList 4 2 [.t 165,.t 166]),
tq 168 (cl zcf [.t 167]),
mq 162 168,
xq 169 162 0,
xq 170 162 1,
mq 21 169,
mq 22 170] [18,162,163,164,165,166,167,168,169,170]
(.seq (sr [
mq 171 20,
mq 172 22,
tq 173 (.bin .add (.t 171) (.t 172)),
tq 174 (.bin .neq (.t 173) (kq 0)),
mq 175 174,
gq 176 175 false (.mv (.t 19)),
gq 177 175 false (.len .slc (.t 176)),
gq 178 175 false (.bin .neq (.t 177) (kq 3)),
tq 179 (.pick (.t 175) (.k (.d (.bool true))) (.t 178)),
mq 180 179,
gq 181 180 false (.mv (.t 19)),
gq 182 180 false (.idxAddr 4 (.t 181) (kq 0)),
gq 183 180 false (.fieldAddr 0 (.t 182)),
gq 184 180 false (.load none (.t 183)),
gq 185 180 false (.bin .neq (.t 184) (.k (.d (.str [78])))),
tq 186 (.pick (.t 180) (.k (.d (.bool true))) (.t 185)),
mq 187 186,
gq 188 187 false (.mv (.t 19)),
gq 189 187 false (.idxAddr 4 (.t 188) (kq 2)),
gq 190 187 false (.fieldAddr 1 (.t 189)),
gq 191 187 false (.load none (.t 190)),
gq 192 187 false (.bin .neq (.t 191) (kq 2)),
tq 193 (.pick (.t 187) (.k (.d (.bool true))) (.t 192)),
mq 194 193,
gq 195 194 false (.mv (.t 21)),
gq 196 194 false (.len .slc (.t 195)),
gq 197 194 false (.bin .neq (.t 196) (kq 1)),
tq 198 (.pick (.t 194) (.k (.d (.bool true))) (.t 197)),
mq 199 198,
gq 200 199 false (.mv (.t 21)),
gq 201 199 false (.idxAddr 2 (.t 200) (kq 0)),
gq 202 199 false (.fieldAddr 0 (.t 201)),
gq 203 199 false (.load none (.t 202)),
gq 204 199 false (.bin .neq (.t 203) (.k (.d (.str [84])))),
tq 205 (.pick (.t 199) (.k (.d (.bool true))) (.t 204)),
mq 206 205,
gq 207 206 false (.mv (.t 21)),
gq 208 206 false (.idxAddr 2 (.t 207) (kq 0)),
gq 209 206 false (.fieldAddr 1 (.t 208)),
gq 210 206 false (.load none (.t 209)),
gq 211 206 false (.mkList 1 2 [kq 2,kq 3]),
gq 212 206 false (cl zfs [.t 210,.t 211]),
gq 213 206 false (.un .not (.t 212)),
tq 214 (.pick (.t 206) (.k (.d (.bool true))) (.t 213))] [19,20,21,22,171,172,173,174,175,176,177,178,179,180,181,182,183,184,185,186,187,188,189,190,191,192,193,194,195,196,197,198,199,200,201,202,203,204,205,206,207,208,209,210,211,212,213]
(.cond (.t 214) (sr [
tq 0 (.mv (.k (.d (.bool false))))] []
.ret)
 .skip))
(sr [
tq 215 (.call false false (.k (.fn zpc [] [])) []),
mq 23 215] [215]
(.seq (sr [
mq 216 23,
tq 217 (.nilEq 0 false (.t 216))] [216]
(.cond (.t 217) (sr [
tq 0 (.mv (.k (.d (.bool false))))] []
.ret)
 .skip))
(.seq (sr [
tq 218 (.build [.z (.str []),.z (.str []),.z (.int .i64 0)] [(0,1,.k (.d (.str [101,110,116,101,114,32,101,32,97,32,53,32,49,48,32,50,48,32,54,48,48]))),(1,1,.k (.d (.str [100,111,110,101,32,49]))),(2,1,kq 0)]),
tq 219 (.build [.z (.str []),.z (.str []),.z (.int .i64 0)] [(0,1,.k (.d (.str [114,117,108,101,32,114,32,97,32,55,32,49,53,32,50,48,32,54,54,48]))),(1,1,.k (.d (.str [100,111,110,101,32,50]))),(2,1,kq 0)]),
tq 220 (.build [.z (.str []),.z (.str []),.z (.int .i64 0)] [(0,1,.k (.d (.str [115,108,111,116,32,97,32,55,32,49,54]))),(1,1,.k (.d (.str [54,54,48]))),(2,1,kq 0)]),
tq 221 (.build [.z (.str []),.z (.str []),.z (.int .i64 0)] [(0,1,.k (.d (.str [114,101,118,101,114,115,101,32,101,32,57]))),(1,1,.k (.d (.str []))),(2,1,kq 13)]),
tq 222 (.build [.z (.str []),.z (.str []),.z (.int .i64 0)] [(0,1,.k (.d (.str [114,101,118,101,114,115,101,32,114,32,57]))),(1,1,.k (.d (.str [100,111,110,101,32,51]))),(2,1,kq 0)]),
tq 223 (.build [.z (.str []),.z (.str []),.z (.int .i64 0)] [(0,1,.k (.d (.str [102,111,108,108,111,119,32,103,32,98,32,114,32,57,32,49,48,32,50,48,32,53]))),(1,1,.k (.d (.str []))),(2,1,kq 20)]),
tq 224 (.build [.z (.str []),.z (.str []),.z (.int .i64 0)] [(0,1,.k (.d (.str [99,111,109,112,108,97,105,110,32,99,32,101,32,49,48]))),(1,1,.k (.d (.str [100,111,110,101,32,52]))),(2,1,kq 0)]),
tq 225 (.build [.z (.str []),.z (.str []),.z (.int .i64 0)] [(0,1,.k (.d (.str [111,112,101,110]))),(1,1,.k (.d (.str [99]))),(2,1,kq 0)]),
tq 226 (.build [.z (.str []),.z (.str []),.z (.int .i64 0)] [(0,1,.k (.d (.str [100,101,99,105,100,101,32,99,32,49,49,32,49]))),(1,1,.k (.d (.str [100,111,110,101,32,53]))),(2,1,kq 0)]),
tq 227 (.build [.z (.str []),.z (.str []),.z (.int .i64 0)] [(0,1,.k (.d (.str [100,97,121,32,49,49,32,49,54]))),(1,1,.k (.d (.str [110,111,110,101]))),(2,1,kq 0)]),
tq 228 (.mkList 3 10 [.t 218,.t 219,.t 220,.t 221,.t 222,.t 223,.t 224,.t 225,.t 226,.t 227]),
tq 229 (.len .slc (.t 228)),
tq 230 (.mv (kq 0))] [218,219,220,221,222,223,224,225,226,227]
(.block 2 (.loop [23,228,229,230] zwk)))
(sr [
mq 252 23,
tq 253 (.callU true (.k (.fn zhe [] [])) [.t 252]),
mq 28 253] [23,252,253]
(sr [
mq 255 28,
tq 256 (.bin .add (.t 255) (.k (.d (.str [54])))),
tq 257 (cl zkh [.t 256]),
mq 254 257,
xq 258 254 0,
xq 259 254 1,
xq 260 254 2,
mq 29 258,
mq 30 259,
mq 31 260] [254,255,256,257,258,259,260]
(sr [
mq 261 31,
tq 262 (.bin .eql (.t 261) (kq 28)),
mq 263 262,
gq 264 263 true (.mv (.t 29)),
gq 265 263 true (.len .slc (.t 264)),
gq 266 263 true (.bin .eql (.t 265) (kq 5)),
tq 267 (.pick (.t 263) (.t 266) (.k (.d (.bool false)))),
mq 268 267,
gq 269 268 true (.mv (.t 30)),
gq 270 268 true (.mv (.t 28)),
gq 271 268 true (.len .str (.t 270)),
gq 272 268 true (.bin .eql (.t 269) (.t 271)),
tq 273 (.pick (.t 268) (.t 272) (.k (.d (.bool false)))),
mq 274 273,
gq 275 274 true (cl zru [.k (.d (.str [49,49]))]),
gq 276 274 true (.bin .eql (.t 275) (.k (.d (.str [48,48,57,50,55,55,57])))),
tq 277 (.pick (.t 274) (.t 276) (.k (.d (.bool false)))),
mq 0 277] [28,29,30,31,261,262,263,264,265,266,267,268,269,270,271,272,273,274,275,276,277]
.ret))))))))))))))))))))⟩
def zwy:CF:=⟨[.tmp 2,.tmp 3],
  (sr [
tq 2 (.mv (.k (.d (.list 0 [])))),
tq 3 (.mv (kq 0))] [2,3]
(sr [
mq 7 0,
tq 8 (.call false false (.k (.fn zeb [] [])) [.t 7]),
mq 6 8,
xq 9 6 0,
xq 10 6 1,
mq 4 9,
mq 5 10] [0,6,7,8,9,10]
(.seq (sr [
mq 11 5,
tq 12 (.bin .neq (.t 11) (kq 0))] [11]
(.cond (.t 12) (sr [
mq 13 5,
tq 2 (.mv (.k (.d (.list 0 [])))),
mq 3 13] [5,13]
.ret)
 .skip))
(sr [
mq 14 4,
tq 15 (.call true false (.k (.fn zam [] [])) [.t 14]),
tq 16 (.call true true (.k (.fn zb1 [] [])) [.t 15,.k (.fn zbn [] [])]),
mq 2 16,
tq 3 (.mv (kq 0))] [4,14,15,16]
.ret))))⟩
def zq8:C:=
  (.seq (sr [
mq 11 5,
mq 12 0,
tq 13 (.len .slc (.t 12)),
tq 14 (.bin .lss (.t 11) (.t 13))] [11,12,13]
(.cond (.t 14) .skip
 (.exit 0)))
(.seq (.block 1 (.seq (.reg true [
mq 17 0,
mq 18 5,
tq 19 (.idxAddr 4 (.t 17) (.t 18)),
lq 20 4 19,
mq 21 1,
mq 22 5,
tq 23 (.idxAddr 4 (.t 21) (.t 22)),
lq 24 4 23,
tq 25 (.eqv (some [.str,.int,.int,.str]) true (.t 20) (.t 24))] [17,18,19,20,21,22,23,24])
(.cond (.t 25) (sr [
tq 4 (.mv (.k (.d (.bool false))))] []
.ret)
 .skip)))
(rg [
mq 15 5,
tq 16 (.bin .add (.t 15) (kq 1)),
mq 5 16] [15,16])))
def zuc:CF:=⟨[.tmp 4],
  (sr [
tq 4 (.mv (.k (.d (.bool false))))] [4]
(.seq (sr [
mq 6 0,
tq 7 (.len .slc (.t 6)),
mq 8 1,
tq 9 (.len .slc (.t 8)),
tq 10 (.bin .neq (.t 7) (.t 9))] [6,7,8,9]
(.cond (.t 10) (sr [
tq 4 (.mv (.k (.d (.bool false))))] []
.ret)
 .skip))
(.seq (sr [
tq 5 (.mv (kq 0))] []
(.block 0 (.loop [0,1,5] zq8)))
(sr [
tq 4 (.mv (.k (.d (.bool true))))] []
.ret))))⟩
def zig:C:=
  (rg [
mq 32 6,
fa 33 0 7,
ld 34 33,
mq 35 6,
fa 36 0 7,
ld 37 36,
tq 38 (.lookup .str (.int .i64 0) false (.t 35) (.t 37)),
fa 39 1 7,
ld 40 39,
tq 41 (.minmax true [.t 38,.t 40]),
⟨none,none,.mapSet .str (.t 32) (.t 34) (.t 41)⟩] [7,32,33,34,35,36,37,38,39,40,41])
def zih:C:=
  (sr [
mq 48 9,
tq 49 (.bin .gtr (.t 48) (kq 1000))] [9,48]
(.cond (.t 49) (sr [
tq 2 (.ownNil ⟨false,zao,2,40⟩),
tq 3 (.mv (kq 22))] []
.ret)
 .skip))
def zl4:C:=
  (.seq (sr [
mq 60 14,
mq 61 6,
mq 62 12,
tq 63 (.lookup .str (.int .i64 0) false (.t 61) (.t 62)),
tq 64 (.bin .lss (.t 60) (.t 63))] [60,61,62,63]
(.cond (.t 64) .skip
 (.exit 6)))
(.seq (.block 7 (sr [
mq 68 4,
mq 69 12,
mq 70 14,
tq 71 (.build [.z (.str []),.z (.int .i64 0)] [(0,1,.t 69),(1,1,.t 70)]),
tq 72 (.lookup (.rc [true,false]) (.agg [.str [],.int .i64 0,.int .i64 0,.str []]) true (.t 68) (.t 71)),
mq 67 72,
xq 73 67 0,
xq 74 67 1,
tq 15 (.alloc zab [.z (.str []),.z (.int .i64 0),.z (.int .i64 0),.z (.str [])]),
⟨none,none,.store 4 (.t 15) (.t 73)⟩,
mq 16 74] [15,67,68,69,70,71,72,73,74]
(sr [
mq 75 16,
tq 76 (.un .not (.t 75))] [16,75]
(.cond (.t 76) (rg [
fa 77 1 13,
ld 78 77,
mq 79 14,
tq 80 (.mkList 1 1 [.t 79]),
tq 81 (.append ⟨false,zcl,1,8⟩ (.t 78) (.t 80)),
fa 82 1 13,
⟨none,none,.store 1 (.t 82) (.t 81)⟩] [77,78,79,80,81,82])
 .skip))))
(rg [
mq 65 14,
tq 66 (.bin .add (.t 65) (kq 1)),
mq 14 66] [65,66])))
def zl5:C:=
  (sr [
tq 55 (.bin .lss (.t 54) (.t 53))] []
(.seq (.cond (.t 55) .skip
 (.exit 4))
(.seq (.block 5 (sr [
tq 56 (.idxAddr 1 (.t 52) (.t 54)),
ld 57 56,
mq 12 57] [56,57]
(sr [
mq 58 12,
tq 59 (.build [.z (.str []),.own ⟨false,zcl,1,8⟩] [(0,1,.t 58)]),
tq 13 (.alloc zao [.z (.str []),.own ⟨false,zcl,1,8⟩]),
⟨none,none,.store 2 (.t 13) (.t 59)⟩] [58,59]
(.seq (sr [
tq 14 (.mv (kq 1))] []
(.block 6 (.loop [4,6,10,12,13,14,52,53,54] zl4)))
(sr [
fa 83 1 13,
ld 84 83,
tq 85 (.len .slc (.t 84)),
tq 86 (.bin .gtr (.t 85) (kq 0))] [83,84,85]
(.cond (.t 86) (rg [
mq 87 10,
lq 88 2 13,
tq 89 (.mkList 2 1 [.t 88]),
tq 90 (.append ⟨false,zao,2,40⟩ (.t 87) (.t 89)),
mq 10 90] [13,87,88,89,90])
 .skip))))))
(rg [
tq 91 (.bin .add (.t 54) (kq 1)),
mq 54 91] [91]))))
def zvj:CF:=⟨[.tmp 2,.tmp 3],
  (sr [
tq 2 (.ownNil ⟨false,zao,2,40⟩),
tq 3 (.mv (kq 0))] [2,3]
(sr [
mq 18 0,
tq 19 (.call false false (.k (.fn zeb [] [])) [.t 18]),
mq 17 19,
xq 20 17 0,
xq 21 17 1,
mq 4 20,
mq 5 21] [0,17,18,19,20,21]
(.seq (sr [
mq 22 5,
tq 23 (.bin .neq (.t 22) (kq 0))] [22]
(.cond (.t 23) (sr [
mq 24 5,
tq 2 (.ownNil ⟨false,zao,2,40⟩),
mq 3 24] [5,24]
.ret)
 .skip))
(sr [
tq 25 (.mkMap),
mq 6 25] [25]
(.seq (.rangeM [mq 26 4] 27 (.t 26) 0 1 30 [4,6,27] [xq 31 30 0,
tq 7 (.alloc zk6 [.z (.str []),.z (.int .i64 0)]),
⟨none,none,.store 2 (.t 7) (.t 31)⟩] [30,31] zig)
(.seq (.rangeM [mq 42 6] 43 (.t 42) 2 3 46 [4,6,43] [xq 47 46 1,
mq 9 47] [46,47] zih)
(sr [
tq 10 (.ownNil ⟨false,zao,2,40⟩)] []
(.seq (sr [
mq 50 6,
tq 51 (.call true false (.k (.fn zb6 [] [])) [.t 50]),
tq 52 (.call true true (.k (.fn zc4 [] [])) [.t 51]),
tq 53 (.len .slc (.t 52)),
tq 54 (.mv (kq 0))] [50,51]
(.block 4 (.loop [4,6,10,52,53,54] zl5)))
(sr [
mq 92 10,
mq 2 92,
tq 3 (.mv (kq 0))] [10,92]
.ret)))))))))⟩
def zrb:C:=
  (.seq (sr [
mq 20 3,
fa 21 3 1,
ld 22 21,
tq 23 (.len .str (.t 22)),
tq 24 (.bin .lss (.t 20) (.t 23))] [20,21,22,23]
(.cond (.t 24) .skip
 (.exit 0)))
(.seq (.block 1 (sr [
fa 27 3 1,
ld 28 27,
mq 29 3,
tq 30 (.idxS (.t 28) (.t 29)),
tq 31 (.bin .lss (.t 30) (.k (.d (.int .u8 32)))),
mq 32 31,
gq 33 32 false (.fieldAddr 3 (.t 1)),
gq 34 32 false (.load none (.t 33)),
gq 35 32 false (.mv (.t 3)),
gq 36 32 false (.idxS (.t 34) (.t 35)),
gq 37 32 false (.bin .gtr (.t 36) (.k (.d (.int .u8 126)))),
tq 38 (.pick (.t 32) (.k (.d (.bool true))) (.t 37))] [27,28,29,30,31,32,33,34,35,36,37]
(.cond (.t 38) (sr [
tq 2 (.mv (kq 1))] []
.ret)
 .skip)))
(rg [
mq 25 3,
tq 26 (.bin .add (.t 25) (kq 1)),
mq 3 26] [25,26])))
def zuf:CF:=⟨[.tmp 2],
  (sr [
tq 1 (.box zbv (.t 0)),
tq 2 (.mv (kq 0))] [0,2]
(.seq (sr [
fa 4 0 1,
ld 5 4,
tq 6 (cl zmr [.t 5]),
tq 7 (.un .not (.t 6))] [4,5,6]
(.cond (.t 7) (sr [
tq 2 (.mv (kq 8))] []
.ret)
 .skip))
(.seq (sr [
fa 8 1 1,
ld 9 8,
tq 10 (cl zgq [.t 9,kq 1,kq 999999999]),
mq 11 10,
gq 12 11 false (.fieldAddr 2 (.t 1)),
gq 13 11 false (.load none (.t 12)),
gq 14 11 false (cl zgq [.t 13,kq 0,kq 99999]),
tq 15 (.pick (.t 11) (.k (.d (.bool true))) (.t 14))] [8,9,10,11,12,13,14]
(.cond (.t 15) (sr [
tq 2 (.mv (kq 3))] []
.ret)
 .skip))
(.seq (sr [
fa 16 3 1,
ld 17 16,
tq 18 (.len .str (.t 17)),
tq 19 (cl zgq [.t 18,kq 1,kq 80])] [16,17,18]
(.cond (.t 19) (sr [
tq 2 (.mv (kq 1))] []
.ret)
 .skip))
(.seq (sr [
tq 3 (.mv (kq 0))] []
(.block 0 (.loop [1,3] zrb)))
(sr [
tq 2 (.mv (kq 0))] []
.ret))))))⟩
def zvb:C:=
  (sr [
tq 9 (.bin .lss (.t 8) (.t 7))] []
(.seq (.cond (.t 9) .skip
 (.exit 0))
(.seq (.block 1 (sr [
mq 10 8,
tq 11 (.idxAddr 1 (.t 6) (.t 8)),
ld 12 11,
mq 2 10,
mq 3 12] [10,11,12]
(sr [
mq 14 3,
tq 15 (cl zqy [.t 14]),
mq 13 15,
xq 16 13 0,
xq 17 13 1,
tq 4 (.alloc zae [.z (.int .i64 0),.z (.str []),.z (.list 0 []),.z (.list 0 []),.z (.str [])]),
⟨none,none,.store 5 (.t 4) (.t 16)⟩,
mq 5 17] [3,5,13,14,15,16,17]
(sr [
mq 18 2,
tq 19 (.bin .add (.t 18) (kq 1)),
fa 20 0 4,
⟨none,none,.store 1 (.t 20) (.t 19)⟩] [2,18,19,20]
(rg [
mq 21 1,
lq 22 5 4,
tq 23 (.mkList 5 1 [.t 22]),
tq 24 (.append ⟨false,zae,5,88⟩ (.t 21) (.t 23)),
mq 1 24] [4,21,22,23,24])))))
(rg [
tq 25 (.bin .add (.t 8) (kq 1)),
mq 8 25] [25]))))
def zyv:CF:=⟨[.tmp 0],
  (sr [
tq 0 (.ownNil ⟨false,zae,5,88⟩)] [0]
(sr [
tq 1 (.ownNil ⟨false,zae,5,88⟩)] []
(.seq (sr [
tq 6 (cl zs0 []),
tq 7 (.len .slc (.t 6)),
tq 8 (.mv (kq 0))] []
(.block 0 (.loop [1,6,7,8] zvb)))
(sr [
mq 26 1,
mq 0 26] [1,26]
.ret))))⟩
def zwz:CF:=⟨[.tmp 8,.tmp 9],
  (sr [
tq 8 (.mv (kq 0)),
tq 9 (.mv (kq 0))] [8,9]
(sr [
mq 13 0,
mq 14 1,
tq 15 (cl zcr [.t 14]),
mq 16 2,
tq 17 (cl zaz [.t 16]),
mq 18 3,
tq 19 (cl zaz [.t 18]),
tq 20 (.mkList 1 3 [.t 15,.t 17,.t 19]),
tq 21 (.call false false (.k (.fn zcq [] [])) [.t 13,.t 20]),
mq 12 21,
xq 22 12 0,
xq 23 12 1,
mq 10 22,
mq 11 23] [0,12,13,14,15,16,17,18,19,20,21,22,23]
(.seq (sr [
mq 24 11,
tq 25 (.bin .neq (.t 24) (kq 0))] [24]
(.cond (.t 25) (sr [
mq 26 11,
tq 8 (.mv (kq 0)),
mq 9 26] [11,26]
.ret)
 .skip))
(sr [
mq 27 10,
mq 28 1,
mq 29 2,
mq 30 3,
tq 31 (.callQ (.k (.fn zbq [] [])) [.t 27,.t 28,.t 29,.t 30]),
mq 8 31,
tq 9 (.mv (kq 0))] [1,2,3,10,27,28,29,30,31]
.ret))))⟩
def zt5:CF:=⟨[.tmp 4,.tmp 5],
  (sr [
tq 4 (.mv (.k (.d (.list 0 [])))),
tq 5 (.mv (kq 0))] [4,5]
(sr [
mq 9 0,
mq 10 1,
tq 11 (cl zaz [.t 10]),
tq 12 (.mkList 1 1 [.t 11]),
tq 13 (.call false false (.k (.fn zcq [] [])) [.t 9,.t 12]),
mq 8 13,
xq 14 8 0,
xq 15 8 1,
mq 6 14,
mq 7 15] [0,8,9,10,11,12,13,14,15]
(.seq (sr [
mq 16 7,
tq 17 (.bin .neq (.t 16) (kq 0))] [16]
(.cond (.t 17) (sr [
mq 18 7,
tq 4 (.mv (.k (.d (.list 0 [])))),
mq 5 18] [7,18]
.ret)
 .skip))
(sr [
mq 19 6,
mq 20 1,
tq 21 (.call true true (.k (.fn zd9 [] [])) [.t 19,.t 20]),
mq 4 21,
tq 5 (.mv (kq 0))] [1,6,19,20,21]
.ret))))⟩
def zvl:CF:=⟨[.tmp 4,.tmp 5],
  (sr [
tq 4 (.mv (.k (.d (.list 0 [])))),
tq 5 (.mv (kq 0))] [4,5]
(sr [
mq 9 0,
mq 10 1,
tq 11 (cl zcr [.t 10]),
tq 12 (.mkList 1 1 [.t 11]),
tq 13 (.call false false (.k (.fn zcq [] [])) [.t 9,.t 12]),
mq 8 13,
xq 14 8 0,
xq 15 8 1,
mq 6 14,
mq 7 15] [0,8,9,10,11,12,13,14,15]
(.seq (sr [
mq 16 7,
tq 17 (.bin .neq (.t 16) (kq 0))] [16]
(.cond (.t 17) (sr [
mq 18 7,
tq 4 (.mv (.k (.d (.list 0 [])))),
mq 5 18] [7,18]
.ret)
 .skip))
(sr [
mq 19 6,
mq 20 1,
tq 21 (.call true true (.k (.fn zeq [] [])) [.t 19,.t 20]),
xq 22 21 0,
xq 23 21 1,
mq 4 22,
mq 5 23] [1,6,19,20,21,22,23]
.ret))))⟩
def zr9:C:=
  (sr [
tq 31 (.bin .lss (.t 30) (.t 29))] []
(.seq (.cond (.t 31) .skip
 (.exit 0))
(.seq (.block 1 (sr [
tq 32 (.idxAddr 5 (.t 28) (.t 30)),
lq 33 5 32,
tq 13 (.alloc zae [.z (.int .i64 0),.z (.str []),.z (.list 0 []),.z (.list 0 []),.z (.str [])]),
⟨none,none,.store 5 (.t 13) (.t 33)⟩] [32,33]
(sr [
mq 34 8,
mq 35 1,
fa 36 3 13,
ld 37 36,
tq 38 (.idxAddr 1 (.t 37) (kq 0)),
ld 39 38,
mq 40 2,
tq 41 (.callQ (.k (.fn zbq [] [])) [.t 34,.t 35,.t 39,.t 40]),
mq 14 41] [34,35,36,37,38,39,40,41]
(sr [
mq 42 14,
mq 43 11,
tq 44 (.bin .neq (.t 42) (.t 43))] [42,43]
(.cond (.t 44) (sr [
mq 45 10,
fa 46 3 13,
ld 47 46,
tq 48 (.idxAddr 1 (.t 47) (kq 0)),
ld 49 48,
mq 50 14,
tq 51 (.build [.z (.int .i64 0),.z (.int .i64 0)] [(0,1,.t 49),(1,1,.t 50)]),
tq 52 (.mkList 2 1 [.t 51]),
tq 53 (.append ⟨false,zhm,2,16⟩ (.t 45) (.t 52)),
mq 10 53] [13,45,46,47,48,49,50,51,52,53]
(rg [
mq 54 14,
mq 11 54] [14,54]))
 .skip)))))
(rg [
tq 55 (.bin .add (.t 30) (kq 1)),
mq 30 55] [55]))))
def zvi:CF:=⟨[.tmp 6,.tmp 7],
  (sr [
tq 6 (.ownNil ⟨false,zhm,2,16⟩),
tq 7 (.mv (kq 0))] [6,7]
(sr [
mq 16 0,
mq 17 1,
tq 18 (cl zcr [.t 17]),
mq 19 2,
tq 20 (cl zaz [.t 19]),
tq 21 (.mkList 1 2 [.t 18,.t 20]),
tq 22 (.call false false (.k (.fn zcq [] [])) [.t 16,.t 21]),
mq 15 22,
xq 23 15 0,
xq 24 15 1,
mq 8 23,
mq 9 24] [15,16,17,18,19,20,21,22,23,24]
(.seq (sr [
mq 25 9,
tq 26 (.bin .neq (.t 25) (kq 0))] [25]
(.cond (.t 26) (sr [
mq 27 9,
tq 6 (.ownNil ⟨false,zhm,2,16⟩),
mq 7 27] [9,27]
.ret)
 .skip))
(sr [
tq 10 (.ownNil ⟨false,zhm,2,16⟩)] []
(sr [
tq 11 (.mv (kq 1440))] []
(.seq (sr [
mq 28 0,
tq 29 (.len .slc (.t 28)),
tq 30 (.mv (kq 0))] [0]
(.block 0 (.loop [1,2,8,10,11,28,29,30] zr9)))
(sr [
mq 56 10,
mq 6 56,
tq 7 (.mv (kq 0))] [10,56]
.ret)))))))⟩
def zqj:CF:=⟨[.tmp 10,.tmp 11],
  (sr [
tq 6 (.box zag (.t 1)),
tq 7 (.box zcl (.t 2)),
tq 8 (.box zcl (.t 3)),
tq 9 (.box zk5 (.t 4)),
tq 10 (.mv (.k (.d (.list 0 [])))),
tq 11 (.mv (kq 0))] [1,2,3,4,10,11]
(.seq (.reg true [
mq 16 0,
ld 17 6,
tq 18 (cl zcr [.t 17]),
ld 19 7,
tq 20 (cl zaz [.t 19]),
ld 21 8,
tq 22 (cl zaz [.t 21]),
lq 23 3 9,
tq 24 (cl zf1 [.t 23]),
tq 25 (.mkList 1 4 [.t 18,.t 20,.t 22,.t 24]),
tq 26 (.callN (.k (.fn zcq [] [])) [.t 16,.t 25]),
mq 15 26,
xq 27 15 0,
xq 28 15 1,
tq 12 (.alloc zcb [.z (.nilp)]),
⟨none,none,.store 1 (.t 12) (.t 27)⟩,
mq 13 28] [0,15,16,17,18,19,20,21,22,23,24,25,26,27,28])
(.seq (sr [
mq 29 13,
tq 30 (.bin .neq (.t 29) (kq 0))] [29]
(.cond (.t 30) (sr [
mq 31 13,
tq 10 (.mv (.k (.d (.list 0 [])))),
mq 11 31] [13,31]
.ret)
 .skip))
(sr [
lq 33 3 9,
tq 34 (cl zm7 [.t 33]),
mq 32 34,
xq 35 32 0,
xq 36 32 1,
mq 14 35,
mq 13 36] [9,32,33,34,35,36]
(.seq (sr [
mq 37 13,
tq 38 (.bin .neq (.t 37) (kq 0))] [37]
(.cond (.t 38) (sr [
mq 39 13,
tq 10 (.mv (.k (.d (.list 0 [])))),
mq 11 39] [13,39]
.ret)
 .skip))
(sr [
mq 40 14,
tq 41 (.mkFunc zi8 [] [.t 12,.t 6,.t 7,.t 8]),
tq 42 (.call true true (.k (.fn znd [] [])) [.t 40,.t 41]),
mq 10 42,
tq 11 (.mv (kq 0))] [6,7,8,12,14,40,41,42]
.ret))))))⟩
def z1b:CF:=⟨[.tmp 6,.tmp 7],
  (sr [
tq 6 (.mv (.k (.d (.list 0 [])))),
tq 7 (.mv (kq 0))] [6,7]
(sr [
mq 11 0,
mq 12 1,
tq 13 (cl zaz [.t 12]),
mq 14 2,
tq 15 (cl zaz [.t 14]),
tq 16 (.mkList 1 2 [.t 13,.t 15]),
tq 17 (.call false false (.k (.fn zcq [] [])) [.t 11,.t 16]),
mq 10 17,
xq 18 10 0,
xq 19 10 1,
mq 8 18,
mq 9 19] [0,10,11,12,13,14,15,16,17,18,19]
(.seq (sr [
mq 20 9,
tq 21 (.bin .neq (.t 20) (kq 0))] [20]
(.cond (.t 21) (sr [
mq 22 9,
tq 6 (.mv (.k (.d (.list 0 [])))),
mq 7 22] [9,22]
.ret)
 .skip))
(sr [
mq 23 8,
mq 24 1,
mq 25 2,
tq 26 (.call true true (.k (.fn zfk [] [])) [.t 23,.t 24,.t 25]),
mq 6 26,
tq 7 (.mv (kq 0))] [1,2,8,23,24,25,26]
.ret))))⟩
def zq7:C:=
  (.seq (sr [
mq 11 5,
mq 12 0,
tq 13 (.len .slc (.t 12)),
tq 14 (.bin .lss (.t 11) (.t 13))] [11,12,13]
(.cond (.t 14) .skip
 (.exit 0)))
(.seq (.block 1 (.seq (.reg true [
mq 17 0,
mq 18 5,
tq 19 (.idxAddr 1 (.t 17) (.t 18)),
ld 20 19,
mq 21 1,
mq 22 5,
tq 23 (.idxAddr 1 (.t 21) (.t 22)),
ld 24 23,
tq 25 (.bin .neq (.t 20) (.t 24))] [17,18,19,20,21,22,23,24])
(.cond (.t 25) (sr [
tq 4 (.mv (.k (.d (.bool false))))] []
.ret)
 .skip)))
(rg [
mq 15 5,
tq 16 (.bin .add (.t 15) (kq 1)),
mq 5 16] [15,16])))
def zub:CF:=⟨[.tmp 4],
  (sr [
tq 4 (.mv (.k (.d (.bool false))))] [4]
(.seq (sr [
mq 6 0,
tq 7 (.len .slc (.t 6)),
mq 8 1,
tq 9 (.len .slc (.t 8)),
tq 10 (.bin .neq (.t 7) (.t 9))] [6,7,8,9]
(.cond (.t 10) (sr [
tq 4 (.mv (.k (.d (.bool false))))] []
.ret)
 .skip))
(.seq (sr [
tq 5 (.mv (kq 0))] []
(.block 0 (.loop [0,1,5] zq7)))
(sr [
tq 4 (.mv (.k (.d (.bool true))))] []
.ret))))⟩
def zra:C:=
  (.seq (sr [
mq 11 5,
mq 12 0,
tq 13 (.len .slc (.t 12)),
tq 14 (.bin .lss (.t 11) (.t 13))] [11,12,13]
(.cond (.t 14) .skip
 (.exit 0)))
(.seq (.block 1 (.seq (.reg true [
mq 17 0,
mq 18 5,
tq 19 (.idxAddr 2 (.t 17) (.t 18)),
lq 20 2 19,
mq 21 1,
mq 22 5,
tq 23 (.idxAddr 2 (.t 21) (.t 22)),
lq 24 2 23,
tq 25 (.eqv (some [.int,.int]) true (.t 20) (.t 24))] [17,18,19,20,21,22,23,24])
(.cond (.t 25) (sr [
tq 4 (.mv (.k (.d (.bool false))))] []
.ret)
 .skip)))
(rg [
mq 15 5,
tq 16 (.bin .add (.t 15) (kq 1)),
mq 5 16] [15,16])))
def zue:CF:=⟨[.tmp 4],
  (sr [
tq 4 (.mv (.k (.d (.bool false))))] [4]
(.seq (sr [
mq 6 0,
tq 7 (.len .slc (.t 6)),
mq 8 1,
tq 9 (.len .slc (.t 8)),
tq 10 (.bin .neq (.t 7) (.t 9))] [6,7,8,9]
(.cond (.t 10) (sr [
tq 4 (.mv (.k (.d (.bool false))))] []
.ret)
 .skip))
(.seq (sr [
tq 5 (.mv (kq 0))] []
(.block 0 (.loop [0,1,5] zra)))
(sr [
tq 4 (.mv (.k (.d (.bool true))))] []
.ret))))⟩
def zwn:C:=
  (sr [
tq 9 (.bin .lss (.t 8) (.t 7))] []
(.seq (.cond (.t 9) .skip
 (.exit 0))
(.seq (.block 1 (sr [
tq 10 (.idxAddr 2 (.t 6) (.t 8)),
lq 11 2 10,
tq 5 (.alloc zhm [.z (.int .i64 0),.z (.int .i64 0)]),
⟨none,none,.store 2 (.t 5) (.t 11)⟩] [10,11]
(rg [
mq 12 3,
lq 13 2 5,
tq 14 (.mkList 2 1 [.t 13]),
tq 15 (.append ⟨false,zf3,2,16⟩ (.t 12) (.t 14)),
mq 3 15] [5,12,13,14,15])))
(rg [
tq 16 (.bin .add (.t 8) (kq 1)),
mq 8 16] [16]))))
def z1a:CF:=⟨[.tmp 2],
  (sr [
tq 2 (.ownNil ⟨false,zf3,2,16⟩)] [2]
(sr [
tq 3 (.ownNil ⟨false,zf3,2,16⟩)] []
(.seq (sr [
mq 6 0,
tq 7 (.len .slc (.t 6)),
tq 8 (.mv (kq 0))] [0]
(.block 0 (.loop [3,6,7,8] zwn)))
(sr [
mq 17 3,
mq 2 17] [3,17]
.ret))))⟩
def zsd:C:=
  (.seq (sr [
mq 11 5,
mq 12 0,
tq 13 (.len .slc (.t 12)),
tq 14 (.bin .lss (.t 11) (.t 13))] [11,12,13]
(.cond (.t 14) .skip
 (.exit 0)))
(.seq (.block 1 (.seq (.reg true [
mq 17 0,
mq 18 5,
tq 19 (.idxAddr 1 (.t 17) (.t 18)),
ld 20 19,
mq 21 1,
mq 22 5,
tq 23 (.idxAddr 1 (.t 21) (.t 22)),
ld 24 23,
tq 25 (.bin .neq (.t 20) (.t 24))] [17,18,19,20,21,22,23,24])
(.cond (.t 25) (sr [
tq 4 (.mv (.k (.d (.bool false))))] []
.ret)
 .skip)))
(rg [
mq 15 5,
tq 16 (.bin .add (.t 15) (kq 1)),
mq 5 16] [15,16])))
def zvp:CF:=⟨[.tmp 4],
  (sr [
tq 4 (.mv (.k (.d (.bool false))))] [4]
(.seq (sr [
mq 6 0,
tq 7 (.len .slc (.t 6)),
mq 8 1,
tq 9 (.len .slc (.t 8)),
tq 10 (.bin .neq (.t 7) (.t 9))] [6,7,8,9]
(.cond (.t 10) (sr [
tq 4 (.mv (.k (.d (.bool false))))] []
.ret)
 .skip))
(.seq (sr [
tq 5 (.mv (kq 0))] []
(.block 0 (.loop [0,1,5] zsd)))
(sr [
tq 4 (.mv (.k (.d (.bool true))))] []
.ret))))⟩
def zq9:C:=
  (.seq (sr [
mq 11 5,
mq 12 0,
tq 13 (.len .slc (.t 12)),
tq 14 (.bin .lss (.t 11) (.t 13))] [11,12,13]
(.cond (.t 14) .skip
 (.exit 0)))
(.seq (.block 1 (.seq (.reg true [
mq 17 0,
mq 18 5,
tq 19 (.idxAddr 2 (.t 17) (.t 18)),
lq 20 2 19,
mq 21 1,
mq 22 5,
tq 23 (.idxAddr 2 (.t 21) (.t 22)),
lq 24 2 23,
tq 25 (.eqv (some [.str,.int]) true (.t 20) (.t 24))] [17,18,19,20,21,22,23,24])
(.cond (.t 25) (sr [
tq 4 (.mv (.k (.d (.bool false))))] []
.ret)
 .skip)))
(rg [
mq 15 5,
tq 16 (.bin .add (.t 15) (kq 1)),
mq 5 16] [15,16])))
def zud:CF:=⟨[.tmp 4],
  (sr [
tq 4 (.mv (.k (.d (.bool false))))] [4]
(.seq (sr [
mq 6 0,
tq 7 (.len .slc (.t 6)),
mq 8 1,
tq 9 (.len .slc (.t 8)),
tq 10 (.bin .neq (.t 7) (.t 9))] [6,7,8,9]
(.cond (.t 10) (sr [
tq 4 (.mv (.k (.d (.bool false))))] []
.ret)
 .skip))
(.seq (sr [
tq 5 (.mv (kq 0))] []
(.block 0 (.loop [0,1,5] zq9)))
(sr [
tq 4 (.mv (.k (.d (.bool true))))] []
.ret))))⟩
def zwm:C:=
  (sr [
tq 9 (.bin .lss (.t 8) (.t 7))] []
(.seq (.cond (.t 9) .skip
 (.exit 0))
(.seq (.block 1 (sr [
tq 10 (.idxAddr 2 (.t 6) (.t 8)),
lq 11 2 10,
tq 5 (.alloc zet [.z (.str []),.z (.int .i64 0)]),
⟨none,none,.store 2 (.t 5) (.t 11)⟩] [10,11]
(rg [
mq 12 3,
lq 13 2 5,
tq 14 (.mkList 2 1 [.t 13]),
tq 15 (.append ⟨false,zf2,2,24⟩ (.t 12) (.t 14)),
mq 3 15] [5,12,13,14,15])))
(rg [
tq 16 (.bin .add (.t 8) (kq 1)),
mq 8 16] [16]))))
def z09:CF:=⟨[.tmp 2],
  (sr [
tq 2 (.ownNil ⟨false,zf2,2,24⟩)] [2]
(sr [
tq 3 (.ownNil ⟨false,zf2,2,24⟩)] []
(.seq (sr [
mq 6 0,
tq 7 (.len .slc (.t 6)),
tq 8 (.mv (kq 0))] [0]
(.block 0 (.loop [3,6,7,8] zwm)))
(sr [
mq 17 3,
mq 2 17] [3,17]
.ret))))⟩
def z3c:CF:=⟨[.tmp 0],
  (sr [
tq 0 (.mv (.k (.d (.nilp))))] [0]
(sr [
tq 1 (.build [.own ⟨false,zae,5,88⟩,.z (.int .i64 0),.own ⟨false,zac,8,96⟩,.own ⟨false,zaj,2,24⟩,.own ⟨true,zad,5,48⟩] []),
tq 2 (.box zas (.t 1)),
mq 0 2] [1,2]
.ret))⟩
def zrj:CF:=⟨[.tmp 4,.tmp 5],
  (sr [
tq 4 (.mv (.k (.d (.str [])))),
tq 5 (.mv (kq 0))] [4,5]
(.seq (sr [
mq 17 0,
tq 18 (.nilEq 0 false (.t 17))] [17]
(.cond (.t 18) (sr [
tq 4 (.mv (.k (.d (.str [])))),
tq 5 (.mv (kq 19))] []
.ret)
 .skip))
(.seq (sr [
mq 19 1,
tq 20 (.len .str (.t 19)),
tq 21 (.bin .gtr (.t 20) (kq 4096)),
tq 22 (cl zak [.t 21,kq 26]),
mq 23 1,
tq 24 (.bin .eql (.t 23) (.k (.d (.str [])))),
tq 25 (cl zak [.t 24,kq 25]),
tq 26 (.mkList 1 2 [.t 22,.t 25]),
tq 27 (cl zay [.t 26]),
mq 6 27] [19,20,21,22,23,24,25,26,27]
(sr [
mq 28 6,
tq 29 (.bin .neq (.t 28) (kq 0))] [28]
(.cond (.t 29) (sr [
mq 30 6,
tq 4 (.mv (.k (.d (.str [])))),
mq 5 30] [6,30]
.ret)
 .skip)))
(sr [
mq 32 1,
tq 33 (cl zn2 [.t 32,.k (.d (.str [32]))]),
mq 31 33,
xq 34 31 0,
xq 35 31 1,
xq 36 31 2,
mq 7 34,
mq 8 35,
mq 9 36] [8,9,31,32,33,34,35,36]
(.seq (sr [
tq 38 (.call false false (.k (.fn zma [] [])) []),
mq 39 7,
tq 40 (.lookup .str (.agg [.int .i64 0,.int .i64 0,.nilf]) true (.t 38) (.t 39)),
mq 37 40,
xq 41 37 0,
xq 42 37 1,
tq 10 (.alloc zmg [.z (.int .i64 0),.z (.int .i64 0),.z (.nilf)]),
⟨none,none,.store 3 (.t 10) (.t 41)⟩,
mq 11 42] [37,38,39,40,41,42]
(sr [
mq 43 11] [11]
(.cond (.t 43) (sr [
mq 44 0,
lq 45 3 10,
mq 46 1,
tq 47 (.callU true (.k (.fn zkl [] [])) [.t 44,.t 45,.t 46]),
xq 48 47 0,
xq 49 47 1,
mq 4 48,
mq 5 49] [0,1,10,44,45,46,47,48,49]
.ret)
 .skip)))
(.seq (sr [
tq 51 (.call false false (.k (.fn zer [] [])) []),
mq 52 7,
tq 53 (.lookup .str (.agg [.int .i64 0,.int .i64 0,.nilf,.nilf]) true (.t 51) (.t 52)),
mq 50 53,
xq 54 50 0,
xq 55 50 1,
tq 12 (.alloc zmv [.z (.int .i64 0),.z (.int .i64 0),.z (.nilf),.z (.nilf)]),
⟨none,none,.store 4 (.t 12) (.t 54)⟩,
mq 13 55] [7,12,50,51,52,53,54,55]
(sr [
mq 56 13,
tq 57 (.un .not (.t 56))] [13,56]
(.cond (.t 57) (sr [
tq 4 (.mv (.k (.d (.str [])))),
tq 5 (.mv (kq 13))] []
.ret)
 .skip)))
(sr [
mq 59 1,
tq 60 (cl zmq [.t 59]),
mq 58 60,
xq 61 58 0,
xq 62 58 1,
tq 14 (.alloc zae [.z (.int .i64 0),.z (.str []),.z (.list 0 []),.z (.list 0 []),.z (.str [])]),
⟨none,none,.store 5 (.t 14) (.t 61)⟩,
mq 15 62] [1,58,59,60,61,62]
(sr [
mq 63 0,
tq 64 (.nilCheck (.t 63)),
fa 65 0 64,
fa 66 0 65,
ld 67 66,
tq 68 (.len .slc (.t 67)),
tq 69 (.bin .add (.t 68) (kq 1)),
fa 70 0 14,
⟨none,none,.store 1 (.t 70) (.t 69)⟩] [63,64,65,66,67,68,69,70]
(.seq (.reg true [
mq 71 15,
tq 72 (.un .not (.t 71)),
tq 73 (cl zak [.t 72,kq 25]),
mq 74 0,
tq 75 (.nilCheck (.t 74)),
fa 76 0 75,
fa 77 0 76,
ld 78 77,
tq 79 (.len .slc (.t 78)),
tq 80 (.bin .geq (.t 79) (kq 1000)),
tq 81 (cl zak [.t 80,kq 5]),
tq 82 (.mkList 1 2 [.t 73,.t 81]),
tq 83 (cl zay [.t 82]),
mq 16 83] [15,71,72,73,74,75,76,77,78,79,80,81,82,83])
(.seq (sr [
mq 84 16,
tq 85 (.bin .eql (.t 84) (kq 0))] [84]
(.cond (.t 85) (rg [
lq 86 5 14,
tq 87 (cl zc7 [.t 86]),
mq 16 87] [86,87])
 .skip))
(.seq (sr [
mq 88 16,
tq 89 (.bin .eql (.t 88) (kq 0))] [88]
(.cond (.t 89) (.reg true [
mq 90 0,
tq 91 (.nilCheck (.t 90)),
fa 92 0 91,
lq 93 5 14,
tq 94 (.callQ (.k (.fn zan [] [])) [.t 92,.t 93]),
mq 16 94] [90,91,92,93,94])
 .skip))
(.seq (sr [
mq 95 16,
tq 96 (.bin .neq (.t 95) (kq 0))] [95]
(.cond (.t 96) (sr [
mq 97 16,
tq 4 (.mv (.k (.d (.str [])))),
mq 5 97] [16,97]
.ret)
 .skip))
(.seq (.reg true [
mq 98 0,
tq 99 (.nilCheck (.t 98)),
fa 100 0 99,
lq 101 5 14,
tq 102 (.callU false (.k (.fn zap [] [])) [.t 100,.t 101])] [0,98,99,100,101,102])
(sr [
fa 103 0 14,
ld 104 103,
tq 105 (cl n_strconv_Itoa [.t 104]),
tq 106 (.bin .add (.k (.d (.str [100,111,110,101,32]))) (.t 105)),
mq 4 106,
tq 5 (.mv (kq 0))] [14,103,104,105,106]
.ret))))))))))))))⟩
def zqk:CF:=⟨[.tmp 2],
  (sr [
tq 2 (.mv (.k (.d (.str []))))] [2]
(.seq (sr [
mq 3 0,
tq 4 (.nilEq 0 false (.t 3))] [3]
(.cond (.t 4) (sr [
tq 2 (.mv (.k (.d (.str []))))] []
.ret)
 .skip))
(sr [
mq 5 0,
tq 6 (.nilCheck (.t 5)),
fa 7 0 6,
fa 8 0 7,
ld 9 8,
tq 10 (.call true true (.k (.fn zev [] [])) [.t 9,.k (.fn zpe [] [])]),
tq 11 (cl n_strings_Join [.t 10,.k (.d (.str []))]),
mq 2 11] [0,5,6,7,8,9,10,11]
.ret)))⟩
def zsa:C:=
  (rg [
mq 7 17] [17])
def zsb:C:=
  (.block 1 (sr [
mq 19 7,
tq 20 (cl zln [.t 19,.k (.d (.str [10]))]),
mq 18 20,
xq 21 18 0,
xq 22 18 1,
mq 8 21,
mq 9 22] [18,19,20,21,22]
(.seq (sr [
mq 23 9,
tq 24 (.un .not (.t 23))] [9,23]
(.cond (.t 24) (.seq (.reg true [
ld 25 5,
ld 26 6,
⟨none,none,.storeR 1 (.t 2) (.t 25) [6]⟩,
⟨none,none,.store 1 (.t 3) (.t 26)⟩,
⟨none,none,.store 1 (.t 4) (kq 28)⟩] [5,6,25,26])
.ret)
 .skip))
(sr [
mq 28 8,
ld 29 5,
tq 30 (.len .slc (.t 29)),
tq 31 (cl zne [.t 28,.t 30]),
mq 27 31,
xq 32 27 0,
xq 33 27 1,
tq 10 (.alloc zae [.z (.int .i64 0),.z (.str []),.z (.list 0 []),.z (.list 0 []),.z (.str [])]),
⟨none,none,.store 5 (.t 10) (.t 32)⟩,
mq 11 33] [8,27,28,29,30,31,32,33]
(.seq (sr [
mq 34 11,
tq 35 (.bin .neq (.t 34) (kq 0))] [34]
(.cond (.t 35) (.seq (.reg true [
ld 36 5,
ld 37 6,
mq 38 11,
⟨none,none,.storeR 1 (.t 2) (.t 36) [6]⟩,
⟨none,none,.store 1 (.t 3) (.t 37)⟩,
⟨none,none,.store 1 (.t 4) (.t 38)⟩] [5,6,11,36,37,38])
.ret)
 .skip))
(sr [
ld 39 5,
lq 40 5 10,
tq 41 (.mkList 5 1 [.t 40]),
tq 42 (.append ⟨false,zae,5,88⟩ (.t 39) (.t 41)),
⟨none,none,.store 1 (.t 5) (.t 42)⟩] [5,10,39,40,41,42]
(rg [
ld 43 6,
mq 44 7,
tq 45 (.len .str (.t 44)),
tq 46 (.bin .add (.t 43) (.t 45)),
⟨none,none,.store 1 (.t 6) (.t 46)⟩] [6,7,43,44,45,46])))))))
def zvk:CF:=⟨[.cell 2 none,.cell 3 none,.cell 4 none],
  (sr [
tq 2 (.alloc ztl [.own ⟨false,zae,5,88⟩]),
tq 3 (.alloc zcl [.z (.int .i64 0)]),
tq 4 (.alloc z5r [.z (.int .i64 0)])] []
(.seq (sr [
mq 12 0,
tq 13 (.len .str (.t 12)),
tq 14 (.bin .gtr (.t 13) (kq 1000000))] [12,13]
(.cond (.t 14) (sr [
⟨none,none,.store 1 (.t 2) (.k (.d (.list 0 [])))⟩,
⟨none,none,.store 1 (.t 3) (kq 0)⟩,
⟨none,none,.store 1 (.t 4) (kq 26)⟩] []
.ret)
 .skip))
(sr [
tq 5 (.alloc ztl [.own ⟨false,zae,5,88⟩])] []
(sr [
tq 6 (.alloc zcl [.z (.int .i64 0)]),
⟨none,none,.store 1 (.t 6) (kq 0)⟩] []
(.seq (sr [
mq 15 0,
tq 16 (.call false false (.k (.fn zpi [] [])) [.t 15])] [0,15]
(.block 0 (.rangeFn 50 (.t 16) [17] zsa zsb)))
(.seq (.reg true [
ld 47 5,
ld 48 6,
⟨none,none,.storeR 1 (.t 2) (.t 47) [6]⟩,
⟨none,none,.store 1 (.t 3) (.t 48)⟩,
⟨none,none,.store 1 (.t 4) (kq 0)⟩] [5,6,47,48])
.ret))))))⟩
def z03:C:=
  (.seq (sr [
mq 6 4,
mq 7 0,
tq 8 (.len .str (.t 7)),
tq 9 (.bin .lss (.t 6) (.t 8))] [6,7,8]
(.cond (.t 9) .skip
 (.exit 0)))
(.seq (.block 1 (rg [
mq 12 3,
tq 13 (.bin .mul (kq 281) (.t 12)),
mq 14 0,
mq 15 4,
tq 16 (.idxS (.t 14) (.t 15)),
tq 17 (.conv .i64 (.t 16)),
tq 18 (.bin .add (.t 13) (.t 17)),
tq 19 (.bin .rem (.t 18) (kq 9999943)),
mq 3 19] [12,13,14,15,16,17,18,19]))
(rg [
mq 10 4,
tq 11 (.bin .add (.t 10) (kq 1)),
mq 4 11] [10,11])))
def z04:C:=
  (.seq (sr [
mq 22 5,
tq 23 (.len .str (.t 22)),
tq 24 (.bin .lss (.t 23) (kq 7))] [22,23]
(.cond (.t 24) .skip
 (.exit 2)))
(.block 3 (rg [
mq 25 5,
tq 26 (.bin .add (.k (.d (.str [48]))) (.t 25)),
mq 5 26] [25,26])))
def z6b:CF:=⟨[.tmp 2],
  (sr [
tq 2 (.mv (.k (.d (.str []))))] [2]
(sr [
tq 3 (.mv (kq 1))] []
(.seq (sr [
tq 4 (.mv (kq 0))] []
(.block 0 (.loop [0,3,4] z03)))
(sr [
mq 20 3,
tq 21 (cl zu5 [.t 20]),
mq 5 21] [3,20,21]
(.seq (.block 2 (.loop [5] z04))
(sr [
mq 27 5,
mq 2 27] [5,27]
.ret))))))⟩
def zsc:C:=
  (sr [
tq 18 (.bin .lss (.t 17) (.t 16))] []
(.seq (.cond (.t 18) .skip
 (.exit 0))
(.seq (.block 1 (sr [
tq 19 (.idxAddr 4 (.t 15) (.t 17)),
lq 20 4 19,
tq 6 (.alloc zab [.z (.str []),.z (.int .i64 0),.z (.int .i64 0),.z (.str [])]),
⟨none,none,.store 4 (.t 6) (.t 20)⟩] [19,20]
(sr [
fa 21 0 6,
ld 22 21,
fa 23 1 6,
ld 24 23,
tq 25 (.build [.z (.str []),.z (.int .i64 0)] [(0,1,.t 22),(1,1,.t 24)]),
tq 7 (.alloc zk6 [.z (.str []),.z (.int .i64 0)]),
⟨none,none,.store 2 (.t 7) (.t 25)⟩] [21,22,23,24,25]
(sr [
mq 27 4,
lq 28 2 7,
tq 29 (.lookup (.rc [true,false]) (.agg [.str [],.int .i64 0,.int .i64 0,.str []]) true (.t 27) (.t 28)),
mq 26 29,
xq 30 26 0,
xq 31 26 1,
tq 8 (.alloc zab [.z (.str []),.z (.int .i64 0),.z (.int .i64 0),.z (.str [])]),
⟨none,none,.store 4 (.t 8) (.t 30)⟩,
mq 9 31] [26,27,28,29,30,31]
(.seq (sr [
lq 32 4 6,
tq 33 (cl zfj [.t 32]),
mq 34 9,
mq 35 34,
gq 36 35 true (.load (some 4) (.t 8)),
gq 37 35 true (.load (some 4) (.t 6)),
gq 38 35 true (.eqv (some [.str,.int,.int,.str]) true (.t 36) (.t 37)),
tq 39 (.pick (.t 35) (.t 38) (.k (.d (.bool false)))),
tq 40 (cl zak [.t 39,kq 29]),
tq 41 (.mkList 1 2 [.t 33,.t 40]),
tq 42 (cl zay [.t 41]),
mq 10 42] [8,9,32,33,34,35,36,37,38,39,40,41,42]
(sr [
mq 43 10,
tq 44 (.bin .neq (.t 43) (kq 0))] [43]
(.cond (.t 44) (sr [
mq 45 10,
tq 2 (.mv (.k (.d (.nilm)))),
mq 3 45] [10,45]
.ret)
 .skip)))
(rg [
mq 46 4,
lq 47 2 7,
lq 48 4 6,
⟨none,none,.mapSet (.rc [true,false]) (.t 46) (.t 47) (.t 48)⟩] [6,7,46,47,48]))))))
(rg [
tq 49 (.bin .add (.t 17) (kq 1)),
mq 17 49] [49]))))
def zvm:CF:=⟨[.tmp 2,.tmp 3],
  (sr [
tq 2 (.mv (.k (.d (.nilm)))),
tq 3 (.mv (kq 0))] [2,3]
(.seq (sr [
mq 11 0,
tq 12 (.len .slc (.t 11)),
tq 13 (.bin .gtr (.t 12) (kq 256))] [11,12]
(.cond (.t 13) (sr [
tq 2 (.mv (.k (.d (.nilm)))),
tq 3 (.mv (kq 5))] []
.ret)
 .skip))
(sr [
tq 14 (.mkMap),
mq 4 14] [14]
(.seq (sr [
mq 15 0,
tq 16 (.len .slc (.t 15)),
tq 17 (.mv (kq 0))] [0]
(.block 0 (.loop [4,15,16,17] zsc)))
(sr [
mq 50 4,
mq 2 50,
tq 3 (.mv (kq 0))] [4,50]
.ret)))))⟩
def zjj:CF:=⟨[.tmp 4],
  (sr [
tq 4 (.ownNil ⟨true,zab,4,48⟩)] [4]
(sr [
mq 6 0,
tq 7 (.call true false (.k (.fn zcm [] [])) [.t 6]),
mq 5 7] [0,6,7]
(sr [
mq 8 5,
mq 9 1,
tq 10 (.callB true (.k (.fn zai [] [])) [.t 8,.t 9] 8)] [1,8,9,10]
(sr [
mq 11 5,
mq 4 11] [5,11]
.ret))))⟩
def zcs:CF:=⟨[.tmp 2],
  (sr [
tq 1 (.box zfu (.t 0)),
tq 2 (.mv (.k (.d (.nilf))))] [0,2]
(sr [
tq 3 (.mkFunc zaf [] [.t 1]),
mq 2 3] [1,3]
.ret))⟩
def zt6:CF:=⟨[.tmp 4],
  (sr [
tq 2 (.box zab (.t 0)),
tq 3 (.box zab (.t 1)),
tq 4 (.mv (kq 0))] [0,1,4]
(.seq (.reg true [
fa 5 2 2,
ld 6 5,
fa 7 2 3,
ld 8 7,
tq 9 (cl zg0 [.t 6,.t 8]),
fa 10 0 2,
ld 11 10,
fa 12 0 3,
ld 13 12,
tq 14 (cl zhc [.t 11,.t 13]),
fa 15 1 2,
ld 16 15,
fa 17 1 3,
ld 18 17,
tq 19 (cl zg0 [.t 16,.t 18]),
tq 20 (.mkList 1 3 [.t 9,.t 14,.t 19]),
tq 21 (cl zpb [.t 20]),
mq 4 21] [2,3,5,6,7,8,9,10,11,12,13,14,15,16,17,18,19,20,21])
.ret))⟩
def zyt:C:=
  (sr [
tq 9 (.bin .lss (.t 8) (.t 7))] []
(.seq (.cond (.t 9) .skip
 (.exit 0))
(.seq (.block 1 (sr [
tq 10 (.idxAddr 1 (.t 6) (.t 8)),
ld 11 10,
mq 5 11] [10,11]
(sr [
mq 12 5,
mq 13 3,
tq 14 (.bin .neq (.t 12) (.t 13))] [12,13]
(.cond (.t 14) (sr [
mq 15 5,
mq 2 15] [5,15]
.ret)
 .skip))))
(rg [
tq 16 (.bin .add (.t 8) (kq 1)),
mq 8 16] [16]))))
def z3b:CF:=⟨[.tmp 2],
  (sr [
tq 2 (.mv (kq 0))] [2]
(sr [
tq 3 (.mv (kq 0))] []
(.seq (sr [
mq 6 0,
tq 7 (.len .slc (.t 6)),
tq 8 (.mv (kq 0))] [0]
(.block 0 (.loop [3,6,7,8] zyt)))
(sr [
mq 17 3,
mq 2 17] [3,17]
.ret))))⟩
def zt2:CF:=⟨[.tmp 4],
  (sr [
tq 4 (.mv (kq 0))] [4]
(sr [
mq 7 0,
tq 8 (cl zir [.t 7]),
mq 5 8] [7,8]
(sr [
mq 9 1,
tq 10 (cl zir [.t 9]),
mq 6 10] [9,10]
(.seq (sr [
mq 11 5] [5]
(.cond (.t 11) (.seq (sr [
mq 12 6] [6]
(.cond (.t 12) (sr [
tq 4 (.mv (kq 0))] []
.ret)
 .skip))
(sr [
tq 4 (.mv (kq (-1)))] []
.ret))
 .skip))
(.seq (sr [
mq 13 6] [6]
(.cond (.t 13) (sr [
tq 4 (.mv (kq 1))] []
.ret)
 .skip))
(.seq (sr [
mq 14 0,
mq 15 1,
tq 16 (.bin .lss (.t 14) (.t 15))] [14,15]
(.cond (.t 16) (sr [
tq 4 (.mv (kq (-1)))] []
.ret)
 .skip))
(.seq (sr [
mq 17 0,
mq 18 1,
tq 19 (.bin .gtr (.t 17) (.t 18))] [0,1,17,18]
(.cond (.t 19) (sr [
tq 4 (.mv (kq 1))] []
.ret)
 .skip))
(sr [
tq 4 (.mv (kq 0))] []
.ret))))))))⟩
def zqi:CF:=⟨[.tmp 4],
  (sr [
tq 4 (.mv (kq 0))] [4]
(sr [
mq 7 0,
tq 8 (cl zf4 [.t 7]),
mq 5 8] [7,8]
(sr [
mq 9 1,
tq 10 (cl zf4 [.t 9]),
mq 6 10] [9,10]
(.seq (sr [
mq 11 5] [5]
(.cond (.t 11) (.seq (sr [
mq 12 6] [6]
(.cond (.t 12) (sr [
tq 4 (.mv (kq 0))] []
.ret)
 .skip))
(sr [
tq 4 (.mv (kq (-1)))] []
.ret))
 .skip))
(.seq (sr [
mq 13 6] [6]
(.cond (.t 13) (sr [
tq 4 (.mv (kq 1))] []
.ret)
 .skip))
(.seq (sr [
mq 14 0,
mq 15 1,
tq 16 (.bin .lss (.t 14) (.t 15))] [14,15]
(.cond (.t 16) (sr [
tq 4 (.mv (kq (-1)))] []
.ret)
 .skip))
(.seq (sr [
mq 17 0,
mq 18 1,
tq 19 (.bin .gtr (.t 17) (.t 18))] [0,1,17,18]
(.cond (.t 19) (sr [
tq 4 (.mv (kq 1))] []
.ret)
 .skip))
(sr [
tq 4 (.mv (kq 0))] []
.ret))))))))⟩
def zol:CF:=⟨[.tmp 2],
  (sr [
tq 2 (.ownNil ⟨true,zag,1,16⟩)] [2]
(sr [
mq 4 0,
tq 5 (.call true false (.k (.fn zfm [] [])) [.t 4]),
mq 3 5] [0,4,5]
(sr [
mq 6 3,
tq 7 (.callB true (.k (.fn n_slices_Sort_Lstring_string [] [])) [.t 6] 6)] [6,7]
(sr [
mq 8 3,
mq 2 8] [3,8]
.ret))))⟩
def zg9:CF:=⟨[.tmp 2],
  (sr [
tq 1 (.box zjt (.t 0)),
tq 2 (.mv (.k (.d (.nilf))))] [0,2]
(sr [
tq 3 (.mkFunc zaw [] [.t 1]),
mq 2 3] [1,3]
.ret))⟩
def zvf:C:=
  (.seq (sr [
mq 14 3,
mq 15 0,
tq 16 (.len .str (.t 15)),
tq 17 (.bin .lss (.t 14) (.t 16))] [14,15,16]
(.cond (.t 17) .skip
 (.exit 0)))
(.seq (.block 1 (sr [
mq 20 0,
mq 21 3,
tq 22 (.idxS (.t 20) (.t 21)),
mq 4 22] [20,21,22]
(sr [
mq 23 4,
tq 24 (.bin .geq (.t 23) (.k (.d (.int .u8 97)))),
mq 25 24,
gq 26 25 true (.mv (.t 4)),
gq 27 25 true (.bin .leq (.t 26) (.k (.d (.int .u8 122)))),
tq 28 (.pick (.t 25) (.t 27) (.k (.d (.bool false)))),
mq 29 28,
gq 30 29 false (.mv (.t 4)),
gq 31 29 false (.bin .geq (.t 30) (.k (.d (.int .u8 65)))),
gq 32 29 false (.mv (.t 31)),
gq 33 32 true (.mv (.t 4)),
gq 34 32 true (.bin .leq (.t 33) (.k (.d (.int .u8 90)))),
gq 35 29 false (.pick (.t 32) (.t 34) (.k (.d (.bool false)))),
tq 36 (.pick (.t 29) (.k (.d (.bool true))) (.t 35)),
mq 5 36] [23,24,25,26,27,28,29,30,31,32,33,34,35,36]
(sr [
mq 37 5,
tq 38 (.un .not (.t 37)),
mq 39 38,
gq 40 39 true (.mv (.t 3)),
gq 41 39 true (.bin .eql (.t 40) (kq 0)),
gq 42 39 true (.mv (.t 41)),
gq 43 42 false (.mv (.t 4)),
gq 44 42 false (.bin .neq (.t 43) (.k (.d (.int .u8 95)))),
gq 45 42 false (.mv (.t 44)),
gq 46 45 true (.mv (.t 4)),
gq 47 45 true (.bin .lss (.t 46) (.k (.d (.int .u8 48)))),
gq 48 45 true (.mv (.t 47)),
gq 49 48 false (.mv (.t 4)),
gq 50 48 false (.bin .gtr (.t 49) (.k (.d (.int .u8 57)))),
gq 51 45 true (.pick (.t 48) (.k (.d (.bool true))) (.t 50)),
gq 52 42 false (.pick (.t 45) (.t 51) (.k (.d (.bool false)))),
gq 53 39 true (.pick (.t 42) (.k (.d (.bool true))) (.t 52)),
tq 54 (.pick (.t 39) (.t 53) (.k (.d (.bool false))))] [4,5,37,38,39,40,41,42,43,44,45,46,47,48,49,50,51,52,53]
(.cond (.t 54) (sr [
tq 2 (.mv (.k (.d (.bool false))))] []
.ret)
 .skip)))))
(rg [
mq 18 3,
tq 19 (.bin .add (.t 18) (kq 1)),
mq 3 19] [18,19])))
def zy1:CF:=⟨[.tmp 2],
  (sr [
tq 2 (.mv (.k (.d (.bool false))))] [2]
(.seq (sr [
mq 6 0,
tq 7 (.len .str (.t 6)),
tq 8 (.bin .eql (.t 7) (kq 0)),
mq 9 8,
gq 10 9 false (.mv (.t 0)),
gq 11 9 false (.len .str (.t 10)),
gq 12 9 false (.bin .gtr (.t 11) (kq 24)),
tq 13 (.pick (.t 9) (.k (.d (.bool true))) (.t 12))] [6,7,8,9,10,11,12]
(.cond (.t 13) (sr [
tq 2 (.mv (.k (.d (.bool false))))] []
.ret)
 .skip))
(.seq (sr [
tq 3 (.mv (kq 0))] []
(.block 0 (.loop [0,3] zvf)))
(sr [
tq 2 (.mv (.k (.d (.bool true))))] []
.ret))))⟩
def zw5:CF:=⟨[.tmp 6],
  (sr [
tq 6 (.mv (.k (.d (.bool false))))] [6]
(sr [
mq 7 0,
mq 8 1,
tq 9 (.bin .lss (.t 7) (.t 8)),
mq 10 9,
gq 11 10 false (.mv (.t 0)),
gq 12 10 false (.mv (.t 2)),
gq 13 10 false (.bin .gtr (.t 11) (.t 12)),
tq 14 (.pick (.t 10) (.k (.d (.bool true))) (.t 13)),
mq 6 14] [0,1,2,7,8,9,10,11,12,13,14]
.ret))⟩
def z07:CF:=⟨[.tmp 0],
  (sr [
tq 0 (.mv (.k (.d (.list 0 []))))] [0]
(sr [
tq 1 (.mkList 1 4 [.k (.d (.str [101,110,116,101,114,32,101,32,97,32,53,32,49,48,32,50,48,32,54,48,48])),.k (.d (.str [114,117,108,101,32,114,32,97,32,55,32,49,53,32,50,48,32,54,54,48])),.k (.d (.str [102,111,108,108,111,119,32,102,32,98,32,114,32,56,32,49,53,32,50,48,32,55,48,48])),.k (.d (.str [114,101,118,101,114,115,101,32,114,32,57]))]),
mq 0 1] [1]
.ret))⟩
def zvg:C:=
  (.seq (sr [
mq 35 7,
mq 36 4,
tq 37 (.len .slc (.t 36)),
tq 38 (.bin .lss (.t 35) (.t 37))] [35,36,37]
(.cond (.t 38) .skip
 (.exit 0)))
(.seq (.block 1 (.seq (sr [
mq 41 4,
mq 42 7,
tq 43 (.idxAddr 1 (.t 41) (.t 42)),
ld 44 43,
tq 45 (.bin .eql (.t 44) (.k (.d (.str []))))] [41,42,43,44]
(.cond (.t 45) (sr [
tq 46 (.build [.z (.int .i64 0),.z (.str []),.own ⟨false,zag,1,16⟩,.own ⟨false,zcl,1,8⟩,.z (.str [])] []),
⟨none,none,.store 5 (.t 2) (.t 46)⟩,
tq 3 (.mv (.k (.d (.bool false))))] [46]
.ret)
 .skip))
(.seq (sr [
mq 47 7,
fa 48 0 5,
ld 49 48,
tq 50 (.bin .leq (.t 47) (.t 49))] [47,48,49]
(.cond (.t 50) (.seq (.reg true [
fa 51 2 6,
ld 52 51,
mq 53 4,
mq 54 7,
tq 55 (.idxAddr 1 (.t 53) (.t 54)),
ld 56 55,
tq 57 (.mkList 1 1 [.t 56]),
tq 58 (.append ⟨false,zag,1,16⟩ (.t 52) (.t 57)),
fa 59 2 6,
⟨none,none,.store 1 (.t 59) (.t 58)⟩] [51,52,53,54,55,56,57,58,59])
(.exit 1))
 .skip))
(sr [
mq 61 4,
mq 62 7,
tq 63 (.idxAddr 1 (.t 61) (.t 62)),
ld 64 63,
tq 65 (cl zph [.t 64]),
mq 60 65,
xq 66 60 0,
xq 67 60 1,
mq 8 66,
mq 9 67] [60,61,62,63,64,65,66,67]
(.seq (sr [
mq 68 9,
tq 69 (.un .not (.t 68))] [9,68]
(.cond (.t 69) (sr [
tq 70 (.build [.z (.int .i64 0),.z (.str []),.own ⟨false,zag,1,16⟩,.own ⟨false,zcl,1,8⟩,.z (.str [])] []),
⟨none,none,.store 5 (.t 2) (.t 70)⟩,
tq 3 (.mv (.k (.d (.bool false))))] [70]
.ret)
 .skip))
(rg [
fa 71 3 6,
ld 72 71,
mq 73 8,
tq 74 (.mkList 1 1 [.t 73]),
tq 75 (.append ⟨false,zcl,1,8⟩ (.t 72) (.t 74)),
fa 76 3 6,
⟨none,none,.store 1 (.t 76) (.t 75)⟩] [8,71,72,73,74,75,76]))))))
(rg [
mq 39 7,
tq 40 (.bin .add (.t 39) (kq 1)),
mq 7 40] [39,40])))
def zy2:CF:=⟨[.cell 2 (some 5),.tmp 3],
  (sr [
tq 2 (.alloc zae [.z (.int .i64 0),.z (.str []),.own ⟨false,zag,1,16⟩,.own ⟨false,zcl,1,8⟩,.z (.str [])]),
tq 3 (.mv (.k (.d (.bool false))))] [3]
(sr [
mq 10 0,
tq 11 (cl zs2 [.t 10]),
mq 4 11] [0,10,11]
(sr [
mq 12 4,
tq 13 (.idxAddr 1 (.t 12) (kq 0)),
ld 14 13,
tq 15 (cl zu4 [.t 14]),
tq 5 (.alloc zjf [.z (.int .i64 0),.z (.int .i64 0),.z (.bool false)]),
⟨none,none,.store 3 (.t 5) (.t 15)⟩] [12,13,14,15]
(.seq (sr [
fa 16 2 5,
ld 17 16,
tq 18 (.un .not (.t 17)),
mq 19 18,
gq 20 19 false (.mv (.t 4)),
gq 21 19 false (.len .slc (.t 20)),
gq 22 19 false (.fieldAddr 0 (.t 5)),
gq 23 19 false (.load none (.t 22)),
gq 24 19 false (.bin .add (kq 1) (.t 23)),
gq 25 19 false (.fieldAddr 1 (.t 5)),
gq 26 19 false (.load none (.t 25)),
gq 27 19 false (.bin .add (.t 24) (.t 26)),
gq 28 19 false (.bin .neq (.t 21) (.t 27)),
tq 29 (.pick (.t 19) (.k (.d (.bool true))) (.t 28))] [16,17,18,19,20,21,22,23,24,25,26,27,28]
(.cond (.t 29) (sr [
tq 30 (.build [.z (.int .i64 0),.z (.str []),.own ⟨false,zag,1,16⟩,.own ⟨false,zcl,1,8⟩,.z (.str [])] []),
⟨none,none,.store 5 (.t 2) (.t 30)⟩,
tq 3 (.mv (.k (.d (.bool false))))] [30]
.ret)
 .skip))
(sr [
mq 31 4,
tq 32 (.idxAddr 1 (.t 31) (kq 0)),
ld 33 32,
tq 34 (.build [.z (.int .i64 0),.z (.str []),.own ⟨false,zag,1,16⟩,.own ⟨false,zcl,1,8⟩,.z (.str [])] [(1,1,.t 33)]),
tq 6 (.alloc zae [.z (.int .i64 0),.z (.str []),.own ⟨false,zag,1,16⟩,.own ⟨false,zcl,1,8⟩,.z (.str [])]),
⟨none,none,.store 5 (.t 6) (.t 34)⟩] [31,32,33,34]
(.seq (sr [
tq 7 (.mv (kq 1))] []
(.block 0 (.loop [2,4,5,6,7] zvg)))
(sr [
lq 77 5 6,
⟨none,none,.store 5 (.t 2) (.t 77)⟩,
tq 3 (.mv (.k (.d (.bool true))))] [6,77]
.ret)))))))⟩
def zyw:CF:=⟨[.tmp 4,.tmp 5],
  (sr [
tq 4 (.mv (.k (.d (.nilp)))),
tq 5 (.mv (kq 0))] [4,5]
(sr [
mq 10 0,
tq 11 (.call false false (.k (.fn ze1 [] [])) [.t 10]),
mq 9 11,
xq 12 9 0,
xq 13 9 1,
xq 14 9 2,
mq 6 12,
mq 7 13,
mq 8 14] [0,7,9,10,11,12,13,14]
(.seq (sr [
mq 15 8,
mq 16 1,
tq 17 (cl zay [.t 16]),
tq 18 (.mkList 1 2 [.t 15,.t 17]),
tq 19 (cl zay [.t 18]),
mq 8 19] [1,15,16,17,18,19]
(sr [
mq 20 8,
tq 21 (.bin .neq (.t 20) (kq 0))] [20]
(.cond (.t 21) (sr [
mq 22 8,
tq 4 (.mv (.k (.d (.nilp)))),
mq 5 22] [8,22]
.ret)
 .skip)))
(sr [
mq 23 6,
tq 24 (.nilCheck (.t 23)),
fa 25 1 24,
mq 4 25,
tq 5 (.mv (kq 0))] [6,23,24,25]
.ret))))⟩
def zyz:CF:=⟨[.tmp 2],
  (sr [
tq 2 (.mv (kq 0))] [2]
(sr [
mq 3 0,
tq 4 (cl zjo [.t 3]),
tq 5 (.un .not (.t 4)),
tq 6 (cl zak [.t 5,kq 8]),
mq 2 6] [0,3,4,5,6]
.ret))⟩
def zt7:CF:=⟨[.tmp 2],
  (sr [
tq 2 (.mv (kq 0))] [2]
(sr [
mq 3 0,
tq 4 (cl ze2 [.t 3,kq 0,kq 99999]),
mq 2 4] [0,3,4]
.ret))⟩
def zlu:C:=
  (rg [
tq 10 (.alloc zac [.z (.str []),.z (.str []),.z (.str []),.z (.str []),.z (.int .i64 0),.z (.int .i64 0),.z (.int .i64 0),.z (.int .i64 0)]),
⟨none,none,.store 8 (.t 10) (.t 17)⟩] [17])
def zlv:C:=
  (.block 1 (sr [
fa 18 2 10,
ld 19 18,
ld 20 5,
tq 21 (.bin .eql (.t 19) (.t 20)),
mq 22 21,
gq 23 22 true (.fieldAddr 5 (.t 10)),
gq 24 22 true (.load none (.t 23)),
gq 25 22 true (.load none (.t 7)),
gq 26 22 true (.bin .leq (.t 24) (.t 25)),
tq 27 (.pick (.t 22) (.t 26) (.k (.d (.bool false)))),
mq 28 27,
gq 29 28 true (.load none (.t 7)),
gq 30 28 true (.fieldAddr 6 (.t 10)),
gq 31 28 true (.load none (.t 30)),
gq 32 28 true (.bin .leq (.t 29) (.t 31)),
tq 33 (.pick (.t 28) (.t 32) (.k (.d (.bool false)))),
mq 34 33,
gq 35 34 true (.load none (.t 4)),
gq 36 34 true (.load (some 8) (.t 10)),
gq 37 34 true (.load none (.t 6)),
gq 38 34 true (.callQ (.k (.fn zbp [] [])) [.t 35,.t 36,.t 37]),
tq 39 (.pick (.t 34) (.t 38) (.k (.d (.bool false))))] [4,5,6,7,18,19,20,21,22,23,24,25,26,27,28,29,30,31,32,33,34,35,36,37,38]
(.cond (.t 39) (sr [
fa 40 7 10,
ld 41 40,
⟨none,none,.store 1 (.t 8) (.t 41)⟩] [10,40,41]
.ret)
 .skip)))
def zm0:CF:=⟨[.cell 8 none],
  (sr [
tq 4 (.box zcb (.t 0)),
tq 5 (.box zag (.t 1)),
tq 6 (.box zcl (.t 2)),
tq 7 (.box zcl (.t 3)),
tq 8 (.alloc zcl [.z (.int .i64 0)])] [0,1,2,3]
(.seq (sr [
ld 11 4,
tq 12 (.nilCheck (.t 11)),
fa 13 1 12,
ld 14 13,
tq 15 (.call false false (.k (.fn zcp [] [])) [.t 14])] [11,12,13,14]
(.block 0 (.rangeFn 43 (.t 15) [16,17] zlu zlv)))
(sr [
⟨none,none,.store 1 (.t 8) (kq 1440)⟩] []
.ret)))⟩
def zlx:CF:=⟨[.tmp 4],
  (sr [
tq 2 (.box zcb (.t 0)),
tq 3 (.box zcl (.t 1)),
tq 4 (.mv (.k (.d (.list 0 []))))] [0,1,4]
(sr [
ld 5 2,
tq 6 (.nilCheck (.t 5)),
fa 7 1 6,
ld 8 7,
tq 9 (.mkFunc zf6 [] [.t 2,.t 3]),
tq 10 (.call true true (.k (.fn zea [] [])) [.t 8,.t 9]),
tq 11 (.call true true (.k (.fn zch [] [])) [.t 10,.k (.fn znz [] [])]),
mq 4 11] [2,3,5,6,7,8,9,10,11]
.ret))⟩
def zmm:CF:=⟨[.tmp 4,.tmp 5],
  (sr [
tq 2 (.box zcb (.t 0)),
tq 3 (.box zag (.t 1)),
tq 4 (.mv (.k (.d (.list 0 [])))),
tq 5 (.mv (kq 0))] [0,1,4,5]
(.seq (sr [
ld 7 2,
ld 8 3,
tq 9 (.callQ (.k (.fn zbj [] [])) [.t 7,.t 8]),
tq 10 (.nilEq 0 false (.t 9))] [7,8,9]
(.cond (.t 10) (sr [
tq 4 (.mv (.k (.d (.list 0 [])))),
tq 5 (.mv (kq 10))] []
.ret)
 .skip))
(sr [
tq 11 (.mkFunc zgp [] [.t 2,.t 3]),
mq 6 11] [3,11]
(sr [
ld 12 2,
tq 13 (.nilCheck (.t 12)),
fa 14 1 13,
ld 15 14,
mq 16 6,
tq 17 (.call true true (.k (.fn zea [] [])) [.t 15,.t 16]),
tq 18 (.call true true (.k (.fn zch [] [])) [.t 17,.k (.fn znz [] [])]),
mq 4 18,
tq 5 (.mv (kq 0))] [2,6,12,13,14,15,16,17,18]
.ret))))⟩
def zoe:CF:=⟨[.tmp 2],
  (sr [
tq 1 (.box zk5 (.t 0)),
tq 2 (.mv (kq 0))] [0,2]
(.seq (.seq (.reg true [
fa 4 0 1,
ld 5 4,
tq 6 (cl zhv [.t 5]),
fa 7 1 1,
ld 8 7,
tq 9 (cl zhv [.t 8]),
tq 10 (.mkList 1 2 [.t 6,.t 9]),
tq 11 (cl zkf [.t 10]),
mq 3 11] [4,5,6,7,8,9,10,11])
(sr [
mq 12 3,
tq 13 (.bin .neq (.t 12) (kq 0))] [12]
(.cond (.t 13) (sr [
mq 14 3,
mq 2 14] [3,14]
.ret)
 .skip)))
(.seq (.reg true [
fa 15 1 1,
ld 16 15,
fa 17 0 1,
ld 18 17,
tq 19 (.bin .lss (.t 16) (.t 18)),
tq 20 (cl ziq [.t 19,kq 11]),
fa 21 1 1,
ld 22 21,
fa 23 0 1,
ld 24 23,
tq 25 (.bin .sub (.t 22) (.t 24)),
tq 26 (.bin .gtr (.t 25) (kq 400)),
tq 27 (cl ziq [.t 26,kq 4]),
fa 28 2 1,
ld 29 28,
tq 30 (cl zjp [.t 29,kq 1,kq 127]),
tq 31 (.mkList 1 3 [.t 20,.t 27,.t 30]),
tq 32 (cl zkf [.t 31]),
mq 2 32] [1,15,16,17,18,19,20,21,22,23,24,25,26,27,28,29,30,31,32])
.ret)))⟩
def ztx:CF:=⟨[.tmp 2,.tmp 3],
  (sr [
tq 1 (.box zk5 (.t 0)),
tq 2 (.mv (.k (.d (.list 0 [])))),
tq 3 (.mv (kq 0))] [0,2,3]
(.seq (sr [
lq 5 3 1,
tq 6 (cl zf1 [.t 5]),
mq 4 6] [5,6]
(sr [
mq 7 4,
tq 8 (.bin .neq (.t 7) (kq 0))] [7]
(.cond (.t 8) (sr [
mq 9 4,
tq 2 (.mv (.k (.d (.list 0 [])))),
mq 3 9] [4,9]
.ret)
 .skip)))
(sr [
lq 10 3 1,
tq 11 (.call false false (.k (.fn zm8 [] [])) [.t 10]),
tq 12 (.call true true (.k (.fn zh8 [] [])) [.t 11,.k (.fn zlk [] [])]),
mq 2 12,
tq 3 (.mv (kq 0))] [1,10,11,12]
.ret)))⟩
def zq6:C:=
  (sr [
tq 11 (.bin .lss (.t 10) (.t 9))] []
(.seq (.cond (.t 11) .skip
 (.exit 0))
(.seq (.block 1 (sr [
tq 12 (.idxAddr 1 (.t 8) (.t 10)),
ld 13 12,
mq 7 13] [12,13]
(sr [
mq 14 1,
mq 15 7,
tq 16 (.call true true (.t 14) [.t 15])] [14,15]
(.cond (.t 16) (rg [
mq 17 5,
mq 18 7,
tq 19 (.mkList 1 1 [.t 18]),
tq 20 (.append ⟨false,zcl,1,8⟩ (.t 17) (.t 19)),
mq 5 20] [7,17,18,19,20])
 .skip))))
(rg [
tq 21 (.bin .add (.t 10) (kq 1)),
mq 10 21] [21]))))
def zt9:CF:=⟨[.tmp 4],
  (sr [
tq 4 (.ownNil ⟨false,zcl,1,8⟩)] [4]
(sr [
tq 5 (.ownNil ⟨false,zcl,1,8⟩)] []
(.seq (sr [
mq 8 0,
tq 9 (.len .slc (.t 8)),
tq 10 (.mv (kq 0))] [0]
(.block 0 (.loop [1,5,8,9,10] zq6)))
(sr [
mq 22 5,
mq 4 22] [5,22]
.ret))))⟩
def zog:CF:=⟨[.tmp 6],
  (sr [
tq 6 (.mv (.k (.d (.bool false))))] [6]
(.seq (.reg true [
ld 7 1,
ld 8 2,
ld 9 3,
mq 10 0,
tq 11 (.callQ (.k (.fn zbq [] [])) [.t 7,.t 8,.t 9,.t 10]),
ld 12 1,
ld 13 2,
ld 14 4,
mq 15 0,
tq 16 (.callQ (.k (.fn zbq [] [])) [.t 12,.t 13,.t 14,.t 15]),
tq 17 (.bin .neq (.t 11) (.t 16)),
mq 6 17] [0,1,2,3,4,7,8,9,10,11,12,13,14,15,16,17])
.ret))⟩
def zmj:C:=
  (sr [
tq 21 (.bin .lss (.t 20) (.t 19))] []
(.seq (.cond (.t 21) .skip
 (.exit 0))
(.seq (.block 1 (sr [
tq 22 (.idxAddr 8 (.t 18) (.t 20)),
lq 23 8 22,
tq 9 (.alloc zac [.z (.str []),.z (.str []),.z (.str []),.z (.str []),.z (.int .i64 0),.z (.int .i64 0),.z (.int .i64 0),.z (.int .i64 0)]),
⟨none,none,.store 8 (.t 9) (.t 23)⟩] [22,23]
(rg [
mq 24 7,
fa 25 2 9,
ld 26 25,
⟨none,none,.mapSet .str (.t 24) (.t 26) (.k (.d (.bool true)))⟩] [9,24,25,26])))
(rg [
tq 27 (.bin .add (.t 20) (kq 1)),
mq 20 27] [27]))))
def zmk:C:=
  (sr [
tq 33 (.bin .lss (.t 32) (.t 31))] []
(.seq (.cond (.t 33) .skip
 (.exit 2))
(.seq (.block 3 (sr [
tq 34 (.idxAddr 1 (.t 30) (.t 32)),
ld 35 34,
mq 12 35] [34,35]
(sr [
mq 36 12,
mq 37 0,
mq 38 12,
mq 39 1,
mq 40 2,
tq 41 (.callQ (.k (.fn zbq [] [])) [.t 37,.t 38,.t 39,.t 40]),
tq 42 (.build [.z (.str []),.z (.int .i64 0)] [(0,1,.t 36),(1,1,.t 41)]),
tq 13 (.alloc zet [.z (.str []),.z (.int .i64 0)]),
⟨none,none,.store 2 (.t 13) (.t 42)⟩] [36,37,38,39,40,41,42]
(sr [
lq 43 2 13,
mq 44 12,
tq 45 (.build [.z (.str []),.z (.int .i64 0)] [(0,1,.t 44),(1,1,kq 1440)]),
tq 46 (.eqv (some [.str,.int]) true (.t 43) (.t 45))] [12,43,44,45]
(.cond (.t 46) (rg [
mq 47 10,
lq 48 2 13,
tq 49 (.mkList 2 1 [.t 48]),
tq 50 (.append ⟨false,zet,2,24⟩ (.t 47) (.t 49)),
mq 10 50] [13,47,48,49,50])
 .skip)))))
(rg [
tq 51 (.bin .add (.t 32) (kq 1)),
mq 32 51] [51]))))
def znp:CF:=⟨[.tmp 6],
  (sr [
tq 6 (.ownNil ⟨false,zet,2,24⟩)] [6]
(sr [
tq 14 (.mkMap),
mq 7 14] [14]
(.seq (sr [
mq 15 0,
tq 16 (.nilCheck (.t 15)),
fa 17 1 16,
ld 18 17,
tq 19 (.len .slc (.t 18)),
tq 20 (.mv (kq 0))] [15,16,17]
(.block 0 (.loop [0,1,2,7,18,19,20] zmj)))
(sr [
tq 10 (.ownNil ⟨false,zet,2,24⟩)] []
(.seq (sr [
mq 28 7,
tq 29 (.call true false (.k (.fn zdd [] [])) [.t 28]),
tq 30 (.call true true (.k (.fn zc4 [] [])) [.t 29]),
tq 31 (.len .slc (.t 30)),
tq 32 (.mv (kq 0))] [7,28,29]
(.block 2 (.loop [0,1,2,10,30,31,32] zmk)))
(sr [
mq 52 10,
mq 6 52] [10,52]
.ret))))))⟩
def zvc:C:=
  (sr [
tq 8 (.bin .lss (.t 7) (.t 6))] []
(.seq (.cond (.t 8) .skip
 (.exit 0))
(.seq (.block 1 (sr [
tq 9 (.idxAddr 1 (.t 5) (.t 7)),
ld 10 9,
mq 4 10] [9,10]
(sr [
mq 11 4,
tq 12 (.bin .neq (.t 11) (kq 0))] [11]
(.cond (.t 12) (sr [
mq 13 4,
mq 2 13] [4,13]
.ret)
 .skip))))
(rg [
tq 14 (.bin .add (.t 7) (kq 1)),
mq 7 14] [14]))))
def zyx:CF:=⟨[.tmp 2],
  (sr [
tq 2 (.mv (kq 0))] [2]
(.seq (sr [
mq 5 0,
tq 6 (.len .slc (.t 5)),
tq 7 (.mv (kq 0))] [0]
(.block 0 (.loop [5,6,7] zvc)))
(sr [
tq 2 (.mv (kq 0))] []
.ret)))⟩
def z1e:CF:=⟨[.tmp 4],
  (sr [
tq 4 (.mv (kq 0))] [4]
(.seq (sr [
mq 5 0] [0]
(.cond (.t 5) (sr [
mq 6 1,
mq 4 6] [1,6]
.ret)
 .skip))
(sr [
tq 4 (.mv (kq 0))] []
.ret)))⟩
def z1h:CF:=⟨[.tmp 4,.tmp 5,.tmp 6],
  (sr [
tq 4 (.mv (.k (.d (.str [])))),
tq 5 (.mv (.k (.d (.str [])))),
tq 6 (.mv (.k (.d (.bool false))))] [4,5,6]
(sr [
mq 7 0,
mq 8 1,
tq 9 (cl zg5 [.t 7,.t 8]),
xq 10 9 0,
xq 11 9 1,
xq 12 9 2,
mq 4 10,
mq 5 11,
mq 6 12] [0,1,7,8,9,10,11,12]
.ret))⟩
def zsi:CF:=⟨[.tmp 0],
  (sr [
tq 0 (.mv (.k (.d (.nilm))))] [0]
(sr [
tq 1 (.mkMap),
tq 2 (.build [.z (.int .i64 0),.z (.int .i64 0),.z (.nilf)] [(0,1,kq 4),(1,1,kq 2),(2,1,.k (.fn zkm [] []))]),
⟨none,none,.mapSet .str (.t 1) (.k (.d (.str [115,108,111,116]))) (.t 2)⟩,
tq 3 (.build [.z (.int .i64 0),.z (.int .i64 0),.z (.nilf)] [(0,1,kq 3),(1,1,kq 2),(2,1,.k (.fn zkn [] []))]),
⟨none,none,.mapSet .str (.t 1) (.k (.d (.str [100,97,121]))) (.t 3)⟩,
tq 4 (.build [.z (.int .i64 0),.z (.int .i64 0),.z (.nilf)] [(0,1,kq 2),(1,1,kq 1),(2,1,.k (.fn zko [] []))]),
⟨none,none,.mapSet .str (.t 1) (.k (.d (.str [99,111,117,110,116,115]))) (.t 4)⟩,
tq 5 (.build [.z (.int .i64 0),.z (.int .i64 0),.z (.nilf)] [(0,1,kq 2),(1,1,kq 0),(2,1,.k (.fn zkp [] []))]),
⟨none,none,.mapSet .str (.t 1) (.k (.d (.str [114,101,115,116,115]))) (.t 5)⟩,
tq 6 (.build [.z (.int .i64 0),.z (.int .i64 0),.z (.nilf)] [(0,1,kq 1),(1,1,kq 0),(2,1,.k (.fn zkq [] []))]),
⟨none,none,.mapSet .str (.t 1) (.k (.d (.str [111,112,101,110]))) (.t 6)⟩,
mq 7 1,
mq 0 7] [1,2,3,4,5,6,7]
.ret))⟩
def zod:C:=
  (sr [
tq 36 (.bin .lss (.t 35) (.t 34))] []
(.seq (.cond (.t 36) .skip
 (.exit 0))
(.seq (.block 1 (sr [
tq 37 (.idxAddr 1 (.t 33) (.t 35)),
ld 38 37,
mq 11 38] [37,38]
(sr [
mq 40 11,
tq 41 (cl zhp [.t 40]),
mq 39 41,
xq 42 39 0,
xq 43 39 1,
mq 12 42,
mq 13 43] [11,39,40,41,42,43]
(.seq (sr [
mq 44 13,
tq 45 (.un .not (.t 44))] [13,44]
(.cond (.t 45) (sr [
tq 6 (.mv (.k (.d (.str [])))),
tq 7 (.mv (kq 25))] []
.ret)
 .skip))
(rg [
mq 46 9,
mq 47 12,
tq 48 (.mkList 1 1 [.t 47]),
tq 49 (.append ⟨false,zcl,1,8⟩ (.t 46) (.t 48)),
mq 9 49] [12,46,47,48,49])))))
(rg [
tq 50 (.bin .add (.t 35) (kq 1)),
mq 35 50] [50]))))
def zql:CF:=⟨[.tmp 6,.tmp 7],
  (sr [
tq 4 (.box zmg (.t 1)),
tq 6 (.mv (.k (.d (.str [])))),
tq 7 (.mv (kq 0))] [1,6,7]
(sr [
mq 16 2,
tq 17 (cl n_strings_Split [.t 16,.k (.d (.str [32]))]),
mq 8 17] [2,16,17]
(.seq (sr [
mq 18 8,
tq 19 (.len .slc (.t 18)),
fa 20 0 4,
ld 21 20,
tq 22 (.bin .neq (.t 19) (.t 21)),
mq 23 22,
gq 24 23 false (.mv (.t 8)),
gq 25 23 false (cl zc1 [.t 24,.k (.d (.str []))]),
tq 26 (.pick (.t 23) (.k (.d (.bool true))) (.t 25))] [18,19,20,21,22,23,24,25]
(.cond (.t 26) (sr [
tq 6 (.mv (.k (.d (.str [])))),
tq 7 (.mv (kq 25))] []
.ret)
 .skip))
(sr [
tq 9 (.ownNil ⟨false,zcl,1,8⟩)] []
(.seq (sr [
mq 27 8,
mq 28 8,
tq 29 (.len .slc (.t 28)),
fa 30 1 4,
ld 31 30,
tq 32 (.bin .sub (.t 29) (.t 31)),
tq 33 (.slice 1 (.t 27) (some (.t 32)) none none),
tq 34 (.len .slc (.t 33)),
tq 35 (.mv (kq 0))] [27,28,29,30,31,32]
(.block 0 (.loop [0,4,8,9,33,34,35] zod)))
(.seq (.reg true [
fa 52 2 4,
ld 53 52,
mq 54 0,
tq 55 (.nilCheck (.t 54)),
fa 56 0 55,
fa 57 1 56,
mq 58 8,
mq 59 9,
tq 60 (.callU true (.t 53) [.t 57,.t 58,.t 59]),
mq 51 60,
xq 61 51 0,
xq 62 51 1,
mq 14 61,
mq 15 62] [0,4,8,9,51,52,53,54,55,56,57,58,59,60,61,62])
(.seq (sr [
mq 63 15,
tq 64 (.bin .neq (.t 63) (kq 0))] [63]
(.cond (.t 64) (sr [
mq 65 15,
tq 6 (.mv (.k (.d (.str [])))),
mq 7 65] [15,65]
.ret)
 .skip))
(.seq (sr [
mq 66 14,
tq 67 (.len .slc (.t 66)),
tq 68 (.bin .eql (.t 67) (kq 0))] [66,67]
(.cond (.t 68) (sr [
tq 6 (.mv (.k (.d (.str [110,111,110,101])))),
tq 7 (.mv (kq 0))] []
.ret)
 .skip))
(sr [
mq 69 14,
tq 70 (cl n_strings_Join [.t 69,.k (.d (.str [32]))]),
mq 6 70,
tq 7 (.mv (kq 0))] [14,69,70]
.ret)))))))))⟩
def zyy:CF:=⟨[.tmp 0],
  (sr [
tq 0 (.mv (.k (.d (.nilm))))] [0]
(sr [
tq 1 (.mkMap),
tq 2 (.build [.z (.int .i64 0),.z (.int .i64 0),.z (.nilf),.z (.nilf)] [(0,1,kq 2),(1,1,kq 4),(2,1,.k (.fn zat [] [])),(3,1,.k (.fn zau [] []))]),
⟨none,none,.mapSet .str (.t 1) (.k (.d (.str [101,110,116,101,114]))) (.t 2)⟩,
tq 3 (.build [.z (.int .i64 0),.z (.int .i64 0),.z (.nilf),.z (.nilf)] [(0,1,kq 2),(1,1,kq 4),(2,1,.k (.fn zat [] [])),(3,1,.k (.fn zau [] []))]),
⟨none,none,.mapSet .str (.t 1) (.k (.d (.str [114,117,108,101]))) (.t 3)⟩,
tq 4 (.build [.z (.int .i64 0),.z (.int .i64 0),.z (.nilf),.z (.nilf)] [(0,1,kq 3),(1,1,kq 4),(2,1,.k (.fn zat [] [])),(3,1,.k (.fn zau [] []))]),
⟨none,none,.mapSet .str (.t 1) (.k (.d (.str [102,111,108,108,111,119]))) (.t 4)⟩,
tq 5 (.build [.z (.int .i64 0),.z (.int .i64 0),.z (.nilf),.z (.nilf)] [(0,1,kq 1),(1,1,kq 1),(2,1,.k (.fn za9 [] [])),(3,1,.k (.fn zhq [] []))]),
⟨none,none,.mapSet .str (.t 1) (.k (.d (.str [114,101,118,101,114,115,101]))) (.t 5)⟩,
tq 6 (.build [.z (.int .i64 0),.z (.int .i64 0),.z (.nilf),.z (.nilf)] [(0,1,kq 2),(1,1,kq 1),(2,1,.k (.fn za4 [] [])),(3,1,.k (.fn zb0 [] []))]),
⟨none,none,.mapSet .str (.t 1) (.k (.d (.str [99,111,109,112,108,97,105,110]))) (.t 6)⟩,
tq 7 (.build [.z (.int .i64 0),.z (.int .i64 0),.z (.nilf),.z (.nilf)] [(0,1,kq 1),(1,1,kq 2),(2,1,.k (.fn za7 [] [])),(3,1,.k (.fn zbr [] []))]),
⟨none,none,.mapSet .str (.t 1) (.k (.d (.str [100,101,99,105,100,101]))) (.t 7)⟩,
mq 8 1,
mq 0 8] [1,2,3,4,5,6,7,8]
.ret))⟩
def zvd:C:=
  (sr [
tq 50 (.bin .lss (.t 49) (.t 48))] []
(.seq (.cond (.t 50) .skip
 (.exit 0))
(.seq (.block 1 (.reg true [
fa 51 2 7,
ld 52 51,
mq 53 6,
tq 54 (.callR true (.t 53) [] [7]),
tq 55 (.mkList 1 1 [.t 54]),
tq 56 (.append ⟨false,zag,1,16⟩ (.t 52) (.t 55)),
fa 57 2 7,
⟨none,none,.store 1 (.t 57) (.t 56)⟩] [51,52,53,54,55,56,57]))
(rg [
tq 58 (.bin .add (.t 49) (kq 1)),
mq 49 58] [58]))))
def zve:C:=
  (sr [
tq 62 (.bin .lss (.t 61) (.t 60))] []
(.seq (.cond (.t 62) .skip
 (.exit 2))
(.seq (.block 3 (sr [
mq 64 6,
tq 65 (.call true true (.t 64) []),
tq 66 (cl zhp [.t 65]),
mq 63 66,
xq 67 63 0,
xq 68 63 1,
mq 10 67,
mq 11 68] [63,64,65,66,67,68]
(.seq (sr [
mq 69 11,
tq 70 (.un .not (.t 69))] [11,69]
(.cond (.t 70) (sr [
tq 71 (.build [.z (.int .i64 0),.z (.str []),.own ⟨false,zag,1,16⟩,.own ⟨false,zcl,1,8⟩,.z (.str [])] []),
⟨none,none,.store 5 (.t 2) (.t 71)⟩,
tq 3 (.mv (.k (.d (.bool false))))] [71]
.ret)
 .skip))
(rg [
fa 72 3 7,
ld 73 72,
mq 74 10,
tq 75 (.mkList 1 1 [.t 74]),
tq 76 (.append ⟨false,zcl,1,8⟩ (.t 73) (.t 75)),
fa 77 3 7,
⟨none,none,.store 1 (.t 77) (.t 76)⟩] [10,72,73,74,75,76,77]))))
(rg [
tq 78 (.bin .add (.t 61) (kq 1)),
mq 61 78] [78]))))
def zy0:CF:=⟨[.cell 2 (some 5),.tmp 3],
  (sr [
tq 2 (.alloc zae [.z (.int .i64 0),.z (.str []),.own ⟨false,zag,1,16⟩,.own ⟨false,zcl,1,8⟩,.z (.str [])]),
tq 3 (.mv (.k (.d (.bool false))))] [3]
(sr [
mq 12 0,
tq 13 (cl n_strings_Split [.t 12,.k (.d (.str [32]))]),
mq 4 13] [0,12,13]
(sr [
mq 14 4,
tq 15 (.build [.z (.list 0 [])] [(0,1,.t 14)]),
tq 16 (.box zvv (.t 15)),
mq 5 16] [14,15,16]
(sr [
mq 17 5,
tq 18 (.mkFunc zkr [.t 17] []),
mq 6 18] [5,17,18]
(sr [
mq 19 6,
tq 20 (.call true true (.t 19) []),
tq 21 (.build [.z (.int .i64 0),.z (.str []),.own ⟨false,zag,1,16⟩,.own ⟨false,zcl,1,8⟩,.z (.str [])] [(1,1,.t 20)]),
tq 7 (.alloc zae [.z (.int .i64 0),.z (.str []),.own ⟨false,zag,1,16⟩,.own ⟨false,zcl,1,8⟩,.z (.str [])]),
⟨none,none,.store 5 (.t 7) (.t 21)⟩] [19,20,21]
(.seq (.reg true [
tq 23 (.callN (.k (.fn zer [] [])) []),
fa 24 1 7,
ld 25 24,
tq 26 (.lookup .str (.agg [.int .i64 0,.int .i64 0,.nilf,.nilf]) true (.t 23) (.t 25)),
mq 22 26,
xq 27 22 0,
xq 28 22 1,
tq 8 (.alloc zmv [.z (.int .i64 0),.z (.int .i64 0),.z (.nilf),.z (.nilf)]),
⟨none,none,.store 4 (.t 8) (.t 27)⟩,
mq 9 28] [22,23,24,25,26,27,28])
(.seq (sr [
mq 29 9,
tq 30 (.un .not (.t 29)),
mq 31 30,
gq 32 31 false (.mv (.t 4)),
gq 33 31 false (.len .slc (.t 32)),
gq 34 31 false (.fieldAddr 0 (.t 8)),
gq 35 31 false (.load none (.t 34)),
gq 36 31 false (.bin .add (kq 1) (.t 35)),
gq 37 31 false (.fieldAddr 1 (.t 8)),
gq 38 31 false (.load none (.t 37)),
gq 39 31 false (.bin .add (.t 36) (.t 38)),
gq 40 31 false (.bin .neq (.t 33) (.t 39)),
tq 41 (.pick (.t 31) (.k (.d (.bool true))) (.t 40)),
mq 42 41,
gq 43 42 false (.mv (.t 4)),
gq 44 42 false (cl zc1 [.t 43,.k (.d (.str []))]),
tq 45 (.pick (.t 42) (.k (.d (.bool true))) (.t 44))] [4,9,29,30,31,32,33,34,35,36,37,38,39,40,41,42,43,44]
(.cond (.t 45) (sr [
tq 46 (.build [.z (.int .i64 0),.z (.str []),.own ⟨false,zag,1,16⟩,.own ⟨false,zcl,1,8⟩,.z (.str [])] []),
⟨none,none,.store 5 (.t 2) (.t 46)⟩,
tq 3 (.mv (.k (.d (.bool false))))] [46]
.ret)
 .skip))
(.seq (sr [
fa 47 0 8,
ld 48 47,
tq 49 (.mv (kq 0))] [47]
(.block 0 (.loop [2,6,7,8,48,49] zvd)))
(.seq (sr [
fa 59 1 8,
ld 60 59,
tq 61 (.mv (kq 0))] [8,59]
(.block 2 (.loop [2,6,7,60,61] zve)))
(sr [
lq 79 5 7,
⟨none,none,.store 5 (.t 2) (.t 79)⟩,
tq 3 (.mv (.k (.d (.bool true))))] [7,79]
.ret))))))))))⟩
def zrh:CF:=⟨[.tmp 2],
  (sr [
tq 1 (.box zae (.t 0)),
tq 2 (.mv (kq 0))] [0,2]
(.seq (.reg true [
tq 8 (.callN (.k (.fn zer [] [])) []),
fa 9 1 1,
ld 10 9,
tq 11 (.lookup .str (.agg [.int .i64 0,.int .i64 0,.nilf,.nilf]) true (.t 8) (.t 10)),
mq 7 11,
xq 12 7 0,
xq 13 7 1,
tq 3 (.alloc zmv [.z (.int .i64 0),.z (.int .i64 0),.z (.nilf),.z (.nilf)]),
⟨none,none,.store 4 (.t 3) (.t 12)⟩,
mq 4 13] [7,8,9,10,11,12,13])
(sr [
fa 14 2 1,
ld 15 14,
tq 16 (cl zcd [.t 15,.k (.fn zei [] [])]),
mq 5 16] [14,15,16]
(sr [
fa 17 3 1,
ld 18 17,
tq 19 (cl zdg [.t 18,.k (.fn zej [] [])]),
mq 6 19] [17,18,19]
(.seq (.reg true [
fa 20 0 1,
ld 21 20,
tq 22 (cl ze2 [.t 21,kq 1,kq 1000]),
mq 23 4,
tq 24 (.un .not (.t 23)),
tq 25 (cl zak [.t 24,kq 13]),
fa 26 2 1,
ld 27 26,
tq 28 (.len .slc (.t 27)),
fa 29 0 3,
ld 30 29,
tq 31 (.bin .neq (.t 28) (.t 30)),
mq 32 31,
gq 33 32 false (.fieldAddr 3 (.t 1)),
gq 34 32 false (.load none (.t 33)),
gq 35 32 false (.len .slc (.t 34)),
gq 36 32 false (.fieldAddr 1 (.t 3)),
gq 37 32 false (.load none (.t 36)),
gq 38 32 false (.bin .neq (.t 35) (.t 37)),
tq 39 (.pick (.t 32) (.k (.d (.bool true))) (.t 38)),
tq 40 (cl zak [.t 39,kq 2]),
mq 41 5,
tq 42 (cl zak [.t 41,kq 8]),
mq 43 6,
tq 44 (cl zak [.t 43,kq 3]),
fa 45 4 1,
ld 46 45,
tq 47 (.bin .neq (.t 46) (.k (.d (.str [])))),
tq 48 (cl zak [.t 47,kq 1]),
tq 49 (.mkList 1 6 [.t 22,.t 25,.t 40,.t 42,.t 44,.t 48]),
tq 50 (cl zay [.t 49]),
mq 2 50] [1,3,4,5,6,20,21,22,23,24,25,26,27,28,29,30,31,32,33,34,35,36,37,38,39,40,41,42,43,44,45,46,47,48,49,50])
.ret)))))⟩
def zm2:CF:=⟨[.tmp 4],
  (sr [
tq 3 (.box zae (.t 1)),
tq 4 (.mv (kq 0))] [1,4]
(sr [
mq 7 0,
tq 8 (.nilCheck (.t 7)),
fa 9 1 8,
mq 5 9] [7,8,9]
(.seq (.seq (.reg true [
fa 10 0 3,
ld 11 10,
mq 12 0,
tq 13 (.nilCheck (.t 12)),
fa 14 0 13,
ld 15 14,
tq 16 (.len .slc (.t 15)),
tq 17 (.bin .add (.t 16) (kq 1)),
tq 18 (.bin .neq (.t 11) (.t 17)),
tq 19 (cl zak [.t 18,kq 11]),
fa 20 3 3,
ld 21 20,
tq 22 (.idxAddr 1 (.t 21) (kq 0)),
ld 23 22,
mq 24 5,
tq 25 (.nilCheck (.t 24)),
fa 26 0 25,
ld 27 26,
tq 28 (.bin .lss (.t 23) (.t 27)),
tq 29 (cl zak [.t 28,kq 19]),
fa 30 3 3,
ld 31 30,
tq 32 (.idxAddr 1 (.t 31) (kq 0)),
ld 33 32,
tq 34 (.bin .gtr (.t 33) (kq 99999)),
tq 35 (cl zak [.t 34,kq 3]),
tq 36 (.mkList 1 3 [.t 19,.t 29,.t 35]),
tq 37 (cl zay [.t 36]),
mq 6 37] [0,10,11,12,13,14,15,16,17,18,19,20,21,22,23,24,25,26,27,28,29,30,31,32,33,34,35,36,37])
(sr [
mq 38 6,
tq 39 (.bin .neq (.t 38) (kq 0))] [38]
(.cond (.t 39) (sr [
mq 40 6,
mq 4 40] [6,40]
.ret)
 .skip)))
(.seq (.reg true [
tq 41 (.call false false (.k (.fn zer [] [])) []),
fa 42 1 3,
ld 43 42,
tq 44 (.lookup .str (.agg [.int .i64 0,.int .i64 0,.nilf,.nilf]) false (.t 41) (.t 43)),
tq 45 (.field 2 none (.t 44)),
mq 46 5,
lq 47 5 3,
tq 48 (.callQ (.t 45) [.t 46,.t 47]),
mq 4 48] [3,5,41,42,43,44,45,46,47,48])
.ret))))⟩
def zqm:CF:=⟨[],
  (sr [
tq 3 (.box zae (.t 1))] [1]
(.seq (.reg true [
fa 4 2 3,
ld 5 4,
tq 6 (cl zdk [.t 5]),
fa 7 3 3,
ld 8 7,
tq 9 (cl zfl [.t 8]),
fa 10 2 3,
⟨none,none,.store 1 (.t 10) (.t 6)⟩,
fa 11 3 3,
⟨none,none,.store 1 (.t 11) (.t 9)⟩] [4,5,6,7,8,9,10,11])
(.seq (.reg true [
mq 12 0,
mq 13 0,
tq 14 (.nilCheck (.t 13)),
fa 15 0 14,
ld 16 15,
lq 17 5 3,
tq 18 (.mkList 5 1 [.t 17]),
tq 19 (.append ⟨false,zae,5,88⟩ (.t 16) (.t 18)),
tq 20 (.nilCheck (.t 12)),
fa 21 0 20,
⟨none,none,.store 1 (.t 21) (.t 19)⟩] [12,13,14,15,16,17,18,19,20,21])
(sr [
mq 22 0,
fa 23 3 3,
ld 24 23,
tq 25 (.idxAddr 1 (.t 24) (kq 0)),
ld 26 25,
tq 27 (.nilCheck (.t 22)),
fa 28 1 27,
fa 29 0 28,
⟨none,none,.store 1 (.t 29) (.t 26)⟩] [22,23,24,25,26,27,28,29]
(.reg true [
tq 30 (.call false false (.k (.fn zer [] [])) []),
fa 31 1 3,
ld 32 31,
tq 33 (.lookup .str (.agg [.int .i64 0,.int .i64 0,.nilf,.nilf]) false (.t 30) (.t 32)),
tq 34 (.field 3 none (.t 33)),
mq 35 0,
tq 36 (.nilCheck (.t 35)),
fa 37 1 36,
lq 38 5 3,
tq 39 (.call true true (.t 34) [.t 37,.t 38])] [0,3,30,31,32,33,34,35,36,37,38,39])))))⟩
def zib:C:=
  (sr [
tq 11 (.bin .lss (.t 10) (.t 9))] []
(.seq (.cond (.t 11) .skip
 (.exit 0))
(.seq (.block 1 (sr [
tq 12 (.idxAddr 5 (.t 8) (.t 10)),
lq 13 5 12,
tq 7 (.alloc zae [.z (.int .i64 0),.z (.str []),.z (.list 0 []),.z (.list 0 []),.z (.str [])]),
⟨none,none,.store 5 (.t 7) (.t 13)⟩] [12,13]
(rg [
mq 14 5,
mq 15 1,
lq 16 5 7,
tq 17 (.call true true (.t 15) [.t 16]),
tq 18 (.mkList 1 1 [.t 17]),
tq 19 (.append ⟨false,zag,1,16⟩ (.t 14) (.t 18)),
mq 5 19] [7,14,15,16,17,18,19])))
(rg [
tq 20 (.bin .add (.t 10) (kq 1)),
mq 10 20] [20]))))
def zi4:CF:=⟨[.tmp 4],
  (sr [
tq 4 (.ownNil ⟨false,zag,1,16⟩)] [4]
(sr [
tq 5 (.ownNil ⟨false,zag,1,16⟩)] []
(.seq (sr [
mq 8 0,
tq 9 (.len .slc (.t 8)),
tq 10 (.mv (kq 0))] [0]
(.block 0 (.loop [1,5,8,9,10] zib)))
(sr [
mq 21 5,
mq 4 21] [5,21]
.ret))))⟩
def zw1:CF:=⟨[.tmp 2],
  (sr [
tq 1 (.box zae (.t 0)),
tq 2 (.mv (.k (.d (.str []))))] [0,2]
(.seq (.reg true [
fa 4 0 1,
ld 5 4,
tq 6 (cl n_strconv_Itoa [.t 5]),
tq 7 (.bin .add (.t 6) (.k (.d (.str [32])))),
lq 8 5 1,
tq 9 (cl zs1 [.t 8]),
tq 10 (.bin .add (.t 7) (.t 9)),
mq 3 10] [1,4,5,6,7,8,9,10])
(sr [
mq 11 3,
tq 12 (.bin .add (.t 11) (.k (.d (.str [35])))),
mq 13 3,
tq 14 (cl zpf [.t 13]),
tq 15 (.bin .add (.t 12) (.t 14)),
tq 16 (.bin .add (.t 15) (.k (.d (.str [10])))),
mq 2 16] [3,11,12,13,14,15,16]
.ret)))⟩
def zw6:CF:=⟨[.tmp 2],
  (sr [
tq 1 (.box zag (.t 0)),
tq 2 (.mv (.k (.d (.nilf))))] [0,2]
(sr [
tq 3 (.mkFunc znf [] [.t 1]),
mq 2 3] [1,3]
.ret))⟩
def zrk:CF:=⟨[.tmp 4,.tmp 5],
  (sr [
tq 4 (.mv (.k (.d (.str [])))),
tq 5 (.mv (.k (.d (.bool false))))] [4,5]
(sr [
mq 6 0,
mq 7 1,
tq 8 (cl zeu [.t 6,.t 7]),
xq 9 8 0,
xq 10 8 1,
mq 4 9,
mq 5 10] [0,1,6,7,8,9,10]
.ret))⟩
def zua:CF:=⟨[.cell 4 (some 5),.tmp 5],
  (sr [
tq 4 (.alloc zae [.z (.int .i64 0),.z (.str []),.z (.list 0 []),.z (.list 0 []),.z (.str [])]),
tq 5 (.mv (kq 0))] [5]
(sr [
mq 15 0,
tq 16 (.len .str (.t 15)),
tq 17 (.bin .sub (.t 16) (kq 8)),
mq 6 17] [15,16,17]
(.seq (sr [
mq 18 6,
tq 19 (.bin .lss (.t 18) (kq 0)),
mq 20 19,
gq 21 20 false (.mv (.t 0)),
gq 22 20 false (.mv (.t 6)),
gq 23 20 false (.idxS (.t 21) (.t 22)),
gq 24 20 false (.bin .neq (.t 23) (.k (.d (.int .u8 35)))),
tq 25 (.pick (.t 20) (.k (.d (.bool true))) (.t 24)),
mq 26 25,
gq 27 26 false (.mv (.t 0)),
gq 28 26 false (.mv (.t 6)),
gq 29 26 false (.bin .add (.t 28) (kq 1)),
gq 30 26 false (.sliceS (.t 27) (some (.t 29)) none),
gq 31 26 false (cl zpd [.t 30]),
gq 32 26 false (.un .not (.t 31)),
tq 33 (.pick (.t 26) (.k (.d (.bool true))) (.t 32))] [18,19,20,21,22,23,24,25,26,27,28,29,30,31,32]
(.cond (.t 33) (sr [
tq 34 (.build [.z (.int .i64 0),.z (.str []),.z (.list 0 []),.z (.list 0 []),.z (.str [])] []),
⟨none,none,.store 5 (.t 4) (.t 34)⟩,
tq 5 (.mv (kq 25))] [34]
.ret)
 .skip))
(sr [
mq 35 0,
mq 36 6,
tq 37 (.sliceS (.t 35) none (some (.t 36))),
mq 7 37] [35,36,37]
(.seq (.seq (.reg true [
mq 38 7,
tq 39 (cl zpf [.t 38]),
mq 40 0,
mq 41 6,
tq 42 (.bin .add (.t 41) (kq 1)),
tq 43 (.sliceS (.t 40) (some (.t 42)) none),
tq 44 (.bin .neq (.t 39) (.t 43))] [0,6,38,39,40,41,42,43])
(.cond (.t 44) (sr [
tq 45 (.build [.z (.int .i64 0),.z (.str []),.z (.list 0 []),.z (.list 0 []),.z (.str [])] []),
⟨none,none,.store 5 (.t 4) (.t 45)⟩,
tq 5 (.mv (kq 27))] [45]
.ret)
 .skip))
(sr [
mq 47 7,
tq 48 (cl zn2 [.t 47,.k (.d (.str [32]))]),
mq 46 48,
xq 49 46 0,
xq 50 46 1,
xq 51 46 2,
mq 8 49,
mq 9 50,
mq 10 51] [7,46,47,48,49,50,51]
(sr [
mq 53 8,
tq 54 (cl zhp [.t 53]),
mq 52 54,
xq 55 52 0,
xq 56 52 1,
mq 11 55,
mq 12 56] [8,52,53,54,55,56]
(sr [
mq 58 9,
tq 59 (cl zmq [.t 58]),
mq 57 59,
xq 60 57 0,
xq 61 57 1,
tq 13 (.alloc zae [.z (.int .i64 0),.z (.str []),.z (.list 0 []),.z (.list 0 []),.z (.str [])]),
⟨none,none,.store 5 (.t 13) (.t 60)⟩,
mq 14 61] [9,57,58,59,60,61]
(sr [
mq 62 11,
fa 63 0 13,
⟨none,none,.store 1 (.t 63) (.t 62)⟩] [62,63]
(.seq (sr [
mq 64 10,
tq 65 (.un .not (.t 64)),
mq 66 65,
gq 67 66 false (.mv (.t 12)),
gq 68 66 false (.un .not (.t 67)),
tq 69 (.pick (.t 66) (.k (.d (.bool true))) (.t 68)),
mq 70 69,
gq 71 70 false (.mv (.t 14)),
gq 72 70 false (.un .not (.t 71)),
tq 73 (.pick (.t 70) (.k (.d (.bool true))) (.t 72)),
mq 74 73,
gq 75 74 false (.load (some 5) (.t 13)),
gq 76 74 false (cl zc7 [.t 75]),
gq 77 74 false (.bin .neq (.t 76) (kq 0)),
tq 78 (.pick (.t 74) (.k (.d (.bool true))) (.t 77))] [10,12,14,64,65,66,67,68,69,70,71,72,73,74,75,76,77]
(.cond (.t 78) (sr [
tq 79 (.build [.z (.int .i64 0),.z (.str []),.z (.list 0 []),.z (.list 0 []),.z (.str [])] []),
⟨none,none,.store 5 (.t 4) (.t 79)⟩,
tq 5 (.mv (kq 25))] [79]
.ret)
 .skip))
(.seq (.reg true [
lq 80 5 13,
mq 81 11,
mq 82 1,
tq 83 (.bin .add (.t 82) (kq 1)),
tq 84 (.bin .neq (.t 81) (.t 83)),
tq 85 (cl zak [.t 84,kq 11]),
⟨none,none,.store 5 (.t 4) (.t 80)⟩,
mq 5 85] [1,11,13,80,81,82,83,84,85])
.ret)))))))))))⟩
def z3g:CF:=⟨[.tmp 2],
  (sr [
tq 2 (.mv (.k (.d (.str []))))] [2]
(sr [
mq 3 0,
tq 4 (cl zpg [.t 3]),
mq 2 4] [0,3,4]
.ret))⟩
def zri:CF:=⟨[.tmp 2],
  (sr [
tq 1 (.box zab (.t 0)),
tq 2 (.mv (kq 0))] [0,2]
(sr [
fa 4 3 1,
ld 5 4,
tq 6 (cl zc6 [.t 5,.k (.fn zek [] [])]),
mq 3 6] [4,5,6]
(.seq (.reg true [
fa 7 0 1,
ld 8 7,
tq 9 (cl zcr [.t 8]),
fa 10 1 1,
ld 11 10,
tq 12 (cl ze2 [.t 11,kq 1,kq 999999999]),
fa 13 2 1,
ld 14 13,
tq 15 (cl zaz [.t 14]),
fa 16 3 1,
ld 17 16,
tq 18 (.bin .eql (.t 17) (.k (.d (.str [])))),
mq 19 18,
gq 20 19 false (.fieldAddr 3 (.t 1)),
gq 21 19 false (.load none (.t 20)),
gq 22 19 false (.len .str (.t 21)),
gq 23 19 false (.bin .gtr (.t 22) (kq 80)),
tq 24 (.pick (.t 19) (.k (.d (.bool true))) (.t 23)),
mq 25 24,
gq 26 25 false (.mv (.t 3)),
tq 27 (.pick (.t 25) (.k (.d (.bool true))) (.t 26)),
tq 28 (cl zak [.t 27,kq 1]),
tq 29 (.mkList 1 4 [.t 9,.t 12,.t 15,.t 28]),
tq 30 (cl zay [.t 29]),
mq 2 30] [1,3,7,8,9,10,11,12,13,14,15,16,17,18,19,20,21,22,23,24,25,26,27,28,29,30])
.ret)))⟩
def zkx:CF:=⟨[.tmp 2],
  (sr [
tq 2 (.ownNil ⟨true,zab,4,48⟩)] [2]
(sr [
mq 3 0,
tq 4 (.call true false (.k (.fn zbc [] [])) [.k (.d .nil),.t 3]),
mq 2 4] [0,3,4]
.ret))⟩
def zfo:CF:=⟨[],
  (sr [
mq 5 0,
tq 6 (.len .slc (.t 5)),
mq 4 6] [5,6]
(rg [
mq 7 0,
mq 8 4,
mq 9 4,
tq 10 (.conv .u64 (.t 9)),
tq 11 (cl zlm [.t 10]),
mq 12 1,
tq 13 (.call true true (.k (.fn za5 [] [])) [.t 7,kq 0,.t 8,.t 11,.t 12])] [0,1,4,7,8,9,10,11,12,13]))⟩
def zav:C:=
  (sr [
mq 11 0,
lq 12 4 4,
tq 13 (.call true true (.t 11) [.t 12]),
tq 14 (.un .not (.t 13))] [4,11,12,13]
(.cond (.t 14) .ret
 .skip))
def zcn:CF:=⟨[],
  (.rangeM [ld 5 1] 6 (.t 5) 0 1 9 [0,6] [xq 10 9 1,
tq 4 (.alloc zab [.z (.str []),.z (.int .i64 0),.z (.int .i64 0),.z (.str [])]),
⟨none,none,.store 4 (.t 4) (.t 10)⟩] [9,10] zav)⟩
def zww:CF:=⟨[.tmp 2],
  (sr [
tq 2 (.mv (.k (.d (.bool false))))] [2]
(sr [
mq 3 0,
mq 4 0,
tq 5 (.bin .neq (.t 3) (.t 4)),
mq 2 5] [0,3,4,5]
.ret))⟩
def zsh:CF:=⟨[.tmp 2],
  (sr [
tq 2 (.mv (.k (.d (.bool false))))] [2]
(sr [
mq 3 0,
mq 4 0,
tq 5 (.bin .neq (.t 3) (.t 4)),
mq 2 5] [0,3,4,5]
.ret))⟩
def znr:CF:=⟨[.tmp 2],
  (sr [
tq 2 (.ownNil ⟨true,zag,1,16⟩)] [2]
(sr [
mq 3 0,
tq 4 (.call true false (.k (.fn zcx [] [])) [.k (.d .nil),.t 3]),
mq 2 4] [0,3,4]
.ret))⟩
def zbu:C:=
  (sr [
mq 10 0,
mq 11 3,
tq 12 (.call true true (.t 10) [.t 11]),
tq 13 (.un .not (.t 12))] [3,10,11,12]
(.cond (.t 13) .ret
 .skip))
def zgk:CF:=⟨[],
  (.rangeM [ld 4 1] 5 (.t 4) 0 1 8 [0,5] [xq 9 8 0,
mq 3 9] [8,9] zbu)⟩
def zwo:C:=
  (.seq (sr [
mq 6 5,
mq 7 0,
tq 8 (.len .str (.t 7)),
tq 9 (.bin .leq (.t 6) (.t 8))] [6,7,8]
(.cond (.t 9) .skip
 (.exit 0)))
(.seq (.block 1 (sr [
mq 12 5,
mq 13 0,
tq 14 (.len .str (.t 13)),
tq 15 (.bin .eql (.t 12) (.t 14)),
mq 16 15,
gq 17 16 false (.mv (.t 0)),
gq 18 16 false (.mv (.t 5)),
gq 19 16 false (.idxS (.t 17) (.t 18)),
gq 20 16 false (.bin .eql (.t 19) (.k (.d (.int .u8 32)))),
tq 21 (.pick (.t 16) (.k (.d (.bool true))) (.t 20))] [12,13,14,15,16,17,18,19,20]
(.cond (.t 21) (sr [
mq 22 3,
mq 23 0,
mq 24 4,
mq 25 5,
tq 26 (.sliceS (.t 23) (some (.t 24)) (some (.t 25))),
tq 27 (.mkList 1 1 [.t 26]),
tq 28 (.append ⟨false,zag,1,16⟩ (.t 22) (.t 27)),
mq 3 28] [4,22,23,24,25,26,27,28]
(rg [
mq 29 5,
tq 30 (.bin .add (.t 29) (kq 1)),
mq 4 30] [29,30]))
 .skip)))
(rg [
mq 10 5,
tq 11 (.bin .add (.t 10) (kq 1)),
mq 5 11] [10,11])))
def z1g:CF:=⟨[.tmp 2],
  (sr [
tq 2 (.ownNil ⟨false,zag,1,16⟩)] [2]
(sr [
tq 3 (.ownNil ⟨false,zag,1,16⟩)] []
(sr [
tq 4 (.mv (kq 0))] []
(.seq (sr [
tq 5 (.mv (kq 0))] []
(.block 0 (.loop [0,3,4,5] zwo)))
(sr [
mq 31 3,
mq 2 31] [3,31]
.ret)))))⟩
def z3f:CF:=⟨[.cell 2 (some 3)],
  (sr [
tq 2 (.alloc zjf [.z (.int .i64 0),.z (.int .i64 0),.z (.bool false)])] []
(.seq (sr [
mq 3 0] [0]
(.block 0 (.seq (sr [
tq 5 (.bin .eql (.t 3) (.k (.d (.str [101,110,116,101,114])))),
mq 4 5] [5]
(.cond (.t 4) .skip
 (rg [
tq 6 (.bin .eql (.t 3) (.k (.d (.str [114,117,108,101])))),
mq 4 6] [6])))
(.cond (.t 4) (sr [
tq 7 (.build [.z (.int .i64 0),.z (.int .i64 0),.z (.bool false)] [(0,1,kq 2),(1,1,kq 4),(2,1,.k (.d (.bool true)))]),
⟨none,none,.store 3 (.t 2) (.t 7)⟩] [7]
.ret)
 (sr [
tq 9 (.bin .eql (.t 3) (.k (.d (.str [102,111,108,108,111,119])))),
mq 8 9] [9]
(.cond (.t 8) (sr [
tq 10 (.build [.z (.int .i64 0),.z (.int .i64 0),.z (.bool false)] [(0,1,kq 3),(1,1,kq 4),(2,1,.k (.d (.bool true)))]),
⟨none,none,.store 3 (.t 2) (.t 10)⟩] [10]
.ret)
 (sr [
tq 12 (.bin .eql (.t 3) (.k (.d (.str [114,101,118,101,114,115,101])))),
mq 11 12] [12]
(.cond (.t 11) (sr [
tq 13 (.build [.z (.int .i64 0),.z (.int .i64 0),.z (.bool false)] [(0,1,kq 1),(1,1,kq 1),(2,1,.k (.d (.bool true)))]),
⟨none,none,.store 3 (.t 2) (.t 13)⟩] [13]
.ret)
 (sr [
tq 15 (.bin .eql (.t 3) (.k (.d (.str [99,111,109,112,108,97,105,110])))),
mq 14 15] [15]
(.cond (.t 14) (sr [
tq 16 (.build [.z (.int .i64 0),.z (.int .i64 0),.z (.bool false)] [(0,1,kq 2),(1,1,kq 1),(2,1,.k (.d (.bool true)))]),
⟨none,none,.store 3 (.t 2) (.t 16)⟩] [16]
.ret)
 (sr [
tq 18 (.bin .eql (.t 3) (.k (.d (.str [100,101,99,105,100,101])))),
mq 17 18] [3,18]
(.cond (.t 17) (sr [
tq 19 (.build [.z (.int .i64 0),.z (.int .i64 0),.z (.bool false)] [(0,1,kq 1),(1,1,kq 2),(2,1,.k (.d (.bool true)))]),
⟨none,none,.store 3 (.t 2) (.t 19)⟩] [19]
.ret)
 .skip))))))))))))
(sr [
tq 20 (.build [.z (.int .i64 0),.z (.int .i64 0),.z (.bool false)] []),
⟨none,none,.store 3 (.t 2) (.t 20)⟩] [20]
.ret)))⟩
def ztu:C:=
  (.seq (sr [
mq 24 5,
mq 25 0,
tq 26 (.len .str (.t 25)),
tq 27 (.bin .lss (.t 24) (.t 26))] [24,25,26]
(.cond (.t 27) .skip
 (.exit 0)))
(.seq (.block 1 (.seq (sr [
mq 30 0,
mq 31 5,
tq 32 (.idxS (.t 30) (.t 31)),
tq 33 (.bin .lss (.t 32) (.k (.d (.int .u8 48)))),
mq 34 33,
gq 35 34 false (.mv (.t 0)),
gq 36 34 false (.mv (.t 5)),
gq 37 34 false (.idxS (.t 35) (.t 36)),
gq 38 34 false (.bin .gtr (.t 37) (.k (.d (.int .u8 57)))),
tq 39 (.pick (.t 34) (.k (.d (.bool true))) (.t 38))] [30,31,32,33,34,35,36,37,38]
(.cond (.t 39) (sr [
tq 2 (.mv (kq 0)),
tq 3 (.mv (.k (.d (.bool false))))] []
.ret)
 .skip))
(rg [
mq 40 4,
tq 41 (.bin .mul (kq 10) (.t 40)),
mq 42 0,
mq 43 5,
tq 44 (.idxS (.t 42) (.t 43)),
tq 45 (.bin .sub (.t 44) (.k (.d (.int .u8 48)))),
tq 46 (.conv .i64 (.t 45)),
tq 47 (.bin .add (.t 41) (.t 46)),
mq 4 47] [40,41,42,43,44,45,46,47])))
(rg [
mq 28 5,
tq 29 (.bin .add (.t 28) (kq 1)),
mq 5 29] [28,29])))
def zw4:CF:=⟨[.tmp 2,.tmp 3],
  (sr [
tq 2 (.mv (kq 0)),
tq 3 (.mv (.k (.d (.bool false))))] [2,3]
(.seq (sr [
mq 6 0,
tq 7 (.len .str (.t 6)),
tq 8 (.bin .eql (.t 7) (kq 0)),
mq 9 8,
gq 10 9 false (.mv (.t 0)),
gq 11 9 false (.len .str (.t 10)),
gq 12 9 false (.bin .gtr (.t 11) (kq 9)),
tq 13 (.pick (.t 9) (.k (.d (.bool true))) (.t 12)),
mq 14 13,
gq 15 14 false (.mv (.t 0)),
gq 16 14 false (.len .str (.t 15)),
gq 17 14 false (.bin .gtr (.t 16) (kq 1)),
gq 18 14 false (.mv (.t 17)),
gq 19 18 true (.mv (.t 0)),
gq 20 18 true (.idxS (.t 19) (kq 0)),
gq 21 18 true (.bin .eql (.t 20) (.k (.d (.int .u8 48)))),
gq 22 14 false (.pick (.t 18) (.t 21) (.k (.d (.bool false)))),
tq 23 (.pick (.t 14) (.k (.d (.bool true))) (.t 22))] [6,7,8,9,10,11,12,13,14,15,16,17,18,19,20,21,22]
(.cond (.t 23) (sr [
tq 2 (.mv (kq 0)),
tq 3 (.mv (.k (.d (.bool false))))] []
.ret)
 .skip))
(sr [
tq 4 (.mv (kq 0))] []
(.seq (sr [
tq 5 (.mv (kq 0))] []
(.block 0 (.loop [0,4,5] ztu)))
(sr [
mq 48 4,
mq 2 48,
tq 3 (.mv (.k (.d (.bool true))))] [4,48]
.ret)))))⟩
def ztt:C:=
  (sr [
tq 17 (.bin .lss (.t 16) (.t 15))] []
(.seq (.cond (.t 17) .skip
 (.exit 0))
(.seq (.block 1 (sr [
mq 18 16,
tq 19 (.idxAddr 5 (.t 14) (.t 16)),
lq 20 5 19,
tq 7 (.alloc zae [.z (.int .i64 0),.z (.str []),.z (.list 0 []),.z (.list 0 []),.z (.str [])]),
mq 6 18,
⟨none,none,.store 5 (.t 7) (.t 20)⟩] [18,19,20]
(sr [
lq 21 5 7,
tq 22 (cl zc7 [.t 21]),
mq 8 22] [21,22]
(.seq (sr [
mq 23 8,
tq 24 (.bin .eql (.t 23) (kq 0))] [23]
(.cond (.t 24) (rg [
mq 25 5,
lq 26 5 7,
tq 27 (.callQ (.k (.fn zan [] [])) [.t 25,.t 26]),
mq 8 27] [25,26,27])
 .skip))
(.seq (sr [
mq 28 8,
tq 29 (.bin .neq (.t 28) (kq 0))] [28]
(.cond (.t 29) (sr [
mq 30 6,
tq 31 (.bin .add (.t 30) (kq 1)),
mq 32 8,
tq 2 (.mv (.k (.d (.nilp)))),
mq 3 31,
mq 4 32] [6,8,30,31,32]
.ret)
 .skip))
(rg [
mq 33 5,
lq 34 5 7,
tq 35 (.call true true (.k (.fn zap [] [])) [.t 33,.t 34])] [7,33,34,35]))))))
(rg [
tq 36 (.bin .add (.t 16) (kq 1)),
mq 16 36] [36]))))
def zw2:CF:=⟨[.tmp 2,.tmp 3,.tmp 4],
  (sr [
tq 2 (.mv (.k (.d (.nilp)))),
tq 3 (.mv (kq 0)),
tq 4 (.mv (kq 0))] [2,3,4]
(.seq (sr [
mq 9 0,
tq 10 (.len .slc (.t 9)),
tq 11 (.bin .gtr (.t 10) (kq 1000))] [9,10]
(.cond (.t 11) (sr [
tq 2 (.mv (.k (.d (.nilp)))),
tq 3 (.mv (kq 0)),
tq 4 (.mv (kq 5))] []
.ret)
 .skip))
(sr [
tq 12 (.build [.own ⟨false,zae,5,88⟩,.z (.int .i64 0),.own ⟨false,zac,8,96⟩,.own ⟨false,zaj,2,24⟩,.own ⟨true,zad,5,48⟩] []),
tq 13 (.box ze3 (.t 12)),
mq 5 13] [12,13]
(.seq (sr [
mq 14 0,
tq 15 (.len .slc (.t 14)),
tq 16 (.mv (kq 0))] [0]
(.block 0 (.loop [5,14,15,16] ztt)))
(sr [
mq 37 5,
mq 2 37,
tq 3 (.mv (kq 0)),
tq 4 (.mv (kq 0))] [5,37]
.ret)))))⟩
def zq5:C:=
  (sr [
tq 16 (.nextS (.t 15)),
xq 17 16 0] []
(.seq (.cond (.t 17) .skip
 (.exit 0))
(.block 1 (sr [
xq 18 16 1,
xq 19 16 2,
mq 3 18,
mq 4 19] [16,18,19]
(sr [
mq 20 4,
tq 21 (.bin .geq (.t 20) (.k (.d (.int .i32 65)))),
mq 22 21,
gq 23 22 true (.mv (.t 4)),
gq 24 22 true (.bin .leq (.t 23) (.k (.d (.int .i32 90)))),
tq 25 (.pick (.t 22) (.t 24) (.k (.d (.bool false)))),
mq 26 25,
gq 27 26 false (.mv (.t 4)),
gq 28 26 false (.bin .geq (.t 27) (.k (.d (.int .i32 97)))),
gq 29 26 false (.mv (.t 28)),
gq 30 29 true (.mv (.t 4)),
gq 31 29 true (.bin .leq (.t 30) (.k (.d (.int .i32 122)))),
gq 32 26 false (.pick (.t 29) (.t 31) (.k (.d (.bool false)))),
tq 33 (.pick (.t 26) (.k (.d (.bool true))) (.t 32)),
mq 5 33] [20,21,22,23,24,25,26,27,28,29,30,31,32,33]
(sr [
mq 34 5,
tq 35 (.un .not (.t 34)),
mq 36 35,
gq 37 36 true (.mv (.t 3)),
gq 38 36 true (.bin .eql (.t 37) (kq 0)),
gq 39 36 true (.mv (.t 38)),
gq 40 39 false (.mv (.t 4)),
gq 41 39 false (.bin .neq (.t 40) (.k (.d (.int .i32 95)))),
gq 42 39 false (.mv (.t 41)),
gq 43 42 true (.mv (.t 4)),
gq 44 42 true (.bin .lss (.t 43) (.k (.d (.int .i32 48)))),
gq 45 42 true (.mv (.t 44)),
gq 46 45 false (.mv (.t 4)),
gq 47 45 false (.bin .gtr (.t 46) (.k (.d (.int .i32 57)))),
gq 48 42 true (.pick (.t 45) (.k (.d (.bool true))) (.t 47)),
gq 49 39 false (.pick (.t 42) (.t 48) (.k (.d (.bool false)))),
gq 50 36 true (.pick (.t 39) (.k (.d (.bool true))) (.t 49)),
tq 51 (.pick (.t 36) (.t 50) (.k (.d (.bool false))))] [3,4,5,34,35,36,37,38,39,40,41,42,43,44,45,46,47,48,49,50]
(.cond (.t 51) (sr [
tq 2 (.mv (.k (.d (.bool false))))] []
.ret)
 .skip)))))))
def zty:CF:=⟨[.tmp 2],
  (sr [
tq 2 (.mv (.k (.d (.bool false))))] [2]
(.seq (sr [
mq 6 0,
tq 7 (.len .str (.t 6)),
tq 8 (.bin .eql (.t 7) (kq 0)),
mq 9 8,
gq 10 9 false (.mv (.t 0)),
gq 11 9 false (.len .str (.t 10)),
gq 12 9 false (.bin .gtr (.t 11) (kq 24)),
tq 13 (.pick (.t 9) (.k (.d (.bool true))) (.t 12))] [6,7,8,9,10,11,12]
(.cond (.t 13) (sr [
tq 2 (.mv (.k (.d (.bool false))))] []
.ret)
 .skip))
(.seq (sr [
mq 14 0,
tq 15 (.rangeS (.t 14))] [0,14]
(.block 0 (.loop [15] zq5)))
(sr [
tq 2 (.mv (.k (.d (.bool true))))] []
.ret))))⟩
def zw3:CF:=⟨[.tmp 6],
  (sr [
tq 6 (.mv (kq 0))] [6]
(sr [
mq 7 0,
mq 8 1,
tq 9 (.bin .lss (.t 7) (.t 8)),
mq 10 9,
gq 11 10 false (.mv (.t 0)),
gq 12 10 false (.mv (.t 2)),
gq 13 10 false (.bin .gtr (.t 11) (.t 12)),
tq 14 (.pick (.t 10) (.k (.d (.bool true))) (.t 13)),
tq 15 (cl zak [.t 14,kq 3]),
mq 6 15] [0,1,2,7,8,9,10,11,12,13,14,15]
.ret))⟩
def ze7:CF:=⟨[.tmp 2],
  (sr [
tq 1 (.box zvt (.t 0)),
tq 2 (.mv (.k (.d (.nilf))))] [0,2]
(sr [
tq 3 (.mkFunc zcg [] [.t 1]),
mq 2 3] [1,3]
.ret))⟩
def zmz:CF:=⟨[.tmp 6],
  (sr [
tq 3 (.box zcb (.t 0)),
tq 4 (.box zac (.t 1)),
tq 5 (.box zcl (.t 2)),
tq 6 (.mv (.k (.d (.bool false))))] [0,1,2,6]
(sr [
ld 8 3,
lq 9 8 4,
tq 10 (.call true true (.k (.fn zdp [] [])) [.t 8,.t 9]),
tq 11 (.mkFunc zb3 [] [.t 3,.t 5]),
tq 12 (.call true true (.k (.fn za3 [] [])) [.t 10,.t 11]),
mq 7 12] [3,8,9,10,11,12]
(sr [
fa 13 4 4,
ld 14 13,
ld 15 5,
tq 16 (.bin .leq (.t 14) (.t 15)),
mq 17 16,
gq 18 17 true (.mv (.t 7)),
gq 19 17 true (.un .not (.t 18)),
tq 20 (.pick (.t 17) (.t 19) (.k (.d (.bool false)))),
mq 6 20] [4,5,7,13,14,15,16,17,18,19,20]
.ret)))⟩
def zg7:C:=
  (sr [
tq 11 (.bin .lss (.t 10) (.t 9))] []
(.seq (.cond (.t 11) .skip
 (.exit 0))
(.seq (.block 1 (sr [
tq 12 (.idxAddr 8 (.t 8) (.t 10)),
lq 13 8 12,
tq 7 (.alloc zac [.z (.str []),.z (.str []),.z (.str []),.z (.str []),.z (.int .i64 0),.z (.int .i64 0),.z (.int .i64 0),.z (.int .i64 0)]),
⟨none,none,.store 8 (.t 7) (.t 13)⟩] [12,13]
(rg [
mq 14 5,
mq 15 1,
lq 16 8 7,
tq 17 (.call true true (.t 15) [.t 16]),
tq 18 (.mkList 1 1 [.t 17]),
tq 19 (.append ⟨false,zag,1,16⟩ (.t 14) (.t 18)),
mq 5 19] [7,14,15,16,17,18,19])))
(rg [
tq 20 (.bin .add (.t 10) (kq 1)),
mq 10 20] [20]))))
def zhs:CF:=⟨[.tmp 4],
  (sr [
tq 4 (.ownNil ⟨false,zag,1,16⟩)] [4]
(sr [
tq 5 (.ownNil ⟨false,zag,1,16⟩)] []
(.seq (sr [
mq 8 0,
tq 9 (.len .slc (.t 8)),
tq 10 (.mv (kq 0))] [0]
(.block 0 (.loop [1,5,8,9,10] zg7)))
(sr [
mq 21 5,
mq 4 21] [5,21]
.ret))))⟩
def zks:C:=
  (sr [
tq 11 (.bin .lss (.t 10) (.t 9))] []
(.seq (.cond (.t 11) .skip
 (.exit 0))
(.seq (.block 1 (sr [
tq 12 (.idxAddr 8 (.t 8) (.t 10)),
lq 13 8 12,
tq 7 (.alloc zac [.z (.str []),.z (.str []),.z (.str []),.z (.str []),.z (.int .i64 0),.z (.int .i64 0),.z (.int .i64 0),.z (.int .i64 0)]),
⟨none,none,.store 8 (.t 7) (.t 13)⟩] [12,13]
(sr [
mq 14 1,
lq 15 8 7,
tq 16 (.call true true (.t 14) [.t 15])] [14,15]
(.cond (.t 16) (rg [
mq 17 5,
lq 18 8 7,
tq 19 (.mkList 8 1 [.t 18]),
tq 20 (.append ⟨false,zac,8,96⟩ (.t 17) (.t 19)),
mq 5 20] [7,17,18,19,20])
 .skip))))
(rg [
tq 21 (.bin .add (.t 10) (kq 1)),
mq 10 21] [21]))))
def zlz:CF:=⟨[.tmp 4],
  (sr [
tq 4 (.ownNil ⟨false,zac,8,96⟩)] [4]
(sr [
tq 5 (.ownNil ⟨false,zac,8,96⟩)] []
(.seq (sr [
mq 8 0,
tq 9 (.len .slc (.t 8)),
tq 10 (.mv (kq 0))] [0]
(.block 0 (.loop [1,5,8,9,10] zks)))
(sr [
mq 22 5,
mq 4 22] [5,22]
.ret))))⟩
def zkv:CF:=⟨[.tmp 4],
  (sr [
tq 3 (.box zac (.t 0)),
tq 4 (.mv (.k (.d (.bool false))))] [0,4]
(sr [
ld 5 1,
lq 6 8 3,
ld 7 2,
tq 8 (.callQ (.k (.fn zbp [] [])) [.t 5,.t 6,.t 7]),
mq 4 8] [1,2,3,5,6,7,8]
.ret))⟩
def z1d:CF:=⟨[.tmp 2],
  (sr [
tq 1 (.box zac (.t 0)),
tq 2 (.mv (.k (.d (.str []))))] [0,2]
(sr [
fa 3 0 1,
ld 4 3,
mq 2 4] [1,3,4]
.ret))⟩
def zno:CF:=⟨[.tmp 4],
  (sr [
tq 3 (.box zag (.t 1)),
tq 4 (.mv (.k (.d (.nilp))))] [1,4]
(.seq (sr [
mq 6 0,
tq 7 (.nilCheck (.t 6)),
fa 8 1 7,
ld 9 8,
tq 10 (.mkFunc zcc [] [.t 3]),
tq 11 (.call true true (.k (.fn zax [] [])) [.t 9,.t 10]),
mq 5 11] [3,6,7,8,9,10,11]
(sr [
mq 12 5,
tq 13 (.bin .geq (.t 12) (kq 0))] [12]
(.cond (.t 13) (sr [
mq 14 0,
tq 15 (.nilCheck (.t 14)),
fa 16 1 15,
ld 17 16,
mq 18 5,
tq 19 (.idxAddr 8 (.t 17) (.t 18)),
mq 4 19] [0,5,14,15,16,17,18,19]
.ret)
 .skip)))
(sr [
tq 4 (.mv (.k (.d (.nilp))))] []
.ret)))⟩
def zle:CF:=⟨[.tmp 4],
  (sr [
tq 3 (.box zac (.t 0)),
tq 4 (.mv (.k (.d (.bool false))))] [0,4]
(sr [
ld 5 1,
lq 6 8 3,
tq 7 (.call true true (.k (.fn zdp [] [])) [.t 5,.t 6]),
tq 8 (.slice 8 (.t 7) (some (kq 1)) none none),
tq 9 (.mkFunc zfr [] [.t 2]),
tq 10 (.call true true (.k (.fn za3 [] [])) [.t 8,.t 9]),
mq 4 10] [1,2,3,5,6,7,8,9,10]
.ret))⟩
def zed:CF:=⟨[.tmp 4],
  (sr [
tq 4 (.mv (.k (.d (.bool false))))] [4]
(sr [
mq 5 0,
mq 6 1,
tq 7 (.call true true (.k (.fn zax [] [])) [.t 5,.t 6]),
tq 8 (.bin .geq (.t 7) (kq 0)),
mq 4 8] [0,1,5,6,7,8]
.ret))⟩
def zmi:C:=
  (.block 1 (sr [
mq 9 0,
mq 10 5,
mq 11 5,
tq 12 (.len .slc (.t 11)),
tq 13 (.bin .sub (.t 12) (kq 1)),
tq 14 (.idxAddr 8 (.t 10) (.t 13)),
fa 15 3 14,
ld 16 15,
tq 17 (.callQ (.k (.fn zbj [] [])) [.t 9,.t 16]),
mq 6 17] [9,10,11,12,13,14,15,16,17]
(.seq (sr [
mq 18 6,
tq 19 (.nilEq 0 false (.t 18))] [18]
(.cond (.t 19) (.exit 0)
 .skip))
(rg [
mq 20 5,
mq 21 6,
tq 22 (.nilCheck (.t 21)),
lq 23 8 22,
tq 24 (.mkList 8 1 [.t 23]),
tq 25 (.append ⟨false,zac,8,96⟩ (.t 20) (.t 24)),
mq 5 25] [6,20,21,22,23,24,25]))))
def znn:CF:=⟨[.tmp 4],
  (sr [
tq 3 (.box zac (.t 1)),
tq 4 (.ownNil ⟨false,zac,8,96⟩)] [1,4]
(.scope (sr [
lq 7 8 3,
tq 8 (.mkRow ⟨false,zac,8,96⟩ 1 [.t 7]),
mq 5 8] [3,7,8]
(.seq .label
(.seq (.block 0 (.loop [0,5] zmi))
(sr [
mq 26 5,
mq 4 26] [5,26]
.ret))))))⟩
def zkb:CF:=⟨[.tmp 3],
  (sr [
tq 2 (.box zac (.t 0)),
tq 3 (.mv (.k (.d (.bool false))))] [0,3]
(sr [
fa 4 0 2,
ld 5 4,
ld 6 1,
tq 7 (.bin .eql (.t 5) (.t 6)),
mq 3 7] [1,2,4,5,6,7]
.ret))⟩
def zr8:C:=
  (sr [
tq 8 (.bin .lss (.t 7) (.t 6))] []
(.seq (.cond (.t 8) .skip
 (.exit 0))
(.seq (.block 1 (sr [
tq 9 (.idxAddr 1 (.t 5) (.t 7)),
ld 10 9,
mq 4 10] [9,10]
(sr [
mq 11 4,
tq 12 (.bin .neq (.t 11) (kq 0))] [11]
(.cond (.t 12) (sr [
mq 13 4,
mq 2 13] [4,13]
.ret)
 .skip))))
(rg [
tq 14 (.bin .add (.t 7) (kq 1)),
mq 7 14] [14]))))
def zvh:CF:=⟨[.tmp 2],
  (sr [
tq 2 (.mv (kq 0))] [2]
(.seq (sr [
mq 5 0,
tq 6 (.len .slc (.t 5)),
tq 7 (.mv (kq 0))] [0]
(.block 0 (.loop [5,6,7] zr8)))
(sr [
tq 2 (.mv (kq 0))] []
.ret)))⟩
def zrf:CF:=⟨[.tmp 2],
  (sr [
tq 2 (.mv (kq 0))] [2]
(sr [
mq 3 0,
tq 4 (cl zjp [.t 3,kq 0,kq 99999]),
mq 2 4] [0,3,4]
.ret))⟩
def zwv:CF:=⟨[.tmp 4],
  (sr [
tq 4 (.mv (kq 0))] [4]
(.seq (sr [
mq 5 0] [0]
(.cond (.t 5) (sr [
mq 6 1,
mq 4 6] [1,6]
.ret)
 .skip))
(sr [
tq 4 (.mv (kq 0))] []
.ret)))⟩
def zt1:CF:=⟨[.tmp 6],
  (sr [
tq 6 (.mv (kq 0))] [6]
(sr [
mq 7 0,
mq 8 1,
tq 9 (.bin .lss (.t 7) (.t 8)),
mq 10 9,
gq 11 10 false (.mv (.t 0)),
gq 12 10 false (.mv (.t 2)),
gq 13 10 false (.bin .gtr (.t 11) (.t 12)),
tq 14 (.pick (.t 10) (.k (.d (.bool true))) (.t 13)),
tq 15 (cl ziq [.t 14,kq 3]),
mq 6 15] [0,1,2,7,8,9,10,11,12,13,14,15]
.ret))⟩
def zls:C:=
  (rg [
mq 6 8] [8])
def zlt:C:=
  (.block 1 (sr [
ld 9 3,
mq 10 6,
tq 11 (.call true true (.t 9) [.t 10])] [3,9,10]
(.cond (.t 11) (rg [
ld 12 5,
mq 13 6,
tq 14 (.mkList 1 1 [.t 13]),
tq 15 (.append ⟨false,zcl,1,8⟩ (.t 12) (.t 14)),
⟨none,none,.store 1 (.t 5) (.t 15)⟩] [5,6,12,13,14,15])
 .skip)))
def zmy:CF:=⟨[.tmp 4],
  (sr [
tq 3 (.box zvu (.t 1)),
tq 4 (.ownNil ⟨false,zcl,1,8⟩)] [1]
(sr [
tq 5 (.alloc yjp [.own ⟨false,zcl,1,8⟩])] []
(.seq (sr [
mq 7 0] [0]
(.block 0 (.rangeFn 18 (.t 7) [8] zls zlt)))
(sr [
ld 16 5,
mq 4 16] [5,16]
.ret))))⟩
def ztz:CF:=⟨[.tmp 2],
  (sr [
tq 1 (.box zk5 (.t 0)),
tq 2 (.mv (.k (.d (.nilf))))] [0,2]
(sr [
tq 3 (.mkFunc zll [] [.t 1]),
mq 2 3] [1,3]
.ret))⟩
def zre:CF:=⟨[.tmp 2],
  (sr [
tq 2 (.mv (.k (.d (.bool false))))] [2]
(sr [
tq 2 (.mv (.k (.d (.bool true))))] []
.ret))⟩
def zgj:CF:=⟨[.tmp 2],
  (sr [
tq 1 (.box ztm (.t 0)),
tq 2 (.mv (.k (.d (.nilf))))] [0,2]
(sr [
tq 3 (.mkFunc zc3 [] [.t 1]),
mq 2 3] [1,3]
.ret))⟩
def zlw:CF:=⟨[.tmp 4,.tmp 5,.tmp 6],
  (sr [
tq 4 (.mv (.k (.d (.str [])))),
tq 5 (.mv (.k (.d (.str [])))),
tq 6 (.mv (.k (.d (.bool false))))] [4,5,6]
(.seq (sr [
mq 8 0,
mq 9 1,
tq 10 (cl zf5 [.t 8,.t 9]),
mq 7 10] [8,9,10]
(sr [
mq 11 7,
tq 12 (.bin .geq (.t 11) (kq 0))] [11]
(.cond (.t 12) (.seq (.reg true [
mq 13 0,
mq 14 7,
tq 15 (.sliceS (.t 13) none (some (.t 14))),
mq 16 0,
mq 17 7,
mq 18 1,
tq 19 (.len .str (.t 18)),
tq 20 (.bin .add (.t 17) (.t 19)),
tq 21 (.sliceS (.t 16) (some (.t 20)) none),
mq 4 15,
mq 5 21,
tq 6 (.mv (.k (.d (.bool true))))] [0,1,7,13,14,15,16,17,18,19,20,21])
.ret)
 .skip)))
(sr [
mq 22 0,
mq 4 22,
tq 5 (.mv (.k (.d (.str [])))),
tq 6 (.mv (.k (.d (.bool false))))] [0,22]
.ret)))⟩
def zqn:CF:=⟨[.tmp 6,.tmp 7],
  (sr [
tq 6 (.mv (.k (.d (.list 0 [])))),
tq 7 (.mv (kq 0))] [6,7]
(.seq (.seq (.reg true [
mq 10 1,
tq 11 (.idxAddr 1 (.t 10) (kq 1)),
ld 12 11,
tq 13 (cl zcr [.t 12]),
mq 14 2,
tq 15 (.idxAddr 1 (.t 14) (kq 0)),
ld 16 15,
tq 17 (cl zaz [.t 16]),
mq 18 2,
tq 19 (.idxAddr 1 (.t 18) (kq 1)),
ld 20 19,
tq 21 (cl zaz [.t 20]),
tq 22 (.mkList 1 3 [.t 13,.t 17,.t 21]),
tq 23 (cl zay [.t 22]),
mq 8 23] [10,11,12,13,14,15,16,17,18,19,20,21,22,23])
(sr [
mq 24 8,
tq 25 (.bin .neq (.t 24) (kq 0))] [24]
(.cond (.t 25) (sr [
mq 26 8,
tq 6 (.mv (.k (.d (.list 0 [])))),
mq 7 26] [8,26]
.ret)
 .skip)))
(.seq (.seq (.reg true [
mq 27 0,
mq 28 1,
tq 29 (.idxAddr 1 (.t 28) (kq 1)),
ld 30 29,
mq 31 2,
tq 32 (.idxAddr 1 (.t 31) (kq 0)),
ld 33 32,
mq 34 2,
tq 35 (.idxAddr 1 (.t 34) (kq 1)),
ld 36 35,
tq 37 (.callQ (.k (.fn zbq [] [])) [.t 27,.t 30,.t 33,.t 36]),
mq 9 37] [0,1,2,27,28,29,30,31,32,33,34,35,36,37])
(sr [
mq 38 9,
tq 39 (.bin .neq (.t 38) (kq 1440))] [38]
(.cond (.t 39) (sr [
mq 40 9,
tq 41 (cl n_strconv_Itoa [.t 40]),
tq 42 (.mkList 1 1 [.t 41]),
mq 6 42,
tq 7 (.mv (kq 0))] [9,40,41,42]
.ret)
 .skip)))
(sr [
tq 6 (.mv (.k (.d (.list 0 [])))),
tq 7 (.mv (kq 0))] []
.ret))))⟩
def zqo:CF:=⟨[.tmp 6,.tmp 7],
  (sr [
tq 6 (.mv (.k (.d (.list 0 [])))),
tq 7 (.mv (kq 0))] [6,7]
(.seq (.seq (.reg true [
mq 9 2,
tq 10 (.idxAddr 1 (.t 9) (kq 0)),
ld 11 10,
tq 12 (cl zaz [.t 11]),
mq 13 2,
tq 14 (.idxAddr 1 (.t 13) (kq 1)),
ld 15 14,
tq 16 (cl zaz [.t 15]),
tq 17 (.mkList 1 2 [.t 12,.t 16]),
tq 18 (cl zay [.t 17]),
mq 8 18] [9,10,11,12,13,14,15,16,17,18])
(sr [
mq 19 8,
tq 20 (.bin .neq (.t 19) (kq 0))] [19]
(.cond (.t 20) (sr [
mq 21 8,
tq 6 (.mv (.k (.d (.list 0 [])))),
mq 7 21] [8,21]
.ret)
 .skip)))
(.seq (.reg true [
mq 22 0,
mq 23 2,
tq 24 (.idxAddr 1 (.t 23) (kq 0)),
ld 25 24,
mq 26 2,
tq 27 (.idxAddr 1 (.t 26) (kq 1)),
ld 28 27,
tq 29 (.callU true (.k (.fn zfk [] [])) [.t 22,.t 25,.t 28]),
tq 30 (.call true true (.k (.fn zd6 [] [])) [.t 29,.k (.fn zi9 [] [])]),
mq 6 30,
tq 7 (.mv (kq 0))] [0,2,22,23,24,25,26,27,28,29,30])
.ret)))⟩
def zhg:C:=
  (sr [
tq 11 (.bin .lss (.t 10) (.t 9))] []
(.seq (.cond (.t 11) .skip
 (.exit 0))
(.seq (.block 1 (sr [
tq 12 (.idxAddr 2 (.t 8) (.t 10)),
lq 13 2 12,
tq 7 (.alloc zet [.z (.str []),.z (.int .i64 0)]),
⟨none,none,.store 2 (.t 7) (.t 13)⟩] [12,13]
(rg [
mq 14 5,
mq 15 1,
lq 16 2 7,
tq 17 (.call true true (.t 15) [.t 16]),
tq 18 (.mkList 1 1 [.t 17]),
tq 19 (.append ⟨false,zag,1,16⟩ (.t 14) (.t 18)),
mq 5 19] [7,14,15,16,17,18,19])))
(rg [
tq 20 (.bin .add (.t 10) (kq 1)),
mq 10 20] [20]))))
def zic:CF:=⟨[.tmp 4],
  (sr [
tq 4 (.ownNil ⟨false,zag,1,16⟩)] [4]
(sr [
tq 5 (.ownNil ⟨false,zag,1,16⟩)] []
(.seq (sr [
mq 8 0,
tq 9 (.len .slc (.t 8)),
tq 10 (.mv (kq 0))] [0]
(.block 0 (.loop [1,5,8,9,10] zhg)))
(sr [
mq 21 5,
mq 4 21] [5,21]
.ret))))⟩
def zoi:CF:=⟨[.tmp 2],
  (sr [
tq 1 (.box zet (.t 0)),
tq 2 (.mv (.k (.d (.str []))))] [0,2]
(.seq (.reg true [
fa 3 0 1,
ld 4 3,
tq 5 (.bin .add (.t 4) (.k (.d (.str [32])))),
fa 6 1 1,
ld 7 6,
tq 8 (cl n_strconv_Itoa [.t 7]),
tq 9 (.bin .add (.t 5) (.t 8)),
mq 2 9] [1,3,4,5,6,7,8,9])
.ret))⟩
def zqp:CF:=⟨[.tmp 6,.tmp 7],
  (sr [
tq 6 (.mv (.k (.d (.list 0 [])))),
tq 7 (.mv (kq 0))] [6,7]
(.seq (sr [
mq 9 2,
tq 10 (.idxAddr 1 (.t 9) (kq 0)),
ld 11 10,
tq 12 (cl zaz [.t 11]),
mq 8 12] [9,10,11,12]
(sr [
mq 13 8,
tq 14 (.bin .neq (.t 13) (kq 0))] [13]
(.cond (.t 14) (sr [
mq 15 8,
tq 6 (.mv (.k (.d (.list 0 [])))),
mq 7 15] [8,15]
.ret)
 .skip)))
(sr [
mq 16 0,
mq 17 2,
tq 18 (.idxAddr 1 (.t 17) (kq 0)),
ld 19 18,
tq 20 (.callU true (.k (.fn zd9 [] [])) [.t 16,.t 19]),
mq 6 20,
tq 7 (.mv (kq 0))] [0,2,16,17,18,19,20]
.ret)))⟩
def zqq:CF:=⟨[.tmp 6,.tmp 7],
  (sr [
tq 6 (.mv (.k (.d (.list 0 [])))),
tq 7 (.mv (kq 0))] [6,7]
(.seq (sr [
mq 9 1,
tq 10 (.idxAddr 1 (.t 9) (kq 1)),
ld 11 10,
tq 12 (cl zcr [.t 11]),
mq 8 12] [9,10,11,12]
(sr [
mq 13 8,
tq 14 (.bin .neq (.t 13) (kq 0))] [13]
(.cond (.t 14) (sr [
mq 15 8,
tq 6 (.mv (.k (.d (.list 0 [])))),
mq 7 15] [8,15]
.ret)
 .skip)))
(sr [
mq 16 0,
mq 17 1,
tq 18 (.idxAddr 1 (.t 17) (kq 1)),
ld 19 18,
tq 20 (.callU true (.k (.fn zeq [] [])) [.t 16,.t 19]),
xq 21 20 0,
xq 22 20 1,
mq 6 21,
mq 7 22] [0,1,16,17,18,19,20,21,22]
.ret)))⟩
def zqr:CF:=⟨[.tmp 6,.tmp 7],
  (sr [
tq 6 (.mv (.k (.d (.list 0 [])))),
tq 7 (.mv (kq 0))] [6,7]
(sr [
mq 9 0,
tq 10 (.nilCheck (.t 9)),
fa 11 3 10,
ld 12 11,
tq 13 (.call true true (.k (.fn zfa [] [])) [.t 12,.k (.fn zja [] [])]),
mq 8 13] [0,9,10,11,12,13]
(sr [
mq 14 8,
tq 15 (.call true true (.k (.fn zdf [] [])) [.t 14,.k (.fn zjb [] [])]),
mq 6 15,
tq 7 (.mv (kq 0))] [8,14,15]
.ret)))⟩
def zi0:C:=
  (sr [
tq 11 (.bin .lss (.t 10) (.t 9))] []
(.seq (.cond (.t 11) .skip
 (.exit 0))
(.seq (.block 1 (sr [
tq 12 (.idxAddr 5 (.t 8) (.t 10)),
lq 13 5 12,
tq 7 (.alloc zad [.z (.str []),.z (.str []),.z (.int .i64 0),.z (.bool false),.z (.bool false)]),
⟨none,none,.store 5 (.t 7) (.t 13)⟩] [12,13]
(sr [
mq 14 1,
lq 15 5 7,
tq 16 (.call true true (.t 14) [.t 15])] [14,15]
(.cond (.t 16) (rg [
mq 17 5,
lq 18 5 7,
tq 19 (.mkList 5 1 [.t 18]),
tq 20 (.append ⟨false,zad,5,48⟩ (.t 17) (.t 19)),
mq 5 20] [7,17,18,19,20])
 .skip))))
(rg [
tq 21 (.bin .add (.t 10) (kq 1)),
mq 10 21] [21]))))
def zj1:CF:=⟨[.tmp 4],
  (sr [
tq 4 (.ownNil ⟨false,zad,5,48⟩)] [4]
(sr [
tq 5 (.ownNil ⟨false,zad,5,48⟩)] []
(.seq (sr [
mq 8 0,
tq 9 (.len .slc (.t 8)),
tq 10 (.mv (kq 0))] [0]
(.block 0 (.loop [1,5,8,9,10] zi0)))
(sr [
mq 22 5,
mq 4 22] [5,22]
.ret))))⟩
def zoj:CF:=⟨[.tmp 2],
  (sr [
tq 1 (.box zad (.t 0)),
tq 2 (.mv (.k (.d (.bool false))))] [0,2]
(sr [
fa 3 3 1,
ld 4 3,
tq 5 (.un .not (.t 4)),
mq 2 5] [1,3,4,5]
.ret))⟩
def zfw:C:=
  (sr [
tq 11 (.bin .lss (.t 10) (.t 9))] []
(.seq (.cond (.t 11) .skip
 (.exit 0))
(.seq (.block 1 (sr [
tq 12 (.idxAddr 5 (.t 8) (.t 10)),
lq 13 5 12,
tq 7 (.alloc zad [.z (.str []),.z (.str []),.z (.int .i64 0),.z (.bool false),.z (.bool false)]),
⟨none,none,.store 5 (.t 7) (.t 13)⟩] [12,13]
(rg [
mq 14 5,
mq 15 1,
lq 16 5 7,
tq 17 (.call true true (.t 15) [.t 16]),
tq 18 (.mkList 1 1 [.t 17]),
tq 19 (.append ⟨false,zag,1,16⟩ (.t 14) (.t 18)),
mq 5 19] [7,14,15,16,17,18,19])))
(rg [
tq 20 (.bin .add (.t 10) (kq 1)),
mq 10 20] [20]))))
def zgl:CF:=⟨[.tmp 4],
  (sr [
tq 4 (.ownNil ⟨false,zag,1,16⟩)] [4]
(sr [
tq 5 (.ownNil ⟨false,zag,1,16⟩)] []
(.seq (sr [
mq 8 0,
tq 9 (.len .slc (.t 8)),
tq 10 (.mv (kq 0))] [0]
(.block 0 (.loop [1,5,8,9,10] zfw)))
(sr [
mq 21 5,
mq 4 21] [5,21]
.ret))))⟩
def zok:CF:=⟨[.tmp 2],
  (sr [
tq 1 (.box zad (.t 0)),
tq 2 (.mv (.k (.d (.str []))))] [0,2]
(sr [
fa 3 0 1,
ld 4 3,
mq 2 4] [1,3,4]
.ret))⟩
def zi5:CF:=⟨[.tmp 4],
  (sr [
tq 4 (.mv (.k (.d (.bool false))))] [4]
(sr [
mq 5 0,
mq 6 1,
tq 7 (cl zft [.t 5,.t 6]),
tq 8 (.bin .geq (.t 7) (kq 0)),
mq 4 8] [0,1,5,6,7,8]
.ret))⟩
def zvn:CF:=⟨[.tmp 2,.tmp 3],
  (sr [
tq 2 (.mv (kq 0)),
tq 3 (.mv (.k (.d (.bool false))))] [2,3]
(sr [
mq 7 0,
tq 8 (.call false false (.k (.fn n_strconv_Atoi [] [])) [.t 7]),
mq 6 8,
xq 9 6 0,
xq 10 6 1,
mq 4 9,
mq 5 10] [6,7,8,9,10]
(sr [
mq 11 4,
mq 12 5,
tq 13 (.nilEq 1 false (.t 12)),
mq 14 13,
gq 15 14 true (.mv (.t 0)),
gq 16 14 true (.len .str (.t 15)),
gq 17 14 true (.bin .leq (.t 16) (kq 9)),
tq 18 (.pick (.t 14) (.t 17) (.k (.d (.bool false)))),
mq 19 18,
gq 20 19 true (.mv (.t 4)),
gq 21 19 true (.bin .geq (.t 20) (kq 0)),
tq 22 (.pick (.t 19) (.t 21) (.k (.d (.bool false)))),
mq 23 22,
gq 24 23 true (.mv (.t 4)),
gq 25 23 true (cl n_strconv_Itoa [.t 24]),
gq 26 23 true (.mv (.t 0)),
gq 27 23 true (.bin .eql (.t 25) (.t 26)),
tq 28 (.pick (.t 23) (.t 27) (.k (.d (.bool false)))),
mq 2 11,
mq 3 28] [0,4,5,11,12,13,14,15,16,17,18,19,20,21,22,23,24,25,26,27,28]
.ret)))⟩
def zlb:CF:=⟨[.tmp 4],
  (sr [
tq 3 (.box zae (.t 1)),
tq 4 (.mv (kq 0))] [1,4]
(.seq (.reg true [
fa 11 3 3,
ld 12 11,
tq 13 (.idxAddr 1 (.t 12) (kq 0)),
ld 14 13,
fa 15 3 3,
ld 16 15,
tq 17 (.idxAddr 1 (.t 16) (kq 1)),
ld 18 17,
fa 19 3 3,
ld 20 19,
tq 21 (.idxAddr 1 (.t 20) (kq 2)),
ld 22 21,
fa 23 3 3,
ld 24 23,
tq 25 (.idxAddr 1 (.t 24) (kq 3)),
ld 26 25,
mq 5 14,
mq 6 18,
mq 7 22,
mq 8 26] [11,12,13,14,15,16,17,18,19,20,21,22,23,24,25,26])
(.seq (.seq (.reg true [
mq 27 0,
fa 28 2 3,
ld 29 28,
tq 30 (.idxAddr 1 (.t 29) (kq 0)),
ld 31 30,
tq 32 (.callQ (.k (.fn zbj [] [])) [.t 27,.t 31]),
tq 33 (.nilEq 0 true (.t 32)),
tq 34 (cl zak [.t 33,kq 9]),
mq 35 0,
tq 36 (.nilCheck (.t 35)),
fa 37 1 36,
ld 38 37,
tq 39 (.len .slc (.t 38)),
tq 40 (.bin .geq (.t 39) (kq 256)),
tq 41 (cl zak [.t 40,kq 5]),
tq 42 (.mkList 1 2 [.t 34,.t 41]),
tq 43 (cl zay [.t 42]),
mq 9 43] [27,28,29,30,31,32,33,34,35,36,37,38,39,40,41,42,43])
(sr [
mq 44 9,
tq 45 (.bin .neq (.t 44) (kq 0))] [44]
(.cond (.t 45) (sr [
mq 46 9,
mq 4 46] [9,46]
.ret)
 .skip)))
(.seq (sr [
fa 47 1 3,
ld 48 47,
tq 49 (.bin .eql (.t 48) (.k (.d (.str [102,111,108,108,111,119]))))] [47,48]
(.cond (.t 49) (sr [
mq 50 0,
fa 51 2 3,
ld 52 51,
tq 53 (.idxAddr 1 (.t 52) (kq 2)),
ld 54 53,
mq 55 5,
tq 56 (.callQ (.k (.fn zca [] [])) [.t 50,.t 54,.t 55]),
mq 10 56] [0,3,5,50,51,52,53,54,55,56]
(sr [
mq 57 10,
tq 58 (.bin .neq (.t 57) (kq 0))] [57]
(.cond (.t 58) (sr [
mq 59 10,
mq 4 59] [10,59]
.ret)
 .skip)))
 .skip))
(sr [
mq 60 6,
tq 61 (.bin .gtr (.t 60) (kq 99999)),
mq 62 61,
gq 63 62 false (.mv (.t 7)),
gq 64 62 false (.bin .gtr (.t 63) (kq 99999)),
tq 65 (.pick (.t 62) (.k (.d (.bool true))) (.t 64)),
mq 66 65,
gq 67 66 false (.mv (.t 8)),
gq 68 66 false (.bin .gtr (.t 67) (kq 1440)),
tq 69 (.pick (.t 66) (.k (.d (.bool true))) (.t 68)),
tq 70 (cl zak [.t 69,kq 3]),
mq 71 7,
mq 72 6,
tq 73 (.bin .lss (.t 71) (.t 72)),
tq 74 (cl zak [.t 73,kq 11]),
tq 75 (.mkList 1 2 [.t 70,.t 74]),
tq 76 (cl zay [.t 75]),
mq 4 76] [6,7,8,60,61,62,63,64,65,66,67,68,69,70,71,72,73,74,75,76]
.ret)))))⟩
def zld:CF:=⟨[],
  (sr [
tq 3 (.box zae (.t 1))] [1]
(.seq (.reg true [
fa 5 2 3,
ld 6 5,
tq 7 (.idxAddr 1 (.t 6) (kq 0)),
ld 8 7,
fa 9 1 3,
ld 10 9,
fa 11 2 3,
ld 12 11,
tq 13 (.idxAddr 1 (.t 12) (kq 1)),
ld 14 13,
fa 15 3 3,
ld 16 15,
tq 17 (.idxAddr 1 (.t 16) (kq 0)),
ld 18 17,
fa 19 3 3,
ld 20 19,
tq 21 (.idxAddr 1 (.t 20) (kq 1)),
ld 22 21,
fa 23 3 3,
ld 24 23,
tq 25 (.idxAddr 1 (.t 24) (kq 2)),
ld 26 25,
fa 27 3 3,
ld 28 27,
tq 29 (.idxAddr 1 (.t 28) (kq 3)),
ld 30 29,
tq 31 (.build [.z (.str []),.z (.str []),.z (.str []),.z (.str []),.z (.int .i64 0),.z (.int .i64 0),.z (.int .i64 0),.z (.int .i64 0)] [(0,1,.t 8),(1,1,.t 10),(2,1,.t 14),(4,1,.t 18),(5,1,.t 22),(6,1,.t 26),(7,1,.t 30)]),
tq 4 (.alloc zac [.z (.str []),.z (.str []),.z (.str []),.z (.str []),.z (.int .i64 0),.z (.int .i64 0),.z (.int .i64 0),.z (.int .i64 0)]),
⟨none,none,.store 8 (.t 4) (.t 31)⟩] [5,6,7,8,9,10,11,12,13,14,15,16,17,18,19,20,21,22,23,24,25,26,27,28,29,30,31])
(.seq (sr [
fa 32 1 3,
ld 33 32,
tq 34 (.bin .eql (.t 33) (.k (.d (.str [102,111,108,108,111,119]))))] [32,33]
(.cond (.t 34) (rg [
fa 35 2 3,
ld 36 35,
tq 37 (.idxAddr 1 (.t 36) (kq 2)),
ld 38 37,
fa 39 3 4,
⟨none,none,.store 1 (.t 39) (.t 38)⟩] [3,35,36,37,38,39])
 .skip))
(.reg true [
mq 40 0,
mq 41 0,
tq 42 (.nilCheck (.t 41)),
fa 43 1 42,
ld 44 43,
lq 45 8 4,
tq 46 (.mkList 8 1 [.t 45]),
tq 47 (.append ⟨false,zac,8,96⟩ (.t 44) (.t 46)),
tq 48 (.nilCheck (.t 40)),
fa 49 1 48,
⟨none,none,.store 1 (.t 49) (.t 47)⟩] [0,4,40,41,42,43,44,45,46,47,48,49]))))⟩
def zj9:CF:=⟨[.tmp 4],
  (sr [
tq 3 (.box zae (.t 1)),
tq 4 (.mv (kq 0))] [1,4]
(sr [
mq 6 0,
fa 7 2 3,
ld 8 7,
tq 9 (.idxAddr 1 (.t 8) (kq 0)),
ld 10 9,
tq 11 (.callQ (.k (.fn zbj [] [])) [.t 6,.t 10]),
mq 5 11] [6,7,8,9,10,11]
(.seq (sr [
mq 12 5,
tq 13 (.nilEq 0 false (.t 12))] [12]
(.cond (.t 13) (sr [
tq 4 (.mv (kq 10))] []
.ret)
 .skip))
(.seq (.reg true [
mq 14 5,
tq 15 (.nilCheck (.t 14)),
fa 16 1 15,
ld 17 16,
tq 18 (.bin .neq (.t 17) (.k (.d (.str [114,117,108,101])))),
tq 19 (cl zak [.t 18,kq 13]),
mq 20 0,
mq 21 5,
tq 22 (.nilCheck (.t 21)),
fa 23 0 22,
ld 24 23,
fa 25 3 3,
ld 26 25,
tq 27 (.idxAddr 1 (.t 26) (kq 0)),
ld 28 27,
tq 29 (.callQ (.k (.fn zca [] [])) [.t 20,.t 24,.t 28]),
tq 30 (.mkList 1 2 [.t 19,.t 29]),
tq 31 (cl zay [.t 30]),
mq 4 31] [0,3,5,14,15,16,17,18,19,20,21,22,23,24,25,26,27,28,29,30,31])
.ret))))⟩
def zvo:CF:=⟨[],
  (sr [
tq 3 (.box zae (.t 1))] [1]
(.reg true [
mq 4 0,
fa 5 2 3,
ld 6 5,
tq 7 (.idxAddr 1 (.t 6) (kq 0)),
ld 8 7,
fa 9 3 3,
ld 10 9,
tq 11 (.idxAddr 1 (.t 10) (kq 0)),
ld 12 11,
tq 13 (.call true true (.k (.fn zby [] [])) [.t 4,.t 8,.t 12])] [0,3,4,5,6,7,8,9,10,11,12,13]))⟩
def zm1:CF:=⟨[],
  (rg [
mq 6 0,
mq 7 0,
tq 8 (.nilCheck (.t 7)),
fa 9 2 8,
ld 10 9,
mq 11 1,
mq 12 2,
tq 13 (.build [.z (.str []),.z (.int .i64 0)] [(0,1,.t 11),(1,1,.t 12)]),
tq 14 (.mkList 2 1 [.t 13]),
tq 15 (.append ⟨false,zaj,2,24⟩ (.t 10) (.t 14)),
tq 16 (.nilCheck (.t 6)),
fa 17 2 16,
⟨none,none,.store 1 (.t 17) (.t 15)⟩] [0,1,2,6,7,8,9,10,11,12,13,14,15,16,17])⟩
def zjh:CF:=⟨[.tmp 4],
  (sr [
tq 3 (.box zae (.t 1)),
tq 4 (.mv (kq 0))] [1,4]
(.seq (.reg true [
mq 5 0,
fa 6 2 3,
ld 7 6,
tq 8 (.idxAddr 1 (.t 7) (kq 0)),
ld 9 8,
tq 10 (.callQ (.k (.fn zbo [] [])) [.t 5,.t 9]),
tq 11 (.nilEq 0 true (.t 10)),
tq 12 (cl zak [.t 11,kq 9]),
mq 13 0,
tq 14 (.nilCheck (.t 13)),
fa 15 3 14,
ld 16 15,
tq 17 (.len .slc (.t 16)),
tq 18 (.bin .geq (.t 17) (kq 64)),
tq 19 (cl zak [.t 18,kq 5]),
mq 20 0,
fa 21 2 3,
ld 22 21,
tq 23 (.idxAddr 1 (.t 22) (kq 1)),
ld 24 23,
fa 25 3 3,
ld 26 25,
tq 27 (.idxAddr 1 (.t 26) (kq 0)),
ld 28 27,
tq 29 (.callQ (.k (.fn zca [] [])) [.t 20,.t 24,.t 28]),
tq 30 (.mkList 1 3 [.t 12,.t 19,.t 29]),
tq 31 (cl zay [.t 30]),
mq 4 31] [0,3,5,6,7,8,9,10,11,12,13,14,15,16,17,18,19,20,21,22,23,24,25,26,27,28,29,30,31])
.ret))⟩
def zji:CF:=⟨[],
  (sr [
tq 3 (.box zae (.t 1))] [1]
(.reg true [
mq 4 0,
mq 5 0,
tq 6 (.nilCheck (.t 5)),
fa 7 3 6,
ld 8 7,
fa 9 2 3,
ld 10 9,
tq 11 (.idxAddr 1 (.t 10) (kq 0)),
ld 12 11,
fa 13 2 3,
ld 14 13,
tq 15 (.idxAddr 1 (.t 14) (kq 1)),
ld 16 15,
fa 17 3 3,
ld 18 17,
tq 19 (.idxAddr 1 (.t 18) (kq 0)),
ld 20 19,
tq 21 (.build [.z (.str []),.z (.str []),.z (.int .i64 0),.z (.bool false),.z (.bool false)] [(0,1,.t 12),(1,1,.t 16),(2,1,.t 20)]),
tq 22 (.mkList 5 1 [.t 21]),
tq 23 (.append ⟨false,zad,5,48⟩ (.t 8) (.t 22)),
tq 24 (.nilCheck (.t 4)),
fa 25 3 24,
⟨none,none,.store 1 (.t 25) (.t 23)⟩] [0,3,4,5,6,7,8,9,10,11,12,13,14,15,16,17,18,19,20,21,22,23,24,25]))⟩
def zjz:CF:=⟨[.tmp 4],
  (sr [
tq 3 (.box zae (.t 1)),
tq 4 (.mv (kq 0))] [1,4]
(sr [
mq 6 0,
fa 7 2 3,
ld 8 7,
tq 9 (.idxAddr 1 (.t 8) (kq 0)),
ld 10 9,
tq 11 (.callQ (.k (.fn zbo [] [])) [.t 6,.t 10]),
mq 5 11] [0,6,7,8,9,10,11]
(.seq (sr [
mq 12 5,
tq 13 (.nilEq 0 false (.t 12))] [12]
(.cond (.t 13) (sr [
tq 4 (.mv (kq 10))] []
.ret)
 .skip))
(.seq (.reg true [
mq 14 5,
tq 15 (.nilCheck (.t 14)),
fa 16 3 15,
ld 17 16,
tq 18 (cl zak [.t 17,kq 20]),
fa 19 3 3,
ld 20 19,
tq 21 (.idxAddr 1 (.t 20) (kq 1)),
ld 22 21,
tq 23 (.bin .gtr (.t 22) (kq 1)),
tq 24 (cl zak [.t 23,kq 3]),
tq 25 (.mkList 1 2 [.t 18,.t 24]),
tq 26 (cl zay [.t 25]),
mq 4 26] [3,5,14,15,16,17,18,19,20,21,22,23,24,25,26])
.ret))))⟩
def zj0:CF:=⟨[],
  (sr [
tq 3 (.box zae (.t 1))] [1]
(sr [
mq 5 0,
fa 6 2 3,
ld 7 6,
tq 8 (.idxAddr 1 (.t 7) (kq 0)),
ld 9 8,
tq 10 (.callQ (.k (.fn zbo [] [])) [.t 5,.t 9]),
mq 4 10] [5,6,7,8,9,10]
(sr [
mq 11 4,
mq 12 4,
fa 13 3 3,
ld 14 13,
tq 15 (.idxAddr 1 (.t 14) (kq 1)),
ld 16 15,
tq 17 (.bin .eql (.t 16) (kq 1)),
tq 18 (.nilCheck (.t 11)),
fa 19 3 18,
⟨none,none,.store 1 (.t 19) (.k (.d (.bool true)))⟩,
tq 20 (.nilCheck (.t 12)),
fa 21 4 20,
⟨none,none,.store 1 (.t 21) (.t 17)⟩] [11,12,13,14,15,16,17,18,19,20,21]
(sr [
mq 22 4,
tq 23 (.nilCheck (.t 22)),
fa 24 4 23,
ld 25 24] [22,23,24]
(.cond (.t 25) (.reg true [
mq 26 0,
mq 27 4,
tq 28 (.nilCheck (.t 27)),
fa 29 1 28,
ld 30 29,
fa 31 3 3,
ld 32 31,
tq 33 (.idxAddr 1 (.t 32) (kq 0)),
ld 34 33,
tq 35 (.call true true (.k (.fn zby [] [])) [.t 26,.t 30,.t 34])] [0,3,4,26,27,28,29,30,31,32,33,34,35])
 .skip)))))⟩
def zqs:CF:=⟨[.tmp 2],
  (sr [
tq 2 (.mv (.k (.d (.str []))))] [2]
(.seq (sr [
mq 4 0,
tq 5 (.nilCheck (.t 4)),
fa 6 0 5,
ld 7 6,
tq 8 (.len .slc (.t 7)),
tq 9 (.bin .eql (.t 8) (kq 0))] [4,5,6,7,8]
(.cond (.t 9) (sr [
tq 2 (.mv (.k (.d (.str []))))] []
.ret)
 .skip))
(sr [
mq 10 0,
tq 11 (.nilCheck (.t 10)),
fa 12 0 11,
ld 13 12,
tq 14 (.idxAddr 1 (.t 13) (kq 0)),
ld 15 14,
mq 3 15] [10,11,12,13,14,15]
(sr [
mq 16 0,
mq 17 0,
tq 18 (.nilCheck (.t 17)),
fa 19 0 18,
ld 20 19,
tq 21 (.slice 1 (.t 20) (some (kq 1)) none none),
tq 22 (.nilCheck (.t 16)),
fa 23 0 22,
⟨none,none,.store 1 (.t 23) (.t 21)⟩] [0,16,17,18,19,20,21,22,23]
(sr [
mq 24 3,
mq 2 24] [3,24]
.ret)))))⟩
def zhh:CF:=⟨[.tmp 4],
  (sr [
tq 4 (.mv (.k (.d (.bool false))))] [4]
(sr [
mq 5 0,
mq 6 1,
tq 7 (cl zcy [.t 5,.t 6]),
tq 8 (.bin .geq (.t 7) (kq 0)),
mq 4 8] [0,1,5,6,7,8]
.ret))⟩
def zov:CF:=⟨[.tmp 2],
  (sr [
tq 2 (.mv (.k (.d (.bool false))))] [2]
(sr [
mq 3 0,
tq 4 (cl zcr [.t 3]),
tq 5 (.bin .neq (.t 4) (kq 0)),
mq 2 5] [0,3,4,5]
.ret))⟩
def zj3:CF:=⟨[.tmp 4],
  (sr [
tq 4 (.mv (.k (.d (.bool false))))] [4]
(sr [
mq 5 0,
mq 6 1,
tq 7 (cl zdz [.t 5,.t 6]),
tq 8 (.bin .geq (.t 7) (kq 0)),
mq 4 8] [0,1,5,6,7,8]
.ret))⟩
def zow:CF:=⟨[.tmp 2],
  (sr [
tq 2 (.mv (.k (.d (.bool false))))] [2]
(sr [
mq 3 0,
tq 4 (cl ze2 [.t 3,kq 0,kq 999999999]),
tq 5 (.bin .neq (.t 4) (kq 0)),
mq 2 5] [0,3,4,5]
.ret))⟩
def zkc:CF:=⟨[.tmp 2],
  (sr [
tq 2 (.ownNil ⟨false,zag,1,16⟩)] [2]
(.seq (sr [
mq 3 0,
tq 4 (.nilEq 2 false (.t 3))] [3]
(.cond (.t 4) (sr [
tq 2 (.ownNil ⟨false,zag,1,16⟩)] []
.ret)
 .skip))
(sr [
tq 5 (.mkRow ⟨false,zag,1,16⟩ 0 []),
mq 6 0,
tq 7 (.append ⟨false,zag,1,16⟩ (.t 5) (.t 6)),
mq 2 7] [0,5,6,7]
.ret)))⟩
def znq:CF:=⟨[.tmp 2],
  (sr [
tq 2 (.ownNil ⟨false,zcl,1,8⟩)] [2]
(.seq (sr [
mq 3 0,
tq 4 (.nilEq 2 false (.t 3))] [3]
(.cond (.t 4) (sr [
tq 2 (.ownNil ⟨false,zcl,1,8⟩)] []
.ret)
 .skip))
(sr [
tq 5 (.mkRow ⟨false,zcl,1,8⟩ 0 []),
mq 6 0,
tq 7 (.append ⟨false,zcl,1,8⟩ (.t 5) (.t 6)),
mq 2 7] [0,5,6,7]
.ret)))⟩
def z1c:CF:=⟨[.tmp 2],
  (sr [
tq 1 (.box zae (.t 0)),
tq 2 (.mv (.k (.d (.str []))))] [0,2]
(.seq (.reg true [
fa 3 1 1,
ld 4 3,
tq 5 (.mkList 1 1 [.t 4]),
fa 6 2 1,
ld 7 6,
fa 8 3 1,
ld 9 8,
tq 10 (cl zg6 [.t 9,.k (.fn n_strconv_Itoa [] [])]),
tq 11 (.mkList 1 3 [.t 5,.t 7,.t 10]),
tq 12 (cl zfb [.t 11]),
tq 13 (cl n_strings_Join [.t 12,.k (.d (.str [32]))]),
mq 2 13] [1,3,4,5,6,7,8,9,10,11,12,13])
.ret))⟩
def zyu:C:=
  (sr [
tq 9 (.bin .lss (.t 8) (.t 7))] []
(.seq (.cond (.t 9) .skip
 (.exit 0))
(.seq (.block 1 (sr [
mq 10 8,
mq 4 10] [10]
(rg [
mq 11 3,
tq 12 (.bin .mul (kq 281) (.t 11)),
mq 13 0,
mq 14 4,
tq 15 (.idxS (.t 13) (.t 14)),
tq 16 (.conv .i64 (.t 15)),
tq 17 (.bin .add (.t 12) (.t 16)),
tq 18 (.bin .rem (.t 17) (kq 9999943)),
mq 3 18] [4,11,12,13,14,15,16,17,18])))
(rg [
tq 19 (.bin .add (.t 8) (kq 1)),
mq 8 19] [19]))))
def z3d:CF:=⟨[.tmp 2],
  (sr [
tq 2 (.mv (.k (.d (.str []))))] [2]
(sr [
tq 3 (.mv (kq 1))] []
(.seq (sr [
mq 6 0,
tq 7 (.len .str (.t 6)),
tq 8 (.mv (kq 0))] [6]
(.block 0 (.loop [0,3,7,8] zyu)))
(sr [
mq 20 3,
tq 21 (cl n_strconv_Itoa [.t 20]),
mq 5 21] [3,20,21]
(sr [
mq 22 5,
tq 23 (.len .str (.t 22)),
tq 24 (.bin .sub (kq 7) (.t 23)),
tq 25 (cl n_strings_Repeat [.k (.d (.str [48])),.t 24]),
mq 26 5,
tq 27 (.bin .add (.t 25) (.t 26)),
mq 2 27] [5,22,23,24,25,26,27]
.ret)))))⟩
def zrc:C:=
  (.seq (sr [
ld 5 1,
tq 6 (.len .str (.t 5)),
tq 7 (.bin .gtr (.t 6) (kq 0))] [5,6]
(.cond (.t 7) .skip
 (.exit 0)))
(.block 1 (sr [
tq 3 (.mv (.k (.d (.str []))))] [3]
(.seq (sr [
ld 8 1,
tq 9 (cl zlo [.t 8,.k (.d (.int .u8 10))]),
mq 4 9] [8,9]
(sr [
mq 10 4,
tq 11 (.bin .geq (.t 10) (kq 0))] [10]
(.cond (.t 11) (.reg true [
ld 12 1,
mq 13 4,
tq 14 (.bin .add (.t 13) (kq 1)),
tq 15 (.sliceS (.t 12) none (some (.t 14))),
ld 16 1,
mq 17 4,
tq 18 (.bin .add (.t 17) (kq 1)),
tq 19 (.sliceS (.t 16) (some (.t 18)) none),
mq 3 15,
⟨none,none,.store 1 (.t 1) (.t 19)⟩] [4,12,13,14,15,16,17,18,19])
 (rg [
ld 20 1,
mq 3 20,
⟨none,none,.store 1 (.t 1) (.k (.d (.str [])))⟩] [20]))))
(sr [
mq 21 0,
mq 22 3,
tq 23 (.call true true (.t 21) [.t 22]),
tq 24 (.un .not (.t 23))] [3,21,22,23]
(.cond (.t 24) .ret
 .skip))))))
def zug:CF:=⟨[],
  (.block 0 (.loop [0,1] zrc))⟩
def zrl:CF:=⟨[.tmp 4],
  (sr [
tq 4 (.mv (kq 0))] [4]
(sr [
mq 5 0,
mq 6 1,
tq 7 (cl n_internal_stringslite_IndexByte [.t 5,.t 6]),
mq 4 7] [0,1,5,6,7]
.ret))⟩
def zi3:CF:=⟨[.tmp 4,.tmp 5],
  (sr [
tq 4 (.mv (.k (.d (.str [])))),
tq 5 (.mv (.k (.d (.bool false))))] [4,5]
(.seq (sr [
mq 6 0,
mq 7 1,
tq 8 (cl n_internal_stringslite_HasSuffix [.t 6,.t 7]),
tq 9 (.un .not (.t 8))] [6,7,8]
(.cond (.t 9) (sr [
mq 10 0,
mq 4 10,
tq 5 (.mv (.k (.d (.bool false))))] [0,10]
.ret)
 .skip))
(sr [
mq 11 0,
mq 12 0,
tq 13 (.len .str (.t 12)),
mq 14 1,
tq 15 (.len .str (.t 14)),
tq 16 (.bin .sub (.t 13) (.t 15)),
tq 17 (.sliceS (.t 11) none (some (.t 16))),
mq 4 17,
tq 5 (.mv (.k (.d (.bool true))))] [0,1,11,12,13,14,15,16,17]
.ret)))⟩
def zw0:CF:=⟨[.tmp 2],
  (sr [
tq 2 (.mv (.k (.d (.bool false))))] [2]
(sr [
mq 3 0,
tq 4 (.len .str (.t 3)),
tq 5 (.bin .eql (.t 4) (kq 7)),
mq 6 5,
gq 7 6 true (.mv (.t 0)),
gq 8 6 true (cl zc6 [.t 7,.k (.fn znc [] [])]),
gq 9 6 true (.un .not (.t 8)),
tq 10 (.pick (.t 6) (.t 9) (.k (.d (.bool false)))),
mq 2 10] [0,3,4,5,6,7,8,9,10]
.ret))⟩
def z3e:CF:=⟨[.tmp 2],
  (sr [
tq 2 (.mv (.k (.d (.str []))))] [2]
(.seq (sr [
mq 3 0,
tq 4 (.bin .lss (.t 3) (kq 10))] [3]
(.cond (.t 4) (sr [
mq 5 0,
tq 6 (cl zn0 [.t 5]),
mq 2 6] [0,5,6]
.ret)
 .skip))
(sr [
mq 7 0,
tq 8 (.bin .quo (.t 7) (kq 10)),
tq 9 (cl zpg [.t 8]),
mq 10 0,
tq 11 (.bin .rem (.t 10) (kq 10)),
tq 12 (cl zn0 [.t 11]),
tq 13 (.bin .add (.t 9) (.t 12)),
mq 2 13] [0,7,8,9,10,11,12,13]
.ret)))⟩
def zom:CF:=⟨[.tmp 4],
  (sr [
tq 4 (.mv (.k (.d (.bool false))))] [4]
(sr [
mq 5 0,
mq 6 1,
tq 7 (cl zhw [.t 5,.t 6]),
tq 8 (.bin .geq (.t 7) (kq 0)),
mq 4 8] [0,1,5,6,7,8]
.ret))⟩
def zox:CF:=⟨[.tmp 2],
  (sr [
tq 2 (.mv (.k (.d (.bool false))))] [2]
(sr [
mq 3 0,
tq 4 (.bin .lss (.t 3) (.k (.d (.int .i32 32)))),
mq 5 4,
gq 6 5 false (.mv (.t 0)),
gq 7 5 false (.bin .gtr (.t 6) (.k (.d (.int .i32 126)))),
tq 8 (.pick (.t 5) (.k (.d (.bool true))) (.t 7)),
mq 2 8] [0,3,4,5,6,7,8]
.ret))⟩
def zci:C:=
  (rg [
tq 5 (.alloc zab [.z (.str []),.z (.int .i64 0),.z (.int .i64 0),.z (.str [])]),
⟨none,none,.store 4 (.t 5) (.t 7)⟩] [7])
def zcj:C:=
  (.block 1 (rg [
ld 8 2,
lq 9 4 5,
tq 10 (.mkList 4 1 [.t 9]),
tq 11 (.append ⟨true,zab,4,48⟩ (.t 8) (.t 10)),
⟨none,none,.store 1 (.t 2) (.t 11)⟩] [2,5,8,9,10,11]))
def zfh:CF:=⟨[.tmp 4],
  (sr [
tq 2 (.box zpr (.t 0)),
tq 4 (.ownNil ⟨true,zab,4,48⟩)] [0]
(.seq (sr [
mq 6 1] [1]
(.block 0 (.rangeFn 14 (.t 6) [7] zci zcj)))
(sr [
ld 12 2,
mq 4 12] [2,12]
.ret)))⟩
def zg8:C:=
  (.block 1 (sr [
mq 21 2,
mq 22 1,
tq 23 (.bin .sub (.t 21) (.t 22)),
mq 12 23] [21,22,23]
(.seq (sr [
mq 24 12,
tq 25 (.bin .leq (.t 24) (kq 12))] [24]
(.cond (.t 25) (sr [
mq 26 0,
mq 27 1,
mq 28 2,
mq 29 4,
tq 30 (.call true true (.k (.fn za2 [] [])) [.t 26,.t 27,.t 28,.t 29])] [0,1,2,4,26,27,28,29,30]
.ret)
 .skip))
(.seq (sr [
mq 31 3,
tq 32 (.bin .eql (.t 31) (kq 0))] [31]
(.cond (.t 32) (sr [
mq 33 0,
mq 34 1,
mq 35 2,
mq 36 4,
tq 37 (.call true true (.k (.fn zdr [] [])) [.t 33,.t 34,.t 35,.t 36])] [0,1,2,4,33,34,35,36,37]
.ret)
 .skip))
(.seq (sr [
mq 38 10,
tq 39 (.un .not (.t 38))] [38]
(.cond (.t 39) (sr [
mq 40 0,
mq 41 1,
mq 42 2,
mq 43 4,
tq 44 (.call true true (.k (.fn zc5 [] [])) [.t 40,.t 41,.t 42,.t 43])] [40,41,42,43,44]
(rg [
mq 45 3,
tq 46 (.bin .sub (.t 45) (kq 1)),
mq 3 46] [45,46]))
 .skip))
(sr [
mq 48 0,
mq 49 1,
mq 50 2,
mq 51 4,
tq 52 (.call true true (.k (.fn zdh [] [])) [.t 48,.t 49,.t 50,.t 51]),
mq 47 52,
xq 53 47 0,
xq 54 47 1,
mq 13 53,
mq 14 54] [47,48,49,50,51,52,53,54]
(.seq (sr [
mq 55 14,
tq 56 (.bin .eql (.t 55) (kq 2))] [55]
(.cond (.t 56) (sr [
mq 57 0,
mq 58 1,
mq 59 2,
mq 60 4,
tq 61 (.call true true (.k (.fn zda [] [])) [.t 57,.t 58,.t 59,.t 60])] [57,58,59,60,61]
(sr [
mq 62 2,
tq 63 (.bin .sub (.t 62) (kq 1)),
mq 64 13,
mq 65 1,
tq 66 (.bin .sub (.t 64) (.t 65)),
tq 67 (.bin .sub (.t 63) (.t 66)),
mq 13 67] [62,63,64,65,66,67]
(rg [
tq 14 (.mv (kq 1))] [])))
 .skip))
(.seq (sr [
mq 68 10,
mq 69 68,
gq 70 69 true (.mv (.t 11)),
tq 71 (.pick (.t 69) (.t 70) (.k (.d (.bool false)))),
mq 72 71,
gq 73 72 true (.mv (.t 14)),
gq 74 72 true (.bin .eql (.t 73) (kq 1)),
tq 75 (.pick (.t 72) (.t 74) (.k (.d (.bool false))))] [14,68,69,70,71,72,73,74]
(.cond (.t 75) (sr [
mq 76 0,
mq 77 1,
mq 78 2,
mq 79 4,
tq 80 (.call true true (.k (.fn zb7 [] [])) [.t 76,.t 77,.t 78,.t 79])] [76,77,78,79]
(.cond (.t 80) .ret
 .skip))
 .skip))
(.seq (.seq (.reg true [
mq 81 1,
tq 82 (.bin .gtr (.t 81) (kq 0)),
mq 83 82,
gq 84 83 true (.mv (.t 4)),
gq 85 83 true (.mv (.t 0)),
gq 86 83 true (.mv (.t 1)),
gq 87 83 true (.bin .sub (.t 86) (kq 1)),
gq 88 83 true (.idxAddr 4 (.t 85) (.t 87)),
gq 89 83 true (.load (some 4) (.t 88)),
gq 90 83 true (.mv (.t 0)),
gq 91 83 true (.mv (.t 13)),
gq 92 83 true (.idxAddr 4 (.t 90) (.t 91)),
gq 93 83 true (.load (some 4) (.t 92)),
gq 94 83 true (.call true true (.t 84) [.t 89,.t 93]),
gq 95 83 true (.bin .lss (.t 94) (kq 0)),
gq 96 83 true (.un .not (.t 95)),
tq 97 (.pick (.t 83) (.t 96) (.k (.d (.bool false))))] [81,82,83,84,85,86,87,88,89,90,91,92,93,94,95,96])
(.cond (.t 97) (sr [
mq 98 0,
mq 99 1,
mq 100 2,
mq 101 13,
mq 102 4,
tq 103 (.call true true (.k (.fn zcz [] [])) [.t 98,.t 99,.t 100,.t 101,.t 102]),
mq 15 103] [1,13,98,99,100,101,102,103]
(sr [
mq 104 15,
mq 1 104] [15,104]
(.exit 1)))
 .skip))
(sr [
mq 106 0,
mq 107 1,
mq 108 2,
mq 109 13,
mq 110 4,
tq 111 (.call true true (.k (.fn zdm [] [])) [.t 106,.t 107,.t 108,.t 109,.t 110]),
mq 105 111,
xq 112 105 0,
xq 113 105 1,
mq 16 112,
mq 17 113] [13,105,106,107,108,109,110,111,112,113]
(sr [
mq 114 17,
mq 11 114] [17,114]
(sr [
mq 115 16,
mq 116 1,
tq 117 (.bin .sub (.t 115) (.t 116)),
mq 118 2,
mq 119 16,
tq 120 (.bin .sub (.t 118) (.t 119)),
mq 18 117,
mq 19 120] [115,116,117,118,119,120]
(sr [
mq 121 12,
tq 122 (.bin .quo (.t 121) (kq 8)),
mq 20 122] [12,121,122]
(sr [
mq 123 18,
mq 124 19,
tq 125 (.bin .lss (.t 123) (.t 124))] [123,124]
(.cond (.t 125) (sr [
mq 126 18,
mq 127 20,
tq 128 (.bin .geq (.t 126) (.t 127)),
mq 10 128] [18,20,126,127,128]
(sr [
mq 129 0,
mq 130 1,
mq 131 16,
mq 132 3,
mq 133 4,
tq 134 (.call true true (.k (.fn za5 [] [])) [.t 129,.t 130,.t 131,.t 132,.t 133])] [1,129,130,131,132,133,134]
(rg [
mq 135 16,
tq 136 (.bin .add (.t 135) (kq 1)),
mq 1 136] [16,135,136])))
 (sr [
mq 137 19,
mq 138 20,
tq 139 (.bin .geq (.t 137) (.t 138)),
mq 10 139] [19,20,137,138,139]
(sr [
mq 140 0,
mq 141 16,
tq 142 (.bin .add (.t 141) (kq 1)),
mq 143 2,
mq 144 3,
mq 145 4,
tq 146 (.call true true (.k (.fn za5 [] [])) [.t 140,.t 142,.t 143,.t 144,.t 145])] [2,140,141,142,143,144,145,146]
(rg [
mq 147 16,
mq 2 147] [16,147]))))))))))))))))))
def zht:CF:=⟨[],
  (sr [
tq 10 (.mv (.k (.d (.bool true))))] []
(sr [
tq 11 (.mv (.k (.d (.bool true))))] []
(.block 0 (.loop [0,1,2,3,4,10,11] zg8))))⟩
def zwx:CF:=⟨[.tmp 2],
  (sr [
tq 2 (.mv (kq 0))] [2]
(.seq (.cond (.k (.d (.bool false))) (sr [
mq 3 0,
tq 4 (.conv .u32 (.t 3)),
tq 5 (cl zna [.t 4]),
mq 2 5] [0,3,4,5]
.ret)
 .skip)
(sr [
mq 6 0,
tq 7 (cl znb [.t 6]),
mq 2 7] [0,6,7]
.ret)))⟩
def zdu:C:=
  (rg [
mq 5 7] [7])
def zdv:C:=
  (.block 1 (rg [
ld 8 2,
mq 9 5,
tq 10 (.mkList 1 1 [.t 9]),
tq 11 (.append ⟨true,zag,1,16⟩ (.t 8) (.t 10)),
⟨none,none,.store 1 (.t 2) (.t 11)⟩] [2,5,8,9,10,11]))
def zij:CF:=⟨[.tmp 4],
  (sr [
tq 2 (.box z0v (.t 0)),
tq 4 (.ownNil ⟨true,zag,1,16⟩)] [0]
(.seq (sr [
mq 6 1] [1]
(.block 0 (.rangeFn 14 (.t 6) [7] zdu zdv)))
(sr [
ld 12 2,
mq 4 12] [2,12]
.ret)))⟩
def zec:C:=
  (.seq (sr [
mq 7 3,
tq 8 (.bin .geq (.t 7) (kq 0))] [7]
(.cond (.t 8) .skip
 (.exit 0)))
(.seq (.block 1 (sr [
mq 11 0,
mq 12 3,
ld 13 1,
mq 14 3,
tq 15 (.idxAddr 8 (.t 13) (.t 14)),
lq 16 8 15,
tq 17 (.call true true (.t 11) [.t 12,.t 16]),
tq 18 (.un .not (.t 17))] [11,12,13,14,15,16,17]
(.cond (.t 18) .ret
 .skip)))
(rg [
mq 9 3,
tq 10 (.bin .sub (.t 9) (kq 1)),
mq 3 10] [9,10])))
def zew:CF:=⟨[],
  (sr [
ld 4 1,
tq 5 (.len .slc (.t 4)),
tq 6 (.bin .sub (.t 5) (kq 1)),
mq 3 6] [4,5,6]
(.block 0 (.loop [0,1,3] zec)))⟩
def zly:CF:=⟨[.tmp 4],
  (sr [
tq 3 (.box zac (.t 0)),
tq 4 (.mv (.k (.d (.bool false))))] [0,4]
(sr [
ld 5 1,
tq 6 (.nilCheck (.t 5)),
fa 7 2 6,
ld 8 7,
tq 9 (.mkFunc zbl [] [.t 3,.t 2]),
tq 10 (.call true true (.k (.fn zbe [] [])) [.t 8,.t 9]),
mq 4 10] [1,2,3,5,6,7,8,9,10]
.ret))⟩
def zds:CF:=⟨[.tmp 4],
  (sr [
tq 4 (.mv (.k (.d (.bool false))))] [4]
(sr [
mq 5 0,
mq 6 1,
tq 7 (.call true true (.k (.fn zbh [] [])) [.t 5,.t 6]),
tq 8 (.bin .geq (.t 7) (kq 0)),
mq 4 8] [0,1,5,6,7,8]
.ret))⟩
def zkw:CF:=⟨[.tmp 4],
  (sr [
tq 3 (.box zaj (.t 0)),
tq 4 (.mv (.k (.d (.bool false))))] [0,4]
(sr [
fa 5 0 3,
ld 6 5,
fa 7 0 1,
ld 8 7,
tq 9 (.bin .eql (.t 6) (.t 8)),
mq 10 9,
gq 11 10 true (.fieldAddr 1 (.t 3)),
gq 12 10 true (.load none (.t 11)),
gq 13 10 true (.load none (.t 2)),
gq 14 10 true (.bin .leq (.t 12) (.t 13)),
tq 15 (.pick (.t 10) (.t 14) (.k (.d (.bool false)))),
mq 4 15] [1,2,3,5,6,7,8,9,10,11,12,13,14,15]
.ret))⟩
def zep:C:=
  (sr [
tq 9 (.bin .lss (.t 8) (.t 7))] []
(.seq (.cond (.t 9) .skip
 (.exit 0))
(.seq (.block 1 (sr [
mq 10 8,
mq 5 10] [10]
(sr [
mq 11 1,
mq 12 0,
mq 13 5,
tq 14 (.idxAddr 8 (.t 12) (.t 13)),
lq 15 8 14,
tq 16 (.call true true (.t 11) [.t 15])] [11,12,13,14,15]
(.cond (.t 16) (sr [
mq 17 5,
mq 4 17] [5,17]
.ret)
 .skip))))
(rg [
tq 18 (.bin .add (.t 8) (kq 1)),
mq 8 18] [18]))))
def zez:CF:=⟨[.tmp 4],
  (sr [
tq 4 (.mv (kq 0))] [4]
(.seq (sr [
mq 6 0,
tq 7 (.len .slc (.t 6)),
tq 8 (.mv (kq 0))] [6]
(.block 0 (.loop [0,1,7,8] zep)))
(sr [
tq 4 (.mv (kq (-1)))] []
.ret)))⟩
def zml:CF:=⟨[.tmp 3],
  (sr [
tq 2 (.box zac (.t 0)),
tq 3 (.mv (.k (.d (.bool false))))] [0,3]
(sr [
fa 4 0 2,
ld 5 4,
ld 6 1,
tq 7 (.bin .eql (.t 5) (.t 6)),
mq 3 7] [1,2,4,5,6,7]
.ret))⟩
def zos:C:=
  (.seq (sr [
mq 6 3,
fa 7 1 1,
ld 8 7,
tq 9 (.bin .leq (.t 6) (.t 8))] [6,7,8]
(.cond (.t 9) .skip
 (.exit 0)))
(.seq (.block 1 (.seq (.reg true [
fa 12 2 1,
ld 13 12,
mq 14 3,
tq 15 (cl zl9 [.t 14]),
tq 16 (cl zm9 [.t 13,.t 15]),
mq 17 16,
gq 18 17 true (.mv (.t 0)),
gq 19 17 true (.mv (.t 3)),
gq 20 17 true (.call true true (.t 18) [.t 19]),
gq 21 17 true (.un .not (.t 20)),
tq 22 (.pick (.t 17) (.t 21) (.k (.d (.bool false))))] [12,13,14,15,16,17,18,19,20,21])
(.cond (.t 22) .ret
 .skip)))
(rg [
mq 10 3,
tq 11 (.bin .add (.t 10) (kq 1)),
mq 3 11] [10,11])))
def zrg:CF:=⟨[],
  (sr [
fa 4 0 1,
ld 5 4,
mq 3 5] [4,5]
(.block 0 (.loop [0,1,3] zos)))⟩
def zt0:CF:=⟨[.tmp 4],
  (sr [
tq 4 (.mv (.k (.d (.bool false))))] [4]
(sr [
mq 5 0,
mq 6 1,
tq 7 (.bin .shr (.t 5) (.t 6)),
tq 8 (.bin .and (.t 7) (kq 1)),
tq 9 (.bin .eql (.t 8) (kq 1)),
mq 4 9] [0,1,5,6,7,8,9]
.ret))⟩
def zsg:CF:=⟨[.tmp 2],
  (sr [
tq 2 (.mv (kq 0))] [2]
(sr [
mq 3 0,
tq 4 (.bin .add (.t 3) (kq 5)),
tq 5 (.bin .rem (.t 4) (kq 7)),
mq 2 5] [0,3,4,5]
.ret))⟩
def zfd:C:=
  (sr [
mq 10 0,
mq 11 3,
tq 12 (.call true true (.t 10) [.t 11]),
tq 13 (.un .not (.t 12))] [3,10,11,12]
(.cond (.t 13) .ret
 .skip))
def zfx:CF:=⟨[],
  (.rangeM [ld 4 1] 5 (.t 4) 0 1 8 [0,5] [xq 9 8 0,
mq 3 9] [8,9] zfd)⟩
def zjy:C:=
  (.seq (sr [
mq 57 8,
mq 58 9,
tq 59 (.bin .lss (.t 57) (.t 58))] [57,58]
(.cond (.t 59) .skip
 (.exit 1)))
(.block 2 (.seq (sr [
mq 60 0,
mq 61 8,
tq 62 (.idxS (.t 60) (.t 61)),
mq 63 6,
tq 64 (.bin .neq (.t 62) (.t 63))] [60,61,62,63]
(.cond (.t 64) (sr [
mq 65 0,
mq 66 8,
tq 67 (.bin .add (.t 66) (kq 1)),
mq 68 9,
tq 69 (.sliceS (.t 65) (some (.t 67)) (some (.t 68))),
mq 70 6,
tq 71 (cl n_internal_stringslite_IndexByte [.t 69,.t 70]),
mq 11 71] [65,66,67,68,69,70,71]
(.seq (sr [
mq 72 11,
tq 73 (.bin .lss (.t 72) (kq 0))] [72]
(.cond (.t 73) (sr [
tq 4 (.mv (kq (-1)))] []
.ret)
 .skip))
(rg [
mq 74 8,
mq 75 11,
tq 76 (.bin .add (.t 75) (kq 1)),
tq 77 (.bin .add (.t 74) (.t 76)),
mq 8 77] [11,74,75,76,77])))
 .skip))
(.seq (sr [
mq 78 0,
mq 79 8,
tq 80 (.bin .add (.t 79) (kq 1)),
tq 81 (.idxS (.t 78) (.t 80)),
mq 82 7,
tq 83 (.bin .eql (.t 81) (.t 82)),
mq 84 83,
gq 85 84 true (.mv (.t 0)),
gq 86 84 true (.mv (.t 8)),
gq 87 84 true (.mv (.t 8)),
gq 88 84 true (.mv (.t 5)),
gq 89 84 true (.bin .add (.t 87) (.t 88)),
gq 90 84 true (.sliceS (.t 85) (some (.t 86)) (some (.t 89))),
gq 91 84 true (.mv (.t 1)),
gq 92 84 true (.bin .eql (.t 90) (.t 91)),
tq 93 (.pick (.t 84) (.t 92) (.k (.d (.bool false))))] [78,79,80,81,82,83,84,85,86,87,88,89,90,91,92]
(.cond (.t 93) (sr [
mq 94 8,
mq 4 94] [8,94]
.ret)
 .skip))
(sr [
mq 95 8,
tq 96 (.bin .add (.t 95) (kq 1)),
mq 8 96] [95,96]
(sr [
mq 97 10,
tq 98 (.bin .add (.t 97) (kq 1)),
mq 10 98] [97,98]
(sr [
mq 99 5,
tq 100 (.bad),
tq 101 (.bin .leq (.t 99) (.t 100)),
mq 102 101,
gq 103 102 true (.mv (.t 10)),
gq 104 102 true (.mv (.t 8)),
gq 105 102 true (cl zl1 [.t 104]),
gq 106 102 true (.bin .gtr (.t 103) (.t 105)),
tq 107 (.pick (.t 102) (.t 106) (.k (.d (.bool false))))] [99,100,101,102,103,104,105,106]
(.cond (.t 107) (sr [
mq 108 0,
mq 109 8,
tq 110 (.sliceS (.t 108) (some (.t 109)) none),
mq 111 1,
tq 112 (cl ze9 [.t 110,.t 111]),
mq 12 112] [0,1,108,109,110,111,112]
(.seq (sr [
mq 113 12,
tq 114 (.bin .geq (.t 113) (kq 0))] [113]
(.cond (.t 114) (sr [
mq 115 12,
mq 116 8,
tq 117 (.bin .add (.t 115) (.t 116)),
mq 4 117] [8,12,115,116,117]
.ret)
 .skip))
(sr [
tq 4 (.mv (kq (-1)))] []
.ret)))
 (sr [
mq 118 5,
tq 119 (.bad),
tq 120 (.bin .gtr (.t 118) (.t 119)),
mq 121 120,
gq 122 121 true (.mv (.t 10)),
gq 123 121 true (.mv (.t 8)),
gq 124 121 true (.bin .shr (.t 123) (.k (.d (.int .u64 4)))),
gq 125 121 true (.bin .add (kq 4) (.t 124)),
gq 126 121 true (.bin .geq (.t 122) (.t 125)),
tq 127 (.pick (.t 121) (.t 126) (.k (.d (.bool false)))),
mq 128 127,
gq 129 128 true (.mv (.t 8)),
gq 130 128 true (.mv (.t 9)),
gq 131 128 true (.bin .lss (.t 129) (.t 130)),
tq 132 (.pick (.t 128) (.t 131) (.k (.d (.bool false))))] [118,119,120,121,122,123,124,125,126,127,128,129,130,131]
(.cond (.t 132) (sr [
mq 133 0,
mq 134 8,
tq 135 (.sliceS (.t 133) (some (.t 134)) none),
mq 136 1,
tq 137 (cl zgc [.t 135,.t 136]),
mq 13 137] [0,1,133,134,135,136,137]
(.seq (sr [
mq 138 13,
tq 139 (.bin .lss (.t 138) (kq 0))] [138]
(.cond (.t 139) (sr [
tq 4 (.mv (kq (-1)))] []
.ret)
 .skip))
(sr [
mq 140 8,
mq 141 13,
tq 142 (.bin .add (.t 140) (.t 141)),
mq 4 142] [8,13,140,141,142]
.ret)))
 .skip))))))))))
def zku:CF:=⟨[.tmp 4],
  (sr [
tq 4 (.mv (kq 0))] [4]
(sr [
mq 14 1,
tq 15 (.len .str (.t 14)),
mq 5 15] [14,15]
(.seq (.block 0 (sr [
mq 17 5,
tq 18 (.bin .eql (.t 17) (kq 0)),
mq 19 18,
gq 20 19 false (.mv (.t 1)),
gq 21 19 false (.mv (.t 0)),
gq 22 19 false (.bin .eql (.t 20) (.t 21)),
tq 23 (.pick (.t 19) (.k (.d (.bool true))) (.t 22)),
mq 16 23] [17,18,19,20,21,22,23]
(.cond (.t 16) (sr [
tq 4 (.mv (kq 0))] []
.ret)
 (sr [
mq 25 5,
tq 26 (.bin .eql (.t 25) (kq 1)),
mq 24 26] [25,26]
(.cond (.t 24) (sr [
mq 27 0,
mq 28 1,
tq 29 (.idxS (.t 28) (kq 0)),
tq 30 (cl n_internal_stringslite_IndexByte [.t 27,.t 29]),
mq 4 30] [0,1,27,28,29,30]
.ret)
 (sr [
mq 32 5,
mq 33 0,
tq 34 (.len .str (.t 33)),
tq 35 (.bin .geq (.t 32) (.t 34)),
mq 31 35] [32,33,34,35]
(.cond (.t 31) (sr [
tq 4 (.mv (kq (-1)))] []
.ret)
 (sr [
mq 37 5,
tq 38 (.bad),
tq 39 (.bin .leq (.t 37) (.t 38)),
mq 40 39,
gq 41 40 true (.mv (.t 0)),
gq 42 40 true (.len .str (.t 41)),
gq 43 40 true (.bin .leq (.t 42) (kq 64)),
tq 44 (.pick (.t 40) (.t 43) (.k (.d (.bool false)))),
mq 36 44] [37,38,39,40,41,42,43,44]
(.cond (.t 36) (sr [
mq 45 0,
mq 46 1,
tq 47 (cl ze9 [.t 45,.t 46]),
mq 4 47] [0,1,45,46,47]
.ret)
 .skip)))))))))
(sr [
mq 48 1,
tq 49 (.idxS (.t 48) (kq 0)),
mq 6 49] [48,49]
(sr [
mq 50 1,
tq 51 (.idxS (.t 50) (kq 1)),
mq 7 51] [50,51]
(sr [
tq 8 (.mv (kq 0))] []
(sr [
mq 52 0,
tq 53 (.len .str (.t 52)),
mq 54 5,
tq 55 (.bin .sub (.t 53) (.t 54)),
tq 56 (.bin .add (.t 55) (kq 1)),
mq 9 56] [52,53,54,55,56]
(sr [
tq 10 (.mv (kq 0))] []
(.seq (.block 1 (.loop [0,1,5,6,7,8,9,10] zjy))
(sr [
tq 4 (.mv (kq (-1)))] []
.ret))))))))))⟩
def zjg:C:=
  (sr [
tq 9 (.bin .lss (.t 8) (.t 7))] []
(.seq (.cond (.t 9) .skip
 (.exit 0))
(.seq (.block 1 (sr [
mq 10 8,
mq 5 10] [10]
(sr [
mq 11 1,
mq 12 0,
mq 13 5,
tq 14 (.idxAddr 1 (.t 12) (.t 13)),
ld 15 14,
tq 16 (.bin .eql (.t 11) (.t 15))] [11,12,13,14,15]
(.cond (.t 16) (sr [
mq 17 5,
mq 4 17] [5,17]
.ret)
 .skip))))
(rg [
tq 18 (.bin .add (.t 8) (kq 1)),
mq 8 18] [18]))))
def zkd:CF:=⟨[.tmp 4],
  (sr [
tq 4 (.mv (kq 0))] [4]
(.seq (sr [
mq 6 0,
tq 7 (.len .slc (.t 6)),
tq 8 (.mv (kq 0))] [6]
(.block 0 (.loop [0,1,7,8] zjg)))
(sr [
tq 4 (.mv (kq (-1)))] []
.ret)))⟩
def zoh:CF:=⟨[.tmp 6],
  (sr [
tq 6 (.mv (kq 0))] [6]
(sr [
mq 8 0,
mq 9 1,
tq 10 (.callQ (.k (.fn zbj [] [])) [.t 8,.t 9]),
mq 7 10] [1,8,9,10]
(.seq (sr [
mq 11 7,
tq 12 (.nilEq 0 false (.t 11))] [11]
(.cond (.t 12) (sr [
tq 6 (.mv (kq 10))] []
.ret)
 .skip))
(sr [
mq 13 0,
mq 14 7,
tq 15 (.nilCheck (.t 14)),
lq 16 8 15,
mq 17 2,
tq 18 (.callQ (.k (.fn zbp [] [])) [.t 13,.t 16,.t 17]),
tq 19 (.un .not (.t 18)),
tq 20 (cl zak [.t 19,kq 20]),
mq 6 20] [0,2,7,13,14,15,16,17,18,19,20]
.ret))))⟩
def zlc:CF:=⟨[.tmp 4],
  (sr [
tq 3 (.box zag (.t 1)),
tq 4 (.mv (.k (.d (.nilp))))] [1,4]
(.seq (sr [
mq 6 0,
tq 7 (.nilCheck (.t 6)),
fa 8 3 7,
ld 9 8,
tq 10 (.mkFunc zbs [] [.t 3]),
tq 11 (.call true true (.k (.fn zbd [] [])) [.t 9,.t 10]),
mq 5 11] [3,6,7,8,9,10,11]
(sr [
mq 12 5,
tq 13 (.bin .geq (.t 12) (kq 0))] [12]
(.cond (.t 13) (sr [
mq 14 0,
tq 15 (.nilCheck (.t 14)),
fa 16 3 15,
ld 17 16,
mq 18 5,
tq 19 (.idxAddr 5 (.t 17) (.t 18)),
mq 4 19] [0,5,14,15,16,17,18,19]
.ret)
 .skip)))
(sr [
tq 4 (.mv (.k (.d (.nilp))))] []
.ret)))⟩
def zhr:C:=
  (sr [
tq 9 (.bin .lss (.t 8) (.t 7))] []
(.seq (.cond (.t 9) .skip
 (.exit 0))
(.seq (.block 1 (sr [
mq 10 8,
mq 5 10] [10]
(sr [
mq 11 1,
mq 12 0,
mq 13 5,
tq 14 (.idxAddr 1 (.t 12) (.t 13)),
ld 15 14,
tq 16 (.call false true (.t 11) [.t 15])] [11,12,13,14,15]
(.cond (.t 16) (sr [
mq 17 5,
mq 4 17] [5,17]
.ret)
 .skip))))
(rg [
tq 18 (.bin .add (.t 8) (kq 1)),
mq 8 18] [18]))))
def zik:CF:=⟨[.tmp 4],
  (sr [
tq 4 (.mv (kq 0))] [4]
(.seq (sr [
mq 6 0,
tq 7 (.len .slc (.t 6)),
tq 8 (.mv (kq 0))] [6]
(.block 0 (.loop [0,1,7,8] zhr)))
(sr [
tq 4 (.mv (kq (-1)))] []
.ret)))⟩
def zj8:C:=
  (sr [
tq 9 (.bin .lss (.t 8) (.t 7))] []
(.seq (.cond (.t 9) .skip
 (.exit 0))
(.seq (.block 1 (sr [
mq 10 8,
mq 5 10] [10]
(sr [
mq 11 1,
mq 12 0,
mq 13 5,
tq 14 (.idxAddr 1 (.t 12) (.t 13)),
ld 15 14,
tq 16 (.call false true (.t 11) [.t 15])] [11,12,13,14,15]
(.cond (.t 16) (sr [
mq 17 5,
mq 4 17] [5,17]
.ret)
 .skip))))
(rg [
tq 18 (.bin .add (.t 8) (kq 1)),
mq 8 18] [18]))))
def zlf:CF:=⟨[.tmp 4],
  (sr [
tq 4 (.mv (kq 0))] [4]
(.seq (sr [
mq 6 0,
tq 7 (.len .slc (.t 6)),
tq 8 (.mv (kq 0))] [6]
(.block 0 (.loop [0,1,7,8] zj8)))
(sr [
tq 4 (.mv (kq (-1)))] []
.ret)))⟩
def zi1:C:=
  (sr [
tq 12 (.bin .lss (.t 11) (.t 10))] []
(.seq (.cond (.t 12) .skip
 (.exit 0))
(.seq (.block 1 (sr [
tq 13 (.idxAddr 1 (.t 9) (.t 11)),
ld 14 13,
mq 5 14] [13,14]
(sr [
mq 15 3,
mq 16 5,
tq 17 (.len .slc (.t 16)),
tq 18 (.bin .add (.t 15) (.t 17)),
mq 3 18] [5,15,16,17,18]
(sr [
mq 19 3,
tq 20 (.bin .lss (.t 19) (kq 0))] [19]
(.cond (.t 20) (rg [
tq 21 (.bad),
⟨none,none,.bad⟩] [21])
 .skip)))))
(rg [
tq 22 (.bin .add (.t 11) (kq 1)),
mq 11 22] [22]))))
def zi2:C:=
  (sr [
tq 28 (.bin .lss (.t 27) (.t 26))] []
(.seq (.cond (.t 28) .skip
 (.exit 2))
(.seq (.block 3 (sr [
tq 29 (.idxAddr 1 (.t 25) (.t 27)),
ld 30 29,
mq 8 30] [29,30]
(rg [
mq 31 6,
mq 32 8,
tq 33 (.appendIn ⟨false,zag,1,16⟩ (.t 31) (.t 32)),
mq 6 33] [8,31,32,33])))
(rg [
tq 34 (.bin .add (.t 27) (kq 1)),
mq 27 34] [34]))))
def zj2:CF:=⟨[.tmp 2],
  (sr [
tq 2 (.ownNil ⟨false,zag,1,16⟩)] [2]
(sr [
tq 3 (.mv (kq 0))] []
(.seq (sr [
mq 9 0,
tq 10 (.len .slc (.t 9)),
tq 11 (.mv (kq 0))] []
(.block 0 (.loop [0,3,9,10,11] zi1)))
(sr [
mq 23 3,
tq 24 (.call true false (.k (.fn zf7 [] [])) [.k (.d .nil),.t 23]),
mq 6 24] [3,23,24]
(.seq (sr [
mq 25 0,
tq 26 (.len .slc (.t 25)),
tq 27 (.mv (kq 0))] [0]
(.block 2 (.loop [6,25,26,27] zi2)))
(sr [
mq 35 6,
mq 2 35] [6,35]
.ret))))))⟩
def zkt:C:=
  (sr [
tq 11 (.bin .lss (.t 10) (.t 9))] []
(.seq (.cond (.t 11) .skip
 (.exit 0))
(.seq (.block 1 (sr [
tq 12 (.idxAddr 1 (.t 8) (.t 10)),
ld 13 12,
mq 7 13] [12,13]
(rg [
mq 14 5,
mq 15 1,
mq 16 7,
tq 17 (.call false true (.t 15) [.t 16]),
tq 18 (.mkList 1 1 [.t 17]),
tq 19 (.append ⟨false,zag,1,16⟩ (.t 14) (.t 18)),
mq 5 19] [7,14,15,16,17,18,19])))
(rg [
tq 20 (.bin .add (.t 10) (kq 1)),
mq 10 20] [20]))))
def zl0:CF:=⟨[.tmp 4],
  (sr [
tq 4 (.ownNil ⟨false,zag,1,16⟩)] [4]
(sr [
tq 5 (.ownNil ⟨false,zag,1,16⟩)] []
(.seq (sr [
mq 8 0,
tq 9 (.len .slc (.t 8)),
tq 10 (.mv (kq 0))] [0]
(.block 0 (.loop [1,5,8,9,10] zkt)))
(sr [
mq 21 5,
mq 4 21] [5,21]
.ret))))⟩
def zt8:CF:=⟨[.tmp 2],
  (sr [
tq 2 (.mv (.k (.d (.bool false))))] [2]
(sr [
mq 3 0,
tq 4 (.bin .lss (.t 3) (.k (.d (.int .i32 48)))),
mq 5 4,
gq 6 5 false (.mv (.t 0)),
gq 7 5 false (.bin .gtr (.t 6) (.k (.d (.int .i32 57)))),
tq 8 (.pick (.t 5) (.k (.d (.bool true))) (.t 7)),
mq 2 8] [0,3,4,5,6,7,8]
.ret))⟩
def z1f:CF:=⟨[.tmp 2],
  (sr [
tq 2 (.mv (.k (.d (.str []))))] [2]
(sr [
mq 3 0,
mq 4 0,
tq 5 (.bin .add (.t 4) (kq 1)),
tq 6 (.sliceS (.k (.d (.str [48,49,50,51,52,53,54,55,56,57]))) (some (.t 3)) (some (.t 5))),
mq 2 6] [0,3,4,5,6]
.ret))⟩
def zrm:CF:=⟨[.tmp 4],
  (sr [
tq 4 (.mv (kq 0))] [4]
(sr [
mq 5 0,
mq 6 1,
tq 7 (cl zhx [.t 5,.t 6,.k (.d (.bool true))]),
mq 4 7] [0,1,5,6,7]
.ret))⟩
def zff:C:=
  (.seq (.seq (.reg true [
mq 18 9,
mq 19 1,
tq 20 (.bin .gtr (.t 18) (.t 19)),
mq 21 20,
gq 22 21 true (.mv (.t 3)),
gq 23 21 true (.mv (.t 0)),
gq 24 21 true (.mv (.t 9)),
gq 25 21 true (.idxAddr 4 (.t 23) (.t 24)),
gq 26 21 true (.load (some 4) (.t 25)),
gq 27 21 true (.mv (.t 0)),
gq 28 21 true (.mv (.t 9)),
gq 29 21 true (.bin .sub (.t 28) (kq 1)),
gq 30 21 true (.idxAddr 4 (.t 27) (.t 29)),
gq 31 21 true (.load (some 4) (.t 30)),
gq 32 21 true (.call true true (.t 22) [.t 26,.t 31]),
gq 33 21 true (.bin .lss (.t 32) (kq 0)),
tq 34 (.pick (.t 21) (.t 33) (.k (.d (.bool false))))] [18,19,20,21,22,23,24,25,26,27,28,29,30,31,32,33])
(.cond (.t 34) .skip
 (.exit 2)))
(.seq (.block 3 (.reg true [
mq 37 0,
mq 38 9,
mq 39 0,
mq 40 9,
tq 41 (.bin .sub (.t 40) (kq 1)),
mq 42 0,
mq 43 9,
tq 44 (.bin .sub (.t 43) (kq 1)),
tq 45 (.idxAddr 4 (.t 42) (.t 44)),
lq 46 4 45,
mq 47 0,
mq 48 9,
tq 49 (.idxAddr 4 (.t 47) (.t 48)),
lq 50 4 49,
tq 51 (.idxAddr 4 (.t 37) (.t 38)),
⟨none,none,.store 4 (.t 51) (.t 46)⟩,
tq 52 (.idxAddr 4 (.t 39) (.t 41)),
⟨none,none,.store 4 (.t 52) (.t 50)⟩] [37,38,39,40,41,42,43,44,45,46,47,48,49,50,51,52]))
(rg [
mq 35 9,
tq 36 (.bin .sub (.t 35) (kq 1)),
mq 9 36] [35,36])))
def zfg:C:=
  (.seq (sr [
mq 12 8,
mq 13 2,
tq 14 (.bin .lss (.t 12) (.t 13))] [12,13]
(.cond (.t 14) .skip
 (.exit 0)))
(.seq (.block 1 (sr [
mq 17 8,
mq 9 17] [17]
(.block 2 (.loop [0,1,2,3,8,9] zff))))
(rg [
mq 15 8,
tq 16 (.bin .add (.t 15) (kq 1)),
mq 8 16] [15,16])))
def zfz:CF:=⟨[],
  (sr [
mq 10 1,
tq 11 (.bin .add (.t 10) (kq 1)),
mq 8 11] [10,11]
(.block 0 (.loop [0,1,2,3,8] zfg)))⟩
def zgt:C:=
  (.seq (sr [
mq 20 11,
tq 21 (.bin .geq (.t 20) (kq 0))] [20]
(.cond (.t 21) .skip
 (.exit 0)))
(.seq (.block 1 (rg [
mq 24 0,
mq 25 11,
mq 26 10,
mq 27 8,
mq 28 3,
tq 29 (.call true true (.k (.fn zce [] [])) [.t 24,.t 25,.t 26,.t 27,.t 28])] [24,25,26,27,28,29]))
(rg [
mq 22 11,
tq 23 (.bin .sub (.t 22) (kq 1)),
mq 11 23] [22,23])))
def zgu:C:=
  (.seq (sr [
mq 32 12,
tq 33 (.bin .geq (.t 32) (kq 0))] [32]
(.cond (.t 33) .skip
 (.exit 2)))
(.seq (.block 3 (.seq (.reg true [
mq 36 0,
mq 37 8,
mq 38 0,
mq 39 8,
mq 40 12,
tq 41 (.bin .add (.t 39) (.t 40)),
mq 42 0,
mq 43 8,
mq 44 12,
tq 45 (.bin .add (.t 43) (.t 44)),
tq 46 (.idxAddr 4 (.t 42) (.t 45)),
lq 47 4 46,
mq 48 0,
mq 49 8,
tq 50 (.idxAddr 4 (.t 48) (.t 49)),
lq 51 4 50,
tq 52 (.idxAddr 4 (.t 36) (.t 37)),
⟨none,none,.store 4 (.t 52) (.t 47)⟩,
tq 53 (.idxAddr 4 (.t 38) (.t 41)),
⟨none,none,.store 4 (.t 53) (.t 51)⟩] [36,37,38,39,40,41,42,43,44,45,46,47,48,49,50,51,52,53])
(rg [
mq 54 0,
mq 55 9,
mq 56 12,
mq 57 8,
mq 58 3,
tq 59 (.call true true (.k (.fn zce [] [])) [.t 54,.t 55,.t 56,.t 57,.t 58])] [54,55,56,57,58,59])))
(rg [
mq 34 12,
tq 35 (.bin .sub (.t 34) (kq 1)),
mq 12 35] [34,35])))
def zhi:CF:=⟨[],
  (sr [
mq 13 1,
mq 8 13] [13]
(sr [
tq 9 (.mv (kq 0))] []
(sr [
mq 14 2,
mq 15 1,
tq 16 (.bin .sub (.t 14) (.t 15)),
mq 10 16] [1,2,14,15,16]
(.seq (sr [
mq 17 10,
tq 18 (.bin .sub (.t 17) (kq 1)),
tq 19 (.bin .quo (.t 18) (kq 2)),
mq 11 19] [17,18,19]
(.block 0 (.loop [0,3,8,9,10,11] zgt)))
(sr [
mq 30 10,
tq 31 (.bin .sub (.t 30) (kq 1)),
mq 12 31] [10,30,31]
(.block 2 (.loop [0,3,8,9,12] zgu)))))))⟩
def zfe:C:=
  (.seq (sr [
mq 28 11,
mq 29 1,
mq 30 8,
tq 31 (.bin .quo (.t 30) (kq 4)),
tq 32 (.bin .mul (.t 31) (kq 2)),
tq 33 (.bin .add (.t 29) (.t 32)),
tq 34 (.bin .add (.t 33) (kq 1)),
tq 35 (.bin .leq (.t 28) (.t 34))] [28,29,30,31,32,33,34]
(.cond (.t 35) .skip
 (.exit 0)))
(.seq (.block 1 (sr [
tq 38 (.call true true (.k (.fn zoo [] [])) [.t 9]),
mq 39 10,
tq 40 (.bin .sub (.t 39) (.k (.d (.int .u64 1)))),
tq 41 (.bin .and (.t 38) (.t 40)),
tq 42 (.conv .i64 (.t 41)),
mq 12 42] [38,39,40,41,42]
(.seq (sr [
mq 43 12,
mq 44 8,
tq 45 (.bin .geq (.t 43) (.t 44))] [43,44]
(.cond (.t 45) (rg [
mq 46 12,
mq 47 8,
tq 48 (.bin .sub (.t 46) (.t 47)),
mq 12 48] [46,47,48])
 .skip))
(.reg true [
mq 49 0,
mq 50 11,
mq 51 0,
mq 52 1,
mq 53 12,
tq 54 (.bin .add (.t 52) (.t 53)),
mq 55 0,
mq 56 1,
mq 57 12,
tq 58 (.bin .add (.t 56) (.t 57)),
tq 59 (.idxAddr 4 (.t 55) (.t 58)),
lq 60 4 59,
mq 61 0,
mq 62 11,
tq 63 (.idxAddr 4 (.t 61) (.t 62)),
lq 64 4 63,
tq 65 (.idxAddr 4 (.t 49) (.t 50)),
⟨none,none,.store 4 (.t 65) (.t 60)⟩,
tq 66 (.idxAddr 4 (.t 51) (.t 54)),
⟨none,none,.store 4 (.t 66) (.t 64)⟩] [12,49,50,51,52,53,54,55,56,57,58,59,60,61,62,63,64,65,66]))))
(rg [
mq 36 11,
tq 37 (.bin .add (.t 36) (kq 1)),
mq 11 37] [36,37])))
def zfy:CF:=⟨[],
  (sr [
mq 13 2,
mq 14 1,
tq 15 (.bin .sub (.t 13) (.t 14)),
mq 8 15] [2,13,14,15]
(sr [
mq 16 8,
tq 17 (.bin .geq (.t 16) (kq 8))] [16]
(.cond (.t 17) (sr [
mq 18 8,
tq 19 (.conv .u64 (.t 18)),
tq 9 (.alloc ztn [.z (.int .u64 0)]),
⟨none,none,.store 1 (.t 9) (.t 19)⟩] [18,19]
(sr [
mq 20 8,
tq 21 (cl zn1 [.t 20]),
mq 10 21] [20,21]
(sr [
mq 22 1,
mq 23 8,
tq 24 (.bin .quo (.t 23) (kq 4)),
tq 25 (.bin .mul (.t 24) (kq 2)),
tq 26 (.bin .add (.t 22) (.t 25)),
tq 27 (.bin .sub (.t 26) (kq 1)),
mq 11 27] [22,23,24,25,26,27]
(.block 0 (.loop [0,1,8,9,10,11] zfe)))))
 .skip)))⟩
def zgm:CF:=⟨[.tmp 8,.tmp 9],
  (sr [
tq 8 (.mv (kq 0)),
tq 9 (.mv (kq 0))] [8,9]
(sr [
mq 15 2,
mq 16 1,
tq 17 (.bin .sub (.t 15) (.t 16)),
mq 10 17] [2,15,16,17]
(sr [
tq 11 (.alloc zcl [.z (.int .i64 0)])] []
(sr [
mq 18 1,
mq 19 10,
tq 20 (.bin .quo (.t 19) (kq 4)),
tq 21 (.bin .mul (.t 20) (kq 1)),
tq 22 (.bin .add (.t 18) (.t 21)),
mq 12 22] [18,19,20,21,22]
(sr [
mq 23 1,
mq 24 10,
tq 25 (.bin .quo (.t 24) (kq 4)),
tq 26 (.bin .mul (.t 25) (kq 2)),
tq 27 (.bin .add (.t 23) (.t 26)),
mq 13 27] [23,24,25,26,27]
(sr [
mq 28 1,
mq 29 10,
tq 30 (.bin .quo (.t 29) (kq 4)),
tq 31 (.bin .mul (.t 30) (kq 3)),
tq 32 (.bin .add (.t 28) (.t 31)),
mq 14 32] [1,28,29,30,31,32]
(.seq (sr [
mq 33 10,
tq 34 (.bin .geq (.t 33) (kq 8))] [33]
(.cond (.t 34) (.seq (sr [
mq 35 10,
tq 36 (.bin .geq (.t 35) (kq 50))] [10,35]
(.cond (.t 36) (sr [
mq 37 0,
mq 38 12,
mq 39 3,
tq 40 (.call true true (.k (.fn zbf [] [])) [.t 37,.t 38,.t 11,.t 39]),
mq 12 40] [37,38,39,40]
(sr [
mq 41 0,
mq 42 13,
mq 43 3,
tq 44 (.call true true (.k (.fn zbf [] [])) [.t 41,.t 42,.t 11,.t 43]),
mq 13 44] [41,42,43,44]
(rg [
mq 45 0,
mq 46 14,
mq 47 3,
tq 48 (.call true true (.k (.fn zbf [] [])) [.t 45,.t 46,.t 11,.t 47]),
mq 14 48] [45,46,47,48])))
 .skip))
(rg [
mq 49 0,
mq 50 12,
mq 51 13,
mq 52 14,
mq 53 3,
tq 54 (.call true true (.k (.fn zco [] [])) [.t 49,.t 50,.t 51,.t 52,.t 11,.t 53]),
mq 13 54] [0,3,12,14,49,50,51,52,53,54]))
 .skip))
(sr [
ld 55 11] [11]
(.block 0 (sr [
tq 58 (.bin .eql (.t 55) (kq 0)),
mq 57 58] [58]
(.cond (.t 57) (sr [
mq 59 13,
mq 8 59,
tq 9 (.mv (kq 1))] [13,59]
.ret)
 (sr [
tq 61 (.bin .eql (.t 55) (kq 12)),
mq 60 61] [55,61]
(.cond (.t 60) (sr [
mq 62 13,
mq 8 62,
tq 9 (.mv (kq 2))] [13,62]
.ret)
 (sr [
mq 56 13,
mq 8 56,
tq 9 (.mv (kq 0))] [13,56]
.ret))))))))))))))⟩
def zfn:C:=
  (.seq (sr [
mq 13 8,
mq 14 9,
tq 15 (.bin .lss (.t 13) (.t 14))] [13,14]
(.cond (.t 15) .skip
 (.exit 0)))
(.block 1 (.seq (.reg true [
mq 16 0,
mq 17 8,
mq 18 0,
mq 19 9,
mq 20 0,
mq 21 9,
tq 22 (.idxAddr 4 (.t 20) (.t 21)),
lq 23 4 22,
mq 24 0,
mq 25 8,
tq 26 (.idxAddr 4 (.t 24) (.t 25)),
lq 27 4 26,
tq 28 (.idxAddr 4 (.t 16) (.t 17)),
⟨none,none,.store 4 (.t 28) (.t 23)⟩,
tq 29 (.idxAddr 4 (.t 18) (.t 19)),
⟨none,none,.store 4 (.t 29) (.t 27)⟩] [16,17,18,19,20,21,22,23,24,25,26,27,28,29])
(sr [
mq 30 8,
tq 31 (.bin .add (.t 30) (kq 1)),
mq 8 31] [30,31]
(rg [
mq 32 9,
tq 33 (.bin .sub (.t 32) (kq 1)),
mq 9 33] [32,33])))))
def zf9:CF:=⟨[],
  (sr [
mq 10 1,
mq 8 10] [1,10]
(sr [
mq 11 2,
tq 12 (.bin .sub (.t 11) (kq 1)),
mq 9 12] [2,11,12]
(.block 0 (.loop [0,8,9] zfn))))⟩
def zd2:C:=
  (.seq (.seq (.reg true [
mq 19 9,
mq 20 2,
tq 21 (.bin .lss (.t 19) (.t 20)),
mq 22 21,
gq 23 22 true (.mv (.t 3)),
gq 24 22 true (.mv (.t 0)),
gq 25 22 true (.mv (.t 9)),
gq 26 22 true (.idxAddr 4 (.t 24) (.t 25)),
gq 27 22 true (.load (some 4) (.t 26)),
gq 28 22 true (.mv (.t 0)),
gq 29 22 true (.mv (.t 9)),
gq 30 22 true (.bin .sub (.t 29) (kq 1)),
gq 31 22 true (.idxAddr 4 (.t 28) (.t 30)),
gq 32 22 true (.load (some 4) (.t 31)),
gq 33 22 true (.call true true (.t 23) [.t 27,.t 32]),
gq 34 22 true (.bin .lss (.t 33) (kq 0)),
gq 35 22 true (.un .not (.t 34)),
tq 36 (.pick (.t 22) (.t 35) (.k (.d (.bool false))))] [19,20,21,22,23,24,25,26,27,28,29,30,31,32,33,34,35])
(.cond (.t 36) .skip
 (.exit 2)))
(.block 3 (rg [
mq 37 9,
tq 38 (.bin .add (.t 37) (kq 1)),
mq 9 38] [37,38])))
def zd3:C:=
  (.seq (sr [
mq 68 11,
tq 69 (.bin .geq (.t 68) (kq 1))] [68]
(.cond (.t 69) .skip
 (.exit 4)))
(.seq (.block 5 (.seq (.seq (.reg true [
mq 72 3,
mq 73 0,
mq 74 11,
tq 75 (.idxAddr 4 (.t 73) (.t 74)),
lq 76 4 75,
mq 77 0,
mq 78 11,
tq 79 (.bin .sub (.t 78) (kq 1)),
tq 80 (.idxAddr 4 (.t 77) (.t 79)),
lq 81 4 80,
tq 82 (.call true true (.t 72) [.t 76,.t 81]),
tq 83 (.bin .lss (.t 82) (kq 0)),
tq 84 (.un .not (.t 83))] [72,73,74,75,76,77,78,79,80,81,82,83])
(.cond (.t 84) (.exit 4)
 .skip))
(.reg true [
mq 85 0,
mq 86 11,
mq 87 0,
mq 88 11,
tq 89 (.bin .sub (.t 88) (kq 1)),
mq 90 0,
mq 91 11,
tq 92 (.bin .sub (.t 91) (kq 1)),
tq 93 (.idxAddr 4 (.t 90) (.t 92)),
lq 94 4 93,
mq 95 0,
mq 96 11,
tq 97 (.idxAddr 4 (.t 95) (.t 96)),
lq 98 4 97,
tq 99 (.idxAddr 4 (.t 85) (.t 86)),
⟨none,none,.store 4 (.t 99) (.t 94)⟩,
tq 100 (.idxAddr 4 (.t 87) (.t 89)),
⟨none,none,.store 4 (.t 100) (.t 98)⟩] [85,86,87,88,89,90,91,92,93,94,95,96,97,98,99,100])))
(rg [
mq 70 11,
tq 71 (.bin .sub (.t 70) (kq 1)),
mq 11 71] [70,71])))
def zd4:C:=
  (.seq (sr [
mq 107 12,
mq 108 2,
tq 109 (.bin .lss (.t 107) (.t 108))] [107,108]
(.cond (.t 109) .skip
 (.exit 6)))
(.seq (.block 7 (.seq (.seq (.reg true [
mq 112 3,
mq 113 0,
mq 114 12,
tq 115 (.idxAddr 4 (.t 113) (.t 114)),
lq 116 4 115,
mq 117 0,
mq 118 12,
tq 119 (.bin .sub (.t 118) (kq 1)),
tq 120 (.idxAddr 4 (.t 117) (.t 119)),
lq 121 4 120,
tq 122 (.call true true (.t 112) [.t 116,.t 121]),
tq 123 (.bin .lss (.t 122) (kq 0)),
tq 124 (.un .not (.t 123))] [112,113,114,115,116,117,118,119,120,121,122,123])
(.cond (.t 124) (.exit 6)
 .skip))
(.reg true [
mq 125 0,
mq 126 12,
mq 127 0,
mq 128 12,
tq 129 (.bin .sub (.t 128) (kq 1)),
mq 130 0,
mq 131 12,
tq 132 (.bin .sub (.t 131) (kq 1)),
tq 133 (.idxAddr 4 (.t 130) (.t 132)),
lq 134 4 133,
mq 135 0,
mq 136 12,
tq 137 (.idxAddr 4 (.t 135) (.t 136)),
lq 138 4 137,
tq 139 (.idxAddr 4 (.t 125) (.t 126)),
⟨none,none,.store 4 (.t 139) (.t 134)⟩,
tq 140 (.idxAddr 4 (.t 127) (.t 129)),
⟨none,none,.store 4 (.t 140) (.t 138)⟩] [125,126,127,128,129,130,131,132,133,134,135,136,137,138,139,140])))
(rg [
mq 110 12,
tq 111 (.bin .add (.t 110) (kq 1)),
mq 12 111] [110,111])))
def zd5:C:=
  (.seq (sr [
mq 15 10,
tq 16 (.bin .lss (.t 15) (kq 5))] [15]
(.cond (.t 16) .skip
 (.exit 0)))
(.seq (.block 1 (.seq (.block 2 (.loop [0,1,2,3,9,10] zd2))
(.seq (sr [
mq 39 9,
mq 40 2,
tq 41 (.bin .eql (.t 39) (.t 40))] [39,40]
(.cond (.t 41) (sr [
tq 8 (.mv (.k (.d (.bool true))))] []
.ret)
 .skip))
(.seq (sr [
mq 42 2,
mq 43 1,
tq 44 (.bin .sub (.t 42) (.t 43)),
tq 45 (.bin .lss (.t 44) (kq 50))] [42,43,44]
(.cond (.t 45) (sr [
tq 8 (.mv (.k (.d (.bool false))))] []
.ret)
 .skip))
(.seq (.reg true [
mq 46 0,
mq 47 9,
mq 48 0,
mq 49 9,
tq 50 (.bin .sub (.t 49) (kq 1)),
mq 51 0,
mq 52 9,
tq 53 (.bin .sub (.t 52) (kq 1)),
tq 54 (.idxAddr 4 (.t 51) (.t 53)),
lq 55 4 54,
mq 56 0,
mq 57 9,
tq 58 (.idxAddr 4 (.t 56) (.t 57)),
lq 59 4 58,
tq 60 (.idxAddr 4 (.t 46) (.t 47)),
⟨none,none,.store 4 (.t 60) (.t 55)⟩,
tq 61 (.idxAddr 4 (.t 48) (.t 50)),
⟨none,none,.store 4 (.t 61) (.t 59)⟩] [46,47,48,49,50,51,52,53,54,55,56,57,58,59,60,61])
(.seq (sr [
mq 62 9,
mq 63 1,
tq 64 (.bin .sub (.t 62) (.t 63)),
tq 65 (.bin .geq (.t 64) (kq 2))] [62,63,64]
(.cond (.t 65) (sr [
mq 66 9,
tq 67 (.bin .sub (.t 66) (kq 1)),
mq 11 67] [66,67]
(.block 4 (.loop [0,1,2,3,9,10,11] zd3)))
 .skip))
(sr [
mq 101 2,
mq 102 9,
tq 103 (.bin .sub (.t 101) (.t 102)),
tq 104 (.bin .geq (.t 103) (kq 2))] [101,102,103]
(.cond (.t 104) (sr [
mq 105 9,
tq 106 (.bin .add (.t 105) (kq 1)),
mq 12 106] [105,106]
(.block 6 (.loop [0,1,2,3,9,10,12] zd4)))
 .skip))))))))
(rg [
mq 17 10,
tq 18 (.bin .add (.t 17) (kq 1)),
mq 10 18] [17,18])))
def zee:CF:=⟨[.tmp 8],
  (sr [
tq 8 (.mv (.k (.d (.bool false))))] [8]
(sr [
mq 13 1,
tq 14 (.bin .add (.t 13) (kq 1)),
mq 9 14] [13,14]
(.seq (sr [
tq 10 (.mv (kq 0))] []
(.block 0 (.loop [0,1,2,3,9,10] zd5)))
(sr [
tq 8 (.mv (.k (.d (.bool false))))] []
.ret))))⟩
def ze4:C:=
  (.seq (.seq (.reg true [
mq 31 11,
mq 32 12,
tq 33 (.bin .leq (.t 31) (.t 32)),
mq 34 33,
gq 35 34 true (.mv (.t 4)),
gq 36 34 true (.mv (.t 0)),
gq 37 34 true (.mv (.t 1)),
gq 38 34 true (.idxAddr 4 (.t 36) (.t 37)),
gq 39 34 true (.load (some 4) (.t 38)),
gq 40 34 true (.mv (.t 0)),
gq 41 34 true (.mv (.t 11)),
gq 42 34 true (.idxAddr 4 (.t 40) (.t 41)),
gq 43 34 true (.load (some 4) (.t 42)),
gq 44 34 true (.call true true (.t 35) [.t 39,.t 43]),
gq 45 34 true (.bin .lss (.t 44) (kq 0)),
gq 46 34 true (.un .not (.t 45)),
tq 47 (.pick (.t 34) (.t 46) (.k (.d (.bool false))))] [31,32,33,34,35,36,37,38,39,40,41,42,43,44,45,46])
(.cond (.t 47) .skip
 (.exit 2)))
(.block 3 (rg [
mq 48 11,
tq 49 (.bin .add (.t 48) (kq 1)),
mq 11 49] [48,49])))
def ze5:C:=
  (.seq (.seq (.reg true [
mq 50 11,
mq 51 12,
tq 52 (.bin .leq (.t 50) (.t 51)),
mq 53 52,
gq 54 53 true (.mv (.t 4)),
gq 55 53 true (.mv (.t 0)),
gq 56 53 true (.mv (.t 1)),
gq 57 53 true (.idxAddr 4 (.t 55) (.t 56)),
gq 58 53 true (.load (some 4) (.t 57)),
gq 59 53 true (.mv (.t 0)),
gq 60 53 true (.mv (.t 12)),
gq 61 53 true (.idxAddr 4 (.t 59) (.t 60)),
gq 62 53 true (.load (some 4) (.t 61)),
gq 63 53 true (.call true true (.t 54) [.t 58,.t 62]),
gq 64 53 true (.bin .lss (.t 63) (kq 0)),
tq 65 (.pick (.t 53) (.t 64) (.k (.d (.bool false))))] [50,51,52,53,54,55,56,57,58,59,60,61,62,63,64])
(.cond (.t 65) .skip
 (.exit 4)))
(.block 5 (rg [
mq 66 12,
tq 67 (.bin .sub (.t 66) (kq 1)),
mq 12 67] [66,67])))
def ze6:C:=
  (.block 1 (.seq (.block 2 (.loop [0,1,4,11,12] ze4))
(.seq (.block 4 (.loop [0,1,4,11,12] ze5))
(.seq (sr [
mq 68 11,
mq 69 12,
tq 70 (.bin .gtr (.t 68) (.t 69))] [68,69]
(.cond (.t 70) (.exit 0)
 .skip))
(.seq (.reg true [
mq 71 0,
mq 72 11,
mq 73 0,
mq 74 12,
mq 75 0,
mq 76 12,
tq 77 (.idxAddr 4 (.t 75) (.t 76)),
lq 78 4 77,
mq 79 0,
mq 80 11,
tq 81 (.idxAddr 4 (.t 79) (.t 80)),
lq 82 4 81,
tq 83 (.idxAddr 4 (.t 71) (.t 72)),
⟨none,none,.store 4 (.t 83) (.t 78)⟩,
tq 84 (.idxAddr 4 (.t 73) (.t 74)),
⟨none,none,.store 4 (.t 84) (.t 82)⟩] [71,72,73,74,75,76,77,78,79,80,81,82,83,84])
(sr [
mq 85 11,
tq 86 (.bin .add (.t 85) (kq 1)),
mq 11 86] [85,86]
(rg [
mq 87 12,
tq 88 (.bin .sub (.t 87) (kq 1)),
mq 12 88] [87,88])))))))
def zfq:CF:=⟨[.tmp 10],
  (sr [
tq 10 (.mv (kq 0))] [10]
(.seq (.reg true [
mq 13 0,
mq 14 1,
mq 15 0,
mq 16 3,
mq 17 0,
mq 18 3,
tq 19 (.idxAddr 4 (.t 17) (.t 18)),
lq 20 4 19,
mq 21 0,
mq 22 1,
tq 23 (.idxAddr 4 (.t 21) (.t 22)),
lq 24 4 23,
tq 25 (.idxAddr 4 (.t 13) (.t 14)),
⟨none,none,.store 4 (.t 25) (.t 20)⟩,
tq 26 (.idxAddr 4 (.t 15) (.t 16)),
⟨none,none,.store 4 (.t 26) (.t 24)⟩] [3,13,14,15,16,17,18,19,20,21,22,23,24,25,26])
(sr [
mq 27 1,
tq 28 (.bin .add (.t 27) (kq 1)),
mq 29 2,
tq 30 (.bin .sub (.t 29) (kq 1)),
mq 11 28,
mq 12 30] [2,27,28,29,30]
(.seq (.block 0 (.loop [0,1,4,11,12] ze6))
(sr [
mq 89 11,
mq 10 89] [11,89]
.ret)))))⟩
def zge:C:=
  (.seq (.seq (.reg true [
mq 32 12,
mq 33 13,
tq 34 (.bin .leq (.t 32) (.t 33)),
mq 35 34,
gq 36 35 true (.mv (.t 4)),
gq 37 35 true (.mv (.t 0)),
gq 38 35 true (.mv (.t 12)),
gq 39 35 true (.idxAddr 4 (.t 37) (.t 38)),
gq 40 35 true (.load (some 4) (.t 39)),
gq 41 35 true (.mv (.t 0)),
gq 42 35 true (.mv (.t 1)),
gq 43 35 true (.idxAddr 4 (.t 41) (.t 42)),
gq 44 35 true (.load (some 4) (.t 43)),
gq 45 35 true (.call true true (.t 36) [.t 40,.t 44]),
gq 46 35 true (.bin .lss (.t 45) (kq 0)),
tq 47 (.pick (.t 35) (.t 46) (.k (.d (.bool false))))] [32,33,34,35,36,37,38,39,40,41,42,43,44,45,46])
(.cond (.t 47) .skip
 (.exit 0)))
(.block 1 (rg [
mq 48 12,
tq 49 (.bin .add (.t 48) (kq 1)),
mq 12 49] [48,49])))
def zgf:C:=
  (.seq (.seq (.reg true [
mq 50 12,
mq 51 13,
tq 52 (.bin .leq (.t 50) (.t 51)),
mq 53 52,
gq 54 53 true (.mv (.t 4)),
gq 55 53 true (.mv (.t 0)),
gq 56 53 true (.mv (.t 13)),
gq 57 53 true (.idxAddr 4 (.t 55) (.t 56)),
gq 58 53 true (.load (some 4) (.t 57)),
gq 59 53 true (.mv (.t 0)),
gq 60 53 true (.mv (.t 1)),
gq 61 53 true (.idxAddr 4 (.t 59) (.t 60)),
gq 62 53 true (.load (some 4) (.t 61)),
gq 63 53 true (.call true true (.t 54) [.t 58,.t 62]),
gq 64 53 true (.bin .lss (.t 63) (kq 0)),
gq 65 53 true (.un .not (.t 64)),
tq 66 (.pick (.t 53) (.t 65) (.k (.d (.bool false))))] [50,51,52,53,54,55,56,57,58,59,60,61,62,63,64,65])
(.cond (.t 66) .skip
 (.exit 2)))
(.block 3 (rg [
mq 67 13,
tq 68 (.bin .sub (.t 67) (kq 1)),
mq 13 68] [67,68])))
def zgg:C:=
  (.seq (.seq (.reg true [
mq 105 12,
mq 106 13,
tq 107 (.bin .leq (.t 105) (.t 106)),
mq 108 107,
gq 109 108 true (.mv (.t 4)),
gq 110 108 true (.mv (.t 0)),
gq 111 108 true (.mv (.t 12)),
gq 112 108 true (.idxAddr 4 (.t 110) (.t 111)),
gq 113 108 true (.load (some 4) (.t 112)),
gq 114 108 true (.mv (.t 0)),
gq 115 108 true (.mv (.t 1)),
gq 116 108 true (.idxAddr 4 (.t 114) (.t 115)),
gq 117 108 true (.load (some 4) (.t 116)),
gq 118 108 true (.call true true (.t 109) [.t 113,.t 117]),
gq 119 108 true (.bin .lss (.t 118) (kq 0)),
tq 120 (.pick (.t 108) (.t 119) (.k (.d (.bool false))))] [105,106,107,108,109,110,111,112,113,114,115,116,117,118,119])
(.cond (.t 120) .skip
 (.exit 6)))
(.block 7 (rg [
mq 121 12,
tq 122 (.bin .add (.t 121) (kq 1)),
mq 12 122] [121,122])))
def zgh:C:=
  (.seq (.seq (.reg true [
mq 123 12,
mq 124 13,
tq 125 (.bin .leq (.t 123) (.t 124)),
mq 126 125,
gq 127 126 true (.mv (.t 4)),
gq 128 126 true (.mv (.t 0)),
gq 129 126 true (.mv (.t 13)),
gq 130 126 true (.idxAddr 4 (.t 128) (.t 129)),
gq 131 126 true (.load (some 4) (.t 130)),
gq 132 126 true (.mv (.t 0)),
gq 133 126 true (.mv (.t 1)),
gq 134 126 true (.idxAddr 4 (.t 132) (.t 133)),
gq 135 126 true (.load (some 4) (.t 134)),
gq 136 126 true (.call true true (.t 127) [.t 131,.t 135]),
gq 137 126 true (.bin .lss (.t 136) (kq 0)),
gq 138 126 true (.un .not (.t 137)),
tq 139 (.pick (.t 126) (.t 138) (.k (.d (.bool false))))] [123,124,125,126,127,128,129,130,131,132,133,134,135,136,137,138])
(.cond (.t 139) .skip
 (.exit 8)))
(.block 9 (rg [
mq 140 13,
tq 141 (.bin .sub (.t 140) (kq 1)),
mq 13 141] [140,141])))
def zgi:C:=
  (.block 5 (.seq (.block 6 (.loop [0,1,4,12,13] zgg))
(.seq (.block 8 (.loop [0,1,4,12,13] zgh))
(.seq (sr [
mq 142 12,
mq 143 13,
tq 144 (.bin .gtr (.t 142) (.t 143))] [142,143]
(.cond (.t 144) (.exit 4)
 .skip))
(.seq (.reg true [
mq 145 0,
mq 146 12,
mq 147 0,
mq 148 13,
mq 149 0,
mq 150 13,
tq 151 (.idxAddr 4 (.t 149) (.t 150)),
lq 152 4 151,
mq 153 0,
mq 154 12,
tq 155 (.idxAddr 4 (.t 153) (.t 154)),
lq 156 4 155,
tq 157 (.idxAddr 4 (.t 145) (.t 146)),
⟨none,none,.store 4 (.t 157) (.t 152)⟩,
tq 158 (.idxAddr 4 (.t 147) (.t 148)),
⟨none,none,.store 4 (.t 158) (.t 156)⟩] [145,146,147,148,149,150,151,152,153,154,155,156,157,158])
(sr [
mq 159 12,
tq 160 (.bin .add (.t 159) (kq 1)),
mq 12 160] [159,160]
(rg [
mq 161 13,
tq 162 (.bin .sub (.t 161) (kq 1)),
mq 13 162] [161,162])))))))
def zha:CF:=⟨[.tmp 10,.tmp 11],
  (sr [
tq 10 (.mv (kq 0)),
tq 11 (.mv (.k (.d (.bool false))))] [10,11]
(.seq (.reg true [
mq 14 0,
mq 15 1,
mq 16 0,
mq 17 3,
mq 18 0,
mq 19 3,
tq 20 (.idxAddr 4 (.t 18) (.t 19)),
lq 21 4 20,
mq 22 0,
mq 23 1,
tq 24 (.idxAddr 4 (.t 22) (.t 23)),
lq 25 4 24,
tq 26 (.idxAddr 4 (.t 14) (.t 15)),
⟨none,none,.store 4 (.t 26) (.t 21)⟩,
tq 27 (.idxAddr 4 (.t 16) (.t 17)),
⟨none,none,.store 4 (.t 27) (.t 25)⟩] [3,14,15,16,17,18,19,20,21,22,23,24,25,26,27])
(sr [
mq 28 1,
tq 29 (.bin .add (.t 28) (kq 1)),
mq 30 2,
tq 31 (.bin .sub (.t 30) (kq 1)),
mq 12 29,
mq 13 31] [2,28,29,30,31]
(.seq (.block 0 (.loop [0,1,4,12,13] zge))
(.seq (.block 2 (.loop [0,1,4,12,13] zgf))
(.seq (sr [
mq 69 12,
mq 70 13,
tq 71 (.bin .gtr (.t 69) (.t 70))] [69,70]
(.cond (.t 71) (.seq (.reg true [
mq 72 0,
mq 73 13,
mq 74 0,
mq 75 1,
mq 76 0,
mq 77 1,
tq 78 (.idxAddr 4 (.t 76) (.t 77)),
lq 79 4 78,
mq 80 0,
mq 81 13,
tq 82 (.idxAddr 4 (.t 80) (.t 81)),
lq 83 4 82,
tq 84 (.idxAddr 4 (.t 72) (.t 73)),
⟨none,none,.store 4 (.t 84) (.t 79)⟩,
tq 85 (.idxAddr 4 (.t 74) (.t 75)),
⟨none,none,.store 4 (.t 85) (.t 83)⟩] [0,1,72,73,74,75,76,77,78,79,80,81,82,83,84,85])
(sr [
mq 86 13,
mq 10 86,
tq 11 (.mv (.k (.d (.bool true))))] [13,86]
.ret))
 .skip))
(.seq (.reg true [
mq 87 0,
mq 88 12,
mq 89 0,
mq 90 13,
mq 91 0,
mq 92 13,
tq 93 (.idxAddr 4 (.t 91) (.t 92)),
lq 94 4 93,
mq 95 0,
mq 96 12,
tq 97 (.idxAddr 4 (.t 95) (.t 96)),
lq 98 4 97,
tq 99 (.idxAddr 4 (.t 87) (.t 88)),
⟨none,none,.store 4 (.t 99) (.t 94)⟩,
tq 100 (.idxAddr 4 (.t 89) (.t 90)),
⟨none,none,.store 4 (.t 100) (.t 98)⟩] [87,88,89,90,91,92,93,94,95,96,97,98,99,100])
(sr [
mq 101 12,
tq 102 (.bin .add (.t 101) (kq 1)),
mq 12 102] [101,102]
(sr [
mq 103 13,
tq 104 (.bin .sub (.t 103) (kq 1)),
mq 13 104] [103,104]
(.seq (.block 4 (.loop [0,1,4,12,13] zgi))
(.seq (.reg true [
mq 163 0,
mq 164 13,
mq 165 0,
mq 166 1,
mq 167 0,
mq 168 1,
tq 169 (.idxAddr 4 (.t 167) (.t 168)),
lq 170 4 169,
mq 171 0,
mq 172 13,
tq 173 (.idxAddr 4 (.t 171) (.t 172)),
lq 174 4 173,
tq 175 (.idxAddr 4 (.t 163) (.t 164)),
⟨none,none,.store 4 (.t 175) (.t 170)⟩,
tq 176 (.idxAddr 4 (.t 165) (.t 166)),
⟨none,none,.store 4 (.t 176) (.t 174)⟩] [0,1,163,164,165,166,167,168,169,170,171,172,173,174,175,176])
(sr [
mq 177 13,
mq 10 177,
tq 11 (.mv (.k (.d (.bool false))))] [13,177]
.ret))))))))))))⟩
def zt3:CF:=⟨[.tmp 2],
  (sr [
tq 2 (.mv (kq 0))] []
(.seq (sr [
mq 3 0,
tq 4 (.bin .geq (.t 3) (.k (.d (.int .u32 65536))))] [3]
(.cond (.t 4) (sr [
mq 5 0,
tq 6 (.bin .shr (.t 5) (.k (.d (.int .u64 16)))),
mq 0 6] [5,6]
(rg [
tq 2 (.mv (kq 16))] []))
 .skip))
(.seq (sr [
mq 7 0,
tq 8 (.bin .geq (.t 7) (.k (.d (.int .u32 256))))] [7]
(.cond (.t 8) (sr [
mq 9 0,
tq 10 (.bin .shr (.t 9) (.k (.d (.int .u64 8)))),
mq 0 10] [9,10]
(rg [
mq 11 2,
tq 12 (.bin .add (.t 11) (kq 8)),
mq 2 12] [11,12]))
 .skip))
(sr [
mq 13 2,
mq 14 0,
tq 15 (.conv .u8 (.t 14)),
tq 16 (.idxS (.k (.d (.str [0,1,2,2,3,3,3,3,4,4,4,4,4,4,4,4,5,5,5,5,5,5,5,5,5,5,5,5,5,5,5,5,6,6,6,6,6,6,6,6,6,6,6,6,6,6,6,6,6,6,6,6,6,6,6,6,6,6,6,6,6,6,6,6,7,7,7,7,7,7,7,7,7,7,7,7,7,7,7,7,7,7,7,7,7,7,7,7,7,7,7,7,7,7,7,7,7,7,7,7,7,7,7,7,7,7,7,7,7,7,7,7,7,7,7,7,7,7,7,7,7,7,7,7,7,7,7,7,8,8,8,8,8,8,8,8,8,8,8,8,8,8,8,8,8,8,8,8,8,8,8,8,8,8,8,8,8,8,8,8,8,8,8,8,8,8,8,8,8,8,8,8,8,8,8,8,8,8,8,8,8,8,8,8,8,8,8,8,8,8,8,8,8,8,8,8,8,8,8,8,8,8,8,8,8,8,8,8,8,8,8,8,8,8,8,8,8,8,8,8,8,8,8,8,8,8,8,8,8,8,8,8,8,8,8,8,8,8,8,8,8,8,8,8,8,8,8,8,8,8,8,8,8,8,8,8]))) (.t 15)),
tq 17 (.conv .i64 (.t 16)),
tq 18 (.bin .add (.t 13) (.t 17)),
mq 2 18] [0,13,14,15,16,17,18]
.ret))))⟩
def zt4:CF:=⟨[.tmp 2],
  (sr [
tq 2 (.mv (kq 0))] []
(.seq (sr [
mq 3 0,
tq 4 (.bin .geq (.t 3) (.k (.d (.int .u64 4294967296))))] [3]
(.cond (.t 4) (sr [
mq 5 0,
tq 6 (.bin .shr (.t 5) (.k (.d (.int .u64 32)))),
mq 0 6] [5,6]
(rg [
tq 2 (.mv (kq 32))] []))
 .skip))
(.seq (sr [
mq 7 0,
tq 8 (.bin .geq (.t 7) (.k (.d (.int .u64 65536))))] [7]
(.cond (.t 8) (sr [
mq 9 0,
tq 10 (.bin .shr (.t 9) (.k (.d (.int .u64 16)))),
mq 0 10] [9,10]
(rg [
mq 11 2,
tq 12 (.bin .add (.t 11) (kq 16)),
mq 2 12] [11,12]))
 .skip))
(.seq (sr [
mq 13 0,
tq 14 (.bin .geq (.t 13) (.k (.d (.int .u64 256))))] [13]
(.cond (.t 14) (sr [
mq 15 0,
tq 16 (.bin .shr (.t 15) (.k (.d (.int .u64 8)))),
mq 0 16] [15,16]
(rg [
mq 17 2,
tq 18 (.bin .add (.t 17) (kq 8)),
mq 2 18] [17,18]))
 .skip))
(sr [
mq 19 2,
mq 20 0,
tq 21 (.conv .u8 (.t 20)),
tq 22 (.idxS (.k (.d (.str [0,1,2,2,3,3,3,3,4,4,4,4,4,4,4,4,5,5,5,5,5,5,5,5,5,5,5,5,5,5,5,5,6,6,6,6,6,6,6,6,6,6,6,6,6,6,6,6,6,6,6,6,6,6,6,6,6,6,6,6,6,6,6,6,7,7,7,7,7,7,7,7,7,7,7,7,7,7,7,7,7,7,7,7,7,7,7,7,7,7,7,7,7,7,7,7,7,7,7,7,7,7,7,7,7,7,7,7,7,7,7,7,7,7,7,7,7,7,7,7,7,7,7,7,7,7,7,7,8,8,8,8,8,8,8,8,8,8,8,8,8,8,8,8,8,8,8,8,8,8,8,8,8,8,8,8,8,8,8,8,8,8,8,8,8,8,8,8,8,8,8,8,8,8,8,8,8,8,8,8,8,8,8,8,8,8,8,8,8,8,8,8,8,8,8,8,8,8,8,8,8,8,8,8,8,8,8,8,8,8,8,8,8,8,8,8,8,8,8,8,8,8,8,8,8,8,8,8,8,8,8,8,8,8,8,8,8,8,8,8,8,8,8,8,8,8,8,8,8,8,8,8,8,8,8,8]))) (.t 21)),
tq 23 (.conv .i64 (.t 22)),
tq 24 (.bin .add (.t 19) (.t 23)),
mq 2 24] [0,19,20,21,22,23,24]
.ret)))))⟩
def zdw:C:=
  (sr [
tq 9 (.bin .lss (.t 8) (.t 7))] []
(.seq (.cond (.t 9) .skip
 (.exit 0))
(.seq (.block 1 (sr [
mq 10 8,
mq 5 10] [10]
(sr [
mq 11 1,
mq 12 0,
mq 13 5,
tq 14 (.idxAddr 2 (.t 12) (.t 13)),
lq 15 2 14,
tq 16 (.call true true (.t 11) [.t 15])] [11,12,13,14,15]
(.cond (.t 16) (sr [
mq 17 5,
mq 4 17] [5,17]
.ret)
 .skip))))
(rg [
tq 18 (.bin .add (.t 8) (kq 1)),
mq 8 18] [18]))))
def zd8:CF:=⟨[.tmp 4],
  (sr [
tq 4 (.mv (kq 0))] [4]
(.seq (sr [
mq 6 0,
tq 7 (.len .slc (.t 6)),
tq 8 (.mv (kq 0))] [6]
(.block 0 (.loop [0,1,7,8] zdw)))
(sr [
tq 4 (.mv (kq (-1)))] []
.ret)))⟩
def zdj:C:=
  (sr [
tq 9 (.bin .lss (.t 8) (.t 7))] []
(.seq (.cond (.t 9) .skip
 (.exit 0))
(.seq (.block 1 (sr [
mq 10 8,
mq 5 10] [10]
(sr [
mq 11 1,
mq 12 0,
mq 13 5,
tq 14 (.idxAddr 5 (.t 12) (.t 13)),
lq 15 5 14,
tq 16 (.call true true (.t 11) [.t 15])] [11,12,13,14,15]
(.cond (.t 16) (sr [
mq 17 5,
mq 4 17] [5,17]
.ret)
 .skip))))
(rg [
tq 18 (.bin .add (.t 8) (kq 1)),
mq 8 18] [18]))))
def zdn:CF:=⟨[.tmp 4],
  (sr [
tq 4 (.mv (kq 0))] [4]
(.seq (sr [
mq 6 0,
tq 7 (.len .slc (.t 6)),
tq 8 (.mv (kq 0))] [6]
(.block 0 (.loop [0,1,7,8] zdj)))
(sr [
tq 4 (.mv (kq (-1)))] []
.ret)))⟩
def zka:CF:=⟨[.tmp 3],
  (sr [
tq 2 (.box zad (.t 0)),
tq 3 (.mv (.k (.d (.bool false))))] [0,3]
(sr [
fa 4 0 2,
ld 5 4,
ld 6 1,
tq 7 (.bin .eql (.t 5) (.t 6)),
mq 3 7] [1,2,4,5,6,7]
.ret))⟩
def zky:CF:=⟨[.tmp 4],
  (sr [
tq 4 (.ownNil ⟨true,zag,1,16⟩)] [4]
(.seq (sr [
mq 5 1,
tq 6 (.bin .lss (.t 5) (kq 0))] [5]
(.cond (.t 6) (rg [
tq 7 (.bad),
⟨none,none,.bad⟩] [7])
 .skip))
(.seq (sr [
mq 8 1,
mq 9 0,
tq 10 (.len .cap (.t 9)),
mq 11 0,
tq 12 (.len .slc (.t 11)),
tq 13 (.bin .sub (.t 10) (.t 12)),
tq 14 (.bin .sub (.t 8) (.t 13)),
mq 1 14] [8,9,10,11,12,13,14]
(sr [
mq 15 1,
tq 16 (.bin .gtr (.t 15) (kq 0))] [15]
(.cond (.t 16) (rg [
mq 17 0,
mq 18 0,
tq 19 (.len .cap (.t 18)),
tq 20 (.slice 1 (.t 17) none (some (.t 19)) none),
mq 21 1,
tq 22 (.appendZ ⟨true,zag,1,16⟩ [.str []] (.t 20) (.t 21)),
mq 23 0,
tq 24 (.len .slc (.t 23)),
tq 25 (.slice 1 (.t 22) none (some (.t 24)) none),
mq 0 25] [1,17,18,19,20,21,22,23,24,25])
 .skip)))
(sr [
mq 26 0,
mq 4 26] [0,26]
.ret))))⟩
def zot:C:=
  (sr [
tq 11 (.nextS (.t 10)),
xq 12 11 0] []
(.seq (.cond (.t 12) .skip
 (.exit 0))
(.block 1 (sr [
xq 13 11 1,
xq 14 11 2,
mq 7 13,
mq 8 14] [11,13,14]
(sr [
mq 15 1,
mq 16 8,
tq 17 (.call false true (.t 15) [.t 16]),
mq 18 2,
tq 19 (.eqv none false (.t 17) (.t 18))] [8,15,16,17,18]
(.cond (.t 19) (sr [
mq 20 7,
mq 6 20] [7,20]
.ret)
 .skip))))))
def zrn:CF:=⟨[.tmp 6],
  (sr [
tq 6 (.mv (kq 0))] [6]
(.seq (sr [
mq 9 0,
tq 10 (.rangeS (.t 9))] [0,9]
(.block 0 (.loop [1,2,10] zot)))
(sr [
tq 6 (.mv (kq (-1)))] []
.ret)))⟩
def zgv:C:=
  (.block 1 (sr [
mq 13 10,
tq 14 (.bin .mul (kq 2) (.t 13)),
tq 15 (.bin .add (.t 14) (kq 1)),
mq 11 15] [13,14,15]
(.seq (sr [
mq 16 11,
mq 17 2,
tq 18 (.bin .geq (.t 16) (.t 17))] [16,17]
(.cond (.t 18) (.exit 0)
 .skip))
(.seq (.seq (.reg true [
mq 19 11,
tq 20 (.bin .add (.t 19) (kq 1)),
mq 21 2,
tq 22 (.bin .lss (.t 20) (.t 21)),
mq 23 22,
gq 24 23 true (.mv (.t 4)),
gq 25 23 true (.mv (.t 0)),
gq 26 23 true (.mv (.t 3)),
gq 27 23 true (.mv (.t 11)),
gq 28 23 true (.bin .add (.t 26) (.t 27)),
gq 29 23 true (.idxAddr 4 (.t 25) (.t 28)),
gq 30 23 true (.load (some 4) (.t 29)),
gq 31 23 true (.mv (.t 0)),
gq 32 23 true (.mv (.t 3)),
gq 33 23 true (.mv (.t 11)),
gq 34 23 true (.bin .add (.t 32) (.t 33)),
gq 35 23 true (.bin .add (.t 34) (kq 1)),
gq 36 23 true (.idxAddr 4 (.t 31) (.t 35)),
gq 37 23 true (.load (some 4) (.t 36)),
gq 38 23 true (.call true true (.t 24) [.t 30,.t 37]),
gq 39 23 true (.bin .lss (.t 38) (kq 0)),
tq 40 (.pick (.t 23) (.t 39) (.k (.d (.bool false))))] [19,20,21,22,23,24,25,26,27,28,29,30,31,32,33,34,35,36,37,38,39])
(.cond (.t 40) (rg [
mq 41 11,
tq 42 (.bin .add (.t 41) (kq 1)),
mq 11 42] [41,42])
 .skip))
(.seq (.seq (.reg true [
mq 43 4,
mq 44 0,
mq 45 3,
mq 46 10,
tq 47 (.bin .add (.t 45) (.t 46)),
tq 48 (.idxAddr 4 (.t 44) (.t 47)),
lq 49 4 48,
mq 50 0,
mq 51 3,
mq 52 11,
tq 53 (.bin .add (.t 51) (.t 52)),
tq 54 (.idxAddr 4 (.t 50) (.t 53)),
lq 55 4 54,
tq 56 (.call true true (.t 43) [.t 49,.t 55]),
tq 57 (.bin .lss (.t 56) (kq 0)),
tq 58 (.un .not (.t 57))] [43,44,45,46,47,48,49,50,51,52,53,54,55,56,57])
(.cond (.t 58) .ret
 .skip))
(.seq (.reg true [
mq 59 0,
mq 60 3,
mq 61 10,
tq 62 (.bin .add (.t 60) (.t 61)),
mq 63 0,
mq 64 3,
mq 65 11,
tq 66 (.bin .add (.t 64) (.t 65)),
mq 67 0,
mq 68 3,
mq 69 11,
tq 70 (.bin .add (.t 68) (.t 69)),
tq 71 (.idxAddr 4 (.t 67) (.t 70)),
lq 72 4 71,
mq 73 0,
mq 74 3,
mq 75 10,
tq 76 (.bin .add (.t 74) (.t 75)),
tq 77 (.idxAddr 4 (.t 73) (.t 76)),
lq 78 4 77,
tq 79 (.idxAddr 4 (.t 59) (.t 62)),
⟨none,none,.store 4 (.t 79) (.t 72)⟩,
tq 80 (.idxAddr 4 (.t 63) (.t 66)),
⟨none,none,.store 4 (.t 80) (.t 78)⟩] [10,59,60,61,62,63,64,65,66,67,68,69,70,71,72,73,74,75,76,77,78,79,80])
(rg [
mq 81 11,
mq 10 81] [11,81])))))))
def zhj:CF:=⟨[],
  (sr [
mq 12 1,
mq 10 12] [1,12]
(.block 0 (.loop [0,2,3,4,10] zgv)))⟩
def zfp:CF:=⟨[.tmp 8],
  (sr [
tq 8 (.mv (kq 0))] [8]
(sr [
mq 9 0,
mq 10 1,
tq 11 (.bin .sub (.t 10) (kq 1)),
mq 12 1,
mq 13 1,
tq 14 (.bin .add (.t 13) (kq 1)),
mq 15 2,
mq 16 3,
tq 17 (.call true true (.k (.fn zco [] [])) [.t 9,.t 11,.t 12,.t 14,.t 15,.t 16]),
mq 8 17] [0,1,2,3,9,10,11,12,13,14,15,16,17]
.ret))⟩
def zid:CF:=⟨[.tmp 12],
  (sr [
tq 12 (.mv (kq 0))] [12]
(sr [
mq 14 0,
mq 15 1,
mq 16 2,
mq 17 4,
mq 18 5,
tq 19 (.call true true (.k (.fn zbt [] [])) [.t 14,.t 15,.t 16,.t 17,.t 18]),
mq 13 19,
xq 20 13 0,
xq 21 13 1,
mq 1 20,
mq 2 21] [13,14,15,16,17,18,19,20,21]
(sr [
mq 23 0,
mq 24 2,
mq 25 3,
mq 26 4,
mq 27 5,
tq 28 (.call true true (.k (.fn zbt [] [])) [.t 23,.t 24,.t 25,.t 26,.t 27]),
mq 22 28,
xq 29 22 0,
xq 30 22 1,
mq 2 29,
mq 3 30] [3,22,23,24,25,26,27,28,29,30]
(sr [
mq 32 0,
mq 33 1,
mq 34 2,
mq 35 4,
mq 36 5,
tq 37 (.call true true (.k (.fn zbt [] [])) [.t 32,.t 33,.t 34,.t 35,.t 36]),
mq 31 37,
xq 38 31 0,
xq 39 31 1,
mq 1 38,
mq 2 39] [0,1,4,5,31,32,33,34,35,36,37,38,39]
(sr [
mq 40 2,
mq 12 40] [2,40]
.ret)))))⟩
def zie:CF:=⟨[.tmp 10,.tmp 11],
  (sr [
tq 10 (.mv (kq 0)),
tq 11 (.mv (kq 0))] [10,11]
(.seq (.seq (.reg true [
mq 12 4,
mq 13 0,
mq 14 2,
tq 15 (.idxAddr 4 (.t 13) (.t 14)),
lq 16 4 15,
mq 17 0,
mq 18 1,
tq 19 (.idxAddr 4 (.t 17) (.t 18)),
lq 20 4 19,
tq 21 (.call true true (.t 12) [.t 16,.t 20]),
tq 22 (.bin .lss (.t 21) (kq 0))] [0,4,12,13,14,15,16,17,18,19,20,21])
(.cond (.t 22) (sr [
mq 23 3,
tq 24 (.nilCheck (.t 23)),
ld 25 24,
tq 26 (.bin .add (.t 25) (kq 1)),
tq 27 (.nilCheck (.t 23)),
⟨none,none,.store 1 (.t 27) (.t 26)⟩] [3,23,24,25,26,27]
(sr [
mq 28 2,
mq 29 1,
mq 10 28,
mq 11 29] [1,2,28,29]
.ret))
 .skip))
(sr [
mq 30 1,
mq 31 2,
mq 10 30,
mq 11 31] [1,2,30,31]
.ret)))⟩
def codes:List (Nat×CF):=[
  (zd1,zof),
  (zeh,z08),
  (zit,zsk),
  (zis,zsj),
  (zeg,z06),
  (zde,zwy),
  (zg1,zuc),
  (zcf,zvj),
  (zjs,zuf),
  (zmp,zyv),
  (zcw,zwz),
  (ze0,zt5),
  (zki,zvl),
  (zkg,zvi),
  (zhd,zqj),
  (zny,z1b),
  (zc8,zub),
  (zjr,zue),
  (znx,z1a),
  (zfs,zvp),
  (zjq,zud),
  (znw,z09),
  (zpc,z3c),
  (zba,zrj),
  (zhe,zqk),
  (zkh,zvk),
  (zru,z6b),
  (zeb,zvm),
  (zb1,zjj),
  (zam,zcs),
  (zbn,zt6),
  (zpb,z3b),
  (zg0,zt2),
  (zhc,zqi),
  (zc4,zol),
  (zb6,zg9),
  (zmr,zy1),
  (zgq,zw5),
  (zs0,z07),
  (zqy,zy2),
  (zcq,zyw),
  (zcr,zyz),
  (zaz,zt7),
  (zbq,zm0),
  (zd9,zlx),
  (zeq,zmm),
  (zf1,zoe),
  (zm7,ztx),
  (znd,zt9),
  (zi8,zog),
  (zfk,znp),
  (zay,zyx),
  (zak,z1e),
  (zn2,z1h),
  (zma,zsi),
  (zkl,zql),
  (zer,zyy),
  (zmq,zy0),
  (zc7,zrh),
  (zan,zm2),
  (zap,zqm),
  (zev,zi4),
  (zpe,zw1),
  (zpi,zw6),
  (zln,zrk),
  (zne,zua),
  (zu5,z3g),
  (zfj,zri),
  (zcm,zkx),
  (zai,zfo),
  (zaf,zcn),
  (zir,zww),
  (zf4,zsh),
  (zfm,znr),
  (zaw,zgk),
  (zs2,z1g),
  (zu4,z3f),
  (zph,zw4),
  (ze1,zw2),
  (zjo,zty),
  (ze2,zw3),
  (zcp,ze7),
  (zbp,zmz),
  (zch,zhs),
  (zea,zlz),
  (zf6,zkv),
  (znz,z1d),
  (zbj,zno),
  (zgp,zle),
  (za3,zed),
  (zdp,znn),
  (zfr,zkb),
  (zkf,zvh),
  (zhv,zrf),
  (ziq,zwv),
  (zjp,zt1),
  (zh8,zmy),
  (zm8,ztz),
  (zlk,zre),
  (zdd,zgj),
  (zg5,zlw),
  (zkm,zqn),
  (zkn,zqo),
  (zd6,zic),
  (zi9,zoi),
  (zko,zqp),
  (zkp,zqq),
  (zkq,zqr),
  (zfa,zj1),
  (zja,zoj),
  (zdf,zgl),
  (zjb,zok),
  (zc1,zi5),
  (zhp,zvn),
  (zat,zlb),
  (zau,zld),
  (za9,zj9),
  (zhq,zvo),
  (zby,zm1),
  (za4,zjh),
  (zb0,zji),
  (za7,zjz),
  (zbr,zj0),
  (zkr,zqs),
  (zcd,zhh),
  (zei,zov),
  (zdg,zj3),
  (zej,zow),
  (zdk,zkc),
  (zfl,znq),
  (zs1,z1c),
  (zpf,z3d),
  (znf,zug),
  (zlo,zrl),
  (zeu,zi3),
  (zpd,zw0),
  (zpg,z3e),
  (zc6,zom),
  (zek,zox),
  (zbc,zfh),
  (za5,zht),
  (zlm,zwx),
  (zcx,zij),
  (zcg,zew),
  (zb3,zly),
  (zbe,zds),
  (zbl,zkw),
  (zax,zez),
  (zcc,zml),
  (zll,zrg),
  (zm9,zt0),
  (zl9,zsg),
  (zc3,zfx),
  (zf5,zku),
  (zft,zkd),
  (zca,zoh),
  (zbo,zlc),
  (zcy,zik),
  (zdz,zlf),
  (zfb,zj2),
  (zg6,zl0),
  (znc,zt8),
  (zn0,z1f),
  (zhw,zrm),
  (za2,zfz),
  (zdr,zhi),
  (zc5,zfy),
  (zdh,zgm),
  (zda,zf9),
  (zb7,zee),
  (zcz,zfq),
  (zdm,zha),
  (zna,zt3),
  (znb,zt4),
  (zbh,zd8),
  (zbd,zdn),
  (zbs,zka),
  (zf7,zky),
  (zhx,zrn),
  (zce,zhj),
  (zbf,zfp),
  (zco,zid),
  (zbt,zie)]
def code (f:Nat):Option CF:=findC f codes
def globs:Globs:=[(1,[.int .u64 1,.int .u64 10,.int .u64 100,.int .u64 1000,.int .u64 10000,.int .u64 100000,.int .u64 1000000,.int .u64 10000000,.int .u64 100000000,.int .u64 1000000000,.int .u64 10000000000,.int .u64 100000000000,.int .u64 1000000000000,.int .u64 10000000000000,.int .u64 100000000000000,.int .u64 1000000000000000,.int .u64 10000000000000000,.int .u64 100000000000000000,.int .u64 1000000000000000000,.int .u64 10000000000000000000]),(2,[.ifc true]),(3,[.ifc true])]
end Go.Proofs.YtmbofbehkalgkaaGreatDoor.Co
