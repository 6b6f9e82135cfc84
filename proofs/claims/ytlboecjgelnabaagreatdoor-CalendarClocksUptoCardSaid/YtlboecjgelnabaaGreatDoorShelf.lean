/-
  DERIVED: THE SHELF's CONTRACTS AT THIS DUMP, IN PLAIN WORDS (tools/lay-plain.mjs out of 'YtlboecjgelnabaaGreatDoorShelf.lean', which tools/lay-shelf.mjs wrote): THE SAME DECLARATIONS UNDER THE SAME NAMES: 'import', 'namespace', 'open', 'def', 'theorem' AND NOTHING ELSE: no command of the shelf's: FOR A HAND-IN. Each laying: the table of numbers ('.._ren') and one theorem, a field a fact of the dump's own or the kernel's comparison; each contract: ONE APPLICATION.
-/
import Derived.Shelf.Strings.Builder1
import Derived.Shelf.Small.Utf8
import Derived.Shelf.Small.Strs
import Derived.Shelf.Strings.BuilderF
import Derived.Shelf.Strings.BuilderK
import Derived.Shelf.Strconv.Itoa0
import Derived.Shelf.Strconv.Itoa1
import Derived.Shelf.LaysM
import Derived.Shelf.Strconv.Itoa2
import Derived.Shelf.Strconv.Itoa3
import Derived.Shelf.Strings.Search1
import Derived.Shelf.Sort.Plain
import Derived.Shelf.Strings.Runes
import Derived.Shelf.Strings.AsciiSet
import Derived.Shelf.Unicode.DecodeSlow
import Derived.Shelf.Slices.In.SortNone
import Derived.Test.YtlboecjgelnabaaGreatDoorProg
namespace Go.Proofs
open Go.Shelf
def Tryz.lays169_ren : Go.Shelf.Ren := ⟨fun | 169 => 124 | n => n, fun | 70 => 139 | 9 => 9 | 0 => 0 | 72 => 142 | 37 => 140 | 127 => 171 | 3 => 3 | 5 => 5 | n => n, fun | n => n⟩
theorem Tryz.lays169 : Go.Proofs.Lays.n169 Tryz.prog Tryz.lays169_ren := {
  mixed := by kernel_rfl
  f169 := Tryz.func124.trans (congrArg some (by kernel_rfl))
  t0 := Tryz.underlying0
  a0 := Tryz.isAgg0
  z0 := Tryz.sizeOf0
  v0 := Tryz.zeroValue0
  t3 := Tryz.underlying3
  a3 := Tryz.isAgg3
  z3 := Tryz.sizeOf3
  v3 := Tryz.zeroValue3
  t9 := Tryz.underlying9
  a9 := Tryz.isAgg9
  z9 := Tryz.sizeOf9
  v9 := Tryz.zeroValue9
  t37 := Tryz.underlying140
  a37 := Tryz.isAgg140
  z37 := Tryz.sizeOf140
  v37 := Tryz.zeroValue140
  t70 := Tryz.underlying139
  a70 := Tryz.isAgg139
  z70 := Tryz.sizeOf139
  v70 := Tryz.zeroValue139
  t72 := Tryz.underlying142
  a72 := Tryz.isAgg142
  z72 := Tryz.sizeOf142
  v72 := Tryz.zeroValue142
  t127 := Tryz.underlying171
  a127 := Tryz.isAgg171
  z127 := Tryz.sizeOf171
  v127 := Tryz.zeroValue171 }
theorem Tryz.Builder_Extra_169 : Builder.Extra Tryz.prog Tryz.lays169_ren := {
  sizeBuilder := by kernel_rfl
  liesBuilder := by kernel_rfl
  t5 := Tryz.underlying5
  a5 := Tryz.isAgg5
  z5 := Tryz.sizeOf5
  v5 := Tryz.zeroValue5
  infoByte := by kernel_rfl
  cellsByte := by kernel_rfl
  sizeByte := by kernel_rfl
  neB5 := by decide }
def Tryz.laysM171_ren : Go.Shelf.Ren := ⟨fun | 171 => 92 | 243 => 116 | 246 => 136 | 283 => 156 | 284 => 157 | 285 => 158 | 286 => 159 | 129 => 135 | 317 => 169 | 318 => 170 | 319 => 171 | 320 => 172 | 337 => 178 | 338 => 179 | n => n, fun | 3 => 3 | 9 => 9 | 2 => 2 | 4 => 4 | 171 => 178 | 0 => 0 | 53 => 156 | 37 => 140 | 5 => 5 | 173 => 180 | 212 => 197 | 51 => 154 | 20 => 20 | 213 => 198 | 46 => 135 | 232 => 211 | 233 => 212 | n => n, fun | 17 => 3 | 18 => 6 | 19 => 7 | n => n⟩
theorem Tryz.laysM171 : Go.Proofs.LaysM.n171 Tryz.prog Tryz.laysM171_ren := {
  mixed := by kernel_rfl
  f129 := Tryz.func135.trans (congrArg some (by kernel_rfl))
  f171 := Tryz.func92.trans (congrArg some (by kernel_rfl))
  f243 := Tryz.func116.trans (congrArg some (by kernel_rfl))
  f246 := Tryz.func136.trans (congrArg some (by kernel_rfl))
  f283 := Tryz.func156.trans (congrArg some (by kernel_rfl))
  f284 := Tryz.func157.trans (congrArg some (by kernel_rfl))
  f285 := Tryz.func158.trans (congrArg some (by kernel_rfl))
  f286 := Tryz.func159.trans (congrArg some (by kernel_rfl))
  f317 := Tryz.func169.trans (congrArg some (by kernel_rfl))
  f318 := Tryz.func170.trans (congrArg some (by kernel_rfl))
  f319 := Tryz.func171.trans (congrArg some (by kernel_rfl))
  f320 := Tryz.func172.trans (congrArg some (by kernel_rfl))
  f337 := Tryz.func178.trans (congrArg some (by kernel_rfl))
  f338 := Tryz.func179.trans (congrArg some (by kernel_rfl))
  t0 := Tryz.underlying0
  a0 := Tryz.isAgg0
  z0 := Tryz.sizeOf0
  v0 := Tryz.zeroValue0
  t2 := Tryz.underlying2
  a2 := Tryz.isAgg2
  z2 := Tryz.sizeOf2
  v2 := Tryz.zeroValue2
  t3 := Tryz.underlying3
  a3 := Tryz.isAgg3
  z3 := Tryz.sizeOf3
  v3 := Tryz.zeroValue3
  t4 := Tryz.underlying4
  a4 := Tryz.isAgg4
  z4 := Tryz.sizeOf4
  v4 := Tryz.zeroValue4
  t5 := Tryz.underlying5
  a5 := Tryz.isAgg5
  z5 := Tryz.sizeOf5
  v5 := Tryz.zeroValue5
  t9 := Tryz.underlying9
  a9 := Tryz.isAgg9
  z9 := Tryz.sizeOf9
  v9 := Tryz.zeroValue9
  t20 := Tryz.underlying20
  a20 := Tryz.isAgg20
  z20 := Tryz.sizeOf20
  v20 := Tryz.zeroValue20
  t37 := Tryz.underlying140
  a37 := Tryz.isAgg140
  z37 := Tryz.sizeOf140
  v37 := Tryz.zeroValue140
  t46 := Tryz.underlying135
  a46 := Tryz.isAgg135
  z46 := Tryz.sizeOf135
  v46 := Tryz.zeroValue135
  t51 := Tryz.underlying154
  a51 := Tryz.isAgg154
  z51 := Tryz.sizeOf154
  v51 := Tryz.zeroValue154
  t53 := Tryz.underlying156
  a53 := Tryz.isAgg156
  z53 := Tryz.sizeOf156
  v53 := Tryz.zeroValue156
  t171 := Tryz.underlying178
  a171 := Tryz.isAgg178
  z171 := Tryz.sizeOf178
  v171 := Tryz.zeroValue178
  t173 := Tryz.underlying180
  a173 := Tryz.isAgg180
  z173 := Tryz.sizeOf180
  v173 := Tryz.zeroValue180
  t212 := Tryz.underlying197
  a212 := Tryz.isAgg197
  z212 := Tryz.sizeOf197
  v212 := Tryz.zeroValue197
  t213 := Tryz.underlying198
  a213 := Tryz.isAgg198
  z213 := Tryz.sizeOf198
  t232 := Tryz.underlying211
  a232 := Tryz.isAgg211
  z232 := Tryz.sizeOf211
  v232 := Tryz.zeroValue211
  t233 := Tryz.underlying212
  a233 := Tryz.isAgg212
  z233 := Tryz.sizeOf212
  v233 := Tryz.zeroValue212
  g17 := by kernel_rfl
  g18 := by kernel_rfl
  g19 := by kernel_rfl
  i0 := by kernel_rfl
  i2 := by kernel_rfl
  i3 := by kernel_rfl
  i4 := by kernel_rfl
  i5 := by kernel_rfl
  i9 := by kernel_rfl
  i20 := by kernel_rfl
  i37 := by kernel_rfl
  i46 := by kernel_rfl
  i51 := by kernel_rfl
  i53 := by kernel_rfl
  i171 := by kernel_rfl
  i173 := by kernel_rfl
  i212 := by kernel_rfl
  i232 := by kernel_rfl
  i233 := by kernel_rfl
  m17 := by kernel_rfl
  m18 := by kernel_rfl
  m19 := by kernel_rfl }
def Tryz.lays189_ren : Go.Shelf.Ren := ⟨fun | 189 => 79 | 125 => 112 | 257 => 111 | 128 => 134 | 129 => 135 | 294 => 125 | 295 => 126 | 296 => 127 | 297 => 128 | 298 => 129 | 299 => 130 | 216 => 131 | 300 => 132 | 301 => 133 | 328 => 150 | 329 => 151 | 330 => 152 | 331 => 153 | 332 => 154 | 215 => 155 | 343 => 168 | n => n, fun | 28 => 36 | 3 => 3 | 46 => 135 | 0 => 0 | 51 => 154 | 53 => 156 | 4 => 4 | 183 => 147 | 182 => 146 | 131 => 151 | 5 => 5 | 9 => 9 | 218 => 172 | 222 => 176 | 228 => 194 | 229 => 98 | n => n, fun | n => n⟩
theorem Tryz.lays189 : Go.Proofs.Lays.n189 Tryz.prog Tryz.lays189_ren := {
  mixed := by kernel_rfl
  f125 := Tryz.func112.trans (congrArg some (by kernel_rfl))
  f128 := Tryz.func134.trans (congrArg some (by kernel_rfl))
  f129 := Tryz.func135.trans (congrArg some (by kernel_rfl))
  f189 := Tryz.func79.trans (congrArg some (by kernel_rfl))
  f215 := Tryz.func155.trans (congrArg some (by kernel_rfl))
  f216 := Tryz.func131.trans (congrArg some (by kernel_rfl))
  f257 := Tryz.func111.trans (congrArg some (by kernel_rfl))
  f294 := Tryz.func125.trans (congrArg some (by kernel_rfl))
  f295 := Tryz.func126.trans (congrArg some (by kernel_rfl))
  f296 := Tryz.func127.trans (congrArg some (by kernel_rfl))
  f297 := Tryz.func128.trans (congrArg some (by kernel_rfl))
  f298 := Tryz.func129.trans (congrArg some (by kernel_rfl))
  f299 := Tryz.func130.trans (congrArg some (by kernel_rfl))
  f300 := Tryz.func132.trans (congrArg some (by kernel_rfl))
  f301 := Tryz.func133.trans (congrArg some (by kernel_rfl))
  f328 := Tryz.func150.trans (congrArg some (by kernel_rfl))
  f329 := Tryz.func151.trans (congrArg some (by kernel_rfl))
  f330 := Tryz.func152.trans (congrArg some (by kernel_rfl))
  f331 := Tryz.func153.trans (congrArg some (by kernel_rfl))
  f332 := Tryz.func154.trans (congrArg some (by kernel_rfl))
  f343 := Tryz.func168.trans (congrArg some (by kernel_rfl))
  t0 := Tryz.underlying0
  a0 := Tryz.isAgg0
  z0 := Tryz.sizeOf0
  v0 := Tryz.zeroValue0
  t3 := Tryz.underlying3
  a3 := Tryz.isAgg3
  z3 := Tryz.sizeOf3
  v3 := Tryz.zeroValue3
  t4 := Tryz.underlying4
  a4 := Tryz.isAgg4
  z4 := Tryz.sizeOf4
  v4 := Tryz.zeroValue4
  t5 := Tryz.underlying5
  a5 := Tryz.isAgg5
  z5 := Tryz.sizeOf5
  v5 := Tryz.zeroValue5
  t9 := Tryz.underlying9
  a9 := Tryz.isAgg9
  z9 := Tryz.sizeOf9
  v9 := Tryz.zeroValue9
  t28 := Tryz.underlying36
  a28 := Tryz.isAgg36
  z28 := Tryz.sizeOf36
  v28 := Tryz.zeroValue36
  t46 := Tryz.underlying135
  a46 := Tryz.isAgg135
  z46 := Tryz.sizeOf135
  v46 := Tryz.zeroValue135
  t51 := Tryz.underlying154
  a51 := Tryz.isAgg154
  z51 := Tryz.sizeOf154
  v51 := Tryz.zeroValue154
  t53 := Tryz.underlying156
  a53 := Tryz.isAgg156
  z53 := Tryz.sizeOf156
  v53 := Tryz.zeroValue156
  t131 := Tryz.underlying151
  a131 := Tryz.isAgg151
  z131 := Tryz.sizeOf151
  v131 := Tryz.zeroValue151
  t182 := Tryz.underlying146
  a182 := Tryz.isAgg146
  z182 := Tryz.sizeOf146
  v182 := Tryz.zeroValue146
  t183 := Tryz.underlying147
  a183 := Tryz.isAgg147
  z183 := Tryz.sizeOf147
  v183 := Tryz.zeroValue147
  t218 := Tryz.underlying172
  a218 := Tryz.isAgg172
  z218 := Tryz.sizeOf172
  v218 := Tryz.zeroValue172
  t222 := Tryz.underlying176
  a222 := Tryz.isAgg176
  z222 := Tryz.sizeOf176
  v222 := Tryz.zeroValue176
  t228 := Tryz.underlying194
  a228 := Tryz.isAgg194
  z228 := Tryz.sizeOf194
  v228 := Tryz.zeroValue194
  t229 := Tryz.underlying98
  a229 := Tryz.isAgg98
  z229 := Tryz.sizeOf98
  v229 := Tryz.zeroValue98 }
end Go.Proofs
