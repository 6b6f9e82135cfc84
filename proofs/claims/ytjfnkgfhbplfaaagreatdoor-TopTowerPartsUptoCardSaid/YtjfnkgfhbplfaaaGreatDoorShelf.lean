/-
  DERIVED: THE SHELF's CONTRACTS AT THIS DUMP, IN PLAIN WORDS (tools/lay-plain.mjs out of 'YtjfnkgfhbplfaaaGreatDoorShelf.lean', which tools/lay-shelf.mjs wrote): THE SAME DECLARATIONS UNDER THE SAME NAMES: 'import', 'namespace', 'open', 'def', 'theorem' AND NOTHING ELSE: no command of the shelf's: FOR A HAND-IN. Each laying: the table of numbers ('.._ren') and one theorem, a field a fact of the dump's own or the kernel's comparison; each contract: ONE APPLICATION.
-/
import Derived.Shelf.Strings.Builder1
import Derived.Shelf.Strings.Builder2
import Derived.Shelf.Small.Bits
import Derived.Shelf.Small.Wraps
import Derived.Shelf.Strings.BuilderF
import Derived.Shelf.Strings.BuilderK
import Derived.Shelf.Strings.Builder2Cap
import Derived.Shelf.Strconv.Itoa0
import Derived.Shelf.Strconv.Itoa1
import Derived.Shelf.LaysM
import Derived.Shelf.Strconv.Itoa2
import Derived.Shelf.Strconv.Itoa3
import Derived.Shelf.Strings.Prefix
import Derived.Shelf.Bits.Mul64
import Derived.Shelf.Strings.Repeat
import Derived.Shelf.Strings.BuilderCap
import Derived.Shelf.Slices.Turned
import Derived.Ground.Names2Prog
import Derived.Shelf.Slices.Clone
import Derived.Shelf.Slices.SearchI
import Derived.Ground.SlgnProg
import Derived.Shelf.SlicesE.Clone
import Derived.Test.YtjfnkgfhbplfaaaGreatDoorProg
namespace Go.Proofs
open Go.Shelf
def Tryz.lays169_ren : Go.Shelf.Ren := ⟨fun | 169 => 187 | n => n, fun | 70 => 255 | 9 => 9 | 0 => 0 | 72 => 258 | 37 => 256 | 127 => 302 | 3 => 3 | 5 => 5 | n => n, fun | n => n⟩
theorem Tryz.lays169 : Go.Proofs.Lays.n169 Tryz.prog Tryz.lays169_ren := {
  mixed := by kernel_rfl
  f169 := Tryz.func187.trans (congrArg some (by kernel_rfl))
  t0 := Tryz.underlying0
  a0 := Tryz.isAgg0
  z0 := Tryz.sizeOf0
  v0 := Tryz.zeroValue0
  t3 := Tryz.underlying3
  a3 := Tryz.isAgg3
  z3 := Tryz.sizeOf3
  v3 := Tryz.zeroValue3
  t9 := Tryz.underlying9
  a9 := Tryz.isAgg9
  z9 := Tryz.sizeOf9
  v9 := Tryz.zeroValue9
  t37 := Tryz.underlying256
  a37 := Tryz.isAgg256
  z37 := Tryz.sizeOf256
  v37 := Tryz.zeroValue256
  t70 := Tryz.underlying255
  a70 := Tryz.isAgg255
  z70 := Tryz.sizeOf255
  v70 := Tryz.zeroValue255
  t72 := Tryz.underlying258
  a72 := Tryz.isAgg258
  z72 := Tryz.sizeOf258
  v72 := Tryz.zeroValue258
  t127 := Tryz.underlying302
  a127 := Tryz.isAgg302
  z127 := Tryz.sizeOf302
  v127 := Tryz.zeroValue302 }
theorem Tryz.Builder_Extra_169 : Builder.Extra Tryz.prog Tryz.lays169_ren := {
  sizeBuilder := by kernel_rfl
  liesBuilder := by kernel_rfl
  t5 := Tryz.underlying5
  a5 := Tryz.isAgg5
  z5 := Tryz.sizeOf5
  v5 := Tryz.zeroValue5
  infoByte := by kernel_rfl
  cellsByte := by kernel_rfl
  sizeByte := by kernel_rfl
  neB5 := by decide }
def Tryz.laysM171_ren : Go.Shelf.Ren := ⟨fun | 171 => 138 | 243 => 181 | 246 => 221 | 283 => 254 | 284 => 255 | 285 => 256 | 286 => 257 | 129 => 208 | 317 => 275 | 318 => 276 | 319 => 277 | 320 => 278 | 337 => 279 | 338 => 280 | n => n, fun | 3 => 3 | 9 => 9 | 2 => 2 | 4 => 4 | 171 => 324 | 0 => 0 | 53 => 282 | 37 => 256 | 5 => 5 | 173 => 326 | 212 => 337 | 51 => 280 | 20 => 20 | 213 => 338 | 46 => 237 | 232 => 339 | 233 => 340 | n => n, fun | 17 => 0 | 18 => 2 | 19 => 3 | n => n⟩
theorem Tryz.laysM171 : Go.Proofs.LaysM.n171 Tryz.prog Tryz.laysM171_ren := {
  mixed := by kernel_rfl
  f129 := Tryz.func208.trans (congrArg some (by kernel_rfl))
  f171 := Tryz.func138.trans (congrArg some (by kernel_rfl))
  f243 := Tryz.func181.trans (congrArg some (by kernel_rfl))
  f246 := Tryz.func221.trans (congrArg some (by kernel_rfl))
  f283 := Tryz.func254.trans (congrArg some (by kernel_rfl))
  f284 := Tryz.func255.trans (congrArg some (by kernel_rfl))
  f285 := Tryz.func256.trans (congrArg some (by kernel_rfl))
  f286 := Tryz.func257.trans (congrArg some (by kernel_rfl))
  f317 := Tryz.func275.trans (congrArg some (by kernel_rfl))
  f318 := Tryz.func276.trans (congrArg some (by kernel_rfl))
  f319 := Tryz.func277.trans (congrArg some (by kernel_rfl))
  f320 := Tryz.func278.trans (congrArg some (by kernel_rfl))
  f337 := Tryz.func279.trans (congrArg some (by kernel_rfl))
  f338 := Tryz.func280.trans (congrArg some (by kernel_rfl))
  t0 := Tryz.underlying0
  a0 := Tryz.isAgg0
  z0 := Tryz.sizeOf0
  v0 := Tryz.zeroValue0
  t2 := Tryz.underlying2
  a2 := Tryz.isAgg2
  z2 := Tryz.sizeOf2
  v2 := Tryz.zeroValue2
  t3 := Tryz.underlying3
  a3 := Tryz.isAgg3
  z3 := Tryz.sizeOf3
  v3 := Tryz.zeroValue3
  t4 := Tryz.underlying4
  a4 := Tryz.isAgg4
  z4 := Tryz.sizeOf4
  v4 := Tryz.zeroValue4
  t5 := Tryz.underlying5
  a5 := Tryz.isAgg5
  z5 := Tryz.sizeOf5
  v5 := Tryz.zeroValue5
  t9 := Tryz.underlying9
  a9 := Tryz.isAgg9
  z9 := Tryz.sizeOf9
  v9 := Tryz.zeroValue9
  t20 := Tryz.underlying20
  a20 := Tryz.isAgg20
  z20 := Tryz.sizeOf20
  v20 := Tryz.zeroValue20
  t37 := Tryz.underlying256
  a37 := Tryz.isAgg256
  z37 := Tryz.sizeOf256
  v37 := Tryz.zeroValue256
  t46 := Tryz.underlying237
  a46 := Tryz.isAgg237
  z46 := Tryz.sizeOf237
  v46 := Tryz.zeroValue237
  t51 := Tryz.underlying280
  a51 := Tryz.isAgg280
  z51 := Tryz.sizeOf280
  v51 := Tryz.zeroValue280
  t53 := Tryz.underlying282
  a53 := Tryz.isAgg282
  z53 := Tryz.sizeOf282
  v53 := Tryz.zeroValue282
  t171 := Tryz.underlying324
  a171 := Tryz.isAgg324
  z171 := Tryz.sizeOf324
  v171 := Tryz.zeroValue324
  t173 := Tryz.underlying326
  a173 := Tryz.isAgg326
  z173 := Tryz.sizeOf326
  v173 := Tryz.zeroValue326
  t212 := Tryz.underlying337
  a212 := Tryz.isAgg337
  z212 := Tryz.sizeOf337
  v212 := Tryz.zeroValue337
  t213 := Tryz.underlying338
  a213 := Tryz.isAgg338
  z213 := Tryz.sizeOf338
  t232 := Tryz.underlying339
  a232 := Tryz.isAgg339
  z232 := Tryz.sizeOf339
  v232 := Tryz.zeroValue339
  t233 := Tryz.underlying340
  a233 := Tryz.isAgg340
  z233 := Tryz.sizeOf340
  v233 := Tryz.zeroValue340
  g17 := by kernel_rfl
  g18 := by kernel_rfl
  g19 := by kernel_rfl
  i0 := by kernel_rfl
  i2 := by kernel_rfl
  i3 := by kernel_rfl
  i4 := by kernel_rfl
  i5 := by kernel_rfl
  i9 := by kernel_rfl
  i20 := by kernel_rfl
  i37 := by kernel_rfl
  i46 := by kernel_rfl
  i51 := by kernel_rfl
  i53 := by kernel_rfl
  i171 := by kernel_rfl
  i173 := by kernel_rfl
  i212 := by kernel_rfl
  i232 := by kernel_rfl
  i233 := by kernel_rfl
  m17 := by kernel_rfl
  m18 := by kernel_rfl
  m19 := by kernel_rfl }
def Tryz.lays105_ren : Go.Shelf.Ren := ⟨fun | 105 => 139 | 212 => 182 | 99 => 183 | 165 => 184 | 166 => 185 | 170 => 186 | 169 => 187 | 263 => 222 | 264 => 223 | 206 => 224 | 240 => 225 | 241 => 226 | 276 => 258 | 277 => 259 | n => n, fun | 9 => 9 | 3 => 3 | 4 => 4 | 20 => 20 | 0 => 0 | 46 => 237 | 109 => 253 | 5 => 5 | 72 => 258 | 76 => 262 | 51 => 280 | 146 => 298 | 53 => 282 | 148 => 300 | 70 => 255 | 37 => 256 | 75 => 261 | 127 => 302 | 164 => 328 | 80 => 265 | n => n, fun | n => n⟩
theorem Tryz.lays105 : Go.Proofs.Lays.n105 Tryz.prog Tryz.lays105_ren := {
  mixed := by kernel_rfl
  f99 := Tryz.func183.trans (congrArg some (by kernel_rfl))
  f105 := Tryz.func139.trans (congrArg some (by kernel_rfl))
  f165 := Tryz.func184.trans (congrArg some (by kernel_rfl))
  f166 := Tryz.func185.trans (congrArg some (by kernel_rfl))
  f169 := Tryz.func187.trans (congrArg some (by kernel_rfl))
  f170 := Tryz.func186.trans (congrArg some (by kernel_rfl))
  f206 := Tryz.func224.trans (congrArg some (by kernel_rfl))
  f212 := Tryz.func182.trans (congrArg some (by kernel_rfl))
  f240 := Tryz.func225.trans (congrArg some (by kernel_rfl))
  f241 := Tryz.func226.trans (congrArg some (by kernel_rfl))
  f263 := Tryz.func222.trans (congrArg some (by kernel_rfl))
  f264 := Tryz.func223.trans (congrArg some (by kernel_rfl))
  f276 := Tryz.func258.trans (congrArg some (by kernel_rfl))
  f277 := Tryz.func259.trans (congrArg some (by kernel_rfl))
  t0 := Tryz.underlying0
  a0 := Tryz.isAgg0
  z0 := Tryz.sizeOf0
  v0 := Tryz.zeroValue0
  t3 := Tryz.underlying3
  a3 := Tryz.isAgg3
  z3 := Tryz.sizeOf3
  v3 := Tryz.zeroValue3
  t4 := Tryz.underlying4
  a4 := Tryz.isAgg4
  z4 := Tryz.sizeOf4
  v4 := Tryz.zeroValue4
  t5 := Tryz.underlying5
  a5 := Tryz.isAgg5
  z5 := Tryz.sizeOf5
  v5 := Tryz.zeroValue5
  t9 := Tryz.underlying9
  a9 := Tryz.isAgg9
  z9 := Tryz.sizeOf9
  v9 := Tryz.zeroValue9
  t20 := Tryz.underlying20
  a20 := Tryz.isAgg20
  z20 := Tryz.sizeOf20
  v20 := Tryz.zeroValue20
  t37 := Tryz.underlying256
  a37 := Tryz.isAgg256
  z37 := Tryz.sizeOf256
  v37 := Tryz.zeroValue256
  t46 := Tryz.underlying237
  a46 := Tryz.isAgg237
  z46 := Tryz.sizeOf237
  v46 := Tryz.zeroValue237
  t51 := Tryz.underlying280
  a51 := Tryz.isAgg280
  z51 := Tryz.sizeOf280
  v51 := Tryz.zeroValue280
  t53 := Tryz.underlying282
  a53 := Tryz.isAgg282
  z53 := Tryz.sizeOf282
  v53 := Tryz.zeroValue282
  t70 := Tryz.underlying255
  a70 := Tryz.isAgg255
  z70 := Tryz.sizeOf255
  v70 := Tryz.zeroValue255
  t72 := Tryz.underlying258
  a72 := Tryz.isAgg258
  z72 := Tryz.sizeOf258
  v72 := Tryz.zeroValue258
  t75 := Tryz.underlying261
  a75 := Tryz.isAgg261
  z75 := Tryz.sizeOf261
  v75 := Tryz.zeroValue261
  t76 := Tryz.underlying262
  a76 := Tryz.isAgg262
  z76 := Tryz.sizeOf262
  v76 := Tryz.zeroValue262
  t109 := Tryz.underlying253
  a109 := Tryz.isAgg253
  z109 := Tryz.sizeOf253
  v109 := Tryz.zeroValue253
  t127 := Tryz.underlying302
  a127 := Tryz.isAgg302
  z127 := Tryz.sizeOf302
  v127 := Tryz.zeroValue302
  t146 := Tryz.underlying298
  a146 := Tryz.isAgg298
  z146 := Tryz.sizeOf298
  v146 := Tryz.zeroValue298
  t148 := Tryz.underlying300
  a148 := Tryz.isAgg300
  z148 := Tryz.sizeOf300
  v148 := Tryz.zeroValue300
  t164 := Tryz.underlying328
  a164 := Tryz.isAgg328
  z164 := Tryz.sizeOf328
  v164 := Tryz.zeroValue328 }
theorem Tryz.Builder_Extra_105 : Builder.Extra Tryz.prog Tryz.lays105_ren := {
  sizeBuilder := by kernel_rfl
  liesBuilder := by kernel_rfl
  t5 := Tryz.underlying5
  a5 := Tryz.isAgg5
  z5 := Tryz.sizeOf5
  v5 := Tryz.zeroValue5
  infoByte := by kernel_rfl
  cellsByte := by kernel_rfl
  sizeByte := by kernel_rfl
  neB5 := by decide }
end Go.Proofs
