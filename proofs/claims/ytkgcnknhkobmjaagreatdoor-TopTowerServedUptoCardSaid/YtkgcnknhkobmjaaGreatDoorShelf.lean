/-
  DERIVED: THE SHELF's CONTRACTS AT THIS DUMP, IN PLAIN WORDS (tools/lay-plain.mjs out of 'YtkgcnknhkobmjaaGreatDoorShelf.lean', which tools/lay-shelf.mjs wrote): THE SAME DECLARATIONS UNDER THE SAME NAMES: 'import', 'namespace', 'open', 'def', 'theorem' AND NOTHING ELSE: no command of the shelf's: FOR A HAND-IN. Each laying: the table of numbers ('.._ren') and one theorem, a field a fact of the dump's own or the kernel's comparison; each contract: ONE APPLICATION.
-/
import Derived.Shelf.Strings.Builder1
import Derived.Shelf.Strings.Builder2
import Derived.Shelf.Small.Bits
import Derived.Shelf.Strings.BuilderF
import Derived.Shelf.Strings.BuilderK
import Derived.Shelf.Strconv.Itoa0
import Derived.Shelf.Strconv.Itoa1
import Derived.Shelf.LaysM
import Derived.Shelf.Strconv.Itoa2
import Derived.Shelf.Strconv.Itoa3
import Derived.Shelf.Strings.Prefix
import Derived.Shelf.Bits.Mul64
import Derived.Shelf.Strings.Repeat
import Derived.Ground.Names2Prog
import Derived.Shelf.Slices.Clone
import Derived.Shelf.Slices.SearchI
import Derived.Ground.SlgnProg
import Derived.Shelf.SlicesE.Clone
import Derived.Ground.SlsfProg
import Derived.Shelf.SlSortCmp.Insertion
import Derived.Shelf.SlSortCmp.SiftDown1
import Derived.Shelf.SlSortCmp.HeapSort1
import Derived.Shelf.SlSortCmp.Insertion1
import Derived.Shelf.SlSortCmp.Median1
import Derived.Shelf.SlSortCmp.Pivot1
import Derived.Shelf.SlSortCmp.ReverseRange1
import Derived.Shelf.SlSortCmp.PartialInsertion1
import Derived.Shelf.SlSortCmp.PartitionEqual1
import Derived.Shelf.SlSortCmp.Partition1
import Derived.Shelf.SlSortCmp.Pdq1
import Derived.Shelf.SlSortCmp.Whole1
import Derived.Shelf.SlSortCmp.NoneTotal
import Derived.Test.YtkgcnknhkobmjaaGreatDoorProg
namespace Go.Proofs
open Go.Shelf
def Tryz.lays169_ren : Go.Shelf.Ren := ⟨fun | 169 => 192 | n => n, fun | 70 => 262 | 9 => 9 | 0 => 0 | 72 => 265 | 37 => 263 | 127 => 309 | 3 => 3 | 5 => 5 | n => n, fun | n => n⟩
theorem Tryz.lays169 : Go.Proofs.Lays.n169 Tryz.prog Tryz.lays169_ren := {
  mixed := by kernel_rfl
  f169 := Tryz.func192.trans (congrArg some (by kernel_rfl))
  t0 := Tryz.underlying0
  a0 := Tryz.isAgg0
  z0 := Tryz.sizeOf0
  v0 := Tryz.zeroValue0
  t3 := Tryz.underlying3
  a3 := Tryz.isAgg3
  z3 := Tryz.sizeOf3
  v3 := Tryz.zeroValue3
  t9 := Tryz.underlying9
  a9 := Tryz.isAgg9
  z9 := Tryz.sizeOf9
  v9 := Tryz.zeroValue9
  t37 := Tryz.underlying263
  a37 := Tryz.isAgg263
  z37 := Tryz.sizeOf263
  v37 := Tryz.zeroValue263
  t70 := Tryz.underlying262
  a70 := Tryz.isAgg262
  z70 := Tryz.sizeOf262
  v70 := Tryz.zeroValue262
  t72 := Tryz.underlying265
  a72 := Tryz.isAgg265
  z72 := Tryz.sizeOf265
  v72 := Tryz.zeroValue265
  t127 := Tryz.underlying309
  a127 := Tryz.isAgg309
  z127 := Tryz.sizeOf309
  v127 := Tryz.zeroValue309 }
theorem Tryz.Builder_Extra_169 : Builder.Extra Tryz.prog Tryz.lays169_ren := {
  sizeBuilder := by kernel_rfl
  liesBuilder := by kernel_rfl
  t5 := Tryz.underlying5
  a5 := Tryz.isAgg5
  z5 := Tryz.sizeOf5
  v5 := Tryz.zeroValue5
  infoByte := by kernel_rfl
  cellsByte := by kernel_rfl
  sizeByte := by kernel_rfl
  neB5 := by decide }
def Tryz.laysM171_ren : Go.Shelf.Ren := ⟨fun | 171 => 129 | 243 => 186 | 246 => 227 | 283 => 256 | 284 => 257 | 285 => 258 | 286 => 259 | 129 => 208 | 317 => 277 | 318 => 278 | 319 => 279 | 320 => 280 | 337 => 281 | 338 => 282 | n => n, fun | 3 => 3 | 9 => 9 | 2 => 2 | 4 => 4 | 171 => 331 | 0 => 0 | 53 => 286 | 37 => 263 | 5 => 5 | 173 => 333 | 212 => 344 | 51 => 284 | 20 => 20 | 213 => 345 | 46 => 234 | 232 => 346 | 233 => 347 | n => n, fun | 17 => 0 | 18 => 2 | 19 => 3 | n => n⟩
theorem Tryz.laysM171 : Go.Proofs.LaysM.n171 Tryz.prog Tryz.laysM171_ren := {
  mixed := by kernel_rfl
  f129 := Tryz.func208.trans (congrArg some (by kernel_rfl))
  f171 := Tryz.func129.trans (congrArg some (by kernel_rfl))
  f243 := Tryz.func186.trans (congrArg some (by kernel_rfl))
  f246 := Tryz.func227.trans (congrArg some (by kernel_rfl))
  f283 := Tryz.func256.trans (congrArg some (by kernel_rfl))
  f284 := Tryz.func257.trans (congrArg some (by kernel_rfl))
  f285 := Tryz.func258.trans (congrArg some (by kernel_rfl))
  f286 := Tryz.func259.trans (congrArg some (by kernel_rfl))
  f317 := Tryz.func277.trans (congrArg some (by kernel_rfl))
  f318 := Tryz.func278.trans (congrArg some (by kernel_rfl))
  f319 := Tryz.func279.trans (congrArg some (by kernel_rfl))
  f320 := Tryz.func280.trans (congrArg some (by kernel_rfl))
  f337 := Tryz.func281.trans (congrArg some (by kernel_rfl))
  f338 := Tryz.func282.trans (congrArg some (by kernel_rfl))
  t0 := Tryz.underlying0
  a0 := Tryz.isAgg0
  z0 := Tryz.sizeOf0
  v0 := Tryz.zeroValue0
  t2 := Tryz.underlying2
  a2 := Tryz.isAgg2
  z2 := Tryz.sizeOf2
  v2 := Tryz.zeroValue2
  t3 := Tryz.underlying3
  a3 := Tryz.isAgg3
  z3 := Tryz.sizeOf3
  v3 := Tryz.zeroValue3
  t4 := Tryz.underlying4
  a4 := Tryz.isAgg4
  z4 := Tryz.sizeOf4
  v4 := Tryz.zeroValue4
  t5 := Tryz.underlying5
  a5 := Tryz.isAgg5
  z5 := Tryz.sizeOf5
  v5 := Tryz.zeroValue5
  t9 := Tryz.underlying9
  a9 := Tryz.isAgg9
  z9 := Tryz.sizeOf9
  v9 := Tryz.zeroValue9
  t20 := Tryz.underlying20
  a20 := Tryz.isAgg20
  z20 := Tryz.sizeOf20
  v20 := Tryz.zeroValue20
  t37 := Tryz.underlying263
  a37 := Tryz.isAgg263
  z37 := Tryz.sizeOf263
  v37 := Tryz.zeroValue263
  t46 := Tryz.underlying234
  a46 := Tryz.isAgg234
  z46 := Tryz.sizeOf234
  v46 := Tryz.zeroValue234
  t51 := Tryz.underlying284
  a51 := Tryz.isAgg284
  z51 := Tryz.sizeOf284
  v51 := Tryz.zeroValue284
  t53 := Tryz.underlying286
  a53 := Tryz.isAgg286
  z53 := Tryz.sizeOf286
  v53 := Tryz.zeroValue286
  t171 := Tryz.underlying331
  a171 := Tryz.isAgg331
  z171 := Tryz.sizeOf331
  v171 := Tryz.zeroValue331
  t173 := Tryz.underlying333
  a173 := Tryz.isAgg333
  z173 := Tryz.sizeOf333
  v173 := Tryz.zeroValue333
  t212 := Tryz.underlying344
  a212 := Tryz.isAgg344
  z212 := Tryz.sizeOf344
  v212 := Tryz.zeroValue344
  t213 := Tryz.underlying345
  a213 := Tryz.isAgg345
  z213 := Tryz.sizeOf345
  t232 := Tryz.underlying346
  a232 := Tryz.isAgg346
  z232 := Tryz.sizeOf346
  v232 := Tryz.zeroValue346
  t233 := Tryz.underlying347
  a233 := Tryz.isAgg347
  z233 := Tryz.sizeOf347
  v233 := Tryz.zeroValue347
  g17 := by kernel_rfl
  g18 := by kernel_rfl
  g19 := by kernel_rfl
  i0 := by kernel_rfl
  i2 := by kernel_rfl
  i3 := by kernel_rfl
  i4 := by kernel_rfl
  i5 := by kernel_rfl
  i9 := by kernel_rfl
  i20 := by kernel_rfl
  i37 := by kernel_rfl
  i46 := by kernel_rfl
  i51 := by kernel_rfl
  i53 := by kernel_rfl
  i171 := by kernel_rfl
  i173 := by kernel_rfl
  i212 := by kernel_rfl
  i232 := by kernel_rfl
  i233 := by kernel_rfl
  m17 := by kernel_rfl
  m18 := by kernel_rfl
  m19 := by kernel_rfl }
def Tryz.lays105_ren : Go.Shelf.Ren := ⟨fun | 105 => 130 | 212 => 187 | 99 => 188 | 165 => 189 | 166 => 190 | 170 => 191 | 169 => 192 | 263 => 228 | 264 => 229 | 206 => 230 | 240 => 231 | 241 => 232 | 276 => 260 | 277 => 261 | n => n, fun | 9 => 9 | 3 => 3 | 4 => 4 | 20 => 20 | 0 => 0 | 46 => 234 | 109 => 259 | 5 => 5 | 72 => 265 | 76 => 269 | 51 => 284 | 146 => 305 | 53 => 286 | 148 => 307 | 70 => 262 | 37 => 263 | 75 => 268 | 127 => 309 | 164 => 335 | 80 => 272 | n => n, fun | n => n⟩
theorem Tryz.lays105 : Go.Proofs.Lays.n105 Tryz.prog Tryz.lays105_ren := {
  mixed := by kernel_rfl
  f99 := Tryz.func188.trans (congrArg some (by kernel_rfl))
  f105 := Tryz.func130.trans (congrArg some (by kernel_rfl))
  f165 := Tryz.func189.trans (congrArg some (by kernel_rfl))
  f166 := Tryz.func190.trans (congrArg some (by kernel_rfl))
  f169 := Tryz.func192.trans (congrArg some (by kernel_rfl))
  f170 := Tryz.func191.trans (congrArg some (by kernel_rfl))
  f206 := Tryz.func230.trans (congrArg some (by kernel_rfl))
  f212 := Tryz.func187.trans (congrArg some (by kernel_rfl))
  f240 := Tryz.func231.trans (congrArg some (by kernel_rfl))
  f241 := Tryz.func232.trans (congrArg some (by kernel_rfl))
  f263 := Tryz.func228.trans (congrArg some (by kernel_rfl))
  f264 := Tryz.func229.trans (congrArg some (by kernel_rfl))
  f276 := Tryz.func260.trans (congrArg some (by kernel_rfl))
  f277 := Tryz.func261.trans (congrArg some (by kernel_rfl))
  t0 := Tryz.underlying0
  a0 := Tryz.isAgg0
  z0 := Tryz.sizeOf0
  v0 := Tryz.zeroValue0
  t3 := Tryz.underlying3
  a3 := Tryz.isAgg3
  z3 := Tryz.sizeOf3
  v3 := Tryz.zeroValue3
  t4 := Tryz.underlying4
  a4 := Tryz.isAgg4
  z4 := Tryz.sizeOf4
  v4 := Tryz.zeroValue4
  t5 := Tryz.underlying5
  a5 := Tryz.isAgg5
  z5 := Tryz.sizeOf5
  v5 := Tryz.zeroValue5
  t9 := Tryz.underlying9
  a9 := Tryz.isAgg9
  z9 := Tryz.sizeOf9
  v9 := Tryz.zeroValue9
  t20 := Tryz.underlying20
  a20 := Tryz.isAgg20
  z20 := Tryz.sizeOf20
  v20 := Tryz.zeroValue20
  t37 := Tryz.underlying263
  a37 := Tryz.isAgg263
  z37 := Tryz.sizeOf263
  v37 := Tryz.zeroValue263
  t46 := Tryz.underlying234
  a46 := Tryz.isAgg234
  z46 := Tryz.sizeOf234
  v46 := Tryz.zeroValue234
  t51 := Tryz.underlying284
  a51 := Tryz.isAgg284
  z51 := Tryz.sizeOf284
  v51 := Tryz.zeroValue284
  t53 := Tryz.underlying286
  a53 := Tryz.isAgg286
  z53 := Tryz.sizeOf286
  v53 := Tryz.zeroValue286
  t70 := Tryz.underlying262
  a70 := Tryz.isAgg262
  z70 := Tryz.sizeOf262
  v70 := Tryz.zeroValue262
  t72 := Tryz.underlying265
  a72 := Tryz.isAgg265
  z72 := Tryz.sizeOf265
  v72 := Tryz.zeroValue265
  t75 := Tryz.underlying268
  a75 := Tryz.isAgg268
  z75 := Tryz.sizeOf268
  v75 := Tryz.zeroValue268
  t76 := Tryz.underlying269
  a76 := Tryz.isAgg269
  z76 := Tryz.sizeOf269
  v76 := Tryz.zeroValue269
  t109 := Tryz.underlying259
  a109 := Tryz.isAgg259
  z109 := Tryz.sizeOf259
  v109 := Tryz.zeroValue259
  t127 := Tryz.underlying309
  a127 := Tryz.isAgg309
  z127 := Tryz.sizeOf309
  v127 := Tryz.zeroValue309
  t146 := Tryz.underlying305
  a146 := Tryz.isAgg305
  z146 := Tryz.sizeOf305
  v146 := Tryz.zeroValue305
  t148 := Tryz.underlying307
  a148 := Tryz.isAgg307
  z148 := Tryz.sizeOf307
  v148 := Tryz.zeroValue307
  t164 := Tryz.underlying335
  a164 := Tryz.isAgg335
  z164 := Tryz.sizeOf335
  v164 := Tryz.zeroValue335 }
theorem Tryz.Builder_Extra_105 : Builder.Extra Tryz.prog Tryz.lays105_ren := {
  sizeBuilder := by kernel_rfl
  liesBuilder := by kernel_rfl
  t5 := Tryz.underlying5
  a5 := Tryz.isAgg5
  z5 := Tryz.sizeOf5
  v5 := Tryz.zeroValue5
  infoByte := by kernel_rfl
  cellsByte := by kernel_rfl
  sizeByte := by kernel_rfl
  neB5 := by decide }
def Tryz.laySortW_ren : Go.Shelf.Ren := ⟨fun | 6 => 79 | 15 => 146 | 14 => 145 | 28 => 207 | 29 => 208 | 20 => 199 | 21 => 200 | 22 => 201 | 23 => 202 | 24 => 203 | 25 => 204 | 26 => 205 | 27 => 206 | 46 => 235 | 47 => 236 | 48 => 237 | 49 => 238 | 50 => 239 | 57 => 262 | n => n, fun | 22 => 105 | 24 => 167 | 25 => 171 | 3 => 3 | 39 => 234 | 0 => 0 | 53 => 284 | 55 => 286 | 4 => 4 | 46 => 277 | 45 => 276 | 50 => 281 | 5 => 5 | 9 => 9 | 66 => 310 | 70 => 314 | 76 => 338 | 77 => 339 | n => n, fun | n => n⟩
theorem Tryz.laySortW : Go.Proofs.SlLaysF0.n6 Tryz.prog Tryz.laySortW_ren := {
  mixed := by kernel_rfl
  f6 := ⟨Tryz.f79.name, by decide, Tryz.func79.trans (congrArg some (by kernel_rfl))⟩
  f14 := ⟨Tryz.f145.name, by decide, Tryz.func145.trans (congrArg some (by kernel_rfl))⟩
  f15 := Tryz.func146.trans (congrArg some (by kernel_rfl))
  f20 := ⟨Tryz.f199.name, by decide, Tryz.func199.trans (congrArg some (by kernel_rfl))⟩
  f21 := ⟨Tryz.f200.name, by decide, Tryz.func200.trans (congrArg some (by kernel_rfl))⟩
  f22 := ⟨Tryz.f201.name, by decide, Tryz.func201.trans (congrArg some (by kernel_rfl))⟩
  f23 := ⟨Tryz.f202.name, by decide, Tryz.func202.trans (congrArg some (by kernel_rfl))⟩
  f24 := ⟨Tryz.f203.name, by decide, Tryz.func203.trans (congrArg some (by kernel_rfl))⟩
  f25 := ⟨Tryz.f204.name, by decide, Tryz.func204.trans (congrArg some (by kernel_rfl))⟩
  f26 := ⟨Tryz.f205.name, by decide, Tryz.func205.trans (congrArg some (by kernel_rfl))⟩
  f27 := ⟨Tryz.f206.name, by decide, Tryz.func206.trans (congrArg some (by kernel_rfl))⟩
  f28 := Tryz.func207.trans (congrArg some (by kernel_rfl))
  f29 := Tryz.func208.trans (congrArg some (by kernel_rfl))
  f46 := ⟨Tryz.f235.name, by decide, Tryz.func235.trans (congrArg some (by kernel_rfl))⟩
  f47 := Tryz.func236.trans (congrArg some (by kernel_rfl))
  f48 := Tryz.func237.trans (congrArg some (by kernel_rfl))
  f49 := ⟨Tryz.f238.name, by decide, Tryz.func238.trans (congrArg some (by kernel_rfl))⟩
  f50 := ⟨Tryz.f239.name, by decide, Tryz.func239.trans (congrArg some (by kernel_rfl))⟩
  f57 := ⟨Tryz.f262.name, by decide, Tryz.func262.trans (congrArg some (by kernel_rfl))⟩
  t0 := Tryz.underlying0
  a0 := Tryz.isAgg0
  z0 := Tryz.sizeOf0
  v0 := Tryz.zeroValue0
  t3 := Tryz.underlying3
  a3 := Tryz.isAgg3
  z3 := Tryz.sizeOf3
  v3 := Tryz.zeroValue3
  t4 := Tryz.underlying4
  a4 := Tryz.isAgg4
  z4 := Tryz.sizeOf4
  v4 := Tryz.zeroValue4
  t5 := Tryz.underlying5
  a5 := Tryz.isAgg5
  z5 := Tryz.sizeOf5
  v5 := Tryz.zeroValue5
  t9 := Tryz.underlying9
  a9 := Tryz.isAgg9
  z9 := Tryz.sizeOf9
  v9 := Tryz.zeroValue9
  t22 := Tryz.underlying105
  a22 := Tryz.isAgg105
  z22 := Tryz.sizeOf105
  v22 := Tryz.zeroValue105
  t25 := Tryz.underlying171
  a25 := Tryz.isAgg171
  z25 := Tryz.sizeOf171
  v25 := Tryz.zeroValue171
  t39 := Tryz.underlying234
  a39 := Tryz.isAgg234
  z39 := Tryz.sizeOf234
  v39 := Tryz.zeroValue234
  t45 := Tryz.underlying276
  a45 := Tryz.isAgg276
  z45 := Tryz.sizeOf276
  v45 := Tryz.zeroValue276
  t46 := Tryz.underlying277
  a46 := Tryz.isAgg277
  z46 := Tryz.sizeOf277
  v46 := Tryz.zeroValue277
  t50 := Tryz.underlying281
  a50 := Tryz.isAgg281
  z50 := Tryz.sizeOf281
  v50 := Tryz.zeroValue281
  t53 := Tryz.underlying284
  a53 := Tryz.isAgg284
  z53 := Tryz.sizeOf284
  v53 := Tryz.zeroValue284
  t55 := Tryz.underlying286
  a55 := Tryz.isAgg286
  z55 := Tryz.sizeOf286
  v55 := Tryz.zeroValue286
  t66 := Tryz.underlying310
  a66 := Tryz.isAgg310
  z66 := Tryz.sizeOf310
  v66 := Tryz.zeroValue310
  t70 := Tryz.underlying314
  a70 := Tryz.isAgg314
  z70 := Tryz.sizeOf314
  v70 := Tryz.zeroValue314
  t76 := Tryz.underlying338
  a76 := Tryz.isAgg338
  z76 := Tryz.sizeOf338
  v76 := Tryz.zeroValue338
  t77 := Tryz.underlying339
  a77 := Tryz.isAgg339
  z77 := Tryz.sizeOf339
  v77 := Tryz.zeroValue339 }
end Go.Proofs
