/-
  DERIVED: THE SHELF's CONTRACTS AT THIS DUMP, IN PLAIN WORDS (tools/lay-plain.mjs out of 'YtnabmkmhbncidabGreatDoorShelf.lean', which tools/lay-shelf.mjs wrote): THE SAME DECLARATIONS UNDER THE SAME NAMES: 'import', 'namespace', 'open', 'def', 'theorem' AND NOTHING ELSE: no command of the shelf's: FOR A HAND-IN. Each laying: the table of numbers ('.._ren') and one theorem, a field a fact of the dump's own or the kernel's comparison; each contract: ONE APPLICATION.
-/
import Derived.Shelf.Strings.Builder1
import Derived.Shelf.Strings.Builder2
import Derived.Shelf.Strings.OnBuilder
import Derived.Shelf.Small.Bits
import Derived.Shelf.Small.Strs
import Derived.Shelf.Small.Wraps
import Derived.Shelf.Strings.BuilderF
import Derived.Shelf.Strings.BuilderK
import Derived.Shelf.Utf8.RuneCount
import Derived.Shelf.Strings.Builder2Cap
import Derived.Shelf.Strconv.Atoi
import Derived.Shelf.Strconv.Itoa0
import Derived.Shelf.Strconv.Itoa1
import Derived.Shelf.LaysM
import Derived.Shelf.Strconv.Itoa2
import Derived.Shelf.Strconv.Itoa3
import Derived.Shelf.Strconv.AtoiErrFast
import Derived.Shelf.Strconv.ParseIntEmpty
import Derived.Shelf.Strconv.AtoiFail
import Derived.Shelf.Strconv.Clone
import Derived.Shelf.Strconv.SyntaxError
import Derived.Shelf.LaysC
import Derived.Shelf.Strconv.ToError
import Derived.Shelf.Strconv.AtoiErr
import Derived.Shelf.Strconv.ErrVar
import Derived.Shelf.Strconv.Lower
import Derived.Shelf.Strconv.ParseUint10
import Derived.Shelf.Strconv.ParseUint10Empty
import Derived.Shelf.Strconv.ParseUint10Any
import Derived.Shelf.Strconv.ParseInt10
import Derived.Shelf.Strconv.AtoiLong
import Derived.Shelf.Strconv.AtoiInnerAll
import Derived.Shelf.Strconv.RangeError
import Derived.Shelf.Strconv.ToErrorRange
import Derived.Shelf.Strconv.AtoiAll
import Derived.Shelf.Strconv.ParseUintEmpty
import Derived.Shelf.Strconv.ParseUint10b64
import Derived.Shelf.Strconv.ParseUint10b32
import Derived.Shelf.Strconv.ParseUint10b16
import Derived.Shelf.Strconv.ParseUint10b8
import Derived.Shelf.Strconv.ParseUint10At
import Derived.Shelf.Strconv.ParseInt10At64
import Derived.Shelf.Strconv.ParseInt10At32
import Derived.Shelf.Strconv.ParseInt10At16
import Derived.Shelf.Strconv.ParseInt10At8
import Derived.Shelf.Strconv.ParseInt10All
import Derived.Shelf.Strings.Search1
import Derived.Shelf.Strings.Search2
import Derived.Shelf.Strings.Search3
import Derived.Shelf.Strings.Cut
import Derived.Shelf.Strings.Count
import Derived.Shelf.Strings.Shaped
import Derived.Shelf.Sort.Plain
import Derived.Shelf.Strings.Prefix
import Derived.Shelf.Strings.Split
import Derived.Shelf.Strings.SplitShaped
import Derived.Shelf.Unicode.Decode
import Derived.Shelf.Strings.RuneCount
import Derived.Shelf.Strings.Explode
import Derived.Shelf.Bits.Mul64
import Derived.Shelf.Strings.Repeat
import Derived.Shelf.Unicode.DecodeSlow
import Derived.Shelf.Unicode.DecodeAny
import Derived.Shelf.Strings.BuilderCap
import Derived.Shelf.Slices.Turned
import Derived.Ground.Names2Prog
import Derived.Shelf.Slices.Clone
import Derived.Shelf.Slices.SearchI
import Derived.Shelf.Slices.In.SortNone
import Derived.Ground.SlgnProg
import Derived.Shelf.SlicesE.Clone
import Derived.Test.YtnabmkmhbncidabGreatDoorProg
namespace Go.Proofs
open Go.Shelf
def Tryz.lays169_ren : Go.Shelf.Ren := ⟨fun | 169 => 118 | n => n, fun | 70 => 199 | 9 => 9 | 0 => 0 | 72 => 202 | 37 => 200 | 127 => 284 | 3 => 3 | 5 => 5 | n => n, fun | n => n⟩
theorem Tryz.lays169 : Go.Proofs.Lays.n169 Tryz.prog Tryz.lays169_ren := {
  mixed := by kernel_rfl
  f169 := Tryz.func118.trans (congrArg some (by kernel_rfl))
  t0 := Tryz.underlying0
  a0 := Tryz.isAgg0
  z0 := Tryz.sizeOf0
  v0 := Tryz.zeroValue0
  t3 := Tryz.underlying3
  a3 := Tryz.isAgg3
  z3 := Tryz.sizeOf3
  v3 := Tryz.zeroValue3
  t9 := Tryz.underlying9
  a9 := Tryz.isAgg9
  z9 := Tryz.sizeOf9
  v9 := Tryz.zeroValue9
  t37 := Tryz.underlying200
  a37 := Tryz.isAgg200
  z37 := Tryz.sizeOf200
  v37 := Tryz.zeroValue200
  t70 := Tryz.underlying199
  a70 := Tryz.isAgg199
  z70 := Tryz.sizeOf199
  v70 := Tryz.zeroValue199
  t72 := Tryz.underlying202
  a72 := Tryz.isAgg202
  z72 := Tryz.sizeOf202
  v72 := Tryz.zeroValue202
  t127 := Tryz.underlying284
  a127 := Tryz.isAgg284
  z127 := Tryz.sizeOf284
  v127 := Tryz.zeroValue284 }
theorem Tryz.Builder_Extra_169 : Builder.Extra Tryz.prog Tryz.lays169_ren := {
  sizeBuilder := by kernel_rfl
  liesBuilder := by kernel_rfl
  t5 := Tryz.underlying5
  a5 := Tryz.isAgg5
  z5 := Tryz.sizeOf5
  v5 := Tryz.zeroValue5
  infoByte := by kernel_rfl
  cellsByte := by kernel_rfl
  sizeByte := by kernel_rfl
  neB5 := by decide }
def Tryz.laysM171_ren : Go.Shelf.Ren := ⟨fun | 171 => 42 | 243 => 115 | 246 => 188 | 283 => 242 | 284 => 243 | 285 => 244 | 286 => 245 | 129 => 275 | 317 => 289 | 318 => 290 | 319 => 291 | 320 => 292 | 337 => 329 | 338 => 330 | n => n, fun | 3 => 3 | 9 => 9 | 2 => 2 | 4 => 4 | 171 => 319 | 0 => 0 | 53 => 320 | 37 => 200 | 5 => 5 | 173 => 323 | 212 => 368 | 51 => 352 | 20 => 20 | 213 => 369 | 46 => 309 | 232 => 414 | 233 => 415 | n => n, fun | 17 => 1 | 18 => 6 | 19 => 7 | n => n⟩
theorem Tryz.laysM171 : Go.Proofs.LaysM.n171 Tryz.prog Tryz.laysM171_ren := {
  mixed := by kernel_rfl
  f129 := Tryz.func275.trans (congrArg some (by kernel_rfl))
  f171 := Tryz.func42.trans (congrArg some (by kernel_rfl))
  f243 := Tryz.func115.trans (congrArg some (by kernel_rfl))
  f246 := Tryz.func188.trans (congrArg some (by kernel_rfl))
  f283 := Tryz.func242.trans (congrArg some (by kernel_rfl))
  f284 := Tryz.func243.trans (congrArg some (by kernel_rfl))
  f285 := Tryz.func244.trans (congrArg some (by kernel_rfl))
  f286 := Tryz.func245.trans (congrArg some (by kernel_rfl))
  f317 := Tryz.func289.trans (congrArg some (by kernel_rfl))
  f318 := Tryz.func290.trans (congrArg some (by kernel_rfl))
  f319 := Tryz.func291.trans (congrArg some (by kernel_rfl))
  f320 := Tryz.func292.trans (congrArg some (by kernel_rfl))
  f337 := Tryz.func329.trans (congrArg some (by kernel_rfl))
  f338 := Tryz.func330.trans (congrArg some (by kernel_rfl))
  t0 := Tryz.underlying0
  a0 := Tryz.isAgg0
  z0 := Tryz.sizeOf0
  v0 := Tryz.zeroValue0
  t2 := Tryz.underlying2
  a2 := Tryz.isAgg2
  z2 := Tryz.sizeOf2
  v2 := Tryz.zeroValue2
  t3 := Tryz.underlying3
  a3 := Tryz.isAgg3
  z3 := Tryz.sizeOf3
  v3 := Tryz.zeroValue3
  t4 := Tryz.underlying4
  a4 := Tryz.isAgg4
  z4 := Tryz.sizeOf4
  v4 := Tryz.zeroValue4
  t5 := Tryz.underlying5
  a5 := Tryz.isAgg5
  z5 := Tryz.sizeOf5
  v5 := Tryz.zeroValue5
  t9 := Tryz.underlying9
  a9 := Tryz.isAgg9
  z9 := Tryz.sizeOf9
  v9 := Tryz.zeroValue9
  t20 := Tryz.underlying20
  a20 := Tryz.isAgg20
  z20 := Tryz.sizeOf20
  v20 := Tryz.zeroValue20
  t37 := Tryz.underlying200
  a37 := Tryz.isAgg200
  z37 := Tryz.sizeOf200
  v37 := Tryz.zeroValue200
  t46 := Tryz.underlying309
  a46 := Tryz.isAgg309
  z46 := Tryz.sizeOf309
  v46 := Tryz.zeroValue309
  t51 := Tryz.underlying352
  a51 := Tryz.isAgg352
  z51 := Tryz.sizeOf352
  v51 := Tryz.zeroValue352
  t53 := Tryz.underlying320
  a53 := Tryz.isAgg320
  z53 := Tryz.sizeOf320
  v53 := Tryz.zeroValue320
  t171 := Tryz.underlying319
  a171 := Tryz.isAgg319
  z171 := Tryz.sizeOf319
  v171 := Tryz.zeroValue319
  t173 := Tryz.underlying323
  a173 := Tryz.isAgg323
  z173 := Tryz.sizeOf323
  v173 := Tryz.zeroValue323
  t212 := Tryz.underlying368
  a212 := Tryz.isAgg368
  z212 := Tryz.sizeOf368
  v212 := Tryz.zeroValue368
  t213 := Tryz.underlying369
  a213 := Tryz.isAgg369
  z213 := Tryz.sizeOf369
  t232 := Tryz.underlying414
  a232 := Tryz.isAgg414
  z232 := Tryz.sizeOf414
  v232 := Tryz.zeroValue414
  t233 := Tryz.underlying415
  a233 := Tryz.isAgg415
  z233 := Tryz.sizeOf415
  v233 := Tryz.zeroValue415
  g17 := by kernel_rfl
  g18 := by kernel_rfl
  g19 := by kernel_rfl
  i0 := by kernel_rfl
  i2 := by kernel_rfl
  i3 := by kernel_rfl
  i4 := by kernel_rfl
  i5 := by kernel_rfl
  i9 := by kernel_rfl
  i20 := by kernel_rfl
  i37 := by kernel_rfl
  i46 := by kernel_rfl
  i51 := by kernel_rfl
  i53 := by kernel_rfl
  i171 := by kernel_rfl
  i173 := by kernel_rfl
  i212 := by kernel_rfl
  i232 := by kernel_rfl
  i233 := by kernel_rfl
  m17 := by kernel_rfl
  m18 := by kernel_rfl
  m19 := by kernel_rfl }
def Tryz.lays190_ren : Go.Shelf.Ren := ⟨fun | 190 => 199 | 125 => 221 | 258 => 256 | 128 => 274 | 129 => 275 | 302 => 297 | 303 => 298 | 304 => 299 | 305 => 300 | 306 => 301 | 307 => 302 | 308 => 303 | 309 => 304 | 310 => 305 | 333 => 332 | 329 => 312 | 330 => 313 | 334 => 333 | 335 => 334 | 336 => 335 | 344 => 344 | n => n, fun | 31 => 35 | 9 => 9 | 3 => 3 | 46 => 309 | 0 => 0 | 51 => 352 | 53 => 320 | 4 => 4 | 183 => 346 | 182 => 345 | 131 => 188 | 5 => 5 | 218 => 382 | 222 => 386 | 228 => 401 | 229 => 402 | n => n, fun | n => n⟩
theorem Tryz.lays190 : Go.Proofs.Lays.n190 Tryz.prog Tryz.lays190_ren := {
  mixed := by kernel_rfl
  f125 := Tryz.func221.trans (congrArg some (by kernel_rfl))
  f128 := Tryz.func274.trans (congrArg some (by kernel_rfl))
  f129 := Tryz.func275.trans (congrArg some (by kernel_rfl))
  f190 := Tryz.func199.trans (congrArg some (by kernel_rfl))
  f258 := Tryz.func256.trans (congrArg some (by kernel_rfl))
  f302 := Tryz.func297.trans (congrArg some (by kernel_rfl))
  f303 := Tryz.func298.trans (congrArg some (by kernel_rfl))
  f304 := Tryz.func299.trans (congrArg some (by kernel_rfl))
  f305 := Tryz.func300.trans (congrArg some (by kernel_rfl))
  f306 := Tryz.func301.trans (congrArg some (by kernel_rfl))
  f307 := Tryz.func302.trans (congrArg some (by kernel_rfl))
  f308 := Tryz.func303.trans (congrArg some (by kernel_rfl))
  f309 := Tryz.func304.trans (congrArg some (by kernel_rfl))
  f310 := Tryz.func305.trans (congrArg some (by kernel_rfl))
  f329 := Tryz.func312.trans (congrArg some (by kernel_rfl))
  f330 := Tryz.func313.trans (congrArg some (by kernel_rfl))
  f333 := Tryz.func332.trans (congrArg some (by kernel_rfl))
  f334 := Tryz.func333.trans (congrArg some (by kernel_rfl))
  f335 := Tryz.func334.trans (congrArg some (by kernel_rfl))
  f336 := Tryz.func335.trans (congrArg some (by kernel_rfl))
  f344 := Tryz.func344.trans (congrArg some (by kernel_rfl))
  t0 := Tryz.underlying0
  a0 := Tryz.isAgg0
  z0 := Tryz.sizeOf0
  v0 := Tryz.zeroValue0
  t3 := Tryz.underlying3
  a3 := Tryz.isAgg3
  z3 := Tryz.sizeOf3
  v3 := Tryz.zeroValue3
  t4 := Tryz.underlying4
  a4 := Tryz.isAgg4
  z4 := Tryz.sizeOf4
  v4 := Tryz.zeroValue4
  t5 := Tryz.underlying5
  a5 := Tryz.isAgg5
  z5 := Tryz.sizeOf5
  v5 := Tryz.zeroValue5
  t9 := Tryz.underlying9
  a9 := Tryz.isAgg9
  z9 := Tryz.sizeOf9
  v9 := Tryz.zeroValue9
  t31 := Tryz.underlying35
  a31 := Tryz.isAgg35
  z31 := Tryz.sizeOf35
  v31 := Tryz.zeroValue35
  t46 := Tryz.underlying309
  a46 := Tryz.isAgg309
  z46 := Tryz.sizeOf309
  v46 := Tryz.zeroValue309
  t51 := Tryz.underlying352
  a51 := Tryz.isAgg352
  z51 := Tryz.sizeOf352
  v51 := Tryz.zeroValue352
  t53 := Tryz.underlying320
  a53 := Tryz.isAgg320
  z53 := Tryz.sizeOf320
  v53 := Tryz.zeroValue320
  t131 := Tryz.underlying188
  a131 := Tryz.isAgg188
  z131 := Tryz.sizeOf188
  v131 := Tryz.zeroValue188
  t182 := Tryz.underlying345
  a182 := Tryz.isAgg345
  z182 := Tryz.sizeOf345
  v182 := Tryz.zeroValue345
  t183 := Tryz.underlying346
  a183 := Tryz.isAgg346
  z183 := Tryz.sizeOf346
  v183 := Tryz.zeroValue346
  t218 := Tryz.underlying382
  a218 := Tryz.isAgg382
  z218 := Tryz.sizeOf382
  v218 := Tryz.zeroValue382
  t222 := Tryz.underlying386
  a222 := Tryz.isAgg386
  z222 := Tryz.sizeOf386
  v222 := Tryz.zeroValue386
  t228 := Tryz.underlying401
  a228 := Tryz.isAgg401
  z228 := Tryz.sizeOf401
  v228 := Tryz.zeroValue401
  t229 := Tryz.underlying402
  a229 := Tryz.isAgg402
  z229 := Tryz.sizeOf402
  v229 := Tryz.zeroValue402 }
def Tryz.laysC172_ren : Go.Shelf.Ren := ⟨fun | 172 => 183 | 244 => 238 | 245 => 239 | 247 => 284 | 279 => 285 | 280 => 286 | 281 => 287 | 282 => 288 | 287 => 326 | 316 => 327 | 171 => 42 | 205 => 328 | 321 => 342 | 322 => 343 | 243 => 115 | 246 => 188 | 283 => 242 | 284 => 243 | 285 => 244 | 286 => 245 | 129 => 275 | 317 => 289 | 318 => 290 | 319 => 291 | 320 => 292 | 337 => 329 | 338 => 330 | n => n, fun | 9 => 9 | 3 => 3 | 75 => 205 | 76 => 206 | 4 => 4 | 5 => 5 | 167 => 361 | 37 => 200 | 0 => 0 | 85 => 362 | 2 => 2 | 168 => 364 | 53 => 320 | 175 => 393 | 46 => 309 | 210 => 396 | 127 => 284 | 145 => 413 | 143 => 411 | 21 => 21 | 171 => 319 | 173 => 323 | 212 => 368 | 51 => 352 | 20 => 20 | 213 => 369 | 232 => 414 | 233 => 415 | 80 => 43 | n => n, fun | 15 => 2 | 16 => 3 | 17 => 1 | 18 => 6 | 19 => 7 | n => n⟩
theorem Tryz.laysC172 : Go.Proofs.LaysC.n172 Tryz.prog Tryz.laysC172_ren := {
  mixed := by kernel_rfl
  f129 := Tryz.func275.trans (congrArg some (by kernel_rfl))
  f171 := Tryz.func42.trans (congrArg some (by kernel_rfl))
  f172 := Tryz.func183.trans (congrArg some (by kernel_rfl))
  f205 := Tryz.func328.trans (congrArg some (by kernel_rfl))
  f243 := Tryz.func115.trans (congrArg some (by kernel_rfl))
  f244 := Tryz.func238.trans (congrArg some (by kernel_rfl))
  f245 := Tryz.func239.trans (congrArg some (by kernel_rfl))
  f246 := Tryz.func188.trans (congrArg some (by kernel_rfl))
  f247 := Tryz.func284.trans (congrArg some (by kernel_rfl))
  f279 := Tryz.func285.trans (congrArg some (by kernel_rfl))
  f280 := Tryz.func286.trans (congrArg some (by kernel_rfl))
  f281 := Tryz.func287.trans (congrArg some (by kernel_rfl))
  f282 := Tryz.func288.trans (congrArg some (by kernel_rfl))
  f283 := Tryz.func242.trans (congrArg some (by kernel_rfl))
  f284 := Tryz.func243.trans (congrArg some (by kernel_rfl))
  f285 := Tryz.func244.trans (congrArg some (by kernel_rfl))
  f286 := Tryz.func245.trans (congrArg some (by kernel_rfl))
  f287 := Tryz.func326.trans (congrArg some (by kernel_rfl))
  f316 := Tryz.func327.trans (congrArg some (by kernel_rfl))
  f317 := Tryz.func289.trans (congrArg some (by kernel_rfl))
  f318 := Tryz.func290.trans (congrArg some (by kernel_rfl))
  f319 := Tryz.func291.trans (congrArg some (by kernel_rfl))
  f320 := Tryz.func292.trans (congrArg some (by kernel_rfl))
  f321 := Tryz.func342.trans (congrArg some (by kernel_rfl))
  f322 := Tryz.func343.trans (congrArg some (by kernel_rfl))
  f337 := Tryz.func329.trans (congrArg some (by kernel_rfl))
  f338 := Tryz.func330.trans (congrArg some (by kernel_rfl))
  t0 := Tryz.underlying0
  a0 := Tryz.isAgg0
  z0 := Tryz.sizeOf0
  v0 := Tryz.zeroValue0
  t2 := Tryz.underlying2
  a2 := Tryz.isAgg2
  z2 := Tryz.sizeOf2
  v2 := Tryz.zeroValue2
  t3 := Tryz.underlying3
  a3 := Tryz.isAgg3
  z3 := Tryz.sizeOf3
  v3 := Tryz.zeroValue3
  t4 := Tryz.underlying4
  a4 := Tryz.isAgg4
  z4 := Tryz.sizeOf4
  v4 := Tryz.zeroValue4
  t5 := Tryz.underlying5
  a5 := Tryz.isAgg5
  z5 := Tryz.sizeOf5
  v5 := Tryz.zeroValue5
  t9 := Tryz.underlying9
  a9 := Tryz.isAgg9
  z9 := Tryz.sizeOf9
  v9 := Tryz.zeroValue9
  t20 := Tryz.underlying20
  a20 := Tryz.isAgg20
  z20 := Tryz.sizeOf20
  v20 := Tryz.zeroValue20
  t21 := Tryz.underlying21
  a21 := Tryz.isAgg21
  z21 := Tryz.sizeOf21
  v21 := Tryz.zeroValue21
  t37 := Tryz.underlying200
  a37 := Tryz.isAgg200
  z37 := Tryz.sizeOf200
  v37 := Tryz.zeroValue200
  t46 := Tryz.underlying309
  a46 := Tryz.isAgg309
  z46 := Tryz.sizeOf309
  v46 := Tryz.zeroValue309
  t51 := Tryz.underlying352
  a51 := Tryz.isAgg352
  z51 := Tryz.sizeOf352
  v51 := Tryz.zeroValue352
  t53 := Tryz.underlying320
  a53 := Tryz.isAgg320
  z53 := Tryz.sizeOf320
  v53 := Tryz.zeroValue320
  t75 := Tryz.underlying205
  a75 := Tryz.isAgg205
  z75 := Tryz.sizeOf205
  v75 := Tryz.zeroValue205
  t76 := Tryz.underlying206
  a76 := Tryz.isAgg206
  z76 := Tryz.sizeOf206
  v76 := Tryz.zeroValue206
  t85 := Tryz.underlying362
  a85 := Tryz.isAgg362
  z85 := Tryz.sizeOf362
  v85 := Tryz.zeroValue362
  t127 := Tryz.underlying284
  a127 := Tryz.isAgg284
  z127 := Tryz.sizeOf284
  v127 := Tryz.zeroValue284
  t143 := Tryz.underlying411
  a143 := Tryz.isAgg411
  z143 := Tryz.sizeOf411
  v143 := Tryz.zeroValue411
  t145 := Tryz.underlying413
  a145 := Tryz.isAgg413
  z145 := Tryz.sizeOf413
  v145 := Tryz.zeroValue413
  t167 := Tryz.underlying361
  a167 := Tryz.isAgg361
  z167 := Tryz.sizeOf361
  v167 := Tryz.zeroValue361
  t168 := Tryz.underlying364
  a168 := Tryz.isAgg364
  z168 := Tryz.sizeOf364
  v168 := Tryz.zeroValue364
  t171 := Tryz.underlying319
  a171 := Tryz.isAgg319
  z171 := Tryz.sizeOf319
  v171 := Tryz.zeroValue319
  t173 := Tryz.underlying323
  a173 := Tryz.isAgg323
  z173 := Tryz.sizeOf323
  v173 := Tryz.zeroValue323
  t175 := Tryz.underlying393
  a175 := Tryz.isAgg393
  z175 := Tryz.sizeOf393
  v175 := Tryz.zeroValue393
  t210 := Tryz.underlying396
  a210 := Tryz.isAgg396
  z210 := Tryz.sizeOf396
  v210 := Tryz.zeroValue396
  t212 := Tryz.underlying368
  a212 := Tryz.isAgg368
  z212 := Tryz.sizeOf368
  v212 := Tryz.zeroValue368
  t213 := Tryz.underlying369
  a213 := Tryz.isAgg369
  z213 := Tryz.sizeOf369
  t232 := Tryz.underlying414
  a232 := Tryz.isAgg414
  z232 := Tryz.sizeOf414
  v232 := Tryz.zeroValue414
  t233 := Tryz.underlying415
  a233 := Tryz.isAgg415
  z233 := Tryz.sizeOf415
  v233 := Tryz.zeroValue415
  g15 := by kernel_rfl
  g16 := by kernel_rfl
  g17 := by kernel_rfl
  g18 := by kernel_rfl
  g19 := by kernel_rfl
  t80 := Tryz.underlying43
  a80 := Tryz.isAgg43
  z80 := Tryz.sizeOf43
  v80 := Tryz.zeroValue43
  i0 := by kernel_rfl
  i2 := by kernel_rfl
  i3 := by kernel_rfl
  i4 := by kernel_rfl
  i5 := by kernel_rfl
  i9 := by kernel_rfl
  i20 := by kernel_rfl
  i21 := by kernel_rfl
  i37 := by kernel_rfl
  i46 := by kernel_rfl
  i51 := by kernel_rfl
  i53 := by kernel_rfl
  i75 := by kernel_rfl
  i76 := by kernel_rfl
  i80 := by kernel_rfl
  i85 := by kernel_rfl
  i127 := by kernel_rfl
  i143 := by kernel_rfl
  i145 := by kernel_rfl
  i167 := by kernel_rfl
  i168 := by kernel_rfl
  i171 := by kernel_rfl
  i173 := by kernel_rfl
  i175 := by kernel_rfl
  i210 := by kernel_rfl
  i212 := by kernel_rfl
  i232 := by kernel_rfl
  i233 := by kernel_rfl
  m15 := by kernel_rfl
  m16 := by kernel_rfl
  m17 := by kernel_rfl
  m18 := by kernel_rfl
  m19 := by kernel_rfl
  c0 := by kernel_rfl
  c2 := by kernel_rfl
  c3 := by kernel_rfl
  c4 := by kernel_rfl
  c5 := by kernel_rfl
  c9 := by kernel_rfl
  c20 := by kernel_rfl
  c21 := by kernel_rfl
  c37 := by kernel_rfl
  c46 := by kernel_rfl
  c51 := by kernel_rfl
  c53 := by kernel_rfl
  c75 := by kernel_rfl
  c76 := by kernel_rfl
  c80 := by kernel_rfl
  c85 := by kernel_rfl
  c127 := by kernel_rfl
  c143 := by kernel_rfl
  c145 := by kernel_rfl
  c167 := by kernel_rfl
  c168 := by kernel_rfl
  c171 := by kernel_rfl
  c173 := by kernel_rfl
  c175 := by kernel_rfl
  c210 := by kernel_rfl
  c212 := by kernel_rfl
  c213 := by kernel_rfl
  c232 := by kernel_rfl
  c233 := by kernel_rfl }
def Tryz.lays146_ren : Go.Shelf.Ren := ⟨fun | 146 => 95 | 221 => 181 | 268 => 235 | 138 => 236 | 143 => 237 | 195 => 281 | 197 => 282 | 218 => 283 | 219 => 171 | 260 => 325 | 217 => 229 | 225 => 230 | 224 => 231 | 267 => 232 | 266 => 279 | 314 => 280 | n => n, fun | 9 => 9 | 31 => 35 | 3 => 3 | 4 => 4 | 0 => 0 | 105 => 359 | 21 => 21 | 5 => 5 | 46 => 309 | 119 => 406 | 139 => 409 | 138 => 408 | 146 => 356 | 51 => 352 | n => n, fun | 1 => 0 | 3 => 4 | 4 => 5 | n => n⟩
theorem Tryz.lays146 : Go.Proofs.Lays.n146 Tryz.prog Tryz.lays146_ren := {
  mixed := by kernel_rfl
  f138 := Tryz.func236.trans (congrArg some (by kernel_rfl))
  f143 := Tryz.func237.trans (congrArg some (by kernel_rfl))
  f146 := Tryz.func95.trans (congrArg some (by kernel_rfl))
  f195 := Tryz.func281.trans (congrArg some (by kernel_rfl))
  f197 := Tryz.func282.trans (congrArg some (by kernel_rfl))
  f217 := Tryz.func229.trans (congrArg some (by kernel_rfl))
  f218 := Tryz.func283.trans (congrArg some (by kernel_rfl))
  f219 := Tryz.func171.trans (congrArg some (by kernel_rfl))
  f221 := Tryz.func181.trans (congrArg some (by kernel_rfl))
  f224 := Tryz.func231.trans (congrArg some (by kernel_rfl))
  f225 := Tryz.func230.trans (congrArg some (by kernel_rfl))
  f260 := Tryz.func325.trans (congrArg some (by kernel_rfl))
  f266 := Tryz.func279.trans (congrArg some (by kernel_rfl))
  f267 := Tryz.func232.trans (congrArg some (by kernel_rfl))
  f268 := Tryz.func235.trans (congrArg some (by kernel_rfl))
  f314 := Tryz.func280.trans (congrArg some (by kernel_rfl))
  t0 := Tryz.underlying0
  a0 := Tryz.isAgg0
  z0 := Tryz.sizeOf0
  v0 := Tryz.zeroValue0
  t3 := Tryz.underlying3
  a3 := Tryz.isAgg3
  z3 := Tryz.sizeOf3
  v3 := Tryz.zeroValue3
  t4 := Tryz.underlying4
  a4 := Tryz.isAgg4
  z4 := Tryz.sizeOf4
  v4 := Tryz.zeroValue4
  t5 := Tryz.underlying5
  a5 := Tryz.isAgg5
  z5 := Tryz.sizeOf5
  v5 := Tryz.zeroValue5
  t9 := Tryz.underlying9
  a9 := Tryz.isAgg9
  z9 := Tryz.sizeOf9
  v9 := Tryz.zeroValue9
  t21 := Tryz.underlying21
  a21 := Tryz.isAgg21
  z21 := Tryz.sizeOf21
  v21 := Tryz.zeroValue21
  t31 := Tryz.underlying35
  a31 := Tryz.isAgg35
  z31 := Tryz.sizeOf35
  v31 := Tryz.zeroValue35
  t46 := Tryz.underlying309
  a46 := Tryz.isAgg309
  z46 := Tryz.sizeOf309
  v46 := Tryz.zeroValue309
  t51 := Tryz.underlying352
  a51 := Tryz.isAgg352
  z51 := Tryz.sizeOf352
  v51 := Tryz.zeroValue352
  t105 := Tryz.underlying359
  a105 := Tryz.isAgg359
  z105 := Tryz.sizeOf359
  v105 := Tryz.zeroValue359
  t119 := Tryz.underlying406
  a119 := Tryz.isAgg406
  z119 := Tryz.sizeOf406
  t138 := Tryz.underlying408
  a138 := Tryz.isAgg408
  z138 := Tryz.sizeOf408
  v138 := Tryz.zeroValue408
  t139 := Tryz.underlying409
  a139 := Tryz.isAgg409
  z139 := Tryz.sizeOf409
  v139 := Tryz.zeroValue409
  t146 := Tryz.underlying356
  a146 := Tryz.isAgg356
  z146 := Tryz.sizeOf356
  v146 := Tryz.zeroValue356
  g1 := by kernel_rfl
  g3 := by kernel_rfl
  g4 := by kernel_rfl }
def Tryz.lays156_ren : Go.Shelf.Ren := ⟨fun | 156 => 44 | 165 => 116 | 166 => 117 | 169 => 118 | 240 => 189 | 241 => 190 | 276 => 246 | 277 => 247 | n => n, fun | 31 => 35 | 9 => 9 | 3 => 3 | 4 => 4 | 0 => 0 | 20 => 20 | 72 => 202 | 76 => 206 | 70 => 199 | 37 => 200 | 75 => 205 | 127 => 284 | 164 => 325 | 5 => 5 | 80 => 43 | n => n, fun | n => n⟩
theorem Tryz.lays156 : Go.Proofs.Lays.n156 Tryz.prog Tryz.lays156_ren := {
  mixed := by kernel_rfl
  f156 := Tryz.func44.trans (congrArg some (by kernel_rfl))
  f165 := Tryz.func116.trans (congrArg some (by kernel_rfl))
  f166 := Tryz.func117.trans (congrArg some (by kernel_rfl))
  f169 := Tryz.func118.trans (congrArg some (by kernel_rfl))
  f240 := Tryz.func189.trans (congrArg some (by kernel_rfl))
  f241 := Tryz.func190.trans (congrArg some (by kernel_rfl))
  f276 := Tryz.func246.trans (congrArg some (by kernel_rfl))
  f277 := Tryz.func247.trans (congrArg some (by kernel_rfl))
  t0 := Tryz.underlying0
  a0 := Tryz.isAgg0
  z0 := Tryz.sizeOf0
  v0 := Tryz.zeroValue0
  t3 := Tryz.underlying3
  a3 := Tryz.isAgg3
  z3 := Tryz.sizeOf3
  v3 := Tryz.zeroValue3
  t4 := Tryz.underlying4
  a4 := Tryz.isAgg4
  z4 := Tryz.sizeOf4
  v4 := Tryz.zeroValue4
  t9 := Tryz.underlying9
  a9 := Tryz.isAgg9
  z9 := Tryz.sizeOf9
  v9 := Tryz.zeroValue9
  t20 := Tryz.underlying20
  a20 := Tryz.isAgg20
  z20 := Tryz.sizeOf20
  v20 := Tryz.zeroValue20
  t31 := Tryz.underlying35
  a31 := Tryz.isAgg35
  z31 := Tryz.sizeOf35
  v31 := Tryz.zeroValue35
  t37 := Tryz.underlying200
  a37 := Tryz.isAgg200
  z37 := Tryz.sizeOf200
  v37 := Tryz.zeroValue200
  t70 := Tryz.underlying199
  a70 := Tryz.isAgg199
  z70 := Tryz.sizeOf199
  v70 := Tryz.zeroValue199
  t72 := Tryz.underlying202
  a72 := Tryz.isAgg202
  z72 := Tryz.sizeOf202
  v72 := Tryz.zeroValue202
  t75 := Tryz.underlying205
  a75 := Tryz.isAgg205
  z75 := Tryz.sizeOf205
  v75 := Tryz.zeroValue205
  t76 := Tryz.underlying206
  a76 := Tryz.isAgg206
  z76 := Tryz.sizeOf206
  v76 := Tryz.zeroValue206
  t127 := Tryz.underlying284
  a127 := Tryz.isAgg284
  z127 := Tryz.sizeOf284
  v127 := Tryz.zeroValue284
  t164 := Tryz.underlying325
  a164 := Tryz.isAgg325
  z164 := Tryz.sizeOf325
  v164 := Tryz.zeroValue325 }
theorem Tryz.Builder_Extra_156 : Builder.Extra Tryz.prog Tryz.lays156_ren := {
  sizeBuilder := by kernel_rfl
  liesBuilder := by kernel_rfl
  t5 := Tryz.underlying5
  a5 := Tryz.isAgg5
  z5 := Tryz.sizeOf5
  v5 := Tryz.zeroValue5
  infoByte := by kernel_rfl
  cellsByte := by kernel_rfl
  sizeByte := by kernel_rfl
  neB5 := by decide }
def Tryz.lays105_ren : Go.Shelf.Ren := ⟨fun | 105 => 193 | 212 => 249 | 99 => 250 | 165 => 116 | 166 => 117 | 170 => 251 | 169 => 118 | 263 => 293 | 264 => 294 | 206 => 295 | 240 => 189 | 241 => 190 | 276 => 246 | 277 => 247 | n => n, fun | 9 => 9 | 3 => 3 | 4 => 4 | 20 => 20 | 0 => 0 | 46 => 309 | 109 => 330 | 5 => 5 | 72 => 202 | 76 => 206 | 51 => 352 | 146 => 356 | 53 => 320 | 148 => 371 | 70 => 199 | 37 => 200 | 75 => 205 | 127 => 284 | 164 => 325 | 80 => 43 | n => n, fun | n => n⟩
theorem Tryz.lays105 : Go.Proofs.Lays.n105 Tryz.prog Tryz.lays105_ren := {
  mixed := by kernel_rfl
  f99 := Tryz.func250.trans (congrArg some (by kernel_rfl))
  f105 := Tryz.func193.trans (congrArg some (by kernel_rfl))
  f165 := Tryz.func116.trans (congrArg some (by kernel_rfl))
  f166 := Tryz.func117.trans (congrArg some (by kernel_rfl))
  f169 := Tryz.func118.trans (congrArg some (by kernel_rfl))
  f170 := Tryz.func251.trans (congrArg some (by kernel_rfl))
  f206 := Tryz.func295.trans (congrArg some (by kernel_rfl))
  f212 := Tryz.func249.trans (congrArg some (by kernel_rfl))
  f240 := Tryz.func189.trans (congrArg some (by kernel_rfl))
  f241 := Tryz.func190.trans (congrArg some (by kernel_rfl))
  f263 := Tryz.func293.trans (congrArg some (by kernel_rfl))
  f264 := Tryz.func294.trans (congrArg some (by kernel_rfl))
  f276 := Tryz.func246.trans (congrArg some (by kernel_rfl))
  f277 := Tryz.func247.trans (congrArg some (by kernel_rfl))
  t0 := Tryz.underlying0
  a0 := Tryz.isAgg0
  z0 := Tryz.sizeOf0
  v0 := Tryz.zeroValue0
  t3 := Tryz.underlying3
  a3 := Tryz.isAgg3
  z3 := Tryz.sizeOf3
  v3 := Tryz.zeroValue3
  t4 := Tryz.underlying4
  a4 := Tryz.isAgg4
  z4 := Tryz.sizeOf4
  v4 := Tryz.zeroValue4
  t5 := Tryz.underlying5
  a5 := Tryz.isAgg5
  z5 := Tryz.sizeOf5
  v5 := Tryz.zeroValue5
  t9 := Tryz.underlying9
  a9 := Tryz.isAgg9
  z9 := Tryz.sizeOf9
  v9 := Tryz.zeroValue9
  t20 := Tryz.underlying20
  a20 := Tryz.isAgg20
  z20 := Tryz.sizeOf20
  v20 := Tryz.zeroValue20
  t37 := Tryz.underlying200
  a37 := Tryz.isAgg200
  z37 := Tryz.sizeOf200
  v37 := Tryz.zeroValue200
  t46 := Tryz.underlying309
  a46 := Tryz.isAgg309
  z46 := Tryz.sizeOf309
  v46 := Tryz.zeroValue309
  t51 := Tryz.underlying352
  a51 := Tryz.isAgg352
  z51 := Tryz.sizeOf352
  v51 := Tryz.zeroValue352
  t53 := Tryz.underlying320
  a53 := Tryz.isAgg320
  z53 := Tryz.sizeOf320
  v53 := Tryz.zeroValue320
  t70 := Tryz.underlying199
  a70 := Tryz.isAgg199
  z70 := Tryz.sizeOf199
  v70 := Tryz.zeroValue199
  t72 := Tryz.underlying202
  a72 := Tryz.isAgg202
  z72 := Tryz.sizeOf202
  v72 := Tryz.zeroValue202
  t75 := Tryz.underlying205
  a75 := Tryz.isAgg205
  z75 := Tryz.sizeOf205
  v75 := Tryz.zeroValue205
  t76 := Tryz.underlying206
  a76 := Tryz.isAgg206
  z76 := Tryz.sizeOf206
  v76 := Tryz.zeroValue206
  t109 := Tryz.underlying330
  a109 := Tryz.isAgg330
  z109 := Tryz.sizeOf330
  v109 := Tryz.zeroValue330
  t127 := Tryz.underlying284
  a127 := Tryz.isAgg284
  z127 := Tryz.sizeOf284
  v127 := Tryz.zeroValue284
  t146 := Tryz.underlying356
  a146 := Tryz.isAgg356
  z146 := Tryz.sizeOf356
  v146 := Tryz.zeroValue356
  t148 := Tryz.underlying371
  a148 := Tryz.isAgg371
  z148 := Tryz.sizeOf371
  v148 := Tryz.zeroValue371
  t164 := Tryz.underlying325
  a164 := Tryz.isAgg325
  z164 := Tryz.sizeOf325
  v164 := Tryz.zeroValue325 }
theorem Tryz.Builder_Extra_105 : Builder.Extra Tryz.prog Tryz.lays105_ren := {
  sizeBuilder := by kernel_rfl
  liesBuilder := by kernel_rfl
  t5 := Tryz.underlying5
  a5 := Tryz.isAgg5
  z5 := Tryz.sizeOf5
  v5 := Tryz.zeroValue5
  infoByte := by kernel_rfl
  cellsByte := by kernel_rfl
  sizeByte := by kernel_rfl
  neB5 := by decide }
def Tryz.lays217_ren : Go.Shelf.Ren := ⟨fun | 217 => 229 | 266 => 279 | n => n, fun | 9 => 9 | 5 => 5 | 3 => 3 | n => n, fun | n => n⟩
theorem Tryz.lays217 : Go.Proofs.Lays.n217 Tryz.prog Tryz.lays217_ren := {
  mixed := by kernel_rfl
  f217 := Tryz.func229.trans (congrArg some (by kernel_rfl))
  f266 := Tryz.func279.trans (congrArg some (by kernel_rfl))
  t3 := Tryz.underlying3
  a3 := Tryz.isAgg3
  z3 := Tryz.sizeOf3
  v3 := Tryz.zeroValue3
  t5 := Tryz.underlying5
  a5 := Tryz.isAgg5
  z5 := Tryz.sizeOf5
  v5 := Tryz.zeroValue5
  t9 := Tryz.underlying9
  a9 := Tryz.isAgg9
  z9 := Tryz.sizeOf9
  v9 := Tryz.zeroValue9 }
def Tryz.lays207_ren : Go.Shelf.Ren := ⟨fun | 207 => 252 | n => n, fun | 9 => 9 | 4 => 4 | 3 => 3 | n => n, fun | n => n⟩
theorem Tryz.lays207 : Go.Proofs.Lays.n207 Tryz.prog Tryz.lays207_ren := {
  mixed := by kernel_rfl
  f207 := Tryz.func252.trans (congrArg some (by kernel_rfl))
  t3 := Tryz.underlying3
  a3 := Tryz.isAgg3
  z3 := Tryz.sizeOf3
  v3 := Tryz.zeroValue3
  t4 := Tryz.underlying4
  a4 := Tryz.isAgg4
  z4 := Tryz.sizeOf4
  v4 := Tryz.zeroValue4
  t9 := Tryz.underlying9
  a9 := Tryz.isAgg9
  z9 := Tryz.sizeOf9
  v9 := Tryz.zeroValue9 }
def Tryz.layCloneR_ren : Go.Shelf.Ren := ⟨fun | 41 => 126 | n => n, fun | 22 => 49 | 23 => 218 | 4 => 4 | n => n, fun | n => n⟩
theorem Tryz.layCloneR : Go.Proofs.SlLaysE0.n41 Tryz.prog Tryz.layCloneR_ren := {
  mixed := by kernel_rfl
  f41 := ⟨Tryz.f126.name, by decide, Tryz.func126.trans (congrArg some (by kernel_rfl))⟩
  t4 := Tryz.underlying4
  a4 := Tryz.isAgg4
  z4 := Tryz.sizeOf4
  v4 := Tryz.zeroValue4
  t22 := Tryz.underlying49
  a22 := Tryz.isAgg49
  z22 := Tryz.sizeOf49
  v22 := Tryz.zeroValue49 }
def Tryz.layCloneC_ren : Go.Shelf.Ren := ⟨fun | 41 => 127 | n => n, fun | 22 => 50 | 23 => 183 | 4 => 4 | n => n, fun | n => n⟩
theorem Tryz.layCloneC : Go.Proofs.SlLaysE0.n41 Tryz.prog Tryz.layCloneC_ren := {
  mixed := by kernel_rfl
  f41 := ⟨Tryz.f127.name, by decide, Tryz.func127.trans (congrArg some (by kernel_rfl))⟩
  t4 := Tryz.underlying4
  a4 := Tryz.isAgg4
  z4 := Tryz.sizeOf4
  v4 := Tryz.zeroValue4
  t22 := Tryz.underlying50
  a22 := Tryz.isAgg50
  z22 := Tryz.sizeOf50
  v22 := Tryz.zeroValue50 }
end Go.Proofs
