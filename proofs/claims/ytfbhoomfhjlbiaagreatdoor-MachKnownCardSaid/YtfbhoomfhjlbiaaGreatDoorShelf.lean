/- The shelf's contracts that this seat's functions call, laid at its numbers (written by the kit's tools, cut to what is wanted). -/
import Derived.Shelf.Strings.Builder1
import Derived.Shelf.Strings.Builder2
import Derived.Shelf.Strings.OnBuilder
import Derived.Shelf.Strings.Trim
import Derived.Shelf.Small.Utf8
import Derived.Shelf.Small.Strs
import Derived.Shelf.Utf8.RuneCount
import Derived.Shelf.Strconv.Itoa0
import Derived.Shelf.Strconv.Itoa1
import Derived.Shelf.LaysM
import Derived.Shelf.Strconv.Itoa2
import Derived.Shelf.Strconv.Itoa3
import Derived.Shelf.Strconv.ParseIntEmpty
import Derived.Shelf.Strconv.Clone
import Derived.Shelf.Strconv.SyntaxError
import Derived.Shelf.LaysC
import Derived.Shelf.Strconv.ToError
import Derived.Shelf.Strconv.Lower
import Derived.Shelf.Strconv.ParseUint10
import Derived.Shelf.Strconv.ParseUint10Empty
import Derived.Shelf.Strconv.ParseUint10Any
import Derived.Shelf.Strconv.ParseInt10
import Derived.Shelf.Strconv.RangeError
import Derived.Shelf.Strconv.ToErrorRange
import Derived.Shelf.Strconv.ParseUintEmpty
import Derived.Shelf.Strconv.ParseUint10b64
import Derived.Shelf.Strconv.ParseUint10b32
import Derived.Shelf.Strconv.ParseUint10b16
import Derived.Shelf.Strconv.ParseUint10b8
import Derived.Shelf.Strconv.ParseUint10At
import Derived.Shelf.Strconv.ParseInt10At64
import Derived.Shelf.Strconv.ParseInt10At32
import Derived.Shelf.Strconv.ParseInt10At16
import Derived.Shelf.Strconv.ParseInt10At8
import Derived.Shelf.Strconv.ParseInt10All
import Derived.Shelf.Strconv.ParseIntPublic10
import Derived.Shelf.Strconv.ErrVarParseInt
import Derived.Shelf.Strings.Search1
import Derived.Shelf.Strings.Search2
import Derived.Shelf.Strings.Search3
import Derived.Shelf.Strings.Count
import Derived.Shelf.Strings.Shaped
import Derived.Shelf.Strings.Prefix
import Derived.Shelf.Strings.Split
import Derived.Shelf.Strings.SplitShaped
import Derived.Shelf.Unicode.Decode
import Derived.Shelf.Strings.Runes
import Derived.Shelf.Strings.RuneCount
import Derived.Shelf.Strings.AsciiSet
import Derived.Shelf.Strings.Explode
import Derived.Shelf.Unicode.DecodeSlow
import Derived.Shelf.Unicode.DecodeAny
import Derived.Shelf.Unicode.DecodeLast
import Derived.Ground.Names2Prog
import Derived.Shelf.Slices.SearchI
import Derived.Ground.SlgnProg
import Derived.Shelf.SlicesE.Clone
import Derived.Test.YtfbhoomfhjlbiaaGreatDoorProg
namespace Go.Proofs
open Go.Shelf Go.RowKit Go.Sort
def Tryz.lays156_ren : Go.Shelf.Ren := ⟨fun | 156 => 284 | 165 => 337 | 166 => 338 | 169 => 339 | 240 => 372 | 241 => 373 | 276 => 387 | 277 => 388 | n => n, fun | 31 => 35 | 9 => 9 | 3 => 3 | 4 => 4 | 0 => 0 | 20 => 20 | 72 => 429 | 76 => 431 | 70 => 427 | 37 => 323 | 75 => 371 | 127 => 459 | 164 => 469 | 5 => 5 | 80 => 339 | n => n, fun | n => n⟩
theorem Tryz.lays156 : Go.Proofs.Lays.n156 Tryz.prog Tryz.lays156_ren := {
  mixed := by kernel_rfl
  f156 := Tryz.func284.trans (congrArg some (by kernel_rfl))
  f165 := Tryz.func337.trans (congrArg some (by kernel_rfl))
  f166 := Tryz.func338.trans (congrArg some (by kernel_rfl))
  f169 := Tryz.func339.trans (congrArg some (by kernel_rfl))
  f240 := Tryz.func372.trans (congrArg some (by kernel_rfl))
  f241 := Tryz.func373.trans (congrArg some (by kernel_rfl))
  f276 := Tryz.func387.trans (congrArg some (by kernel_rfl))
  f277 := Tryz.func388.trans (congrArg some (by kernel_rfl))
  t0 := Tryz.underlying0
  a0 := Tryz.isAgg0
  z0 := Tryz.sizeOf0
  v0 := Tryz.zeroValue0
  t3 := Tryz.underlying3
  a3 := Tryz.isAgg3
  z3 := Tryz.sizeOf3
  v3 := Tryz.zeroValue3
  t4 := Tryz.underlying4
  a4 := Tryz.isAgg4
  z4 := Tryz.sizeOf4
  v4 := Tryz.zeroValue4
  t9 := Tryz.underlying9
  a9 := Tryz.isAgg9
  z9 := Tryz.sizeOf9
  v9 := Tryz.zeroValue9
  t20 := Tryz.underlying20
  a20 := Tryz.isAgg20
  z20 := Tryz.sizeOf20
  v20 := Tryz.zeroValue20
  t31 := Tryz.underlying35
  a31 := Tryz.isAgg35
  z31 := Tryz.sizeOf35
  v31 := Tryz.zeroValue35
  t37 := Tryz.underlying323
  a37 := Tryz.isAgg323
  z37 := Tryz.sizeOf323
  v37 := Tryz.zeroValue323
  t70 := Tryz.underlying427
  a70 := Tryz.isAgg427
  z70 := Tryz.sizeOf427
  v70 := Tryz.zeroValue427
  t72 := Tryz.underlying429
  a72 := Tryz.isAgg429
  z72 := Tryz.sizeOf429
  v72 := Tryz.zeroValue429
  t75 := Tryz.underlying371
  a75 := Tryz.isAgg371
  z75 := Tryz.sizeOf371
  v75 := Tryz.zeroValue371
  t76 := Tryz.underlying431
  a76 := Tryz.isAgg431
  z76 := Tryz.sizeOf431
  v76 := Tryz.zeroValue431
  t127 := Tryz.underlying459
  a127 := Tryz.isAgg459
  z127 := Tryz.sizeOf459
  v127 := Tryz.zeroValue459
  t164 := Tryz.underlying469
  a164 := Tryz.isAgg469
  z164 := Tryz.sizeOf469
  v164 := Tryz.zeroValue469 }
theorem Tryz.Builder_Extra_156 : Builder.Extra Tryz.prog Tryz.lays156_ren := {
  sizeBuilder := by kernel_rfl
  liesBuilder := by kernel_rfl
  t5 := Tryz.underlying5
  a5 := Tryz.isAgg5
  z5 := Tryz.sizeOf5
  v5 := Tryz.zeroValue5
  infoByte := by kernel_rfl
  cellsByte := by kernel_rfl
  sizeByte := by kernel_rfl
  neB5 := by decide }
theorem Tryz.strings_Join_none (a : Option Addr) (c : Nat) (sep : ByteArray) (w : World) :
    Calls Tryz.prog 284 #[.slice a 0 c, .string sep] w fun e w' => e = .returned (.string ⟨#[]⟩) ∧ w' = w := Any.strings_Join_none Tryz.lays156 Tryz.Builder_Extra_156 a c sep w
theorem Tryz.strings_Join (bk o c : Nat) (xs : List ByteArray) (sep : ByteArray) (w : World) (hcells : ∀ (j : Nat) x, xs[j]? = some x → w.cell? ⟨bk, o + j, none⟩ = some (.string x)) (hbk : bk < w.heap.size) (hN : xs.length ≤ 140737488355328) (hcap : xs.length ≤ c) (hlen : (Lib.join (xs.map (·.data.toList)) sep.data.toList).length ≤ 140737488355328) :
    Calls Tryz.prog 284 #[.slice (some ⟨bk, o, none⟩) xs.length c, .string sep] w fun e w' => e = .returned (.string ⟨(Lib.join (xs.map (·.data.toList)) sep.data.toList).toArray⟩) ∧ Below w.heap.size w w' := Any.strings_Join Tryz.lays156 Tryz.Builder_Extra_156 bk o c xs sep w hcells hbk hN hcap hlen
def Tryz.lays160_ren : Go.Shelf.Ren := ⟨fun | 160 => 153 | 232 => 195 | 231 => 194 | 227 => 196 | 234 => 198 | 233 => 197 | 236 => 200 | 235 => 199 | 228 => 251 | 271 => 254 | 151 => 253 | 197 => 252 | 120 => 308 | 152 => 307 | 260 => 306 | 137 => 206 | 119 => 356 | 224 => 245 | 225 => 244 | 217 => 243 | 266 => 299 | n => n, fun | 9 => 9 | 4 => 4 | 3 => 3 | 5 => 5 | 117 => 328 | 116 => 327 | 0 => 0 | 124 => 331 | 21 => 21 | 105 => 366 | 46 => 361 | 119 => 445 | 139 => 448 | 138 => 447 | n => n, fun | 3 => 2 | 4 => 3 | n => n⟩
theorem Tryz.lays160 : Go.Proofs.Lays.n160 Tryz.prog Tryz.lays160_ren := {
  mixed := by kernel_rfl
  f119 := Tryz.func356.trans (congrArg some (by kernel_rfl))
  f120 := Tryz.func308.trans (congrArg some (by kernel_rfl))
  f137 := Tryz.func206.trans (congrArg some (by kernel_rfl))
  f151 := Tryz.func253.trans (congrArg some (by kernel_rfl))
  f152 := Tryz.func307.trans (congrArg some (by kernel_rfl))
  f160 := Tryz.func153.trans (congrArg some (by kernel_rfl))
  f197 := Tryz.func252.trans (congrArg some (by kernel_rfl))
  f217 := Tryz.func243.trans (congrArg some (by kernel_rfl))
  f224 := Tryz.func245.trans (congrArg some (by kernel_rfl))
  f225 := Tryz.func244.trans (congrArg some (by kernel_rfl))
  f227 := Tryz.func196.trans (congrArg some (by kernel_rfl))
  f228 := Tryz.func251.trans (congrArg some (by kernel_rfl))
  f231 := Tryz.func194.trans (congrArg some (by kernel_rfl))
  f232 := Tryz.func195.trans (congrArg some (by kernel_rfl))
  f233 := Tryz.func197.trans (congrArg some (by kernel_rfl))
  f234 := Tryz.func198.trans (congrArg some (by kernel_rfl))
  f235 := Tryz.func199.trans (congrArg some (by kernel_rfl))
  f236 := Tryz.func200.trans (congrArg some (by kernel_rfl))
  f260 := Tryz.func306.trans (congrArg some (by kernel_rfl))
  f266 := Tryz.func299.trans (congrArg some (by kernel_rfl))
  f271 := Tryz.func254.trans (congrArg some (by kernel_rfl))
  t0 := Tryz.underlying0
  a0 := Tryz.isAgg0
  z0 := Tryz.sizeOf0
  v0 := Tryz.zeroValue0
  t3 := Tryz.underlying3
  a3 := Tryz.isAgg3
  z3 := Tryz.sizeOf3
  v3 := Tryz.zeroValue3
  t4 := Tryz.underlying4
  a4 := Tryz.isAgg4
  z4 := Tryz.sizeOf4
  v4 := Tryz.zeroValue4
  t5 := Tryz.underlying5
  a5 := Tryz.isAgg5
  z5 := Tryz.sizeOf5
  v5 := Tryz.zeroValue5
  t9 := Tryz.underlying9
  a9 := Tryz.isAgg9
  z9 := Tryz.sizeOf9
  v9 := Tryz.zeroValue9
  t21 := Tryz.underlying21
  a21 := Tryz.isAgg21
  z21 := Tryz.sizeOf21
  v21 := Tryz.zeroValue21
  t46 := Tryz.underlying361
  a46 := Tryz.isAgg361
  z46 := Tryz.sizeOf361
  v46 := Tryz.zeroValue361
  t105 := Tryz.underlying366
  a105 := Tryz.isAgg366
  z105 := Tryz.sizeOf366
  v105 := Tryz.zeroValue366
  t116 := Tryz.underlying327
  a116 := Tryz.isAgg327
  z116 := Tryz.sizeOf327
  t117 := Tryz.underlying328
  a117 := Tryz.isAgg328
  z117 := Tryz.sizeOf328
  v117 := Tryz.zeroValue328
  t119 := Tryz.underlying445
  a119 := Tryz.isAgg445
  z119 := Tryz.sizeOf445
  t124 := Tryz.underlying331
  a124 := Tryz.isAgg331
  z124 := Tryz.sizeOf331
  v124 := Tryz.zeroValue331
  t138 := Tryz.underlying447
  a138 := Tryz.isAgg447
  z138 := Tryz.sizeOf447
  v138 := Tryz.zeroValue447
  t139 := Tryz.underlying448
  a139 := Tryz.isAgg448
  z139 := Tryz.sizeOf448
  v139 := Tryz.zeroValue448
  g3 := by kernel_rfl
  g4 := by kernel_rfl }
def Tryz.lays137_ren : Go.Shelf.Ren := ⟨fun | 137 => 206 | 217 => 243 | 266 => 299 | n => n, fun | 9 => 9 | 5 => 5 | 3 => 3 | n => n, fun | n => n⟩
theorem Tryz.lays137 : Go.Proofs.Lays.n137 Tryz.prog Tryz.lays137_ren := {
  mixed := by kernel_rfl
  f137 := Tryz.func206.trans (congrArg some (by kernel_rfl))
  f217 := Tryz.func243.trans (congrArg some (by kernel_rfl))
  f266 := Tryz.func299.trans (congrArg some (by kernel_rfl))
  t3 := Tryz.underlying3
  a3 := Tryz.isAgg3
  z3 := Tryz.sizeOf3
  v3 := Tryz.zeroValue3
  t5 := Tryz.underlying5
  a5 := Tryz.isAgg5
  z5 := Tryz.sizeOf5
  v5 := Tryz.zeroValue5
  t9 := Tryz.underlying9
  a9 := Tryz.isAgg9
  z9 := Tryz.sizeOf9
  v9 := Tryz.zeroValue9 }
theorem Tryz.strings_IndexByte (s : ByteArray) (c : Int) (w : World) :
    Calls Tryz.prog 206 #[.string s, .int .u8 c] w fun e w' => e = .returned (.int .i64 (Lib.indexByte s.data.toList c.toNat.toUInt8)) ∧ w' = w := Any.strings_IndexByte Tryz.lays137 s c w
def Tryz.lays246_ren : Go.Shelf.Ren := ⟨fun | 246 => 193 | 283 => 247 | 284 => 248 | 285 => 249 | 286 => 250 | 129 => 302 | 317 => 301 | 318 => 303 | 319 => 304 | 320 => 305 | 337 => 354 | 338 => 355 | n => n, fun | 2 => 2 | 3 => 3 | 9 => 9 | 4 => 4 | 171 => 362 | 0 => 0 | 53 => 31 | 37 => 323 | 5 => 5 | 173 => 364 | 212 => 407 | 51 => 403 | 20 => 20 | 213 => 408 | 46 => 361 | 232 => 461 | 233 => 462 | n => n, fun | 17 => 1 | 18 => 4 | 19 => 5 | n => n⟩
theorem Tryz.lays246 : Go.Proofs.Lays.n246 Tryz.prog Tryz.lays246_ren := {
  mixed := by kernel_rfl
  f129 := Tryz.func302.trans (congrArg some (by kernel_rfl))
  f246 := Tryz.func193.trans (congrArg some (by kernel_rfl))
  f283 := Tryz.func247.trans (congrArg some (by kernel_rfl))
  f284 := Tryz.func248.trans (congrArg some (by kernel_rfl))
  f285 := Tryz.func249.trans (congrArg some (by kernel_rfl))
  f286 := Tryz.func250.trans (congrArg some (by kernel_rfl))
  f317 := Tryz.func301.trans (congrArg some (by kernel_rfl))
  f318 := Tryz.func303.trans (congrArg some (by kernel_rfl))
  f319 := Tryz.func304.trans (congrArg some (by kernel_rfl))
  f320 := Tryz.func305.trans (congrArg some (by kernel_rfl))
  f337 := Tryz.func354.trans (congrArg some (by kernel_rfl))
  f338 := Tryz.func355.trans (congrArg some (by kernel_rfl))
  t0 := Tryz.underlying0
  a0 := Tryz.isAgg0
  z0 := Tryz.sizeOf0
  v0 := Tryz.zeroValue0
  t2 := Tryz.underlying2
  a2 := Tryz.isAgg2
  z2 := Tryz.sizeOf2
  v2 := Tryz.zeroValue2
  t3 := Tryz.underlying3
  a3 := Tryz.isAgg3
  z3 := Tryz.sizeOf3
  v3 := Tryz.zeroValue3
  t4 := Tryz.underlying4
  a4 := Tryz.isAgg4
  z4 := Tryz.sizeOf4
  v4 := Tryz.zeroValue4
  t5 := Tryz.underlying5
  a5 := Tryz.isAgg5
  z5 := Tryz.sizeOf5
  v5 := Tryz.zeroValue5
  t9 := Tryz.underlying9
  a9 := Tryz.isAgg9
  z9 := Tryz.sizeOf9
  v9 := Tryz.zeroValue9
  t20 := Tryz.underlying20
  a20 := Tryz.isAgg20
  z20 := Tryz.sizeOf20
  v20 := Tryz.zeroValue20
  t37 := Tryz.underlying323
  a37 := Tryz.isAgg323
  z37 := Tryz.sizeOf323
  v37 := Tryz.zeroValue323
  t46 := Tryz.underlying361
  a46 := Tryz.isAgg361
  z46 := Tryz.sizeOf361
  v46 := Tryz.zeroValue361
  t51 := Tryz.underlying403
  a51 := Tryz.isAgg403
  z51 := Tryz.sizeOf403
  v51 := Tryz.zeroValue403
  t53 := Tryz.underlying31
  a53 := Tryz.isAgg31
  z53 := Tryz.sizeOf31
  v53 := Tryz.zeroValue31
  t171 := Tryz.underlying362
  a171 := Tryz.isAgg362
  z171 := Tryz.sizeOf362
  v171 := Tryz.zeroValue362
  t173 := Tryz.underlying364
  a173 := Tryz.isAgg364
  z173 := Tryz.sizeOf364
  v173 := Tryz.zeroValue364
  t212 := Tryz.underlying407
  a212 := Tryz.isAgg407
  z212 := Tryz.sizeOf407
  v212 := Tryz.zeroValue407
  t213 := Tryz.underlying408
  a213 := Tryz.isAgg408
  z213 := Tryz.sizeOf408
  t232 := Tryz.underlying461
  a232 := Tryz.isAgg461
  z232 := Tryz.sizeOf461
  v232 := Tryz.zeroValue461
  t233 := Tryz.underlying462
  a233 := Tryz.isAgg462
  z233 := Tryz.sizeOf462
  v233 := Tryz.zeroValue462
  g17 := by kernel_rfl
  g18 := by kernel_rfl
  g19 := by kernel_rfl }
theorem Tryz.internal_strconv_FormatInt_10_small (i : Nat) (hi : i < 100) (w : World) :
    Calls Tryz.prog 193 #[.int .i64 i, .int .i64 10] w fun e w' => e = .returned (.string ⟨(Lib.decDigits i).toArray⟩) ∧ w' = w := Any.internal_strconv_FormatInt_10_small Tryz.lays246 i hi w
def Tryz.lays171_ren : Go.Shelf.Ren := ⟨fun | 171 => 106 | 243 => 152 | 246 => 193 | 283 => 247 | 284 => 248 | 285 => 249 | 286 => 250 | 129 => 302 | 317 => 301 | 318 => 303 | 319 => 304 | 320 => 305 | 337 => 354 | 338 => 355 | n => n, fun | 3 => 3 | 9 => 9 | 2 => 2 | 4 => 4 | 171 => 362 | 0 => 0 | 53 => 31 | 37 => 323 | 5 => 5 | 173 => 364 | 212 => 407 | 51 => 403 | 20 => 20 | 213 => 408 | 46 => 361 | 232 => 461 | 233 => 462 | n => n, fun | 17 => 1 | 18 => 4 | 19 => 5 | n => n⟩
theorem Tryz.lays171 : Go.Proofs.Lays.n171 Tryz.prog Tryz.lays171_ren := {
  mixed := by kernel_rfl
  f129 := Tryz.func302.trans (congrArg some (by kernel_rfl))
  f171 := Tryz.func106.trans (congrArg some (by kernel_rfl))
  f243 := Tryz.func152.trans (congrArg some (by kernel_rfl))
  f246 := Tryz.func193.trans (congrArg some (by kernel_rfl))
  f283 := Tryz.func247.trans (congrArg some (by kernel_rfl))
  f284 := Tryz.func248.trans (congrArg some (by kernel_rfl))
  f285 := Tryz.func249.trans (congrArg some (by kernel_rfl))
  f286 := Tryz.func250.trans (congrArg some (by kernel_rfl))
  f317 := Tryz.func301.trans (congrArg some (by kernel_rfl))
  f318 := Tryz.func303.trans (congrArg some (by kernel_rfl))
  f319 := Tryz.func304.trans (congrArg some (by kernel_rfl))
  f320 := Tryz.func305.trans (congrArg some (by kernel_rfl))
  f337 := Tryz.func354.trans (congrArg some (by kernel_rfl))
  f338 := Tryz.func355.trans (congrArg some (by kernel_rfl))
  t0 := Tryz.underlying0
  a0 := Tryz.isAgg0
  z0 := Tryz.sizeOf0
  v0 := Tryz.zeroValue0
  t2 := Tryz.underlying2
  a2 := Tryz.isAgg2
  z2 := Tryz.sizeOf2
  v2 := Tryz.zeroValue2
  t3 := Tryz.underlying3
  a3 := Tryz.isAgg3
  z3 := Tryz.sizeOf3
  v3 := Tryz.zeroValue3
  t4 := Tryz.underlying4
  a4 := Tryz.isAgg4
  z4 := Tryz.sizeOf4
  v4 := Tryz.zeroValue4
  t5 := Tryz.underlying5
  a5 := Tryz.isAgg5
  z5 := Tryz.sizeOf5
  v5 := Tryz.zeroValue5
  t9 := Tryz.underlying9
  a9 := Tryz.isAgg9
  z9 := Tryz.sizeOf9
  v9 := Tryz.zeroValue9
  t20 := Tryz.underlying20
  a20 := Tryz.isAgg20
  z20 := Tryz.sizeOf20
  v20 := Tryz.zeroValue20
  t37 := Tryz.underlying323
  a37 := Tryz.isAgg323
  z37 := Tryz.sizeOf323
  v37 := Tryz.zeroValue323
  t46 := Tryz.underlying361
  a46 := Tryz.isAgg361
  z46 := Tryz.sizeOf361
  v46 := Tryz.zeroValue361
  t51 := Tryz.underlying403
  a51 := Tryz.isAgg403
  z51 := Tryz.sizeOf403
  v51 := Tryz.zeroValue403
  t53 := Tryz.underlying31
  a53 := Tryz.isAgg31
  z53 := Tryz.sizeOf31
  v53 := Tryz.zeroValue31
  t171 := Tryz.underlying362
  a171 := Tryz.isAgg362
  z171 := Tryz.sizeOf362
  v171 := Tryz.zeroValue362
  t173 := Tryz.underlying364
  a173 := Tryz.isAgg364
  z173 := Tryz.sizeOf364
  v173 := Tryz.zeroValue364
  t212 := Tryz.underlying407
  a212 := Tryz.isAgg407
  z212 := Tryz.sizeOf407
  v212 := Tryz.zeroValue407
  t213 := Tryz.underlying408
  a213 := Tryz.isAgg408
  z213 := Tryz.sizeOf408
  t232 := Tryz.underlying461
  a232 := Tryz.isAgg461
  z232 := Tryz.sizeOf461
  v232 := Tryz.zeroValue461
  t233 := Tryz.underlying462
  a233 := Tryz.isAgg462
  z233 := Tryz.sizeOf462
  v233 := Tryz.zeroValue462
  g17 := by kernel_rfl
  g18 := by kernel_rfl
  g19 := by kernel_rfl }
theorem Tryz.strconv_Itoa_small (i : Nat) (hi : i < 100) (w : World) :
    Calls Tryz.prog 106 #[.int .i64 i] w fun e w' => e = .returned (.string ⟨(Lib.decDigits i).toArray⟩) ∧ w' = w := Any.strconv_Itoa_small Tryz.lays171 i hi w
def Tryz.laysC174_ren : Go.Shelf.Ren := ⟨fun | 174 => 257 | 247 => 310 | 245 => 311 | 287 => 357 | 279 => 358 | 280 => 359 | 281 => 360 | 282 => 361 | 321 => 376 | 322 => 377 | 316 => 378 | 171 => 106 | 205 => 379 | 243 => 152 | 246 => 193 | 283 => 247 | 284 => 248 | 285 => 249 | 286 => 250 | 129 => 302 | 317 => 301 | 318 => 303 | 319 => 304 | 320 => 305 | 337 => 354 | 338 => 355 | n => n, fun | 9 => 9 | 3 => 3 | 2 => 2 | 75 => 371 | 85 => 372 | 4 => 4 | 167 => 450 | 5 => 5 | 53 => 31 | 175 => 451 | 46 => 361 | 168 => 453 | 37 => 323 | 0 => 0 | 210 => 465 | 21 => 21 | 127 => 459 | 145 => 476 | 143 => 474 | 171 => 362 | 173 => 364 | 212 => 407 | 51 => 403 | 20 => 20 | 213 => 408 | 232 => 461 | 233 => 462 | 80 => 339 | n => n, fun | 15 => 6 | 16 => 7 | 17 => 1 | 18 => 4 | 19 => 5 | n => n⟩
theorem Tryz.laysC174 : Go.Proofs.LaysC.n174 Tryz.prog Tryz.laysC174_ren := {
  mixed := by kernel_rfl
  f129 := Tryz.func302.trans (congrArg some (by kernel_rfl))
  f171 := Tryz.func106.trans (congrArg some (by kernel_rfl))
  f174 := Tryz.func257.trans (congrArg some (by kernel_rfl))
  f205 := Tryz.func379.trans (congrArg some (by kernel_rfl))
  f243 := Tryz.func152.trans (congrArg some (by kernel_rfl))
  f245 := Tryz.func311.trans (congrArg some (by kernel_rfl))
  f246 := Tryz.func193.trans (congrArg some (by kernel_rfl))
  f247 := Tryz.func310.trans (congrArg some (by kernel_rfl))
  f279 := Tryz.func358.trans (congrArg some (by kernel_rfl))
  f280 := Tryz.func359.trans (congrArg some (by kernel_rfl))
  f281 := Tryz.func360.trans (congrArg some (by kernel_rfl))
  f282 := Tryz.func361.trans (congrArg some (by kernel_rfl))
  f283 := Tryz.func247.trans (congrArg some (by kernel_rfl))
  f284 := Tryz.func248.trans (congrArg some (by kernel_rfl))
  f285 := Tryz.func249.trans (congrArg some (by kernel_rfl))
  f286 := Tryz.func250.trans (congrArg some (by kernel_rfl))
  f287 := Tryz.func357.trans (congrArg some (by kernel_rfl))
  f316 := Tryz.func378.trans (congrArg some (by kernel_rfl))
  f317 := Tryz.func301.trans (congrArg some (by kernel_rfl))
  f318 := Tryz.func303.trans (congrArg some (by kernel_rfl))
  f319 := Tryz.func304.trans (congrArg some (by kernel_rfl))
  f320 := Tryz.func305.trans (congrArg some (by kernel_rfl))
  f321 := Tryz.func376.trans (congrArg some (by kernel_rfl))
  f322 := Tryz.func377.trans (congrArg some (by kernel_rfl))
  f337 := Tryz.func354.trans (congrArg some (by kernel_rfl))
  f338 := Tryz.func355.trans (congrArg some (by kernel_rfl))
  t0 := Tryz.underlying0
  a0 := Tryz.isAgg0
  z0 := Tryz.sizeOf0
  v0 := Tryz.zeroValue0
  t2 := Tryz.underlying2
  a2 := Tryz.isAgg2
  z2 := Tryz.sizeOf2
  v2 := Tryz.zeroValue2
  t3 := Tryz.underlying3
  a3 := Tryz.isAgg3
  z3 := Tryz.sizeOf3
  v3 := Tryz.zeroValue3
  t4 := Tryz.underlying4
  a4 := Tryz.isAgg4
  z4 := Tryz.sizeOf4
  v4 := Tryz.zeroValue4
  t5 := Tryz.underlying5
  a5 := Tryz.isAgg5
  z5 := Tryz.sizeOf5
  v5 := Tryz.zeroValue5
  t9 := Tryz.underlying9
  a9 := Tryz.isAgg9
  z9 := Tryz.sizeOf9
  v9 := Tryz.zeroValue9
  t20 := Tryz.underlying20
  a20 := Tryz.isAgg20
  z20 := Tryz.sizeOf20
  v20 := Tryz.zeroValue20
  t21 := Tryz.underlying21
  a21 := Tryz.isAgg21
  z21 := Tryz.sizeOf21
  v21 := Tryz.zeroValue21
  t37 := Tryz.underlying323
  a37 := Tryz.isAgg323
  z37 := Tryz.sizeOf323
  v37 := Tryz.zeroValue323
  t46 := Tryz.underlying361
  a46 := Tryz.isAgg361
  z46 := Tryz.sizeOf361
  v46 := Tryz.zeroValue361
  t51 := Tryz.underlying403
  a51 := Tryz.isAgg403
  z51 := Tryz.sizeOf403
  v51 := Tryz.zeroValue403
  t53 := Tryz.underlying31
  a53 := Tryz.isAgg31
  z53 := Tryz.sizeOf31
  v53 := Tryz.zeroValue31
  t75 := Tryz.underlying371
  a75 := Tryz.isAgg371
  z75 := Tryz.sizeOf371
  v75 := Tryz.zeroValue371
  t85 := Tryz.underlying372
  a85 := Tryz.isAgg372
  z85 := Tryz.sizeOf372
  v85 := Tryz.zeroValue372
  t127 := Tryz.underlying459
  a127 := Tryz.isAgg459
  z127 := Tryz.sizeOf459
  v127 := Tryz.zeroValue459
  t143 := Tryz.underlying474
  a143 := Tryz.isAgg474
  z143 := Tryz.sizeOf474
  v143 := Tryz.zeroValue474
  t145 := Tryz.underlying476
  a145 := Tryz.isAgg476
  z145 := Tryz.sizeOf476
  v145 := Tryz.zeroValue476
  t167 := Tryz.underlying450
  a167 := Tryz.isAgg450
  z167 := Tryz.sizeOf450
  v167 := Tryz.zeroValue450
  t168 := Tryz.underlying453
  a168 := Tryz.isAgg453
  z168 := Tryz.sizeOf453
  v168 := Tryz.zeroValue453
  t171 := Tryz.underlying362
  a171 := Tryz.isAgg362
  z171 := Tryz.sizeOf362
  v171 := Tryz.zeroValue362
  t173 := Tryz.underlying364
  a173 := Tryz.isAgg364
  z173 := Tryz.sizeOf364
  v173 := Tryz.zeroValue364
  t175 := Tryz.underlying451
  a175 := Tryz.isAgg451
  z175 := Tryz.sizeOf451
  v175 := Tryz.zeroValue451
  t210 := Tryz.underlying465
  a210 := Tryz.isAgg465
  z210 := Tryz.sizeOf465
  v210 := Tryz.zeroValue465
  t212 := Tryz.underlying407
  a212 := Tryz.isAgg407
  z212 := Tryz.sizeOf407
  v212 := Tryz.zeroValue407
  t213 := Tryz.underlying408
  a213 := Tryz.isAgg408
  z213 := Tryz.sizeOf408
  t232 := Tryz.underlying461
  a232 := Tryz.isAgg461
  z232 := Tryz.sizeOf461
  v232 := Tryz.zeroValue461
  t233 := Tryz.underlying462
  a233 := Tryz.isAgg462
  z233 := Tryz.sizeOf462
  v233 := Tryz.zeroValue462
  g15 := by kernel_rfl
  g16 := by kernel_rfl
  g17 := by kernel_rfl
  g18 := by kernel_rfl
  g19 := by kernel_rfl
  t80 := Tryz.underlying339
  a80 := Tryz.isAgg339
  z80 := Tryz.sizeOf339
  v80 := Tryz.zeroValue339
  i0 := by kernel_rfl
  i2 := by kernel_rfl
  i3 := by kernel_rfl
  i4 := by kernel_rfl
  i5 := by kernel_rfl
  i9 := by kernel_rfl
  i20 := by kernel_rfl
  i21 := by kernel_rfl
  i37 := by kernel_rfl
  i46 := by kernel_rfl
  i51 := by kernel_rfl
  i53 := by kernel_rfl
  i75 := by kernel_rfl
  i80 := by kernel_rfl
  i85 := by kernel_rfl
  i127 := by kernel_rfl
  i143 := by kernel_rfl
  i145 := by kernel_rfl
  i167 := by kernel_rfl
  i168 := by kernel_rfl
  i171 := by kernel_rfl
  i173 := by kernel_rfl
  i175 := by kernel_rfl
  i210 := by kernel_rfl
  i212 := by kernel_rfl
  i232 := by kernel_rfl
  i233 := by kernel_rfl
  m15 := by kernel_rfl
  m16 := by kernel_rfl
  m17 := by kernel_rfl
  m18 := by kernel_rfl
  m19 := by kernel_rfl
  c0 := by kernel_rfl
  c2 := by kernel_rfl
  c3 := by kernel_rfl
  c4 := by kernel_rfl
  c5 := by kernel_rfl
  c9 := by kernel_rfl
  c20 := by kernel_rfl
  c21 := by kernel_rfl
  c37 := by kernel_rfl
  c46 := by kernel_rfl
  c51 := by kernel_rfl
  c53 := by kernel_rfl
  c75 := by kernel_rfl
  c80 := by kernel_rfl
  c85 := by kernel_rfl
  c127 := by kernel_rfl
  c143 := by kernel_rfl
  c145 := by kernel_rfl
  c167 := by kernel_rfl
  c168 := by kernel_rfl
  c171 := by kernel_rfl
  c173 := by kernel_rfl
  c175 := by kernel_rfl
  c210 := by kernel_rfl
  c212 := by kernel_rfl
  c213 := by kernel_rfl
  c232 := by kernel_rfl
  c233 := by kernel_rfl }
theorem Tryz.strconv_ParseInt_10_at64_ok (s : ByteArray) (hmax : s.size ≤ 9223372036854775806) (v : Int) (h : Lib.parseIntB 64 s.data.toList = .ok v) (w : World) :
    Calls Tryz.prog 257 #[.string s, .int .i64 10, .int .i64 64] w fun e w' => e = .returned (.tuple #[.int .i64 v, .nilIface]) ∧ (w' = w ∨ ∃ t, w' = Lib.bytesWorld w 5 t) := Any.strconv_ParseInt_10_at64_ok Tryz.laysC174 s hmax v h w
theorem Tryz.strconv_ParseInt_10_at64_range_var (s : ByteArray) (hlim : s.size ≤ 281474976710656) (h : Lib.parseIntB 64 s.data.toList = .range) (tp : TypeId) (p : Value) (w : World) (hvar : w.var? Tryz.prog "strconv.ErrRange" = some #[.iface tp p]) :
    Calls Tryz.prog 257 #[.string s, .int .i64 10, .int .i64 64] w fun e w' => ∃ N, e = .returned (.tuple #[.int .i64 (Lib.intSat 64 s.data.toList), .iface 453 (.pointer (some ⟨N, 0, none⟩))]) ∧ w.heap.size ≤ N ∧ w'.heap[N]? = some (.cells #[.string ⟨#[80, 97, 114, 115, 101, 73, 110, 116]⟩, .string s, .iface tp p] 465 (0, 0)) ∧ Below w.heap.size w w' := Any.strconv_ParseInt_10_at64_range_var Tryz.laysC174 s hlim h tp p w hvar
def Tryz.lays143_ren : Go.Shelf.Ren := ⟨fun | 143 => 151 | 219 => 192 | 217 => 243 | 225 => 244 | 224 => 245 | 267 => 246 | 266 => 299 | 314 => 300 | n => n, fun | 9 => 9 | 3 => 3 | 4 => 4 | 5 => 5 | 46 => 361 | 146 => 404 | 51 => 403 | n => n, fun | 1 => 0 | n => n⟩
theorem Tryz.lays143 : Go.Proofs.Lays.n143 Tryz.prog Tryz.lays143_ren := {
  mixed := by kernel_rfl
  f143 := Tryz.func151.trans (congrArg some (by kernel_rfl))
  f217 := Tryz.func243.trans (congrArg some (by kernel_rfl))
  f219 := Tryz.func192.trans (congrArg some (by kernel_rfl))
  f224 := Tryz.func245.trans (congrArg some (by kernel_rfl))
  f225 := Tryz.func244.trans (congrArg some (by kernel_rfl))
  f266 := Tryz.func299.trans (congrArg some (by kernel_rfl))
  f267 := Tryz.func246.trans (congrArg some (by kernel_rfl))
  f314 := Tryz.func300.trans (congrArg some (by kernel_rfl))
  t3 := Tryz.underlying3
  a3 := Tryz.isAgg3
  z3 := Tryz.sizeOf3
  v3 := Tryz.zeroValue3
  t4 := Tryz.underlying4
  a4 := Tryz.isAgg4
  z4 := Tryz.sizeOf4
  v4 := Tryz.zeroValue4
  t5 := Tryz.underlying5
  a5 := Tryz.isAgg5
  z5 := Tryz.sizeOf5
  v5 := Tryz.zeroValue5
  t9 := Tryz.underlying9
  a9 := Tryz.isAgg9
  z9 := Tryz.sizeOf9
  v9 := Tryz.zeroValue9
  t46 := Tryz.underlying361
  a46 := Tryz.isAgg361
  z46 := Tryz.sizeOf361
  v46 := Tryz.zeroValue361
  t51 := Tryz.underlying403
  a51 := Tryz.isAgg403
  z51 := Tryz.sizeOf403
  v51 := Tryz.zeroValue403
  t146 := Tryz.underlying404
  a146 := Tryz.isAgg404
  z146 := Tryz.sizeOf404
  v146 := Tryz.zeroValue404
  g1 := by kernel_rfl }
theorem Tryz.strings_Index (s sub : ByteArray) (m : Int) (w : World) (hs : s.size < 4294967281) (hm : w.cell? ⟨0, 0, none⟩ = some (.int .i64 m)) :
    Calls Tryz.prog 151 #[.string s, .string sub] w fun e w' => e = .returned (.int .i64 (Lib.index s.data.toList sub.data.toList)) ∧ w' = w := Any.strings_Index Tryz.lays143 s sub m w hs hm
def Tryz.laysM143_ren : Go.Shelf.Ren := ⟨fun | 143 => 151 | 219 => 192 | 217 => 243 | 225 => 244 | 224 => 245 | 267 => 246 | 266 => 299 | 314 => 300 | n => n, fun | 9 => 9 | 3 => 3 | 4 => 4 | 5 => 5 | 46 => 361 | 146 => 404 | 51 => 403 | n => n, fun | 1 => 0 | n => n⟩
theorem Tryz.laysM143 : Go.Proofs.LaysM.n143 Tryz.prog Tryz.laysM143_ren := {
  mixed := by kernel_rfl
  f143 := Tryz.func151.trans (congrArg some (by kernel_rfl))
  f217 := Tryz.func243.trans (congrArg some (by kernel_rfl))
  f219 := Tryz.func192.trans (congrArg some (by kernel_rfl))
  f224 := Tryz.func245.trans (congrArg some (by kernel_rfl))
  f225 := Tryz.func244.trans (congrArg some (by kernel_rfl))
  f266 := Tryz.func299.trans (congrArg some (by kernel_rfl))
  f267 := Tryz.func246.trans (congrArg some (by kernel_rfl))
  f314 := Tryz.func300.trans (congrArg some (by kernel_rfl))
  t3 := Tryz.underlying3
  a3 := Tryz.isAgg3
  z3 := Tryz.sizeOf3
  v3 := Tryz.zeroValue3
  t4 := Tryz.underlying4
  a4 := Tryz.isAgg4
  z4 := Tryz.sizeOf4
  v4 := Tryz.zeroValue4
  t5 := Tryz.underlying5
  a5 := Tryz.isAgg5
  z5 := Tryz.sizeOf5
  v5 := Tryz.zeroValue5
  t9 := Tryz.underlying9
  a9 := Tryz.isAgg9
  z9 := Tryz.sizeOf9
  v9 := Tryz.zeroValue9
  t46 := Tryz.underlying361
  a46 := Tryz.isAgg361
  z46 := Tryz.sizeOf361
  v46 := Tryz.zeroValue361
  t51 := Tryz.underlying403
  a51 := Tryz.isAgg403
  z51 := Tryz.sizeOf403
  v51 := Tryz.zeroValue403
  t146 := Tryz.underlying404
  a146 := Tryz.isAgg404
  z146 := Tryz.sizeOf404
  v146 := Tryz.zeroValue404
  g1 := by kernel_rfl
  i3 := by kernel_rfl
  i4 := by kernel_rfl
  i5 := by kernel_rfl
  i9 := by kernel_rfl
  i46 := by kernel_rfl
  i51 := by kernel_rfl
  i146 := by kernel_rfl
  m1 := by kernel_rfl
  s1_3 := fun w h => Go.Proofs.cell_of_shapedOpen_int (zero := #[.int .i64 0]) (t := 3) h (of_decide_eq_true (by kernel_rfl)) (by kernel_rfl) rfl (by kernel_rfl) (by kernel_rfl) Tryz.underlying3 }
def Tryz.lays99_ren : Go.Shelf.Ren := ⟨fun | 99 => 218 | 206 => 258 | n => n, fun | 9 => 9 | 4 => 4 | 3 => 3 | n => n, fun | n => n⟩
theorem Tryz.lays99 : Go.Proofs.Lays.n99 Tryz.prog Tryz.lays99_ren := {
  mixed := by kernel_rfl
  f99 := Tryz.func218.trans (congrArg some (by kernel_rfl))
  f206 := Tryz.func258.trans (congrArg some (by kernel_rfl))
  t3 := Tryz.underlying3
  a3 := Tryz.isAgg3
  z3 := Tryz.sizeOf3
  v3 := Tryz.zeroValue3
  t4 := Tryz.underlying4
  a4 := Tryz.isAgg4
  z4 := Tryz.sizeOf4
  v4 := Tryz.zeroValue4
  t9 := Tryz.underlying9
  a9 := Tryz.isAgg9
  z9 := Tryz.sizeOf9
  v9 := Tryz.zeroValue9 }
theorem Tryz.strings_HasPrefix (s p : ByteArray) (w : World) :
    Calls Tryz.prog 218 #[.string s, .string p] w fun e w' => e = .returned (.bool (Lib.hasPrefix s.data.toList p.data.toList)) ∧ w' = w := Any.strings_HasPrefix Tryz.lays99 s p w
def Tryz.lays101_ren : Go.Shelf.Ren := ⟨fun | 101 => 256 | 208 => 309 | 206 => 258 | n => n, fun | 9 => 9 | 4 => 4 | 3 => 3 | n => n, fun | n => n⟩
theorem Tryz.lays101 : Go.Proofs.Lays.n101 Tryz.prog Tryz.lays101_ren := {
  mixed := by kernel_rfl
  f101 := Tryz.func256.trans (congrArg some (by kernel_rfl))
  f206 := Tryz.func258.trans (congrArg some (by kernel_rfl))
  f208 := Tryz.func309.trans (congrArg some (by kernel_rfl))
  t3 := Tryz.underlying3
  a3 := Tryz.isAgg3
  z3 := Tryz.sizeOf3
  v3 := Tryz.zeroValue3
  t4 := Tryz.underlying4
  a4 := Tryz.isAgg4
  z4 := Tryz.sizeOf4
  v4 := Tryz.zeroValue4
  t9 := Tryz.underlying9
  a9 := Tryz.isAgg9
  z9 := Tryz.sizeOf9
  v9 := Tryz.zeroValue9 }
theorem Tryz.strings_TrimPrefix (s p : ByteArray) (w : World) :
    Calls Tryz.prog 256 #[.string s, .string p] w fun e w' => e = .returned (.string ⟨(Lib.trimPrefix s.data.toList p.data.toList).toArray⟩) ∧ w' = w := Any.strings_TrimPrefix Tryz.lays101 s p w
end Go.Proofs
