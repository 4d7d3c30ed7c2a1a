/- The shelf's contracts that this seat's functions call, laid at its numbers (written by the kit's tools, cut to what is wanted). -/
import Derived.Shelf.Strings.Builder1
import Derived.Shelf.Strings.Builder2
import Derived.Shelf.Strings.OnBuilder
import Derived.Shelf.Small.Utf8
import Derived.Shelf.Small.Strs
import Derived.Shelf.Utf8.RuneCount
import Derived.Shelf.Strconv.Itoa0
import Derived.Shelf.Strconv.Itoa1
import Derived.Shelf.LaysM
import Derived.Shelf.Strconv.Itoa2
import Derived.Shelf.Strconv.Itoa3
import Derived.Shelf.Strconv.ParseIntEmpty
import Derived.Shelf.Strconv.Clone
import Derived.Shelf.Strconv.SyntaxError
import Derived.Shelf.LaysC
import Derived.Shelf.Strconv.ToError
import Derived.Shelf.Strconv.Lower
import Derived.Shelf.Strconv.ParseUint10
import Derived.Shelf.Strconv.ParseUint10Empty
import Derived.Shelf.Strconv.ParseUint10Any
import Derived.Shelf.Strconv.ParseInt10
import Derived.Shelf.Strconv.RangeError
import Derived.Shelf.Strconv.ToErrorRange
import Derived.Shelf.Strconv.ParseUintEmpty
import Derived.Shelf.Strconv.ParseUint10b64
import Derived.Shelf.Strconv.ParseUint10b32
import Derived.Shelf.Strconv.ParseUint10b16
import Derived.Shelf.Strconv.ParseUint10b8
import Derived.Shelf.Strconv.ParseUint10At
import Derived.Shelf.Strconv.ParseInt10At64
import Derived.Shelf.Strconv.ParseInt10At32
import Derived.Shelf.Strconv.ParseInt10At16
import Derived.Shelf.Strconv.ParseInt10At8
import Derived.Shelf.Strconv.ParseInt10All
import Derived.Shelf.Strconv.ParseIntPublic10
import Derived.Shelf.Strconv.ErrVarParseInt
import Derived.Shelf.Strings.Search1
import Derived.Shelf.Strings.Search2
import Derived.Shelf.Strings.Search3
import Derived.Shelf.Strings.Cut
import Derived.Shelf.Strings.Count
import Derived.Shelf.Strings.Shaped
import Derived.Shelf.Strings.Prefix
import Derived.Shelf.Strings.Split
import Derived.Shelf.Strings.SplitShaped
import Derived.Shelf.Unicode.Decode
import Derived.Shelf.Strings.Runes
import Derived.Shelf.Strings.RuneCount
import Derived.Shelf.Strings.AsciiSet
import Derived.Shelf.Strings.Explode
import Derived.Shelf.Unicode.DecodeSlow
import Derived.Shelf.Unicode.DecodeAny
import Derived.Shelf.Unicode.DecodeLast
import Derived.Ground.Names2Prog
import Derived.Shelf.Slices.SearchI
import Derived.Ground.SlgnProg
import Derived.Shelf.SlicesE.Clone
import Derived.Test.YtdkfimmhgpeimaaGreatDoorProg
namespace Go.Proofs
open Go.Shelf Go.RowKit Go.Sort
def Tryz.lays156_ren : Go.Shelf.Ren := ⟨fun | 156 => 91 | 165 => 160 | 166 => 96 | 169 => 98 | 240 => 166 | 241 => 222 | 276 => 232 | 277 => 279 | n => n, fun | 31 => 35 | 9 => 9 | 3 => 3 | 4 => 4 | 0 => 0 | 20 => 20 | 72 => 188 | 76 => 193 | 70 => 185 | 37 => 186 | 75 => 192 | 127 => 316 | 164 => 379 | 5 => 5 | 80 => 196 | n => n, fun | n => n⟩
theorem Tryz.lays156 : Go.Proofs.Lays.n156 Tryz.prog Tryz.lays156_ren := {
  mixed := by kernel_rfl
  f156 := Tryz.func91.trans (congrArg some (by kernel_rfl))
  f165 := Tryz.func160.trans (congrArg some (by kernel_rfl))
  f166 := Tryz.func96.trans (congrArg some (by kernel_rfl))
  f169 := Tryz.func98.trans (congrArg some (by kernel_rfl))
  f240 := Tryz.func166.trans (congrArg some (by kernel_rfl))
  f241 := Tryz.func222.trans (congrArg some (by kernel_rfl))
  f276 := Tryz.func232.trans (congrArg some (by kernel_rfl))
  f277 := Tryz.func279.trans (congrArg some (by kernel_rfl))
  t0 := Tryz.underlying0
  a0 := Tryz.isAgg0
  z0 := Tryz.sizeOf0
  v0 := Tryz.zeroValue0
  t3 := Tryz.underlying3
  a3 := Tryz.isAgg3
  z3 := Tryz.sizeOf3
  v3 := Tryz.zeroValue3
  t4 := Tryz.underlying4
  a4 := Tryz.isAgg4
  z4 := Tryz.sizeOf4
  v4 := Tryz.zeroValue4
  t9 := Tryz.underlying9
  a9 := Tryz.isAgg9
  z9 := Tryz.sizeOf9
  v9 := Tryz.zeroValue9
  t20 := Tryz.underlying20
  a20 := Tryz.isAgg20
  z20 := Tryz.sizeOf20
  v20 := Tryz.zeroValue20
  t31 := Tryz.underlying35
  a31 := Tryz.isAgg35
  z31 := Tryz.sizeOf35
  v31 := Tryz.zeroValue35
  t37 := Tryz.underlying186
  a37 := Tryz.isAgg186
  z37 := Tryz.sizeOf186
  v37 := Tryz.zeroValue186
  t70 := Tryz.underlying185
  a70 := Tryz.isAgg185
  z70 := Tryz.sizeOf185
  v70 := Tryz.zeroValue185
  t72 := Tryz.underlying188
  a72 := Tryz.isAgg188
  z72 := Tryz.sizeOf188
  v72 := Tryz.zeroValue188
  t75 := Tryz.underlying192
  a75 := Tryz.isAgg192
  z75 := Tryz.sizeOf192
  v75 := Tryz.zeroValue192
  t76 := Tryz.underlying193
  a76 := Tryz.isAgg193
  z76 := Tryz.sizeOf193
  v76 := Tryz.zeroValue193
  t127 := Tryz.underlying316
  a127 := Tryz.isAgg316
  z127 := Tryz.sizeOf316
  v127 := Tryz.zeroValue316
  t164 := Tryz.underlying379
  a164 := Tryz.isAgg379
  z164 := Tryz.sizeOf379
  v164 := Tryz.zeroValue379 }
theorem Tryz.Builder_Extra_156 : Builder.Extra Tryz.prog Tryz.lays156_ren := {
  sizeBuilder := by kernel_rfl
  liesBuilder := by kernel_rfl
  t5 := Tryz.underlying5
  a5 := Tryz.isAgg5
  z5 := Tryz.sizeOf5
  v5 := Tryz.zeroValue5
  infoByte := by kernel_rfl
  cellsByte := by kernel_rfl
  sizeByte := by kernel_rfl
  neB5 := by decide }
theorem Tryz.strings_Join_none (a : Option Addr) (c : Nat) (sep : ByteArray) (w : World) :
    Calls Tryz.prog 91 #[.slice a 0 c, .string sep] w fun e w' => e = .returned (.string ⟨#[]⟩) ∧ w' = w := Any.strings_Join_none Tryz.lays156 Tryz.Builder_Extra_156 a c sep w
theorem Tryz.strings_Join (bk o c : Nat) (xs : List ByteArray) (sep : ByteArray) (w : World) (hcells : ∀ (j : Nat) x, xs[j]? = some x → w.cell? ⟨bk, o + j, none⟩ = some (.string x)) (hbk : bk < w.heap.size) (hN : xs.length ≤ 140737488355328) (hcap : xs.length ≤ c) (hlen : (Lib.join (xs.map (·.data.toList)) sep.data.toList).length ≤ 140737488355328) :
    Calls Tryz.prog 91 #[.slice (some ⟨bk, o, none⟩) xs.length c, .string sep] w fun e w' => e = .returned (.string ⟨(Lib.join (xs.map (·.data.toList)) sep.data.toList).toArray⟩) ∧ Below w.heap.size w w' := Any.strings_Join Tryz.lays156 Tryz.Builder_Extra_156 bk o c xs sep w hcells hbk hN hcap hlen
def Tryz.lays137_ren : Go.Shelf.Ren := ⟨fun | 137 => 302 | 217 => 274 | 266 => 348 | n => n, fun | 9 => 9 | 5 => 5 | 3 => 3 | n => n, fun | n => n⟩
theorem Tryz.lays137 : Go.Proofs.Lays.n137 Tryz.prog Tryz.lays137_ren := {
  mixed := by kernel_rfl
  f137 := Tryz.func302.trans (congrArg some (by kernel_rfl))
  f217 := Tryz.func274.trans (congrArg some (by kernel_rfl))
  f266 := Tryz.func348.trans (congrArg some (by kernel_rfl))
  t3 := Tryz.underlying3
  a3 := Tryz.isAgg3
  z3 := Tryz.sizeOf3
  v3 := Tryz.zeroValue3
  t5 := Tryz.underlying5
  a5 := Tryz.isAgg5
  z5 := Tryz.sizeOf5
  v5 := Tryz.zeroValue5
  t9 := Tryz.underlying9
  a9 := Tryz.isAgg9
  z9 := Tryz.sizeOf9
  v9 := Tryz.zeroValue9 }
theorem Tryz.strings_IndexByte (s : ByteArray) (c : Int) (w : World) :
    Calls Tryz.prog 302 #[.string s, .int .u8 c] w fun e w' => e = .returned (.int .i64 (Lib.indexByte s.data.toList c.toNat.toUInt8)) ∧ w' = w := Any.strings_IndexByte Tryz.lays137 s c w
def Tryz.lays246_ren : Go.Shelf.Ren := ⟨fun | 246 => 233 | 283 => 286 | 284 => 287 | 285 => 288 | 286 => 289 | 129 => 355 | 317 => 354 | 318 => 356 | 319 => 357 | 320 => 358 | 337 => 410 | 338 => 411 | n => n, fun | 2 => 2 | 3 => 3 | 9 => 9 | 4 => 4 | 171 => 438 | 0 => 0 | 53 => 31 | 37 => 186 | 5 => 5 | 173 => 440 | 212 => 484 | 51 => 479 | 20 => 20 | 213 => 485 | 46 => 430 | 232 => 550 | 233 => 551 | n => n, fun | 17 => 1 | 18 => 6 | 19 => 7 | n => n⟩
theorem Tryz.lays246 : Go.Proofs.Lays.n246 Tryz.prog Tryz.lays246_ren := {
  mixed := by kernel_rfl
  f129 := Tryz.func355.trans (congrArg some (by kernel_rfl))
  f246 := Tryz.func233.trans (congrArg some (by kernel_rfl))
  f283 := Tryz.func286.trans (congrArg some (by kernel_rfl))
  f284 := Tryz.func287.trans (congrArg some (by kernel_rfl))
  f285 := Tryz.func288.trans (congrArg some (by kernel_rfl))
  f286 := Tryz.func289.trans (congrArg some (by kernel_rfl))
  f317 := Tryz.func354.trans (congrArg some (by kernel_rfl))
  f318 := Tryz.func356.trans (congrArg some (by kernel_rfl))
  f319 := Tryz.func357.trans (congrArg some (by kernel_rfl))
  f320 := Tryz.func358.trans (congrArg some (by kernel_rfl))
  f337 := Tryz.func410.trans (congrArg some (by kernel_rfl))
  f338 := Tryz.func411.trans (congrArg some (by kernel_rfl))
  t0 := Tryz.underlying0
  a0 := Tryz.isAgg0
  z0 := Tryz.sizeOf0
  v0 := Tryz.zeroValue0
  t2 := Tryz.underlying2
  a2 := Tryz.isAgg2
  z2 := Tryz.sizeOf2
  v2 := Tryz.zeroValue2
  t3 := Tryz.underlying3
  a3 := Tryz.isAgg3
  z3 := Tryz.sizeOf3
  v3 := Tryz.zeroValue3
  t4 := Tryz.underlying4
  a4 := Tryz.isAgg4
  z4 := Tryz.sizeOf4
  v4 := Tryz.zeroValue4
  t5 := Tryz.underlying5
  a5 := Tryz.isAgg5
  z5 := Tryz.sizeOf5
  v5 := Tryz.zeroValue5
  t9 := Tryz.underlying9
  a9 := Tryz.isAgg9
  z9 := Tryz.sizeOf9
  v9 := Tryz.zeroValue9
  t20 := Tryz.underlying20
  a20 := Tryz.isAgg20
  z20 := Tryz.sizeOf20
  v20 := Tryz.zeroValue20
  t37 := Tryz.underlying186
  a37 := Tryz.isAgg186
  z37 := Tryz.sizeOf186
  v37 := Tryz.zeroValue186
  t46 := Tryz.underlying430
  a46 := Tryz.isAgg430
  z46 := Tryz.sizeOf430
  v46 := Tryz.zeroValue430
  t51 := Tryz.underlying479
  a51 := Tryz.isAgg479
  z51 := Tryz.sizeOf479
  v51 := Tryz.zeroValue479
  t53 := Tryz.underlying31
  a53 := Tryz.isAgg31
  z53 := Tryz.sizeOf31
  v53 := Tryz.zeroValue31
  t171 := Tryz.underlying438
  a171 := Tryz.isAgg438
  z171 := Tryz.sizeOf438
  v171 := Tryz.zeroValue438
  t173 := Tryz.underlying440
  a173 := Tryz.isAgg440
  z173 := Tryz.sizeOf440
  v173 := Tryz.zeroValue440
  t212 := Tryz.underlying484
  a212 := Tryz.isAgg484
  z212 := Tryz.sizeOf484
  v212 := Tryz.zeroValue484
  t213 := Tryz.underlying485
  a213 := Tryz.isAgg485
  z213 := Tryz.sizeOf485
  t232 := Tryz.underlying550
  a232 := Tryz.isAgg550
  z232 := Tryz.sizeOf550
  v232 := Tryz.zeroValue550
  t233 := Tryz.underlying551
  a233 := Tryz.isAgg551
  z233 := Tryz.sizeOf551
  v233 := Tryz.zeroValue551
  g17 := by kernel_rfl
  g18 := by kernel_rfl
  g19 := by kernel_rfl }
theorem Tryz.internal_strconv_FormatInt_10_small (i : Nat) (hi : i < 100) (w : World) :
    Calls Tryz.prog 233 #[.int .i64 i, .int .i64 10] w fun e w' => e = .returned (.string ⟨(Lib.decDigits i).toArray⟩) ∧ w' = w := Any.internal_strconv_FormatInt_10_small Tryz.lays246 i hi w
def Tryz.lays171_ren : Go.Shelf.Ren := ⟨fun | 171 => 153 | 243 => 216 | 246 => 233 | 283 => 286 | 284 => 287 | 285 => 288 | 286 => 289 | 129 => 355 | 317 => 354 | 318 => 356 | 319 => 357 | 320 => 358 | 337 => 410 | 338 => 411 | n => n, fun | 3 => 3 | 9 => 9 | 2 => 2 | 4 => 4 | 171 => 438 | 0 => 0 | 53 => 31 | 37 => 186 | 5 => 5 | 173 => 440 | 212 => 484 | 51 => 479 | 20 => 20 | 213 => 485 | 46 => 430 | 232 => 550 | 233 => 551 | n => n, fun | 17 => 1 | 18 => 6 | 19 => 7 | n => n⟩
theorem Tryz.lays171 : Go.Proofs.Lays.n171 Tryz.prog Tryz.lays171_ren := {
  mixed := by kernel_rfl
  f129 := Tryz.func355.trans (congrArg some (by kernel_rfl))
  f171 := Tryz.func153.trans (congrArg some (by kernel_rfl))
  f243 := Tryz.func216.trans (congrArg some (by kernel_rfl))
  f246 := Tryz.func233.trans (congrArg some (by kernel_rfl))
  f283 := Tryz.func286.trans (congrArg some (by kernel_rfl))
  f284 := Tryz.func287.trans (congrArg some (by kernel_rfl))
  f285 := Tryz.func288.trans (congrArg some (by kernel_rfl))
  f286 := Tryz.func289.trans (congrArg some (by kernel_rfl))
  f317 := Tryz.func354.trans (congrArg some (by kernel_rfl))
  f318 := Tryz.func356.trans (congrArg some (by kernel_rfl))
  f319 := Tryz.func357.trans (congrArg some (by kernel_rfl))
  f320 := Tryz.func358.trans (congrArg some (by kernel_rfl))
  f337 := Tryz.func410.trans (congrArg some (by kernel_rfl))
  f338 := Tryz.func411.trans (congrArg some (by kernel_rfl))
  t0 := Tryz.underlying0
  a0 := Tryz.isAgg0
  z0 := Tryz.sizeOf0
  v0 := Tryz.zeroValue0
  t2 := Tryz.underlying2
  a2 := Tryz.isAgg2
  z2 := Tryz.sizeOf2
  v2 := Tryz.zeroValue2
  t3 := Tryz.underlying3
  a3 := Tryz.isAgg3
  z3 := Tryz.sizeOf3
  v3 := Tryz.zeroValue3
  t4 := Tryz.underlying4
  a4 := Tryz.isAgg4
  z4 := Tryz.sizeOf4
  v4 := Tryz.zeroValue4
  t5 := Tryz.underlying5
  a5 := Tryz.isAgg5
  z5 := Tryz.sizeOf5
  v5 := Tryz.zeroValue5
  t9 := Tryz.underlying9
  a9 := Tryz.isAgg9
  z9 := Tryz.sizeOf9
  v9 := Tryz.zeroValue9
  t20 := Tryz.underlying20
  a20 := Tryz.isAgg20
  z20 := Tryz.sizeOf20
  v20 := Tryz.zeroValue20
  t37 := Tryz.underlying186
  a37 := Tryz.isAgg186
  z37 := Tryz.sizeOf186
  v37 := Tryz.zeroValue186
  t46 := Tryz.underlying430
  a46 := Tryz.isAgg430
  z46 := Tryz.sizeOf430
  v46 := Tryz.zeroValue430
  t51 := Tryz.underlying479
  a51 := Tryz.isAgg479
  z51 := Tryz.sizeOf479
  v51 := Tryz.zeroValue479
  t53 := Tryz.underlying31
  a53 := Tryz.isAgg31
  z53 := Tryz.sizeOf31
  v53 := Tryz.zeroValue31
  t171 := Tryz.underlying438
  a171 := Tryz.isAgg438
  z171 := Tryz.sizeOf438
  v171 := Tryz.zeroValue438
  t173 := Tryz.underlying440
  a173 := Tryz.isAgg440
  z173 := Tryz.sizeOf440
  v173 := Tryz.zeroValue440
  t212 := Tryz.underlying484
  a212 := Tryz.isAgg484
  z212 := Tryz.sizeOf484
  v212 := Tryz.zeroValue484
  t213 := Tryz.underlying485
  a213 := Tryz.isAgg485
  z213 := Tryz.sizeOf485
  t232 := Tryz.underlying550
  a232 := Tryz.isAgg550
  z232 := Tryz.sizeOf550
  v232 := Tryz.zeroValue550
  t233 := Tryz.underlying551
  a233 := Tryz.isAgg551
  z233 := Tryz.sizeOf551
  v233 := Tryz.zeroValue551
  g17 := by kernel_rfl
  g18 := by kernel_rfl
  g19 := by kernel_rfl }
theorem Tryz.strconv_Itoa_small (i : Nat) (hi : i < 100) (w : World) :
    Calls Tryz.prog 153 #[.int .i64 i] w fun e w' => e = .returned (.string ⟨(Lib.decDigits i).toArray⟩) ∧ w' = w := Any.strconv_Itoa_small Tryz.lays171 i hi w
def Tryz.laysC174_ren : Go.Shelf.Ren := ⟨fun | 174 => 363 | 247 => 405 | 245 => 353 | 287 => 449 | 279 => 406 | 280 => 407 | 281 => 408 | 282 => 409 | 321 => 462 | 322 => 463 | 316 => 450 | 171 => 153 | 205 => 451 | 243 => 216 | 246 => 233 | 283 => 286 | 284 => 287 | 285 => 288 | 286 => 289 | 129 => 355 | 317 => 354 | 318 => 356 | 319 => 357 | 320 => 358 | 337 => 410 | 338 => 411 | n => n, fun | 9 => 9 | 3 => 3 | 2 => 2 | 75 => 192 | 85 => 489 | 4 => 4 | 167 => 519 | 5 => 5 | 53 => 31 | 175 => 545 | 46 => 430 | 168 => 520 | 37 => 186 | 0 => 0 | 210 => 548 | 21 => 21 | 127 => 316 | 145 => 559 | 143 => 557 | 171 => 438 | 173 => 440 | 212 => 484 | 51 => 479 | 20 => 20 | 213 => 485 | 232 => 550 | 233 => 551 | 80 => 196 | n => n, fun | 15 => 4 | 16 => 5 | 17 => 1 | 18 => 6 | 19 => 7 | n => n⟩
theorem Tryz.laysC174 : Go.Proofs.LaysC.n174 Tryz.prog Tryz.laysC174_ren := {
  mixed := by kernel_rfl
  f129 := Tryz.func355.trans (congrArg some (by kernel_rfl))
  f171 := Tryz.func153.trans (congrArg some (by kernel_rfl))
  f174 := Tryz.func363.trans (congrArg some (by kernel_rfl))
  f205 := Tryz.func451.trans (congrArg some (by kernel_rfl))
  f243 := Tryz.func216.trans (congrArg some (by kernel_rfl))
  f245 := Tryz.func353.trans (congrArg some (by kernel_rfl))
  f246 := Tryz.func233.trans (congrArg some (by kernel_rfl))
  f247 := Tryz.func405.trans (congrArg some (by kernel_rfl))
  f279 := Tryz.func406.trans (congrArg some (by kernel_rfl))
  f280 := Tryz.func407.trans (congrArg some (by kernel_rfl))
  f281 := Tryz.func408.trans (congrArg some (by kernel_rfl))
  f282 := Tryz.func409.trans (congrArg some (by kernel_rfl))
  f283 := Tryz.func286.trans (congrArg some (by kernel_rfl))
  f284 := Tryz.func287.trans (congrArg some (by kernel_rfl))
  f285 := Tryz.func288.trans (congrArg some (by kernel_rfl))
  f286 := Tryz.func289.trans (congrArg some (by kernel_rfl))
  f287 := Tryz.func449.trans (congrArg some (by kernel_rfl))
  f316 := Tryz.func450.trans (congrArg some (by kernel_rfl))
  f317 := Tryz.func354.trans (congrArg some (by kernel_rfl))
  f318 := Tryz.func356.trans (congrArg some (by kernel_rfl))
  f319 := Tryz.func357.trans (congrArg some (by kernel_rfl))
  f320 := Tryz.func358.trans (congrArg some (by kernel_rfl))
  f321 := Tryz.func462.trans (congrArg some (by kernel_rfl))
  f322 := Tryz.func463.trans (congrArg some (by kernel_rfl))
  f337 := Tryz.func410.trans (congrArg some (by kernel_rfl))
  f338 := Tryz.func411.trans (congrArg some (by kernel_rfl))
  t0 := Tryz.underlying0
  a0 := Tryz.isAgg0
  z0 := Tryz.sizeOf0
  v0 := Tryz.zeroValue0
  t2 := Tryz.underlying2
  a2 := Tryz.isAgg2
  z2 := Tryz.sizeOf2
  v2 := Tryz.zeroValue2
  t3 := Tryz.underlying3
  a3 := Tryz.isAgg3
  z3 := Tryz.sizeOf3
  v3 := Tryz.zeroValue3
  t4 := Tryz.underlying4
  a4 := Tryz.isAgg4
  z4 := Tryz.sizeOf4
  v4 := Tryz.zeroValue4
  t5 := Tryz.underlying5
  a5 := Tryz.isAgg5
  z5 := Tryz.sizeOf5
  v5 := Tryz.zeroValue5
  t9 := Tryz.underlying9
  a9 := Tryz.isAgg9
  z9 := Tryz.sizeOf9
  v9 := Tryz.zeroValue9
  t20 := Tryz.underlying20
  a20 := Tryz.isAgg20
  z20 := Tryz.sizeOf20
  v20 := Tryz.zeroValue20
  t21 := Tryz.underlying21
  a21 := Tryz.isAgg21
  z21 := Tryz.sizeOf21
  v21 := Tryz.zeroValue21
  t37 := Tryz.underlying186
  a37 := Tryz.isAgg186
  z37 := Tryz.sizeOf186
  v37 := Tryz.zeroValue186
  t46 := Tryz.underlying430
  a46 := Tryz.isAgg430
  z46 := Tryz.sizeOf430
  v46 := Tryz.zeroValue430
  t51 := Tryz.underlying479
  a51 := Tryz.isAgg479
  z51 := Tryz.sizeOf479
  v51 := Tryz.zeroValue479
  t53 := Tryz.underlying31
  a53 := Tryz.isAgg31
  z53 := Tryz.sizeOf31
  v53 := Tryz.zeroValue31
  t75 := Tryz.underlying192
  a75 := Tryz.isAgg192
  z75 := Tryz.sizeOf192
  v75 := Tryz.zeroValue192
  t85 := Tryz.underlying489
  a85 := Tryz.isAgg489
  z85 := Tryz.sizeOf489
  v85 := Tryz.zeroValue489
  t127 := Tryz.underlying316
  a127 := Tryz.isAgg316
  z127 := Tryz.sizeOf316
  v127 := Tryz.zeroValue316
  t143 := Tryz.underlying557
  a143 := Tryz.isAgg557
  z143 := Tryz.sizeOf557
  v143 := Tryz.zeroValue557
  t145 := Tryz.underlying559
  a145 := Tryz.isAgg559
  z145 := Tryz.sizeOf559
  v145 := Tryz.zeroValue559
  t167 := Tryz.underlying519
  a167 := Tryz.isAgg519
  z167 := Tryz.sizeOf519
  v167 := Tryz.zeroValue519
  t168 := Tryz.underlying520
  a168 := Tryz.isAgg520
  z168 := Tryz.sizeOf520
  v168 := Tryz.zeroValue520
  t171 := Tryz.underlying438
  a171 := Tryz.isAgg438
  z171 := Tryz.sizeOf438
  v171 := Tryz.zeroValue438
  t173 := Tryz.underlying440
  a173 := Tryz.isAgg440
  z173 := Tryz.sizeOf440
  v173 := Tryz.zeroValue440
  t175 := Tryz.underlying545
  a175 := Tryz.isAgg545
  z175 := Tryz.sizeOf545
  v175 := Tryz.zeroValue545
  t210 := Tryz.underlying548
  a210 := Tryz.isAgg548
  z210 := Tryz.sizeOf548
  v210 := Tryz.zeroValue548
  t212 := Tryz.underlying484
  a212 := Tryz.isAgg484
  z212 := Tryz.sizeOf484
  v212 := Tryz.zeroValue484
  t213 := Tryz.underlying485
  a213 := Tryz.isAgg485
  z213 := Tryz.sizeOf485
  t232 := Tryz.underlying550
  a232 := Tryz.isAgg550
  z232 := Tryz.sizeOf550
  v232 := Tryz.zeroValue550
  t233 := Tryz.underlying551
  a233 := Tryz.isAgg551
  z233 := Tryz.sizeOf551
  v233 := Tryz.zeroValue551
  g15 := by kernel_rfl
  g16 := by kernel_rfl
  g17 := by kernel_rfl
  g18 := by kernel_rfl
  g19 := by kernel_rfl
  t80 := Tryz.underlying196
  a80 := Tryz.isAgg196
  z80 := Tryz.sizeOf196
  v80 := Tryz.zeroValue196
  i0 := by kernel_rfl
  i2 := by kernel_rfl
  i3 := by kernel_rfl
  i4 := by kernel_rfl
  i5 := by kernel_rfl
  i9 := by kernel_rfl
  i20 := by kernel_rfl
  i21 := by kernel_rfl
  i37 := by kernel_rfl
  i46 := by kernel_rfl
  i51 := by kernel_rfl
  i53 := by kernel_rfl
  i75 := by kernel_rfl
  i80 := by kernel_rfl
  i85 := by kernel_rfl
  i127 := by kernel_rfl
  i143 := by kernel_rfl
  i145 := by kernel_rfl
  i167 := by kernel_rfl
  i168 := by kernel_rfl
  i171 := by kernel_rfl
  i173 := by kernel_rfl
  i175 := by kernel_rfl
  i210 := by kernel_rfl
  i212 := by kernel_rfl
  i232 := by kernel_rfl
  i233 := by kernel_rfl
  m15 := by kernel_rfl
  m16 := by kernel_rfl
  m17 := by kernel_rfl
  m18 := by kernel_rfl
  m19 := by kernel_rfl
  c0 := by kernel_rfl
  c2 := by kernel_rfl
  c3 := by kernel_rfl
  c4 := by kernel_rfl
  c5 := by kernel_rfl
  c9 := by kernel_rfl
  c20 := by kernel_rfl
  c21 := by kernel_rfl
  c37 := by kernel_rfl
  c46 := by kernel_rfl
  c51 := by kernel_rfl
  c53 := by kernel_rfl
  c75 := by kernel_rfl
  c80 := by kernel_rfl
  c85 := by kernel_rfl
  c127 := by kernel_rfl
  c143 := by kernel_rfl
  c145 := by kernel_rfl
  c167 := by kernel_rfl
  c168 := by kernel_rfl
  c171 := by kernel_rfl
  c173 := by kernel_rfl
  c175 := by kernel_rfl
  c210 := by kernel_rfl
  c212 := by kernel_rfl
  c213 := by kernel_rfl
  c232 := by kernel_rfl
  c233 := by kernel_rfl }
theorem Tryz.strconv_ParseInt_10_at64_ok (s : ByteArray) (hmax : s.size ≤ 9223372036854775806) (v : Int) (h : Lib.parseIntB 64 s.data.toList = .ok v) (w : World) :
    Calls Tryz.prog 363 #[.string s, .int .i64 10, .int .i64 64] w fun e w' => e = .returned (.tuple #[.int .i64 v, .nilIface]) ∧ (w' = w ∨ ∃ t, w' = Lib.bytesWorld w 5 t) := Any.strconv_ParseInt_10_at64_ok Tryz.laysC174 s hmax v h w
theorem Tryz.strconv_ParseInt_10_at64_range_var (s : ByteArray) (hlim : s.size ≤ 281474976710656) (h : Lib.parseIntB 64 s.data.toList = .range) (tp : TypeId) (p : Value) (w : World) (hvar : w.var? Tryz.prog "strconv.ErrRange" = some #[.iface tp p]) :
    Calls Tryz.prog 363 #[.string s, .int .i64 10, .int .i64 64] w fun e w' => ∃ N, e = .returned (.tuple #[.int .i64 (Lib.intSat 64 s.data.toList), .iface 520 (.pointer (some ⟨N, 0, none⟩))]) ∧ w.heap.size ≤ N ∧ w'.heap[N]? = some (.cells #[.string ⟨#[80, 97, 114, 115, 101, 73, 110, 116]⟩, .string s, .iface tp p] 548 (0, 0)) ∧ Below w.heap.size w w' := Any.strconv_ParseInt_10_at64_range_var Tryz.laysC174 s hlim h tp p w hvar
def Tryz.lays143_ren : Go.Shelf.Ren := ⟨fun | 143 => 225 | 219 => 215 | 217 => 274 | 225 => 275 | 224 => 276 | 267 => 277 | 266 => 348 | 314 => 349 | n => n, fun | 9 => 9 | 3 => 3 | 4 => 4 | 5 => 5 | 46 => 430 | 146 => 480 | 51 => 479 | n => n, fun | 1 => 0 | n => n⟩
theorem Tryz.lays143 : Go.Proofs.Lays.n143 Tryz.prog Tryz.lays143_ren := {
  mixed := by kernel_rfl
  f143 := Tryz.func225.trans (congrArg some (by kernel_rfl))
  f217 := Tryz.func274.trans (congrArg some (by kernel_rfl))
  f219 := Tryz.func215.trans (congrArg some (by kernel_rfl))
  f224 := Tryz.func276.trans (congrArg some (by kernel_rfl))
  f225 := Tryz.func275.trans (congrArg some (by kernel_rfl))
  f266 := Tryz.func348.trans (congrArg some (by kernel_rfl))
  f267 := Tryz.func277.trans (congrArg some (by kernel_rfl))
  f314 := Tryz.func349.trans (congrArg some (by kernel_rfl))
  t3 := Tryz.underlying3
  a3 := Tryz.isAgg3
  z3 := Tryz.sizeOf3
  v3 := Tryz.zeroValue3
  t4 := Tryz.underlying4
  a4 := Tryz.isAgg4
  z4 := Tryz.sizeOf4
  v4 := Tryz.zeroValue4
  t5 := Tryz.underlying5
  a5 := Tryz.isAgg5
  z5 := Tryz.sizeOf5
  v5 := Tryz.zeroValue5
  t9 := Tryz.underlying9
  a9 := Tryz.isAgg9
  z9 := Tryz.sizeOf9
  v9 := Tryz.zeroValue9
  t46 := Tryz.underlying430
  a46 := Tryz.isAgg430
  z46 := Tryz.sizeOf430
  v46 := Tryz.zeroValue430
  t51 := Tryz.underlying479
  a51 := Tryz.isAgg479
  z51 := Tryz.sizeOf479
  v51 := Tryz.zeroValue479
  t146 := Tryz.underlying480
  a146 := Tryz.isAgg480
  z146 := Tryz.sizeOf480
  v146 := Tryz.zeroValue480
  g1 := by kernel_rfl }
theorem Tryz.strings_Index (s sub : ByteArray) (m : Int) (w : World) (hs : s.size < 4294967281) (hm : w.cell? ⟨0, 0, none⟩ = some (.int .i64 m)) :
    Calls Tryz.prog 225 #[.string s, .string sub] w fun e w' => e = .returned (.int .i64 (Lib.index s.data.toList sub.data.toList)) ∧ w' = w := Any.strings_Index Tryz.lays143 s sub m w hs hm
def Tryz.laysM143_ren : Go.Shelf.Ren := ⟨fun | 143 => 225 | 219 => 215 | 217 => 274 | 225 => 275 | 224 => 276 | 267 => 277 | 266 => 348 | 314 => 349 | n => n, fun | 9 => 9 | 3 => 3 | 4 => 4 | 5 => 5 | 46 => 430 | 146 => 480 | 51 => 479 | n => n, fun | 1 => 0 | n => n⟩
theorem Tryz.laysM143 : Go.Proofs.LaysM.n143 Tryz.prog Tryz.laysM143_ren := {
  mixed := by kernel_rfl
  f143 := Tryz.func225.trans (congrArg some (by kernel_rfl))
  f217 := Tryz.func274.trans (congrArg some (by kernel_rfl))
  f219 := Tryz.func215.trans (congrArg some (by kernel_rfl))
  f224 := Tryz.func276.trans (congrArg some (by kernel_rfl))
  f225 := Tryz.func275.trans (congrArg some (by kernel_rfl))
  f266 := Tryz.func348.trans (congrArg some (by kernel_rfl))
  f267 := Tryz.func277.trans (congrArg some (by kernel_rfl))
  f314 := Tryz.func349.trans (congrArg some (by kernel_rfl))
  t3 := Tryz.underlying3
  a3 := Tryz.isAgg3
  z3 := Tryz.sizeOf3
  v3 := Tryz.zeroValue3
  t4 := Tryz.underlying4
  a4 := Tryz.isAgg4
  z4 := Tryz.sizeOf4
  v4 := Tryz.zeroValue4
  t5 := Tryz.underlying5
  a5 := Tryz.isAgg5
  z5 := Tryz.sizeOf5
  v5 := Tryz.zeroValue5
  t9 := Tryz.underlying9
  a9 := Tryz.isAgg9
  z9 := Tryz.sizeOf9
  v9 := Tryz.zeroValue9
  t46 := Tryz.underlying430
  a46 := Tryz.isAgg430
  z46 := Tryz.sizeOf430
  v46 := Tryz.zeroValue430
  t51 := Tryz.underlying479
  a51 := Tryz.isAgg479
  z51 := Tryz.sizeOf479
  v51 := Tryz.zeroValue479
  t146 := Tryz.underlying480
  a146 := Tryz.isAgg480
  z146 := Tryz.sizeOf480
  v146 := Tryz.zeroValue480
  g1 := by kernel_rfl
  i3 := by kernel_rfl
  i4 := by kernel_rfl
  i5 := by kernel_rfl
  i9 := by kernel_rfl
  i46 := by kernel_rfl
  i51 := by kernel_rfl
  i146 := by kernel_rfl
  m1 := by kernel_rfl
  s1_3 := fun w h => Go.Proofs.cell_of_shapedOpen_int (zero := #[.int .i64 0]) (t := 3) h (of_decide_eq_true (by kernel_rfl)) (by kernel_rfl) rfl (by kernel_rfl) (by kernel_rfl) Tryz.underlying3 }
def Tryz.lays99_ren : Go.Shelf.Ren := ⟨fun | 99 => 314 | 206 => 364 | n => n, fun | 9 => 9 | 4 => 4 | 3 => 3 | n => n, fun | n => n⟩
theorem Tryz.lays99 : Go.Proofs.Lays.n99 Tryz.prog Tryz.lays99_ren := {
  mixed := by kernel_rfl
  f99 := Tryz.func314.trans (congrArg some (by kernel_rfl))
  f206 := Tryz.func364.trans (congrArg some (by kernel_rfl))
  t3 := Tryz.underlying3
  a3 := Tryz.isAgg3
  z3 := Tryz.sizeOf3
  v3 := Tryz.zeroValue3
  t4 := Tryz.underlying4
  a4 := Tryz.isAgg4
  z4 := Tryz.sizeOf4
  v4 := Tryz.zeroValue4
  t9 := Tryz.underlying9
  a9 := Tryz.isAgg9
  z9 := Tryz.sizeOf9
  v9 := Tryz.zeroValue9 }
theorem Tryz.strings_HasPrefix (s p : ByteArray) (w : World) :
    Calls Tryz.prog 314 #[.string s, .string p] w fun e w' => e = .returned (.bool (Lib.hasPrefix s.data.toList p.data.toList)) ∧ w' = w := Any.strings_HasPrefix Tryz.lays99 s p w
def Tryz.lays101_ren : Go.Shelf.Ren := ⟨fun | 101 => 351 | 208 => 404 | 206 => 364 | n => n, fun | 9 => 9 | 4 => 4 | 3 => 3 | n => n, fun | n => n⟩
theorem Tryz.lays101 : Go.Proofs.Lays.n101 Tryz.prog Tryz.lays101_ren := {
  mixed := by kernel_rfl
  f101 := Tryz.func351.trans (congrArg some (by kernel_rfl))
  f206 := Tryz.func364.trans (congrArg some (by kernel_rfl))
  f208 := Tryz.func404.trans (congrArg some (by kernel_rfl))
  t3 := Tryz.underlying3
  a3 := Tryz.isAgg3
  z3 := Tryz.sizeOf3
  v3 := Tryz.zeroValue3
  t4 := Tryz.underlying4
  a4 := Tryz.isAgg4
  z4 := Tryz.sizeOf4
  v4 := Tryz.zeroValue4
  t9 := Tryz.underlying9
  a9 := Tryz.isAgg9
  z9 := Tryz.sizeOf9
  v9 := Tryz.zeroValue9 }
theorem Tryz.strings_TrimPrefix (s p : ByteArray) (w : World) :
    Calls Tryz.prog 351 #[.string s, .string p] w fun e w' => e = .returned (.string ⟨(Lib.trimPrefix s.data.toList p.data.toList).toArray⟩) ∧ w' = w := Any.strings_TrimPrefix Tryz.lays101 s p w
end Go.Proofs
