/- The shelf's contracts that this seat's functions call, laid at its numbers (written by the kit's tools, cut to what is wanted). -/
import Derived.Shelf.Strings.Trim
import Derived.Shelf.Small.Utf8
import Derived.Shelf.Small.Strs
import Derived.Shelf.Strconv.Itoa0
import Derived.Shelf.Strconv.Itoa1
import Derived.Shelf.LaysM
import Derived.Shelf.Strconv.Itoa2
import Derived.Shelf.Strconv.Itoa3
import Derived.Shelf.Strconv.ParseIntEmpty
import Derived.Shelf.Strconv.Clone
import Derived.Shelf.Strconv.SyntaxError
import Derived.Shelf.LaysC
import Derived.Shelf.Strconv.ToError
import Derived.Shelf.Strconv.Lower
import Derived.Shelf.Strconv.ParseUint10
import Derived.Shelf.Strconv.ParseUint10Empty
import Derived.Shelf.Strconv.ParseUint10Any
import Derived.Shelf.Strconv.ParseInt10
import Derived.Shelf.Strconv.RangeError
import Derived.Shelf.Strconv.ToErrorRange
import Derived.Shelf.Strconv.ParseUintEmpty
import Derived.Shelf.Strconv.ParseUint10b64
import Derived.Shelf.Strconv.ParseUint10b32
import Derived.Shelf.Strconv.ParseUint10b16
import Derived.Shelf.Strconv.ParseUint10b8
import Derived.Shelf.Strconv.ParseUint10At
import Derived.Shelf.Strconv.ParseInt10At64
import Derived.Shelf.Strconv.ParseInt10At32
import Derived.Shelf.Strconv.ParseInt10At16
import Derived.Shelf.Strconv.ParseInt10At8
import Derived.Shelf.Strconv.ParseInt10All
import Derived.Shelf.Strconv.ParseIntPublic10
import Derived.Shelf.Strconv.ErrVarParseInt
import Derived.Shelf.Strings.Search1
import Derived.Shelf.Strings.Search2
import Derived.Shelf.Strings.Search3
import Derived.Shelf.Strings.Shaped
import Derived.Shelf.Strings.Prefix
import Derived.Shelf.Strings.Runes
import Derived.Shelf.Strings.AsciiSet
import Derived.Shelf.Unicode.DecodeSlow
import Derived.Test.YtdekdghldblfaaaGreatDoorProg
namespace Go.Proofs
open Go.Shelf Go.RowKit Go.Sort
def Tryz.lays160_ren : Go.Shelf.Ren := ⟨fun | 160 => 145 | 232 => 168 | 231 => 167 | 227 => 169 | 234 => 171 | 233 => 170 | 236 => 173 | 235 => 172 | 228 => 211 | 271 => 214 | 151 => 213 | 197 => 212 | 120 => 232 | 152 => 231 | 260 => 230 | 137 => 179 | 119 => 240 | 224 => 205 | 225 => 204 | 217 => 203 | 266 => 223 | n => n, fun | 9 => 9 | 4 => 4 | 3 => 3 | 5 => 5 | 117 => 278 | 116 => 277 | 0 => 0 | 124 => 281 | 21 => 21 | 105 => 305 | 46 => 300 | 119 => 330 | 139 => 333 | 138 => 332 | n => n, fun | 3 => 2 | 4 => 3 | n => n⟩
theorem Tryz.lays160 : Go.Proofs.Lays.n160 Tryz.prog Tryz.lays160_ren := {
  mixed := by kernel_rfl
  f119 := Tryz.func240.trans (congrArg some (by kernel_rfl))
  f120 := Tryz.func232.trans (congrArg some (by kernel_rfl))
  f137 := Tryz.func179.trans (congrArg some (by kernel_rfl))
  f151 := Tryz.func213.trans (congrArg some (by kernel_rfl))
  f152 := Tryz.func231.trans (congrArg some (by kernel_rfl))
  f160 := Tryz.func145.trans (congrArg some (by kernel_rfl))
  f197 := Tryz.func212.trans (congrArg some (by kernel_rfl))
  f217 := Tryz.func203.trans (congrArg some (by kernel_rfl))
  f224 := Tryz.func205.trans (congrArg some (by kernel_rfl))
  f225 := Tryz.func204.trans (congrArg some (by kernel_rfl))
  f227 := Tryz.func169.trans (congrArg some (by kernel_rfl))
  f228 := Tryz.func211.trans (congrArg some (by kernel_rfl))
  f231 := Tryz.func167.trans (congrArg some (by kernel_rfl))
  f232 := Tryz.func168.trans (congrArg some (by kernel_rfl))
  f233 := Tryz.func170.trans (congrArg some (by kernel_rfl))
  f234 := Tryz.func171.trans (congrArg some (by kernel_rfl))
  f235 := Tryz.func172.trans (congrArg some (by kernel_rfl))
  f236 := Tryz.func173.trans (congrArg some (by kernel_rfl))
  f260 := Tryz.func230.trans (congrArg some (by kernel_rfl))
  f266 := Tryz.func223.trans (congrArg some (by kernel_rfl))
  f271 := Tryz.func214.trans (congrArg some (by kernel_rfl))
  t0 := Tryz.underlying0
  a0 := Tryz.isAgg0
  z0 := Tryz.sizeOf0
  v0 := Tryz.zeroValue0
  t3 := Tryz.underlying3
  a3 := Tryz.isAgg3
  z3 := Tryz.sizeOf3
  v3 := Tryz.zeroValue3
  t4 := Tryz.underlying4
  a4 := Tryz.isAgg4
  z4 := Tryz.sizeOf4
  v4 := Tryz.zeroValue4
  t5 := Tryz.underlying5
  a5 := Tryz.isAgg5
  z5 := Tryz.sizeOf5
  v5 := Tryz.zeroValue5
  t9 := Tryz.underlying9
  a9 := Tryz.isAgg9
  z9 := Tryz.sizeOf9
  v9 := Tryz.zeroValue9
  t21 := Tryz.underlying21
  a21 := Tryz.isAgg21
  z21 := Tryz.sizeOf21
  v21 := Tryz.zeroValue21
  t46 := Tryz.underlying300
  a46 := Tryz.isAgg300
  z46 := Tryz.sizeOf300
  v46 := Tryz.zeroValue300
  t105 := Tryz.underlying305
  a105 := Tryz.isAgg305
  z105 := Tryz.sizeOf305
  v105 := Tryz.zeroValue305
  t116 := Tryz.underlying277
  a116 := Tryz.isAgg277
  z116 := Tryz.sizeOf277
  t117 := Tryz.underlying278
  a117 := Tryz.isAgg278
  z117 := Tryz.sizeOf278
  v117 := Tryz.zeroValue278
  t119 := Tryz.underlying330
  a119 := Tryz.isAgg330
  z119 := Tryz.sizeOf330
  t124 := Tryz.underlying281
  a124 := Tryz.isAgg281
  z124 := Tryz.sizeOf281
  v124 := Tryz.zeroValue281
  t138 := Tryz.underlying332
  a138 := Tryz.isAgg332
  z138 := Tryz.sizeOf332
  v138 := Tryz.zeroValue332
  t139 := Tryz.underlying333
  a139 := Tryz.isAgg333
  z139 := Tryz.sizeOf333
  v139 := Tryz.zeroValue333
  g3 := by kernel_rfl
  g4 := by kernel_rfl }
def Tryz.lays137_ren : Go.Shelf.Ren := ⟨fun | 137 => 179 | 217 => 203 | 266 => 223 | n => n, fun | 9 => 9 | 5 => 5 | 3 => 3 | n => n, fun | n => n⟩
theorem Tryz.lays137 : Go.Proofs.Lays.n137 Tryz.prog Tryz.lays137_ren := {
  mixed := by kernel_rfl
  f137 := Tryz.func179.trans (congrArg some (by kernel_rfl))
  f217 := Tryz.func203.trans (congrArg some (by kernel_rfl))
  f266 := Tryz.func223.trans (congrArg some (by kernel_rfl))
  t3 := Tryz.underlying3
  a3 := Tryz.isAgg3
  z3 := Tryz.sizeOf3
  v3 := Tryz.zeroValue3
  t5 := Tryz.underlying5
  a5 := Tryz.isAgg5
  z5 := Tryz.sizeOf5
  v5 := Tryz.zeroValue5
  t9 := Tryz.underlying9
  a9 := Tryz.isAgg9
  z9 := Tryz.sizeOf9
  v9 := Tryz.zeroValue9 }
theorem Tryz.strings_IndexByte (s : ByteArray) (c : Int) (w : World) :
    Calls Tryz.prog 179 #[.string s, .int .u8 c] w fun e w' => e = .returned (.int .i64 (Lib.indexByte s.data.toList c.toNat.toUInt8)) ∧ w' = w := Any.strings_IndexByte Tryz.lays137 s c w
def Tryz.lays246_ren : Go.Shelf.Ren := ⟨fun | 246 => 166 | 283 => 207 | 284 => 208 | 285 => 209 | 286 => 210 | 129 => 226 | 317 => 225 | 318 => 227 | 319 => 228 | 320 => 229 | 337 => 238 | 338 => 239 | n => n, fun | 2 => 2 | 3 => 3 | 9 => 9 | 4 => 4 | 171 => 301 | 0 => 0 | 53 => 23 | 37 => 257 | 5 => 5 | 173 => 303 | 212 => 321 | 51 => 317 | 20 => 20 | 213 => 322 | 46 => 300 | 232 => 342 | 233 => 343 | n => n, fun | 17 => 1 | 18 => 4 | 19 => 5 | n => n⟩
theorem Tryz.lays246 : Go.Proofs.Lays.n246 Tryz.prog Tryz.lays246_ren := {
  mixed := by kernel_rfl
  f129 := Tryz.func226.trans (congrArg some (by kernel_rfl))
  f246 := Tryz.func166.trans (congrArg some (by kernel_rfl))
  f283 := Tryz.func207.trans (congrArg some (by kernel_rfl))
  f284 := Tryz.func208.trans (congrArg some (by kernel_rfl))
  f285 := Tryz.func209.trans (congrArg some (by kernel_rfl))
  f286 := Tryz.func210.trans (congrArg some (by kernel_rfl))
  f317 := Tryz.func225.trans (congrArg some (by kernel_rfl))
  f318 := Tryz.func227.trans (congrArg some (by kernel_rfl))
  f319 := Tryz.func228.trans (congrArg some (by kernel_rfl))
  f320 := Tryz.func229.trans (congrArg some (by kernel_rfl))
  f337 := Tryz.func238.trans (congrArg some (by kernel_rfl))
  f338 := Tryz.func239.trans (congrArg some (by kernel_rfl))
  t0 := Tryz.underlying0
  a0 := Tryz.isAgg0
  z0 := Tryz.sizeOf0
  v0 := Tryz.zeroValue0
  t2 := Tryz.underlying2
  a2 := Tryz.isAgg2
  z2 := Tryz.sizeOf2
  v2 := Tryz.zeroValue2
  t3 := Tryz.underlying3
  a3 := Tryz.isAgg3
  z3 := Tryz.sizeOf3
  v3 := Tryz.zeroValue3
  t4 := Tryz.underlying4
  a4 := Tryz.isAgg4
  z4 := Tryz.sizeOf4
  v4 := Tryz.zeroValue4
  t5 := Tryz.underlying5
  a5 := Tryz.isAgg5
  z5 := Tryz.sizeOf5
  v5 := Tryz.zeroValue5
  t9 := Tryz.underlying9
  a9 := Tryz.isAgg9
  z9 := Tryz.sizeOf9
  v9 := Tryz.zeroValue9
  t20 := Tryz.underlying20
  a20 := Tryz.isAgg20
  z20 := Tryz.sizeOf20
  v20 := Tryz.zeroValue20
  t37 := Tryz.underlying257
  a37 := Tryz.isAgg257
  z37 := Tryz.sizeOf257
  v37 := Tryz.zeroValue257
  t46 := Tryz.underlying300
  a46 := Tryz.isAgg300
  z46 := Tryz.sizeOf300
  v46 := Tryz.zeroValue300
  t51 := Tryz.underlying317
  a51 := Tryz.isAgg317
  z51 := Tryz.sizeOf317
  v51 := Tryz.zeroValue317
  t53 := Tryz.underlying23
  a53 := Tryz.isAgg23
  z53 := Tryz.sizeOf23
  v53 := Tryz.zeroValue23
  t171 := Tryz.underlying301
  a171 := Tryz.isAgg301
  z171 := Tryz.sizeOf301
  v171 := Tryz.zeroValue301
  t173 := Tryz.underlying303
  a173 := Tryz.isAgg303
  z173 := Tryz.sizeOf303
  v173 := Tryz.zeroValue303
  t212 := Tryz.underlying321
  a212 := Tryz.isAgg321
  z212 := Tryz.sizeOf321
  v212 := Tryz.zeroValue321
  t213 := Tryz.underlying322
  a213 := Tryz.isAgg322
  z213 := Tryz.sizeOf322
  t232 := Tryz.underlying342
  a232 := Tryz.isAgg342
  z232 := Tryz.sizeOf342
  v232 := Tryz.zeroValue342
  t233 := Tryz.underlying343
  a233 := Tryz.isAgg343
  z233 := Tryz.sizeOf343
  v233 := Tryz.zeroValue343
  g17 := by kernel_rfl
  g18 := by kernel_rfl
  g19 := by kernel_rfl }
theorem Tryz.internal_strconv_FormatInt_10_small (i : Nat) (hi : i < 100) (w : World) :
    Calls Tryz.prog 166 #[.int .i64 i, .int .i64 10] w fun e w' => e = .returned (.string ⟨(Lib.decDigits i).toArray⟩) ∧ w' = w := Any.internal_strconv_FormatInt_10_small Tryz.lays246 i hi w
def Tryz.lays171_ren : Go.Shelf.Ren := ⟨fun | 171 => 117 | 243 => 144 | 246 => 166 | 283 => 207 | 284 => 208 | 285 => 209 | 286 => 210 | 129 => 226 | 317 => 225 | 318 => 227 | 319 => 228 | 320 => 229 | 337 => 238 | 338 => 239 | n => n, fun | 3 => 3 | 9 => 9 | 2 => 2 | 4 => 4 | 171 => 301 | 0 => 0 | 53 => 23 | 37 => 257 | 5 => 5 | 173 => 303 | 212 => 321 | 51 => 317 | 20 => 20 | 213 => 322 | 46 => 300 | 232 => 342 | 233 => 343 | n => n, fun | 17 => 1 | 18 => 4 | 19 => 5 | n => n⟩
theorem Tryz.lays171 : Go.Proofs.Lays.n171 Tryz.prog Tryz.lays171_ren := {
  mixed := by kernel_rfl
  f129 := Tryz.func226.trans (congrArg some (by kernel_rfl))
  f171 := Tryz.func117.trans (congrArg some (by kernel_rfl))
  f243 := Tryz.func144.trans (congrArg some (by kernel_rfl))
  f246 := Tryz.func166.trans (congrArg some (by kernel_rfl))
  f283 := Tryz.func207.trans (congrArg some (by kernel_rfl))
  f284 := Tryz.func208.trans (congrArg some (by kernel_rfl))
  f285 := Tryz.func209.trans (congrArg some (by kernel_rfl))
  f286 := Tryz.func210.trans (congrArg some (by kernel_rfl))
  f317 := Tryz.func225.trans (congrArg some (by kernel_rfl))
  f318 := Tryz.func227.trans (congrArg some (by kernel_rfl))
  f319 := Tryz.func228.trans (congrArg some (by kernel_rfl))
  f320 := Tryz.func229.trans (congrArg some (by kernel_rfl))
  f337 := Tryz.func238.trans (congrArg some (by kernel_rfl))
  f338 := Tryz.func239.trans (congrArg some (by kernel_rfl))
  t0 := Tryz.underlying0
  a0 := Tryz.isAgg0
  z0 := Tryz.sizeOf0
  v0 := Tryz.zeroValue0
  t2 := Tryz.underlying2
  a2 := Tryz.isAgg2
  z2 := Tryz.sizeOf2
  v2 := Tryz.zeroValue2
  t3 := Tryz.underlying3
  a3 := Tryz.isAgg3
  z3 := Tryz.sizeOf3
  v3 := Tryz.zeroValue3
  t4 := Tryz.underlying4
  a4 := Tryz.isAgg4
  z4 := Tryz.sizeOf4
  v4 := Tryz.zeroValue4
  t5 := Tryz.underlying5
  a5 := Tryz.isAgg5
  z5 := Tryz.sizeOf5
  v5 := Tryz.zeroValue5
  t9 := Tryz.underlying9
  a9 := Tryz.isAgg9
  z9 := Tryz.sizeOf9
  v9 := Tryz.zeroValue9
  t20 := Tryz.underlying20
  a20 := Tryz.isAgg20
  z20 := Tryz.sizeOf20
  v20 := Tryz.zeroValue20
  t37 := Tryz.underlying257
  a37 := Tryz.isAgg257
  z37 := Tryz.sizeOf257
  v37 := Tryz.zeroValue257
  t46 := Tryz.underlying300
  a46 := Tryz.isAgg300
  z46 := Tryz.sizeOf300
  v46 := Tryz.zeroValue300
  t51 := Tryz.underlying317
  a51 := Tryz.isAgg317
  z51 := Tryz.sizeOf317
  v51 := Tryz.zeroValue317
  t53 := Tryz.underlying23
  a53 := Tryz.isAgg23
  z53 := Tryz.sizeOf23
  v53 := Tryz.zeroValue23
  t171 := Tryz.underlying301
  a171 := Tryz.isAgg301
  z171 := Tryz.sizeOf301
  v171 := Tryz.zeroValue301
  t173 := Tryz.underlying303
  a173 := Tryz.isAgg303
  z173 := Tryz.sizeOf303
  v173 := Tryz.zeroValue303
  t212 := Tryz.underlying321
  a212 := Tryz.isAgg321
  z212 := Tryz.sizeOf321
  v212 := Tryz.zeroValue321
  t213 := Tryz.underlying322
  a213 := Tryz.isAgg322
  z213 := Tryz.sizeOf322
  t232 := Tryz.underlying342
  a232 := Tryz.isAgg342
  z232 := Tryz.sizeOf342
  v232 := Tryz.zeroValue342
  t233 := Tryz.underlying343
  a233 := Tryz.isAgg343
  z233 := Tryz.sizeOf343
  v233 := Tryz.zeroValue343
  g17 := by kernel_rfl
  g18 := by kernel_rfl
  g19 := by kernel_rfl }
theorem Tryz.strconv_Itoa_small (i : Nat) (hi : i < 100) (w : World) :
    Calls Tryz.prog 117 #[.int .i64 i] w fun e w' => e = .returned (.string ⟨(Lib.decDigits i).toArray⟩) ∧ w' = w := Any.strconv_Itoa_small Tryz.lays171 i hi w
def Tryz.laysC174_ren : Go.Shelf.Ren := ⟨fun | 174 => 217 | 247 => 234 | 245 => 235 | 287 => 241 | 279 => 242 | 280 => 243 | 281 => 244 | 282 => 245 | 321 => 247 | 322 => 248 | 316 => 249 | 171 => 117 | 205 => 250 | 243 => 144 | 246 => 166 | 283 => 207 | 284 => 208 | 285 => 209 | 286 => 210 | 129 => 226 | 317 => 225 | 318 => 227 | 319 => 228 | 320 => 229 | 337 => 238 | 338 => 239 | n => n, fun | 9 => 9 | 3 => 3 | 2 => 2 | 75 => 310 | 85 => 311 | 4 => 4 | 167 => 335 | 5 => 5 | 53 => 23 | 175 => 336 | 46 => 300 | 168 => 338 | 37 => 257 | 0 => 0 | 210 => 347 | 21 => 21 | 127 => 349 | 145 => 352 | 143 => 350 | 171 => 301 | 173 => 303 | 212 => 321 | 51 => 317 | 20 => 20 | 213 => 322 | 232 => 342 | 233 => 343 | 80 => 289 | n => n, fun | 15 => 6 | 16 => 7 | 17 => 1 | 18 => 4 | 19 => 5 | n => n⟩
theorem Tryz.laysC174 : Go.Proofs.LaysC.n174 Tryz.prog Tryz.laysC174_ren := {
  mixed := by kernel_rfl
  f129 := Tryz.func226.trans (congrArg some (by kernel_rfl))
  f171 := Tryz.func117.trans (congrArg some (by kernel_rfl))
  f174 := Tryz.func217.trans (congrArg some (by kernel_rfl))
  f205 := Tryz.func250.trans (congrArg some (by kernel_rfl))
  f243 := Tryz.func144.trans (congrArg some (by kernel_rfl))
  f245 := Tryz.func235.trans (congrArg some (by kernel_rfl))
  f246 := Tryz.func166.trans (congrArg some (by kernel_rfl))
  f247 := Tryz.func234.trans (congrArg some (by kernel_rfl))
  f279 := Tryz.func242.trans (congrArg some (by kernel_rfl))
  f280 := Tryz.func243.trans (congrArg some (by kernel_rfl))
  f281 := Tryz.func244.trans (congrArg some (by kernel_rfl))
  f282 := Tryz.func245.trans (congrArg some (by kernel_rfl))
  f283 := Tryz.func207.trans (congrArg some (by kernel_rfl))
  f284 := Tryz.func208.trans (congrArg some (by kernel_rfl))
  f285 := Tryz.func209.trans (congrArg some (by kernel_rfl))
  f286 := Tryz.func210.trans (congrArg some (by kernel_rfl))
  f287 := Tryz.func241.trans (congrArg some (by kernel_rfl))
  f316 := Tryz.func249.trans (congrArg some (by kernel_rfl))
  f317 := Tryz.func225.trans (congrArg some (by kernel_rfl))
  f318 := Tryz.func227.trans (congrArg some (by kernel_rfl))
  f319 := Tryz.func228.trans (congrArg some (by kernel_rfl))
  f320 := Tryz.func229.trans (congrArg some (by kernel_rfl))
  f321 := Tryz.func247.trans (congrArg some (by kernel_rfl))
  f322 := Tryz.func248.trans (congrArg some (by kernel_rfl))
  f337 := Tryz.func238.trans (congrArg some (by kernel_rfl))
  f338 := Tryz.func239.trans (congrArg some (by kernel_rfl))
  t0 := Tryz.underlying0
  a0 := Tryz.isAgg0
  z0 := Tryz.sizeOf0
  v0 := Tryz.zeroValue0
  t2 := Tryz.underlying2
  a2 := Tryz.isAgg2
  z2 := Tryz.sizeOf2
  v2 := Tryz.zeroValue2
  t3 := Tryz.underlying3
  a3 := Tryz.isAgg3
  z3 := Tryz.sizeOf3
  v3 := Tryz.zeroValue3
  t4 := Tryz.underlying4
  a4 := Tryz.isAgg4
  z4 := Tryz.sizeOf4
  v4 := Tryz.zeroValue4
  t5 := Tryz.underlying5
  a5 := Tryz.isAgg5
  z5 := Tryz.sizeOf5
  v5 := Tryz.zeroValue5
  t9 := Tryz.underlying9
  a9 := Tryz.isAgg9
  z9 := Tryz.sizeOf9
  v9 := Tryz.zeroValue9
  t20 := Tryz.underlying20
  a20 := Tryz.isAgg20
  z20 := Tryz.sizeOf20
  v20 := Tryz.zeroValue20
  t21 := Tryz.underlying21
  a21 := Tryz.isAgg21
  z21 := Tryz.sizeOf21
  v21 := Tryz.zeroValue21
  t37 := Tryz.underlying257
  a37 := Tryz.isAgg257
  z37 := Tryz.sizeOf257
  v37 := Tryz.zeroValue257
  t46 := Tryz.underlying300
  a46 := Tryz.isAgg300
  z46 := Tryz.sizeOf300
  v46 := Tryz.zeroValue300
  t51 := Tryz.underlying317
  a51 := Tryz.isAgg317
  z51 := Tryz.sizeOf317
  v51 := Tryz.zeroValue317
  t53 := Tryz.underlying23
  a53 := Tryz.isAgg23
  z53 := Tryz.sizeOf23
  v53 := Tryz.zeroValue23
  t75 := Tryz.underlying310
  a75 := Tryz.isAgg310
  z75 := Tryz.sizeOf310
  v75 := Tryz.zeroValue310
  t85 := Tryz.underlying311
  a85 := Tryz.isAgg311
  z85 := Tryz.sizeOf311
  v85 := Tryz.zeroValue311
  t127 := Tryz.underlying349
  a127 := Tryz.isAgg349
  z127 := Tryz.sizeOf349
  v127 := Tryz.zeroValue349
  t143 := Tryz.underlying350
  a143 := Tryz.isAgg350
  z143 := Tryz.sizeOf350
  v143 := Tryz.zeroValue350
  t145 := Tryz.underlying352
  a145 := Tryz.isAgg352
  z145 := Tryz.sizeOf352
  v145 := Tryz.zeroValue352
  t167 := Tryz.underlying335
  a167 := Tryz.isAgg335
  z167 := Tryz.sizeOf335
  v167 := Tryz.zeroValue335
  t168 := Tryz.underlying338
  a168 := Tryz.isAgg338
  z168 := Tryz.sizeOf338
  v168 := Tryz.zeroValue338
  t171 := Tryz.underlying301
  a171 := Tryz.isAgg301
  z171 := Tryz.sizeOf301
  v171 := Tryz.zeroValue301
  t173 := Tryz.underlying303
  a173 := Tryz.isAgg303
  z173 := Tryz.sizeOf303
  v173 := Tryz.zeroValue303
  t175 := Tryz.underlying336
  a175 := Tryz.isAgg336
  z175 := Tryz.sizeOf336
  v175 := Tryz.zeroValue336
  t210 := Tryz.underlying347
  a210 := Tryz.isAgg347
  z210 := Tryz.sizeOf347
  v210 := Tryz.zeroValue347
  t212 := Tryz.underlying321
  a212 := Tryz.isAgg321
  z212 := Tryz.sizeOf321
  v212 := Tryz.zeroValue321
  t213 := Tryz.underlying322
  a213 := Tryz.isAgg322
  z213 := Tryz.sizeOf322
  t232 := Tryz.underlying342
  a232 := Tryz.isAgg342
  z232 := Tryz.sizeOf342
  v232 := Tryz.zeroValue342
  t233 := Tryz.underlying343
  a233 := Tryz.isAgg343
  z233 := Tryz.sizeOf343
  v233 := Tryz.zeroValue343
  g15 := by kernel_rfl
  g16 := by kernel_rfl
  g17 := by kernel_rfl
  g18 := by kernel_rfl
  g19 := by kernel_rfl
  t80 := Tryz.underlying289
  a80 := Tryz.isAgg289
  z80 := Tryz.sizeOf289
  v80 := Tryz.zeroValue289
  i0 := by kernel_rfl
  i2 := by kernel_rfl
  i3 := by kernel_rfl
  i4 := by kernel_rfl
  i5 := by kernel_rfl
  i9 := by kernel_rfl
  i20 := by kernel_rfl
  i21 := by kernel_rfl
  i37 := by kernel_rfl
  i46 := by kernel_rfl
  i51 := by kernel_rfl
  i53 := by kernel_rfl
  i75 := by kernel_rfl
  i80 := by kernel_rfl
  i85 := by kernel_rfl
  i127 := by kernel_rfl
  i143 := by kernel_rfl
  i145 := by kernel_rfl
  i167 := by kernel_rfl
  i168 := by kernel_rfl
  i171 := by kernel_rfl
  i173 := by kernel_rfl
  i175 := by kernel_rfl
  i210 := by kernel_rfl
  i212 := by kernel_rfl
  i232 := by kernel_rfl
  i233 := by kernel_rfl
  m15 := by kernel_rfl
  m16 := by kernel_rfl
  m17 := by kernel_rfl
  m18 := by kernel_rfl
  m19 := by kernel_rfl
  c0 := by kernel_rfl
  c2 := by kernel_rfl
  c3 := by kernel_rfl
  c4 := by kernel_rfl
  c5 := by kernel_rfl
  c9 := by kernel_rfl
  c20 := by kernel_rfl
  c21 := by kernel_rfl
  c37 := by kernel_rfl
  c46 := by kernel_rfl
  c51 := by kernel_rfl
  c53 := by kernel_rfl
  c75 := by kernel_rfl
  c80 := by kernel_rfl
  c85 := by kernel_rfl
  c127 := by kernel_rfl
  c143 := by kernel_rfl
  c145 := by kernel_rfl
  c167 := by kernel_rfl
  c168 := by kernel_rfl
  c171 := by kernel_rfl
  c173 := by kernel_rfl
  c175 := by kernel_rfl
  c210 := by kernel_rfl
  c212 := by kernel_rfl
  c213 := by kernel_rfl
  c232 := by kernel_rfl
  c233 := by kernel_rfl }
theorem Tryz.strconv_ParseInt_10_at64_ok (s : ByteArray) (hmax : s.size ≤ 9223372036854775806) (v : Int) (h : Lib.parseIntB 64 s.data.toList = .ok v) (w : World) :
    Calls Tryz.prog 217 #[.string s, .int .i64 10, .int .i64 64] w fun e w' => e = .returned (.tuple #[.int .i64 v, .nilIface]) ∧ (w' = w ∨ ∃ t, w' = Lib.bytesWorld w 5 t) := Any.strconv_ParseInt_10_at64_ok Tryz.laysC174 s hmax v h w
theorem Tryz.strconv_ParseInt_10_at64_range_var (s : ByteArray) (hlim : s.size ≤ 281474976710656) (h : Lib.parseIntB 64 s.data.toList = .range) (tp : TypeId) (p : Value) (w : World) (hvar : w.var? Tryz.prog "strconv.ErrRange" = some #[.iface tp p]) :
    Calls Tryz.prog 217 #[.string s, .int .i64 10, .int .i64 64] w fun e w' => ∃ N, e = .returned (.tuple #[.int .i64 (Lib.intSat 64 s.data.toList), .iface 338 (.pointer (some ⟨N, 0, none⟩))]) ∧ w.heap.size ≤ N ∧ w'.heap[N]? = some (.cells #[.string ⟨#[80, 97, 114, 115, 101, 73, 110, 116]⟩, .string s, .iface tp p] 347 (0, 0)) ∧ Below w.heap.size w w' := Any.strconv_ParseInt_10_at64_range_var Tryz.laysC174 s hlim h tp p w hvar
def Tryz.lays143_ren : Go.Shelf.Ren := ⟨fun | 143 => 143 | 219 => 165 | 217 => 203 | 225 => 204 | 224 => 205 | 267 => 206 | 266 => 223 | 314 => 224 | n => n, fun | 9 => 9 | 3 => 3 | 4 => 4 | 5 => 5 | 46 => 300 | 146 => 318 | 51 => 317 | n => n, fun | 1 => 0 | n => n⟩
theorem Tryz.lays143 : Go.Proofs.Lays.n143 Tryz.prog Tryz.lays143_ren := {
  mixed := by kernel_rfl
  f143 := Tryz.func143.trans (congrArg some (by kernel_rfl))
  f217 := Tryz.func203.trans (congrArg some (by kernel_rfl))
  f219 := Tryz.func165.trans (congrArg some (by kernel_rfl))
  f224 := Tryz.func205.trans (congrArg some (by kernel_rfl))
  f225 := Tryz.func204.trans (congrArg some (by kernel_rfl))
  f266 := Tryz.func223.trans (congrArg some (by kernel_rfl))
  f267 := Tryz.func206.trans (congrArg some (by kernel_rfl))
  f314 := Tryz.func224.trans (congrArg some (by kernel_rfl))
  t3 := Tryz.underlying3
  a3 := Tryz.isAgg3
  z3 := Tryz.sizeOf3
  v3 := Tryz.zeroValue3
  t4 := Tryz.underlying4
  a4 := Tryz.isAgg4
  z4 := Tryz.sizeOf4
  v4 := Tryz.zeroValue4
  t5 := Tryz.underlying5
  a5 := Tryz.isAgg5
  z5 := Tryz.sizeOf5
  v5 := Tryz.zeroValue5
  t9 := Tryz.underlying9
  a9 := Tryz.isAgg9
  z9 := Tryz.sizeOf9
  v9 := Tryz.zeroValue9
  t46 := Tryz.underlying300
  a46 := Tryz.isAgg300
  z46 := Tryz.sizeOf300
  v46 := Tryz.zeroValue300
  t51 := Tryz.underlying317
  a51 := Tryz.isAgg317
  z51 := Tryz.sizeOf317
  v51 := Tryz.zeroValue317
  t146 := Tryz.underlying318
  a146 := Tryz.isAgg318
  z146 := Tryz.sizeOf318
  v146 := Tryz.zeroValue318
  g1 := by kernel_rfl }
theorem Tryz.strings_Index (s sub : ByteArray) (m : Int) (w : World) (hs : s.size < 4294967281) (hm : w.cell? ⟨0, 0, none⟩ = some (.int .i64 m)) :
    Calls Tryz.prog 143 #[.string s, .string sub] w fun e w' => e = .returned (.int .i64 (Lib.index s.data.toList sub.data.toList)) ∧ w' = w := Any.strings_Index Tryz.lays143 s sub m w hs hm
def Tryz.laysM143_ren : Go.Shelf.Ren := ⟨fun | 143 => 143 | 219 => 165 | 217 => 203 | 225 => 204 | 224 => 205 | 267 => 206 | 266 => 223 | 314 => 224 | n => n, fun | 9 => 9 | 3 => 3 | 4 => 4 | 5 => 5 | 46 => 300 | 146 => 318 | 51 => 317 | n => n, fun | 1 => 0 | n => n⟩
theorem Tryz.laysM143 : Go.Proofs.LaysM.n143 Tryz.prog Tryz.laysM143_ren := {
  mixed := by kernel_rfl
  f143 := Tryz.func143.trans (congrArg some (by kernel_rfl))
  f217 := Tryz.func203.trans (congrArg some (by kernel_rfl))
  f219 := Tryz.func165.trans (congrArg some (by kernel_rfl))
  f224 := Tryz.func205.trans (congrArg some (by kernel_rfl))
  f225 := Tryz.func204.trans (congrArg some (by kernel_rfl))
  f266 := Tryz.func223.trans (congrArg some (by kernel_rfl))
  f267 := Tryz.func206.trans (congrArg some (by kernel_rfl))
  f314 := Tryz.func224.trans (congrArg some (by kernel_rfl))
  t3 := Tryz.underlying3
  a3 := Tryz.isAgg3
  z3 := Tryz.sizeOf3
  v3 := Tryz.zeroValue3
  t4 := Tryz.underlying4
  a4 := Tryz.isAgg4
  z4 := Tryz.sizeOf4
  v4 := Tryz.zeroValue4
  t5 := Tryz.underlying5
  a5 := Tryz.isAgg5
  z5 := Tryz.sizeOf5
  v5 := Tryz.zeroValue5
  t9 := Tryz.underlying9
  a9 := Tryz.isAgg9
  z9 := Tryz.sizeOf9
  v9 := Tryz.zeroValue9
  t46 := Tryz.underlying300
  a46 := Tryz.isAgg300
  z46 := Tryz.sizeOf300
  v46 := Tryz.zeroValue300
  t51 := Tryz.underlying317
  a51 := Tryz.isAgg317
  z51 := Tryz.sizeOf317
  v51 := Tryz.zeroValue317
  t146 := Tryz.underlying318
  a146 := Tryz.isAgg318
  z146 := Tryz.sizeOf318
  v146 := Tryz.zeroValue318
  g1 := by kernel_rfl
  i3 := by kernel_rfl
  i4 := by kernel_rfl
  i5 := by kernel_rfl
  i9 := by kernel_rfl
  i46 := by kernel_rfl
  i51 := by kernel_rfl
  i146 := by kernel_rfl
  m1 := by kernel_rfl
  s1_3 := fun w h => Go.Proofs.cell_of_shapedOpen_int (zero := #[.int .i64 0]) (t := 3) h (of_decide_eq_true (by kernel_rfl)) (by kernel_rfl) rfl (by kernel_rfl) (by kernel_rfl) Tryz.underlying3 }
def Tryz.lays99_ren : Go.Shelf.Ren := ⟨fun | 99 => 191 | 206 => 218 | n => n, fun | 9 => 9 | 4 => 4 | 3 => 3 | n => n, fun | n => n⟩
theorem Tryz.lays99 : Go.Proofs.Lays.n99 Tryz.prog Tryz.lays99_ren := {
  mixed := by kernel_rfl
  f99 := Tryz.func191.trans (congrArg some (by kernel_rfl))
  f206 := Tryz.func218.trans (congrArg some (by kernel_rfl))
  t3 := Tryz.underlying3
  a3 := Tryz.isAgg3
  z3 := Tryz.sizeOf3
  v3 := Tryz.zeroValue3
  t4 := Tryz.underlying4
  a4 := Tryz.isAgg4
  z4 := Tryz.sizeOf4
  v4 := Tryz.zeroValue4
  t9 := Tryz.underlying9
  a9 := Tryz.isAgg9
  z9 := Tryz.sizeOf9
  v9 := Tryz.zeroValue9 }
theorem Tryz.strings_HasPrefix (s p : ByteArray) (w : World) :
    Calls Tryz.prog 191 #[.string s, .string p] w fun e w' => e = .returned (.bool (Lib.hasPrefix s.data.toList p.data.toList)) ∧ w' = w := Any.strings_HasPrefix Tryz.lays99 s p w
def Tryz.lays101_ren : Go.Shelf.Ren := ⟨fun | 101 => 216 | 208 => 233 | 206 => 218 | n => n, fun | 9 => 9 | 4 => 4 | 3 => 3 | n => n, fun | n => n⟩
theorem Tryz.lays101 : Go.Proofs.Lays.n101 Tryz.prog Tryz.lays101_ren := {
  mixed := by kernel_rfl
  f101 := Tryz.func216.trans (congrArg some (by kernel_rfl))
  f206 := Tryz.func218.trans (congrArg some (by kernel_rfl))
  f208 := Tryz.func233.trans (congrArg some (by kernel_rfl))
  t3 := Tryz.underlying3
  a3 := Tryz.isAgg3
  z3 := Tryz.sizeOf3
  v3 := Tryz.zeroValue3
  t4 := Tryz.underlying4
  a4 := Tryz.isAgg4
  z4 := Tryz.sizeOf4
  v4 := Tryz.zeroValue4
  t9 := Tryz.underlying9
  a9 := Tryz.isAgg9
  z9 := Tryz.sizeOf9
  v9 := Tryz.zeroValue9 }
theorem Tryz.strings_TrimPrefix (s p : ByteArray) (w : World) :
    Calls Tryz.prog 216 #[.string s, .string p] w fun e w' => e = .returned (.string ⟨(Lib.trimPrefix s.data.toList p.data.toList).toArray⟩) ∧ w' = w := Any.strings_TrimPrefix Tryz.lays101 s p w
end Go.Proofs
