/- The code of functions, looked up, its frames cut down. -/
import Derived.Test.YtcnnobcncklgfaaGreatDoorAbsS
import Derived.Test.YtcnnobcncklgfaaGreatDoorRows
import Derived.ProofKit
namespace Go.Proofs.YtcnnobcncklgfaaGreatDoor
open Go Go.Abs
def yCtla_ : YC := (.ta (.seq (.ops [⟨(sd 8), s0, .op (.bin .lss 3 (some (.int .i64)) false (sv 7) (sv 6))⟩])
 (.seq (.cond (sv 8) (.ta .skip [1, 5, 6, 7]) (.tb [1] (.exit 0)))
 (.seq (.block 1 (.seq (.ops [⟨(sd 9), s0, .op (.iaddr 1 (sv 5) (sv 7))⟩, ⟨(sd 10), s0, .op (.load none (sv 9))⟩, ⟨(sd 4), s0, .op (.ev (sv 10))⟩])
 (.seq (.ops [⟨(sd 11), s0, .op (.load (some 4) (sv 1))⟩, ⟨(sd 12), s0, .op (.ev (sv 4))⟩, ⟨(sd 13), s0, .call (sc (.fn (.func 54) [])) [(sv 11), (sv 12), (sc (.int .i64 2))]⟩])
 (.cond (sv 13) (.seq (.ops [⟨(sd 2), s0, .op (.ev (sc (.bool true)))⟩])
 (.tb [2] .ret)) (.ta .skip [1, 5, 6, 7])))))
 (.ops [⟨(sd 14), s0, .op (.bin .add 3 (some (.int .i64)) true (sv 7) (sc (.int .i64 1)))⟩, ⟨(sd 7), s0, .op (.ev (sv 14))⟩])))) [1, 5, 6, 7])
def yCtla : YC := yCtla_
theorem yCtla_r (call : ICall) (F : Nat) (T : Tr AV) (H : AH) : run call F yCtla T H = ycode call F yCtla_ T H := (rfl)
def yCtl : YF := ⟨29, (.seq (.ops [⟨(sd 1), s0, .op (.new (sv 0))⟩, ⟨(sd 2), s0, .op (.ev (sc (.bool false)))⟩])
 (.seq (.seq (.ops [⟨(sd 5), s0, .op (.bslice 1 4 [(.str []), (.str []), (.str []), (.str [])] [(0, 1, (sc (.str [58, 45]))), (1, 1, (sc (.str [44]))), (2, 1, (sc (.str [59]))), (3, 1, (sc (.str [45, 62])))])⟩, ⟨(sd 6), s0, .op (.len false (sv 5))⟩, ⟨(sd 7), s0, .op (.ev (sc (.int .i64 0)))⟩])
 (.block 0 (.tb [1, 5, 6, 7] (.loop yCtla))))
 (.seq (.ops [⟨(sd 15), s0, .op (.load (some 4) (sv 1))⟩, ⟨(sd 16), s0, .call (sc (.fn (.func 54) [])) [(sv 15), (sc (.str [92, 43])), (sc (.int .i64 1))]⟩, ⟨(sd 17), s0, .op (.ev (sv 16))⟩, ⟨(sd 18), (sg 17 false), .op (.load (some 4) (sv 1))⟩, ⟨(sd 19), (sg 17 false), .call (sc (.fn (.func 54) [])) [(sv 18), (sc (.str [33])), (sc (.int .i64 0))]⟩, ⟨(sd 20), s0, .op (.pick (sv 17) (sc (.bool true)) (sv 19))⟩, ⟨(sd 21), s0, .op (.ev (sv 20))⟩, ⟨(sd 22), (sg 21 false), .op (.load (some 4) (sv 1))⟩, ⟨(sd 23), (sg 21 false), .call (sc (.fn (.func 54) [])) [(sv 22), (sc (.str [116, 114, 117, 101])), (sc (.int .i64 0))]⟩, ⟨(sd 24), s0, .op (.pick (sv 21) (sc (.bool true)) (sv 23))⟩, ⟨(sd 25), s0, .op (.ev (sv 24))⟩, ⟨(sd 26), (sg 25 false), .op (.load (some 4) (sv 1))⟩, ⟨(sd 27), (sg 25 false), .call (sc (.fn (.func 54) [])) [(sv 26), (sc (.str [102, 97, 105, 108])), (sc (.int .i64 0))]⟩, ⟨(sd 28), s0, .op (.pick (sv 25) (sc (.bool true)) (sv 27))⟩, ⟨(sd 2), s0, .op (.ev (sv 28))⟩])
 (.tb [2] .ret)))), [sr 2]⟩
def yOf : YF := ⟨11, (.seq (.ops [⟨(sd 1), s0, .op (.new (sv 0))⟩, ⟨(sd 2), s0, .op (.ev (sc .nils))⟩, ⟨(sd 3), s0, .op (.ev (sc (.int .i64 0)))⟩])
 (.seq (.seq (.ops [⟨(sd 4), s0, .op (.load (some 4) (sv 1))⟩, ⟨(sd 5), s0, .call (sc (.fn (.func 15) [])) [(sv 4)]⟩, ⟨(sd 6), s0, .op (.un .not (sv 5))⟩])
 (.cond (sv 6) (.seq (.ops [⟨(sd 2), s0, .op (.ev (sc .nils))⟩, ⟨(sd 3), s0, .op (.ev (sc (.int .i64 1)))⟩])
 (.tb [2, 3] .ret)) (.ta .skip [1])))
 (.seq (.ops [⟨(sd 7), s0, .op (.load (some 4) (sv 1))⟩, ⟨(sd 8), s0, .call (sc (.fn (.func 43) [])) [(sv 7)]⟩, ⟨(sd 9), s0, .op (.ext (sv 8) 0)⟩, ⟨(sd 10), s0, .op (.ext (sv 8) 1)⟩, ⟨(sd 2), s0, .op (.ev (sv 9))⟩, ⟨(sd 3), s0, .op (.ev (sv 10))⟩])
 (.tb [2, 3] .ret)))), [sr 2, sr 3]⟩
def yClause : YF := ⟨45, (.seq (.ops [⟨(sd 1), s0, .op (.new (sv 0))⟩, ⟨(sd 2), s0, .op (.new (sc (.agg [(.int .i64 0), (.int .i64 0), (.str []), .nils])))⟩, ⟨(sd 3), s0, .op (.new (sc (.agg [(.int .i64 0), (.int .i64 0), (.str []), .nils])))⟩, ⟨(sd 4), s0, .op (.ev (sc (.int .i64 0)))⟩])
 (.seq (.seq (.ops [⟨(sd 5), s0, .op (.load (some 4) (sv 1))⟩, ⟨(sd 6), s0, .call (sc (.fn (.func 15) [])) [(sv 5)]⟩, ⟨(sd 7), s0, .op (.un .not (sv 6))⟩])
 (.cond (sv 7) (.seq (.ops [⟨(sd 8), s0, .op (.build [(.int .i64 0), (.int .i64 0), (.str []), .nils] [])⟩, ⟨(sd 9), s0, .op (.build [(.int .i64 0), (.int .i64 0), (.str []), .nils] [])⟩, ⟨sn, s0, .op (.store 4 (sv 2) (sv 8))⟩, ⟨sn, s0, .op (.store 4 (sv 3) (sv 9))⟩, ⟨(sd 4), s0, .op (.ev (sc (.int .i64 1)))⟩])
 (.tb [2, 3, 4] .ret)) (.ta .skip [1, 2, 3])))
 (.seq (.dops 4 [⟨0, (sd 10), s0, .load (some 4) (sv 1)⟩, ⟨1, (sd 11), s0, .k2 (.call (sc (.fn (.func 42) [])) [(sc (.str [116, 114, 117, 101]))]) [0]⟩, ⟨2, sn, s0, .k2 (.op (.store 4 (sv 2) (sv 10))) []⟩, ⟨3, sn, s0, .k2 (.op (.store 4 (sv 3) (sv 11))) []⟩])
 (.seq (.seq (.ops [⟨(sd 12), s0, .op (.load (some 4) (sv 1))⟩, ⟨(sd 13), s0, .call (sc (.fn (.func 54) [])) [(sv 12), (sc (.str [58, 45])), (sc (.int .i64 2))]⟩])
 (.cond (sv 13) (.ta (.dops 10 [⟨0, (sd 14), s0, .pure (.faddr 3 (sv 1))⟩, ⟨1, (sd 15), s0, .load none (sv 14)⟩, ⟨2, (sd 16), s0, .pure (.iaddr 4 (sv 15) (sc (.int .i64 0)))⟩, ⟨3, (sd 17), s0, .load (some 4) (sv 16)⟩, ⟨4, (sd 18), s0, .pure (.faddr 3 (sv 1))⟩, ⟨5, (sd 19), s0, .load none (sv 18)⟩, ⟨6, (sd 20), s0, .pure (.iaddr 4 (sv 19) (sc (.int .i64 1)))⟩, ⟨7, (sd 21), s0, .load (some 4) (sv 20)⟩, ⟨8, sn, s0, .k2 (.op (.store 4 (sv 2) (sv 17))) [7, 5]⟩, ⟨9, sn, s0, .k2 (.op (.store 4 (sv 3) (sv 21))) []⟩]) [2, 3]) (.ta .skip [2, 3])))
 (.seq (.block 0 (.seq (.ops [⟨(sd 28), s0, .op (.faddr 0 (sv 2))⟩, ⟨(sd 29), s0, .op (.load none (sv 28))⟩, ⟨(sd 30), s0, .op (.bin .eql 3 (some (.int .i64)) true (sv 29) (sc (.int .i64 0)))⟩, ⟨(sd 27), s0, .op (.ev (sv 30))⟩])
 (.cond (sv 27) (.ta (.ops [⟨(sd 4), s0, .op (.ev (sc (.int .i64 6)))⟩]) [2, 3, 4]) (.ta (.seq (.ops [⟨(sd 32), s0, .op (.faddr 0 (sv 2))⟩, ⟨(sd 33), s0, .op (.load none (sv 32))⟩, ⟨(sd 34), s0, .op (.bin .eql 3 (some (.int .i64)) true (sv 33) (sc (.int .i64 1)))⟩, ⟨(sd 31), s0, .op (.ev (sv 34))⟩])
 (.cond (sv 31) (.ta (.ops [⟨(sd 4), s0, .op (.ev (sc (.int .i64 5)))⟩]) [2, 3, 4]) (.ta (.seq (.ops [⟨(sd 36), s0, .op (.load (some 4) (sv 2))⟩, ⟨(sd 37), s0, .call (sc (.fn (.func 55) [])) [(sv 36)]⟩, ⟨(sd 35), s0, .op (.ev (sv 37))⟩])
 (.cond (sv 35) (.ta (.ops [⟨(sd 4), s0, .op (.ev (sc (.int .i64 8)))⟩]) [2, 3, 4]) (.ta (.ops [⟨(sd 23), s0, .op (.load (some 4) (sv 3))⟩, ⟨(sd 24), s0, .call (sc (.fn (.func 13) [])) [(sv 23)]⟩, ⟨(sd 22), s0, .op (.ev (sv 24))⟩, ⟨(sd 25), s0, .op (.ext (sv 22) 0)⟩, ⟨(sd 26), s0, .op (.ext (sv 22) 1)⟩, ⟨(sd 4), s0, .op (.ev (sv 26))⟩]) [2, 3, 4]))) [2, 3, 4]))) [2, 3, 4]))))
 (.seq (.seq (.ops [⟨(sd 38), s0, .op (.ev (sv 4))⟩, ⟨(sd 39), s0, .op (.bin .neq 28 (some (.int .i64)) true (sv 38) (sc (.int .i64 0)))⟩])
 (.cond (sv 39) (.seq (.ops [⟨(sd 40), s0, .op (.build [(.int .i64 0), (.int .i64 0), (.str []), .nils] [])⟩, ⟨(sd 41), s0, .op (.build [(.int .i64 0), (.int .i64 0), (.str []), .nils] [])⟩, ⟨(sd 42), s0, .op (.ev (sv 4))⟩, ⟨sn, s0, .op (.store 4 (sv 2) (sv 40))⟩, ⟨sn, s0, .op (.store 4 (sv 3) (sv 41))⟩, ⟨(sd 4), s0, .op (.ev (sv 42))⟩])
 (.tb [2, 3, 4] .ret)) (.ta .skip [2, 3])))
 (.seq (.dops 5 [⟨0, (sd 43), s0, .load (some 4) (sv 2)⟩, ⟨1, (sd 44), s0, .load (some 4) (sv 3)⟩, ⟨2, sn, s0, .k2 (.op (.store 4 (sv 2) (sv 43))) [1]⟩, ⟨3, sn, s0, .k2 (.op (.store 4 (sv 3) (sv 44))) []⟩, ⟨4, (sd 4), s0, .pure (.ev (sc (.int .i64 0)))⟩])
 (.tb [2, 3, 4] .ret)))))))), [sk 2 (some 4), sk 3 (some 4), sr 4]⟩
def yCounta_ : YC := (.ta (.seq (.ops [⟨(sd 20), s0, .op (.bin .lss 3 (some (.int .i64)) false (sv 19) (sv 18))⟩])
 (.seq (.cond (sv 20) (.ta .skip [3, 10, 11, 12, 17, 18, 19]) (.tb [3, 10, 11, 12] (.exit 2)))
 (.seq (.block 3 (.seq (.ops [⟨(sd 21), s0, .op (.iaddr 1 (sv 17) (sv 19))⟩, ⟨(sd 22), s0, .op (.load none (sv 21))⟩, ⟨(sd 7), s0, .op (.ev (sv 22))⟩])
 (.ops [⟨(sd 23), s0, .op (.ev (sv 3))⟩, ⟨(sd 24), s0, .op (.ev (sv 7))⟩, ⟨(sd 25), s0, .call (sc (.fn (.func 18) [])) [(sv 24)]⟩, ⟨(sd 26), s0, .op (.bin .add 3 (some (.int .i64)) false (sv 23) (sv 25))⟩, ⟨(sd 3), s0, .op (.ev (sv 26))⟩])))
 (.ops [⟨(sd 27), s0, .op (.bin .add 3 (some (.int .i64)) true (sv 19) (sc (.int .i64 1)))⟩, ⟨(sd 19), s0, .op (.ev (sv 27))⟩])))) [3, 10, 11, 12, 17, 18, 19])
def yCounta : YC := yCounta_
theorem yCounta_r (call : ICall) (F : Nat) (T : Tr AV) (H : AH) : run call F yCounta T H = ycode call F yCounta_ T H := (rfl)
def yCountb_ : YC := (.ta (.seq (.ops [⟨(sd 13), s0, .op (.bin .lss 3 (some (.int .i64)) false (sv 12) (sv 11))⟩])
 (.seq (.cond (sv 13) (.ta .skip [3, 10, 11, 12]) (.tb [3] (.exit 0)))
 (.seq (.block 1 (.seq (.ops [⟨(sd 14), s0, .op (.iaddr 6 (sv 10) (sv 12))⟩, ⟨(sd 15), s0, .op (.load (some 6) (sv 14))⟩, ⟨(sd 5), s0, .op (.new (sc (.agg [(.int .i64 0), (.int .i64 0), (.int .i64 0), (.str []), .nils, .nils])))⟩, ⟨sn, s0, .op (.store 6 (sv 5) (sv 15))⟩])
 (.seq (.ops [⟨(sd 16), s0, .op (.faddr 5 (sv 5))⟩, ⟨(sd 17), s0, .op (.load none (sv 16))⟩, ⟨(sd 18), s0, .op (.len false (sv 17))⟩, ⟨(sd 19), s0, .op (.ev (sc (.int .i64 0)))⟩])
 (.block 2 (.tb [3, 10, 11, 12, 17, 18, 19] (.loop yCounta))))))
 (.ops [⟨(sd 28), s0, .op (.bin .add 3 (some (.int .i64)) true (sv 12) (sc (.int .i64 1)))⟩, ⟨(sd 12), s0, .op (.ev (sv 28))⟩])))) [3, 10, 11, 12])
def yCountb : YC := yCountb_
theorem yCountb_r (call : ICall) (F : Nat) (T : Tr AV) (H : AH) : run call F yCountb T H = ycode call F yCountb_ T H := (rfl)
def yCount : YF := ⟨30, (.seq (.ops [⟨(sd 2), s0, .op (.ev (sc (.int .i64 0)))⟩])
 (.seq (.ops [⟨(sd 8), s0, .op (.ev (sv 0))⟩, ⟨(sd 9), s0, .op (.len false (sv 8))⟩, ⟨(sd 3), s0, .op (.ev (sv 9))⟩])
 (.seq (.seq (.ops [⟨(sd 10), s0, .op (.ev (sv 0))⟩, ⟨(sd 11), s0, .op (.len false (sv 10))⟩, ⟨(sd 12), s0, .op (.ev (sc (.int .i64 0)))⟩])
 (.block 0 (.tb [3, 10, 11, 12] (.loop yCountb))))
 (.seq (.ops [⟨(sd 29), s0, .op (.ev (sv 3))⟩, ⟨(sd 2), s0, .op (.ev (sv 29))⟩])
 (.tb [2] .ret))))), [sr 2]⟩
def yCuts : YF := ⟨5, (.seq (.ops [⟨(sd 2), s0, .op (.ev (sc (.bool false)))⟩])
 (.seq (.ops [⟨(sd 3), s0, .op (.ev (sv 0))⟩, ⟨(sd 4), s0, .call (sc (.fn (.func 49) [])) [(sv 3), (sc (.fn (.func 50) []))]⟩, ⟨(sd 2), s0, .op (.ev (sv 4))⟩])
 (.tb [2] .ret))), [sr 2]⟩
def yCuts1 : YF := ⟨27, (.seq (.ops [⟨(sd 1), s0, .op (.new (sv 0))⟩, ⟨(sd 2), s0, .op (.ev (sc (.bool false)))⟩])
 (.seq (.ops [⟨(sd 4), s0, .op (.faddr 5 (sv 1))⟩, ⟨(sd 5), s0, .op (.load none (sv 4))⟩, ⟨(sd 3), s0, .op (.ev (sv 5))⟩])
 (.seq (.block 0 (.seq (.ops [⟨(sd 7), s0, .op (.faddr 0 (sv 1))⟩, ⟨(sd 8), s0, .op (.load none (sv 7))⟩, ⟨(sd 9), s0, .op (.bin .eql 3 (some (.int .i64)) true (sv 8) (sc (.int .i64 2)))⟩, ⟨(sd 6), s0, .op (.ev (sv 9))⟩])
 (.cond (sv 6) (.seq (.ops [⟨(sd 2), s0, .op (.ev (sc (.bool true)))⟩])
 (.tb [2] .ret)) (.ta (.seq (.ops [⟨(sd 11), s0, .op (.faddr 0 (sv 1))⟩, ⟨(sd 12), s0, .op (.load none (sv 11))⟩, ⟨(sd 13), s0, .op (.bin .eql 3 (some (.int .i64)) true (sv 12) (sc (.int .i64 5)))⟩, ⟨(sd 10), s0, .op (.ev (sv 13))⟩])
 (.cond (sv 10) (.seq (.ops [⟨(sd 2), s0, .op (.ev (sc (.bool false)))⟩])
 (.tb [2] .ret)) (.ta (.seq (.ops [⟨(sd 15), s0, .op (.faddr 0 (sv 1))⟩, ⟨(sd 16), s0, .op (.load none (sv 15))⟩, ⟨(sd 17), s0, .op (.bin .eql 3 (some (.int .i64)) true (sv 16) (sc (.int .i64 4)))⟩, ⟨(sd 18), s0, .op (.ev (sv 17))⟩, ⟨(sd 19), (sg 18 true), .op (.ev (sv 3))⟩, ⟨(sd 20), (sg 18 true), .op (.len false (sv 19))⟩, ⟨(sd 21), (sg 18 true), .op (.bin .gtr 3 (some (.int .i64)) true (sv 20) (sc (.int .i64 0)))⟩, ⟨(sd 22), s0, .op (.pick (sv 18) (sv 21) (sc (.bool false)))⟩, ⟨(sd 14), s0, .op (.ev (sv 22))⟩])
 (.cond (sv 14) (.ta (.ops [⟨(sd 23), s0, .op (.ev (sv 3))⟩, ⟨(sd 24), s0, .op (.slice (some 1) (sv 23) (some (sc (.int .i64 1))) none none)⟩, ⟨(sd 3), s0, .op (.ev (sv 24))⟩]) [3]) (.ta .skip [3]))) [3]))) [3]))))
 (.seq (.ops [⟨(sd 25), s0, .op (.ev (sv 3))⟩, ⟨(sd 26), s0, .call (sc (.fn (.func 51) [])) [(sv 25), (sc (.fn (.func 19) []))]⟩, ⟨(sd 2), s0, .op (.ev (sv 26))⟩])
 (.tb [2] .ret))))), [sr 2]⟩
def yCtF : YF := ⟨9, (.seq (.ops [⟨(sd 4), s0, .op (.ev (sc (.bool false)))⟩])
 (.seq (.ops [⟨(sd 5), s0, .op (.ev (sv 0))⟩, ⟨(sd 6), s0, .op (.ev (sv 1))⟩, ⟨(sd 7), s0, .call (sc (.fn (.func 75) [])) [(sv 5), (sv 6)]⟩, ⟨(sd 8), s0, .op (.bin .geq 3 (some (.int .i64)) true (sv 7) (sc (.int .i64 0)))⟩, ⟨(sd 4), s0, .op (.ev (sv 8))⟩])
 (.tb [4] .ret))), [sr 4]⟩
def yCtR : YF := ⟨9, (.seq (.ops [⟨(sd 4), s0, .op (.ev (sc (.bool false)))⟩])
 (.seq (.ops [⟨(sd 5), s0, .op (.ev (sv 0))⟩, ⟨(sd 6), s0, .op (.ev (sv 1))⟩, ⟨(sd 7), s0, .call (sc (.fn (.func 76) [])) [(sv 5), (sv 6)]⟩, ⟨(sd 8), s0, .op (.bin .geq 3 (some (.int .i64)) true (sv 7) (sc (.int .i64 0)))⟩, ⟨(sd 4), s0, .op (.ev (sv 8))⟩])
 (.tb [4] .ret))), [sr 4]⟩
def yIxFa_ : YC := (.ta (.seq (.ops [⟨(sd 9), s0, .op (.bin .lss 3 (some (.int .i64)) false (sv 8) (sv 7))⟩])
 (.seq (.cond (sv 9) (.ta .skip [0, 1, 7, 8]) (.tb [] (.exit 0)))
 (.seq (.block 1 (.seq (.ops [⟨(sd 10), s0, .op (.ev (sv 8))⟩, ⟨(sd 5), s0, .op (.ev (sv 10))⟩])
 (.seq (.ops [⟨(sd 11), s0, .op (.ev (sv 1))⟩, ⟨(sd 12), s0, .op (.ev (sv 0))⟩, ⟨(sd 13), s0, .op (.ev (sv 5))⟩, ⟨(sd 14), s0, .op (.iaddr 6 (sv 12) (sv 13))⟩, ⟨(sd 15), s0, .op (.load (some 6) (sv 14))⟩, ⟨(sd 16), s0, .call (sv 11) [(sv 15)]⟩])
 (.cond (sv 16) (.seq (.ops [⟨(sd 17), s0, .op (.ev (sv 5))⟩, ⟨(sd 4), s0, .op (.ev (sv 17))⟩])
 (.tb [4] .ret)) (.ta .skip [0, 1, 7, 8])))))
 (.ops [⟨(sd 18), s0, .op (.bin .add 3 (some (.int .i64)) true (sv 8) (sc (.int .i64 1)))⟩, ⟨(sd 8), s0, .op (.ev (sv 18))⟩])))) [0, 1, 7, 8])
def yIxFa : YC := yIxFa_
theorem yIxFa_r (call : ICall) (F : Nat) (T : Tr AV) (H : AH) : run call F yIxFa T H = ycode call F yIxFa_ T H := (rfl)
def yIxF : YF := ⟨19, (.seq (.ops [⟨(sd 4), s0, .op (.ev (sc (.int .i64 0)))⟩])
 (.seq (.seq (.ops [⟨(sd 6), s0, .op (.ev (sv 0))⟩, ⟨(sd 7), s0, .op (.len false (sv 6))⟩, ⟨(sd 8), s0, .op (.ev (sc (.int .i64 0)))⟩])
 (.block 0 (.tb [0, 1, 7, 8] (.loop yIxFa))))
 (.seq (.ops [⟨(sd 4), s0, .op (.ev (sc (.int .i64 (-1))))⟩])
 (.tb [4] .ret)))), [sr 4]⟩
def yIxRa_ : YC := (.ta (.seq (.ops [⟨(sd 9), s0, .op (.bin .lss 3 (some (.int .i64)) false (sv 8) (sv 7))⟩])
 (.seq (.cond (sv 9) (.ta .skip [0, 1, 7, 8]) (.tb [] (.exit 0)))
 (.seq (.block 1 (.seq (.ops [⟨(sd 10), s0, .op (.ev (sv 8))⟩, ⟨(sd 5), s0, .op (.ev (sv 10))⟩])
 (.seq (.ops [⟨(sd 11), s0, .op (.ev (sv 1))⟩, ⟨(sd 12), s0, .op (.ev (sv 0))⟩, ⟨(sd 13), s0, .op (.ev (sv 5))⟩, ⟨(sd 14), s0, .op (.iaddr 1 (sv 12) (sv 13))⟩, ⟨(sd 15), s0, .op (.load none (sv 14))⟩, ⟨(sd 16), s0, .call (sv 11) [(sv 15)]⟩])
 (.cond (sv 16) (.seq (.ops [⟨(sd 17), s0, .op (.ev (sv 5))⟩, ⟨(sd 4), s0, .op (.ev (sv 17))⟩])
 (.tb [4] .ret)) (.ta .skip [0, 1, 7, 8])))))
 (.ops [⟨(sd 18), s0, .op (.bin .add 3 (some (.int .i64)) true (sv 8) (sc (.int .i64 1)))⟩, ⟨(sd 8), s0, .op (.ev (sv 18))⟩])))) [0, 1, 7, 8])
def yIxRa : YC := yIxRa_
theorem yIxRa_r (call : ICall) (F : Nat) (T : Tr AV) (H : AH) : run call F yIxRa T H = ycode call F yIxRa_ T H := (rfl)
def yIxR : YF := ⟨19, (.seq (.ops [⟨(sd 4), s0, .op (.ev (sc (.int .i64 0)))⟩])
 (.seq (.seq (.ops [⟨(sd 6), s0, .op (.ev (sv 0))⟩, ⟨(sd 7), s0, .op (.len false (sv 6))⟩, ⟨(sd 8), s0, .op (.ev (sc (.int .i64 0)))⟩])
 (.block 0 (.tb [0, 1, 7, 8] (.loop yIxRa))))
 (.seq (.ops [⟨(sd 4), s0, .op (.ev (sc (.int .i64 (-1))))⟩])
 (.tb [4] .ret)))), [sr 4]⟩
def yGoalsa_ : YC := (.ta (.seq (.seq (.ops [⟨(sd 25), s0, .op (.ev (sv 6))⟩, ⟨(sd 26), s0, .op (.ev (sv 0))⟩, ⟨(sd 27), s0, .op (.ev (sv 4))⟩, ⟨(sd 28), s0, .op (.iaddr 6 (sv 26) (sv 27))⟩, ⟨(sd 29), s0, .op (.faddr 5 (sv 28))⟩, ⟨(sd 30), s0, .op (.load none (sv 29))⟩, ⟨(sd 31), s0, .op (.len false (sv 30))⟩, ⟨(sd 32), s0, .op (.bin .lss 3 (some (.int .i64)) false (sv 25) (sv 31))⟩])
 (.cond (sv 32) (.ta .skip [0, 3, 4, 5, 6]) (.tb [0, 3, 4, 5] (.exit 2))))
 (.seq (.block 3 (.dops 15 [⟨0, (sd 35), s0, .pure (.faddr 5 (sv 5))⟩, ⟨1, (sd 36), s0, .load none (sv 35)⟩, ⟨2, (sd 37), s0, .pure (.ev (sv 0))⟩, ⟨3, (sd 38), s0, .pure (.ev (sv 4))⟩, ⟨4, (sd 39), s0, .pure (.iaddr 6 (sv 37) (sv 38))⟩, ⟨5, (sd 40), s0, .pure (.faddr 5 (sv 39))⟩, ⟨6, (sd 41), s0, .load none (sv 40)⟩, ⟨7, (sd 42), s0, .pure (.ev (sv 6))⟩, ⟨8, (sd 43), s0, .pure (.iaddr 1 (sv 41) (sv 42))⟩, ⟨9, (sd 44), s0, .load none (sv 43)⟩, ⟨10, (sd 45), s0, .k2 (.call (sc (.fn (.func 17) [])) [(sv 44)]) [1]⟩, ⟨11, (sd 46), s0, .alloc (.bslice 1 1 [.nils] [(0, 1, (sv 45))])⟩, ⟨12, (sd 47), s0, .k2 (.op (.app 1 24 (sv 36) (sv 46))) []⟩, ⟨13, (sd 48), s0, .pure (.faddr 5 (sv 5))⟩, ⟨14, sn, s0, .k2 (.op (.store 1 (sv 48) (sv 47))) []⟩]))
 (.ops [⟨(sd 33), s0, .op (.ev (sv 6))⟩, ⟨(sd 34), s0, .op (.bin .add 3 (some (.int .i64)) true (sv 33) (sc (.int .i64 1)))⟩, ⟨(sd 6), s0, .op (.ev (sv 34))⟩]))) [0, 3, 4, 5, 6])
def yGoalsa : YC := yGoalsa_
theorem yGoalsa_r (call : ICall) (F : Nat) (T : Tr AV) (H : AH) : run call F yGoalsa T H = ycode call F yGoalsa_ T H := (rfl)
def yGoalsb_ : YC := (.ta (.seq (.seq (.ops [⟨(sd 7), s0, .op (.ev (sv 4))⟩, ⟨(sd 8), s0, .op (.ev (sv 0))⟩, ⟨(sd 9), s0, .op (.len false (sv 8))⟩, ⟨(sd 10), s0, .op (.bin .lss 3 (some (.int .i64)) false (sv 7) (sv 9))⟩])
 (.cond (sv 10) (.ta .skip [0, 3, 4]) (.tb [3] (.exit 0))))
 (.seq (.block 1 (.seq (.dops 14 [⟨0, (sd 13), s0, .pure (.ev (sv 0))⟩, ⟨1, (sd 14), s0, .pure (.ev (sv 4))⟩, ⟨2, (sd 15), s0, .pure (.iaddr 6 (sv 13) (sv 14))⟩, ⟨3, (sd 16), s0, .pure (.faddr 0 (sv 15))⟩, ⟨4, (sd 17), s0, .load none (sv 16)⟩, ⟨5, (sd 18), s0, .pure (.ev (sv 0))⟩, ⟨6, (sd 19), s0, .pure (.ev (sv 4))⟩, ⟨7, (sd 20), s0, .pure (.iaddr 6 (sv 18) (sv 19))⟩, ⟨8, (sd 21), s0, .pure (.faddr 1 (sv 20))⟩, ⟨9, (sd 22), s0, .load (some 4) (sv 21)⟩, ⟨10, (sd 23), s0, .k2 (.call (sc (.fn (.func 20) [])) [(sv 22)]) [4]⟩, ⟨11, (sd 24), s0, .pure (.build [(.int .i64 0), (.int .i64 0), (.int .i64 0), (.str []), .nils, .nils] [(0, 1, (sv 17)), (1, 4, (sv 23))])⟩, ⟨12, (sd 5), s0, .alloc (.new (sc (.agg [(.int .i64 0), (.int .i64 0), (.int .i64 0), (.str []), .nils, .nils])))⟩, ⟨13, sn, s0, .k2 (.op (.store 6 (sv 5) (sv 24))) []⟩])
 (.seq (.seq (.ops [⟨(sd 6), s0, .op (.ev (sc (.int .i64 0)))⟩])
 (.block 2 (.tb [0, 3, 4, 5, 6] (.loop yGoalsa))))
 (.ops [⟨(sd 49), s0, .op (.ev (sv 3))⟩, ⟨(sd 50), s0, .op (.load (some 6) (sv 5))⟩, ⟨(sd 51), s0, .op (.bslice 6 1 [(.int .i64 0), (.int .i64 0), (.int .i64 0), (.str []), .nils, .nils] [(0, 6, (sv 50))])⟩, ⟨(sd 52), s0, .op (.app 6 88 (sv 49) (sv 51))⟩, ⟨(sd 3), s0, .op (.ev (sv 52))⟩]))))
 (.ops [⟨(sd 11), s0, .op (.ev (sv 4))⟩, ⟨(sd 12), s0, .op (.bin .add 3 (some (.int .i64)) true (sv 11) (sc (.int .i64 1)))⟩, ⟨(sd 4), s0, .op (.ev (sv 12))⟩]))) [0, 3, 4])
def yGoalsb : YC := yGoalsb_
theorem yGoalsb_r (call : ICall) (F : Nat) (T : Tr AV) (H : AH) : run call F yGoalsb T H = ycode call F yGoalsb_ T H := (rfl)
def yGoals : YF := ⟨54, (.seq (.ops [⟨(sd 2), s0, .op (.ev (sc .nils))⟩])
 (.seq (.ops [⟨(sd 3), s0, .op (.ev (sc .nils))⟩])
 (.seq (.seq (.ops [⟨(sd 4), s0, .op (.ev (sc (.int .i64 0)))⟩])
 (.block 0 (.tb [0, 3, 4] (.loop yGoalsb))))
 (.seq (.ops [⟨(sd 53), s0, .op (.ev (sv 3))⟩, ⟨(sd 2), s0, .op (.ev (sv 53))⟩])
 (.tb [2] .ret))))), [sr 2]⟩
def yRis : YF := ⟨23, (.seq (.ops [⟨(sd 3), s0, .op (.new (sv 0))⟩, ⟨(sd 6), s0, .op (.ev (sc (.bool false)))⟩])
 (.seq (.ops [⟨(sd 7), s0, .op (.faddr 0 (sv 3))⟩, ⟨(sd 8), s0, .op (.load none (sv 7))⟩, ⟨(sd 9), s0, .op (.bin .eql 3 (some (.int .i64)) true (sv 8) (sc (.int .i64 2)))⟩, ⟨(sd 10), s0, .op (.ev (sv 9))⟩, ⟨(sd 11), (sg 10 true), .op (.faddr 2 (sv 3))⟩, ⟨(sd 12), (sg 10 true), .op (.load none (sv 11))⟩, ⟨(sd 13), (sg 10 true), .op (.ev (sv 1))⟩, ⟨(sd 14), (sg 10 true), .op (.bin .eql 9 (some .string) false (sv 12) (sv 13))⟩, ⟨(sd 15), s0, .op (.pick (sv 10) (sv 14) (sc (.bool false)))⟩, ⟨(sd 16), s0, .op (.ev (sv 15))⟩, ⟨(sd 17), (sg 16 true), .op (.faddr 3 (sv 3))⟩, ⟨(sd 18), (sg 16 true), .op (.load none (sv 17))⟩, ⟨(sd 19), (sg 16 true), .op (.len false (sv 18))⟩, ⟨(sd 20), (sg 16 true), .op (.ev (sv 2))⟩, ⟨(sd 21), (sg 16 true), .op (.bin .eql 3 (some (.int .i64)) false (sv 19) (sv 20))⟩, ⟨(sd 22), s0, .op (.pick (sv 16) (sv 21) (sc (.bool false)))⟩, ⟨(sd 6), s0, .op (.ev (sv 22))⟩])
 (.tb [6] .ret))), [sr 6]⟩
def yRof : YF := ⟨116, (.seq (.ops [⟨(sd 1), s0, .op (.new (sv 0))⟩, ⟨(sd 2), s0, .op (.ev (sc .nils))⟩, ⟨(sd 3), s0, .op (.ev (sc (.int .i64 0)))⟩])
 (.seq (.block 0 (.seq (.ops [⟨(sd 5), s0, .op (.faddr 0 (sv 1))⟩, ⟨(sd 6), s0, .op (.load none (sv 5))⟩, ⟨(sd 7), s0, .op (.bin .eql 3 (some (.int .i64)) true (sv 6) (sc (.int .i64 0)))⟩, ⟨(sd 4), s0, .op (.ev (sv 7))⟩])
 (.cond (sv 4) (.seq (.ops [⟨(sd 8), s0, .op (.load (some 4) (sv 1))⟩, ⟨(sd 9), s0, .op (.bslice 4 1 [(.int .i64 0), (.int .i64 0), (.str []), .nils] [(0, 4, (sv 8))])⟩, ⟨(sd 10), s0, .call (sc (.fn (.func 80) [])) [(sc (.str [99, 97, 108, 108])), (sv 9)]⟩, ⟨(sd 11), s0, .op (.build [(.int .i64 0), (.int .i64 0), (.int .i64 0), (.str []), .nils, .nils] [(0, 1, (sc (.int .i64 1))), (1, 4, (sv 10))])⟩, ⟨(sd 12), s0, .op (.bslice 6 1 [(.int .i64 0), (.int .i64 0), (.int .i64 0), (.str []), .nils, .nils] [(0, 6, (sv 11))])⟩, ⟨(sd 2), s0, .op (.ev (sv 12))⟩, ⟨(sd 3), s0, .op (.ev (sc (.int .i64 0)))⟩])
 (.tb [2, 3] .ret)) (.ta (.seq (.ops [⟨(sd 14), s0, .op (.faddr 0 (sv 1))⟩, ⟨(sd 15), s0, .op (.load none (sv 14))⟩, ⟨(sd 16), s0, .op (.bin .eql 3 (some (.int .i64)) true (sv 15) (sc (.int .i64 1)))⟩, ⟨(sd 13), s0, .op (.ev (sv 16))⟩])
 (.cond (sv 13) (.seq (.ops [⟨(sd 2), s0, .op (.ev (sc .nils))⟩, ⟨(sd 3), s0, .op (.ev (sc (.int .i64 5)))⟩])
 (.tb [2, 3] .ret)) (.ta (.seq (.ops [⟨(sd 18), s0, .op (.load (some 4) (sv 1))⟩, ⟨(sd 19), s0, .call (sc (.fn (.func 57) [])) [(sv 18), (sc (.str [44])), (sc (.int .i64 2))]⟩, ⟨(sd 17), s0, .op (.ev (sv 19))⟩])
 (.cond (sv 17) (.seq (.dops 13 [⟨0, (sd 20), s0, .pure (.faddr 3 (sv 1))⟩, ⟨1, (sd 21), s0, .load none (sv 20)⟩, ⟨2, (sd 22), s0, .pure (.iaddr 4 (sv 21) (sc (.int .i64 0)))⟩, ⟨3, (sd 23), s0, .load (some 4) (sv 22)⟩, ⟨4, (sd 24), s0, .pure (.faddr 3 (sv 1))⟩, ⟨5, (sd 25), s0, .load none (sv 24)⟩, ⟨6, (sd 26), s0, .pure (.iaddr 4 (sv 25) (sc (.int .i64 1)))⟩, ⟨7, (sd 27), s0, .load (some 4) (sv 26)⟩, ⟨8, (sd 28), s0, .k2 (.call (sc (.fn (.func 81) [])) [(sv 23), (sv 27)]) []⟩, ⟨9, (sd 29), s0, .pure (.ext (sv 28) 0)⟩, ⟨10, (sd 30), s0, .pure (.ext (sv 28) 1)⟩, ⟨11, (sd 2), s0, .pure (.ev (sv 29))⟩, ⟨12, (sd 3), s0, .pure (.ev (sv 30))⟩])
 (.tb [2, 3] .ret)) (.ta (.seq (.ops [⟨(sd 32), s0, .op (.load (some 4) (sv 1))⟩, ⟨(sd 33), s0, .call (sc (.fn (.func 57) [])) [(sv 32), (sc (.str [116, 114, 117, 101])), (sc (.int .i64 0))]⟩, ⟨(sd 31), s0, .op (.ev (sv 33))⟩])
 (.cond (sv 31) (.seq (.ops [⟨(sd 2), s0, .op (.ev (sc .nils))⟩, ⟨(sd 3), s0, .op (.ev (sc (.int .i64 0)))⟩])
 (.tb [2, 3] .ret)) (.ta (.seq (.ops [⟨(sd 35), s0, .op (.load (some 4) (sv 1))⟩, ⟨(sd 36), s0, .call (sc (.fn (.func 57) [])) [(sv 35), (sc (.str [33])), (sc (.int .i64 0))]⟩, ⟨(sd 34), s0, .op (.ev (sv 36))⟩])
 (.cond (sv 34) (.seq (.ops [⟨(sd 37), s0, .op (.build [(.int .i64 0), (.int .i64 0), (.int .i64 0), (.str []), .nils, .nils] [(0, 1, (sc (.int .i64 2)))])⟩, ⟨(sd 38), s0, .op (.bslice 6 1 [(.int .i64 0), (.int .i64 0), (.int .i64 0), (.str []), .nils, .nils] [(0, 6, (sv 37))])⟩, ⟨(sd 2), s0, .op (.ev (sv 38))⟩, ⟨(sd 3), s0, .op (.ev (sc (.int .i64 0)))⟩])
 (.tb [2, 3] .ret)) (.ta (.seq (.ops [⟨(sd 40), s0, .op (.load (some 4) (sv 1))⟩, ⟨(sd 41), s0, .call (sc (.fn (.func 57) [])) [(sv 40), (sc (.str [59])), (sc (.int .i64 2))]⟩, ⟨(sd 42), s0, .op (.ev (sv 41))⟩, ⟨(sd 43), (sg 42 true), .op (.faddr 3 (sv 1))⟩, ⟨(sd 44), (sg 42 true), .op (.load none (sv 43))⟩, ⟨(sd 45), (sg 42 true), .op (.iaddr 4 (sv 44) (sc (.int .i64 0)))⟩, ⟨(sd 46), (sg 42 true), .op (.load (some 4) (sv 45))⟩, ⟨(sd 47), (sg 42 true), .call (sc (.fn (.func 57) [])) [(sv 46), (sc (.str [45, 62])), (sc (.int .i64 2))]⟩, ⟨(sd 48), s0, .op (.pick (sv 42) (sv 47) (sc (.bool false)))⟩, ⟨(sd 39), s0, .op (.ev (sv 48))⟩])
 (.cond (sv 39) (.seq (.dops 24 [⟨0, (sd 49), s0, .pure (.faddr 3 (sv 1))⟩, ⟨1, (sd 50), s0, .load none (sv 49)⟩, ⟨2, (sd 51), s0, .pure (.iaddr 4 (sv 50) (sc (.int .i64 0)))⟩, ⟨3, (sd 52), s0, .pure (.faddr 3 (sv 51))⟩, ⟨4, (sd 53), s0, .load none (sv 52)⟩, ⟨5, (sd 54), s0, .pure (.iaddr 4 (sv 53) (sc (.int .i64 0)))⟩, ⟨6, (sd 55), s0, .load (some 4) (sv 54)⟩, ⟨7, (sd 56), s0, .pure (.faddr 3 (sv 1))⟩, ⟨8, (sd 57), s0, .load none (sv 56)⟩, ⟨9, (sd 58), s0, .pure (.iaddr 4 (sv 57) (sc (.int .i64 0)))⟩, ⟨10, (sd 59), s0, .pure (.faddr 3 (sv 58))⟩, ⟨11, (sd 60), s0, .load none (sv 59)⟩, ⟨12, (sd 61), s0, .pure (.iaddr 4 (sv 60) (sc (.int .i64 1)))⟩, ⟨13, (sd 62), s0, .load (some 4) (sv 61)⟩, ⟨14, (sd 63), s0, .pure (.faddr 3 (sv 1))⟩, ⟨15, (sd 64), s0, .load none (sv 63)⟩, ⟨16, (sd 65), s0, .pure (.iaddr 4 (sv 64) (sc (.int .i64 1)))⟩, ⟨17, (sd 66), s0, .load (some 4) (sv 65)⟩, ⟨18, (sd 67), s0, .alloc (.bslice 4 3 [(.int .i64 0), (.int .i64 0), (.str []), .nils, (.int .i64 0), (.int .i64 0), (.str []), .nils, (.int .i64 0), (.int .i64 0), (.str []), .nils] [(0, 4, (sv 55)), (4, 4, (sv 62)), (8, 4, (sv 66))])⟩, ⟨19, (sd 68), s0, .k2 (.call (sc (.fn (.func 82) [])) [(sc (.int .i64 4)), (sv 67)]) []⟩, ⟨20, (sd 69), s0, .pure (.ext (sv 68) 0)⟩, ⟨21, (sd 70), s0, .pure (.ext (sv 68) 1)⟩, ⟨22, (sd 2), s0, .pure (.ev (sv 69))⟩, ⟨23, (sd 3), s0, .pure (.ev (sv 70))⟩])
 (.tb [2, 3] .ret)) (.ta (.seq (.ops [⟨(sd 72), s0, .op (.load (some 4) (sv 1))⟩, ⟨(sd 73), s0, .call (sc (.fn (.func 57) [])) [(sv 72), (sc (.str [59])), (sc (.int .i64 2))]⟩, ⟨(sd 71), s0, .op (.ev (sv 73))⟩])
 (.cond (sv 71) (.seq (.dops 14 [⟨0, (sd 74), s0, .pure (.faddr 3 (sv 1))⟩, ⟨1, (sd 75), s0, .load none (sv 74)⟩, ⟨2, (sd 76), s0, .pure (.iaddr 4 (sv 75) (sc (.int .i64 0)))⟩, ⟨3, (sd 77), s0, .load (some 4) (sv 76)⟩, ⟨4, (sd 78), s0, .pure (.faddr 3 (sv 1))⟩, ⟨5, (sd 79), s0, .load none (sv 78)⟩, ⟨6, (sd 80), s0, .pure (.iaddr 4 (sv 79) (sc (.int .i64 1)))⟩, ⟨7, (sd 81), s0, .load (some 4) (sv 80)⟩, ⟨8, (sd 82), s0, .alloc (.bslice 4 2 [(.int .i64 0), (.int .i64 0), (.str []), .nils, (.int .i64 0), (.int .i64 0), (.str []), .nils] [(0, 4, (sv 77)), (4, 4, (sv 81))])⟩, ⟨9, (sd 83), s0, .k2 (.call (sc (.fn (.func 82) [])) [(sc (.int .i64 3)), (sv 82)]) []⟩, ⟨10, (sd 84), s0, .pure (.ext (sv 83) 0)⟩, ⟨11, (sd 85), s0, .pure (.ext (sv 83) 1)⟩, ⟨12, (sd 2), s0, .pure (.ev (sv 84))⟩, ⟨13, (sd 3), s0, .pure (.ev (sv 85))⟩])
 (.tb [2, 3] .ret)) (.ta (.seq (.ops [⟨(sd 87), s0, .op (.load (some 4) (sv 1))⟩, ⟨(sd 88), s0, .call (sc (.fn (.func 57) [])) [(sv 87), (sc (.str [45, 62])), (sc (.int .i64 2))]⟩, ⟨(sd 86), s0, .op (.ev (sv 88))⟩])
 (.cond (sv 86) (.seq (.dops 15 [⟨0, (sd 89), s0, .pure (.faddr 3 (sv 1))⟩, ⟨1, (sd 90), s0, .load none (sv 89)⟩, ⟨2, (sd 91), s0, .pure (.iaddr 4 (sv 90) (sc (.int .i64 0)))⟩, ⟨3, (sd 92), s0, .load (some 4) (sv 91)⟩, ⟨4, (sd 93), s0, .pure (.faddr 3 (sv 1))⟩, ⟨5, (sd 94), s0, .load none (sv 93)⟩, ⟨6, (sd 95), s0, .pure (.iaddr 4 (sv 94) (sc (.int .i64 1)))⟩, ⟨7, (sd 96), s0, .load (some 4) (sv 95)⟩, ⟨8, (sd 97), s0, .k2 (.call (sc (.fn (.func 56) [])) [(sc (.str [102, 97, 105, 108]))]) [7, 5, 3, 1]⟩, ⟨9, (sd 98), s0, .alloc (.bslice 4 3 [(.int .i64 0), (.int .i64 0), (.str []), .nils, (.int .i64 0), (.int .i64 0), (.str []), .nils, (.int .i64 0), (.int .i64 0), (.str []), .nils] [(0, 4, (sv 92)), (4, 4, (sv 96)), (8, 4, (sv 97))])⟩, ⟨10, (sd 99), s0, .k2 (.call (sc (.fn (.func 82) [])) [(sc (.int .i64 4)), (sv 98)]) []⟩, ⟨11, (sd 100), s0, .pure (.ext (sv 99) 0)⟩, ⟨12, (sd 101), s0, .pure (.ext (sv 99) 1)⟩, ⟨13, (sd 2), s0, .pure (.ev (sv 100))⟩, ⟨14, (sd 3), s0, .pure (.ev (sv 101))⟩])
 (.tb [2, 3] .ret)) (.ta (.seq (.ops [⟨(sd 103), s0, .op (.load (some 4) (sv 1))⟩, ⟨(sd 104), s0, .call (sc (.fn (.func 57) [])) [(sv 103), (sc (.str [92, 43])), (sc (.int .i64 1))]⟩, ⟨(sd 102), s0, .op (.ev (sv 104))⟩])
 (.cond (sv 102) (.seq (.ops [⟨(sd 105), s0, .op (.faddr 3 (sv 1))⟩, ⟨(sd 106), s0, .op (.load none (sv 105))⟩, ⟨(sd 107), s0, .op (.iaddr 4 (sv 106) (sc (.int .i64 0)))⟩, ⟨(sd 108), s0, .op (.load (some 4) (sv 107))⟩, ⟨(sd 109), s0, .op (.bslice 4 1 [(.int .i64 0), (.int .i64 0), (.str []), .nils] [(0, 4, (sv 108))])⟩, ⟨(sd 110), s0, .call (sc (.fn (.func 82) [])) [(sc (.int .i64 5)), (sv 109)]⟩, ⟨(sd 111), s0, .op (.ext (sv 110) 0)⟩, ⟨(sd 112), s0, .op (.ext (sv 110) 1)⟩, ⟨(sd 2), s0, .op (.ev (sv 111))⟩, ⟨(sd 3), s0, .op (.ev (sv 112))⟩])
 (.tb [2, 3] .ret)) (.ta .skip [1]))) [1]))) [1]))) [1]))) [1]))) [1]))) [1]))) [1]))) [1]))))
 (.seq (.ops [⟨(sd 113), s0, .op (.load (some 4) (sv 1))⟩, ⟨(sd 114), s0, .op (.build [(.int .i64 0), (.int .i64 0), (.int .i64 0), (.str []), .nils, .nils] [(0, 1, (sc (.int .i64 1))), (1, 4, (sv 113))])⟩, ⟨(sd 115), s0, .op (.bslice 6 1 [(.int .i64 0), (.int .i64 0), (.int .i64 0), (.str []), .nils, .nils] [(0, 6, (sv 114))])⟩, ⟨(sd 2), s0, .op (.ev (sv 115))⟩, ⟨(sd 3), s0, .op (.ev (sc (.int .i64 0)))⟩])
 (.tb [2, 3] .ret)))), [sr 2, sr 3]⟩
def yRtwo : YF := ⟨31, (.seq (.ops [⟨(sd 2), s0, .op (.new (sv 0))⟩, ⟨(sd 3), s0, .op (.new (sv 1))⟩, ⟨(sd 4), s0, .op (.ev (sc .nils))⟩, ⟨(sd 5), s0, .op (.ev (sc (.int .i64 0)))⟩])
 (.seq (.ops [⟨(sd 11), s0, .op (.load (some 4) (sv 2))⟩, ⟨(sd 12), s0, .call (sc (.fn (.func 53) [])) [(sv 11)]⟩, ⟨(sd 10), s0, .op (.ev (sv 12))⟩, ⟨(sd 13), s0, .op (.ext (sv 10) 0)⟩, ⟨(sd 14), s0, .op (.ext (sv 10) 1)⟩, ⟨(sd 6), s0, .op (.ev (sv 13))⟩, ⟨(sd 7), s0, .op (.ev (sv 14))⟩])
 (.seq (.seq (.ops [⟨(sd 15), s0, .op (.ev (sv 7))⟩, ⟨(sd 16), s0, .op (.bin .neq 28 (some (.int .i64)) true (sv 15) (sc (.int .i64 0)))⟩])
 (.cond (sv 16) (.seq (.ops [⟨(sd 17), s0, .op (.ev (sv 7))⟩, ⟨(sd 4), s0, .op (.ev (sc .nils))⟩, ⟨(sd 5), s0, .op (.ev (sv 17))⟩])
 (.tb [4, 5] .ret)) (.ta .skip [3, 6])))
 (.seq (.ops [⟨(sd 19), s0, .op (.load (some 4) (sv 3))⟩, ⟨(sd 20), s0, .call (sc (.fn (.func 53) [])) [(sv 19)]⟩, ⟨(sd 18), s0, .op (.ev (sv 20))⟩, ⟨(sd 21), s0, .op (.ext (sv 18) 0)⟩, ⟨(sd 22), s0, .op (.ext (sv 18) 1)⟩, ⟨(sd 8), s0, .op (.ev (sv 21))⟩, ⟨(sd 9), s0, .op (.ev (sv 22))⟩])
 (.seq (.seq (.ops [⟨(sd 23), s0, .op (.ev (sv 9))⟩, ⟨(sd 24), s0, .op (.bin .neq 28 (some (.int .i64)) true (sv 23) (sc (.int .i64 0)))⟩])
 (.cond (sv 24) (.seq (.ops [⟨(sd 25), s0, .op (.ev (sv 9))⟩, ⟨(sd 4), s0, .op (.ev (sc .nils))⟩, ⟨(sd 5), s0, .op (.ev (sv 25))⟩])
 (.tb [4, 5] .ret)) (.ta .skip [6, 8])))
 (.seq (.ops [⟨(sd 26), s0, .op (.empty)⟩, ⟨(sd 27), s0, .op (.ev (sv 6))⟩, ⟨(sd 28), s0, .op (.app 6 88 (sv 26) (sv 27))⟩, ⟨(sd 29), s0, .op (.ev (sv 8))⟩, ⟨(sd 30), s0, .op (.app 6 88 (sv 28) (sv 29))⟩, ⟨(sd 4), s0, .op (.ev (sv 30))⟩, ⟨(sd 5), s0, .op (.ev (sc (.int .i64 0)))⟩])
 (.tb [4, 5] .ret))))))), [sr 4, sr 5]⟩
def yRrowsa_ : YC := (.ta (.seq (.seq (.ops [⟨(sd 12), s0, .op (.ev (sv 7))⟩, ⟨(sd 13), s0, .op (.ev (sv 1))⟩, ⟨(sd 14), s0, .op (.len false (sv 13))⟩, ⟨(sd 15), s0, .op (.bin .lss 3 (some (.int .i64)) false (sv 12) (sv 14))⟩])
 (.cond (sv 15) (.ta .skip [1, 6, 7]) (.tb [6] (.exit 0))))
 (.seq (.block 1 (.seq (.ops [⟨(sd 19), s0, .op (.ev (sv 1))⟩, ⟨(sd 20), s0, .op (.ev (sv 7))⟩, ⟨(sd 21), s0, .op (.iaddr 4 (sv 19) (sv 20))⟩, ⟨(sd 22), s0, .op (.load (some 4) (sv 21))⟩, ⟨(sd 23), s0, .call (sc (.fn (.func 53) [])) [(sv 22)]⟩, ⟨(sd 18), s0, .op (.ev (sv 23))⟩, ⟨(sd 24), s0, .op (.ext (sv 18) 0)⟩, ⟨(sd 25), s0, .op (.ext (sv 18) 1)⟩, ⟨(sd 8), s0, .op (.ev (sv 24))⟩, ⟨(sd 9), s0, .op (.ev (sv 25))⟩])
 (.seq (.seq (.ops [⟨(sd 26), s0, .op (.ev (sv 9))⟩, ⟨(sd 27), s0, .op (.bin .neq 28 (some (.int .i64)) true (sv 26) (sc (.int .i64 0)))⟩])
 (.cond (sv 27) (.seq (.ops [⟨(sd 28), s0, .op (.ev (sv 9))⟩, ⟨(sd 4), s0, .op (.ev (sc .nils))⟩, ⟨(sd 5), s0, .op (.ev (sv 28))⟩])
 (.tb [4, 5] .ret)) (.ta .skip [1, 6, 7, 8])))
 (.ops [⟨(sd 29), s0, .op (.faddr 5 (sv 6))⟩, ⟨(sd 30), s0, .op (.load none (sv 29))⟩, ⟨(sd 31), s0, .op (.ev (sv 8))⟩, ⟨(sd 32), s0, .op (.bslice 1 1 [.nils] [(0, 1, (sv 31))])⟩, ⟨(sd 33), s0, .op (.app 1 24 (sv 30) (sv 32))⟩, ⟨(sd 34), s0, .op (.faddr 5 (sv 6))⟩, ⟨sn, s0, .op (.store 1 (sv 34) (sv 33))⟩]))))
 (.ops [⟨(sd 16), s0, .op (.ev (sv 7))⟩, ⟨(sd 17), s0, .op (.bin .add 3 (some (.int .i64)) true (sv 16) (sc (.int .i64 1)))⟩, ⟨(sd 7), s0, .op (.ev (sv 17))⟩]))) [1, 6, 7])
def yRrowsa : YC := yRrowsa_
theorem yRrowsa_r (call : ICall) (F : Nat) (T : Tr AV) (H : AH) : run call F yRrowsa T H = ycode call F yRrowsa_ T H := (rfl)
def yRrows : YF := ⟨37, (.seq (.ops [⟨(sd 4), s0, .op (.ev (sc .nils))⟩, ⟨(sd 5), s0, .op (.ev (sc (.int .i64 0)))⟩])
 (.seq (.ops [⟨(sd 10), s0, .op (.ev (sv 0))⟩, ⟨(sd 11), s0, .op (.build [(.int .i64 0), (.int .i64 0), (.int .i64 0), (.str []), .nils, .nils] [(0, 1, (sv 10))])⟩, ⟨(sd 6), s0, .op (.new (sc (.agg [(.int .i64 0), (.int .i64 0), (.int .i64 0), (.str []), .nils, .nils])))⟩, ⟨sn, s0, .op (.store 6 (sv 6) (sv 11))⟩])
 (.seq (.seq (.ops [⟨(sd 7), s0, .op (.ev (sc (.int .i64 0)))⟩])
 (.block 0 (.tb [1, 6, 7] (.loop yRrowsa))))
 (.seq (.ops [⟨(sd 35), s0, .op (.load (some 6) (sv 6))⟩, ⟨(sd 36), s0, .op (.bslice 6 1 [(.int .i64 0), (.int .i64 0), (.int .i64 0), (.str []), .nils, .nils] [(0, 6, (sv 35))])⟩, ⟨(sd 4), s0, .op (.ev (sv 36))⟩, ⟨(sd 5), s0, .op (.ev (sc (.int .i64 0)))⟩])
 (.tb [4, 5] .ret))))), [sr 4, sr 5]⟩
def yROf : YF := ⟨11, (.seq (.ops [⟨(sd 1), s0, .op (.new (sv 0))⟩, ⟨(sd 2), s0, .op (.ev (sc .nils))⟩, ⟨(sd 3), s0, .op (.ev (sc (.int .i64 0)))⟩])
 (.seq (.seq (.ops [⟨(sd 4), s0, .op (.load (some 4) (sv 1))⟩, ⟨(sd 5), s0, .call (sc (.fn (.func 52) [])) [(sv 4)]⟩, ⟨(sd 6), s0, .op (.un .not (sv 5))⟩])
 (.cond (sv 6) (.seq (.ops [⟨(sd 2), s0, .op (.ev (sc .nils))⟩, ⟨(sd 3), s0, .op (.ev (sc (.int .i64 1)))⟩])
 (.tb [2, 3] .ret)) (.ta .skip [1])))
 (.seq (.ops [⟨(sd 7), s0, .op (.load (some 4) (sv 1))⟩, ⟨(sd 8), s0, .call (sc (.fn (.func 53) [])) [(sv 7)]⟩, ⟨(sd 9), s0, .op (.ext (sv 8) 0)⟩, ⟨(sd 10), s0, .op (.ext (sv 8) 1)⟩, ⟨(sd 2), s0, .op (.ev (sv 9))⟩, ⟨(sd 3), s0, .op (.ev (sv 10))⟩])
 (.tb [2, 3] .ret)))), [sr 2, sr 3]⟩
def yRClause : YF := ⟨76, (.seq (.ops [⟨(sd 1), s0, .op (.new (sv 0))⟩, ⟨(sd 2), s0, .op (.new (sc (.agg [(.int .i64 0), (.int .i64 0), (.str []), .nils])))⟩, ⟨(sd 3), s0, .op (.new (sc (.agg [(.int .i64 0), (.int .i64 0), (.str []), .nils])))⟩, ⟨(sd 4), s0, .op (.ev (sc (.int .i64 0)))⟩])
 (.seq (.dops 6 [⟨0, (sd 8), s0, .load (some 4) (sv 1)⟩, ⟨1, (sd 9), s0, .k2 (.call (sc (.fn (.func 56) [])) [(sc (.str [116, 114, 117, 101]))]) [0]⟩, ⟨2, (sd 5), s0, .alloc (.new (sc (.agg [(.int .i64 0), (.int .i64 0), (.str []), .nils])))⟩, ⟨3, (sd 6), s0, .alloc (.new (sc (.agg [(.int .i64 0), (.int .i64 0), (.str []), .nils])))⟩, ⟨4, sn, s0, .k2 (.op (.store 4 (sv 5) (sv 8))) []⟩, ⟨5, sn, s0, .k2 (.op (.store 4 (sv 6) (sv 9))) []⟩])
 (.seq (.seq (.ops [⟨(sd 10), s0, .op (.load (some 4) (sv 1))⟩, ⟨(sd 11), s0, .call (sc (.fn (.func 52) [])) [(sv 10)]⟩, ⟨(sd 12), s0, .op (.un .not (sv 11))⟩])
 (.cond (sv 12) (.seq (.ops [⟨(sd 13), s0, .op (.build [(.int .i64 0), (.int .i64 0), (.str []), .nils] [])⟩, ⟨(sd 14), s0, .op (.build [(.int .i64 0), (.int .i64 0), (.str []), .nils] [])⟩, ⟨sn, s0, .op (.store 4 (sv 2) (sv 13))⟩, ⟨sn, s0, .op (.store 4 (sv 3) (sv 14))⟩, ⟨(sd 4), s0, .op (.ev (sc (.int .i64 1)))⟩])
 (.tb [2, 3, 4] .ret)) (.ta .skip [1, 2, 3, 5, 6])))
 (.seq (.seq (.ops [⟨(sd 15), s0, .op (.load (some 4) (sv 1))⟩, ⟨(sd 16), s0, .call (sc (.fn (.func 57) [])) [(sv 15), (sc (.str [58, 45])), (sc (.int .i64 2))]⟩])
 (.cond (sv 16) (.ta (.dops 10 [⟨0, (sd 17), s0, .pure (.faddr 3 (sv 1))⟩, ⟨1, (sd 18), s0, .load none (sv 17)⟩, ⟨2, (sd 19), s0, .pure (.iaddr 4 (sv 18) (sc (.int .i64 0)))⟩, ⟨3, (sd 20), s0, .load (some 4) (sv 19)⟩, ⟨4, (sd 21), s0, .pure (.faddr 3 (sv 1))⟩, ⟨5, (sd 22), s0, .load none (sv 21)⟩, ⟨6, (sd 23), s0, .pure (.iaddr 4 (sv 22) (sc (.int .i64 1)))⟩, ⟨7, (sd 24), s0, .load (some 4) (sv 23)⟩, ⟨8, sn, s0, .k2 (.op (.store 4 (sv 5) (sv 20))) [7, 5]⟩, ⟨9, sn, s0, .k2 (.op (.store 4 (sv 6) (sv 24))) []⟩]) [2, 3, 5, 6]) (.ta .skip [2, 3, 5, 6])))
 (.seq (.ops [⟨(sd 7), s0, .op (.ev (sc (.int .i64 0)))⟩])
 (.seq (.block 0 (.seq (.ops [⟨(sd 31), s0, .op (.faddr 0 (sv 5))⟩, ⟨(sd 32), s0, .op (.load none (sv 31))⟩, ⟨(sd 33), s0, .op (.bin .eql 3 (some (.int .i64)) true (sv 32) (sc (.int .i64 0)))⟩, ⟨(sd 30), s0, .op (.ev (sv 33))⟩])
 (.cond (sv 30) (.ta (.ops [⟨(sd 7), s0, .op (.ev (sc (.int .i64 6)))⟩]) [2, 3, 5, 6, 7]) (.ta (.seq (.ops [⟨(sd 35), s0, .op (.faddr 0 (sv 5))⟩, ⟨(sd 36), s0, .op (.load none (sv 35))⟩, ⟨(sd 37), s0, .op (.bin .eql 3 (some (.int .i64)) true (sv 36) (sc (.int .i64 1)))⟩, ⟨(sd 34), s0, .op (.ev (sv 37))⟩])
 (.cond (sv 34) (.ta (.ops [⟨(sd 7), s0, .op (.ev (sc (.int .i64 5)))⟩]) [2, 3, 5, 6, 7]) (.ta (.seq (.ops [⟨(sd 39), s0, .op (.load (some 4) (sv 5))⟩, ⟨(sd 40), s0, .call (sc (.fn (.func 57) [])) [(sv 39), (sc (.str [58, 45])), (sc (.int .i64 2))]⟩, ⟨(sd 41), s0, .op (.ev (sv 40))⟩, ⟨(sd 42), (sg 41 false), .op (.load (some 4) (sv 5))⟩, ⟨(sd 43), (sg 41 false), .call (sc (.fn (.func 57) [])) [(sv 42), (sc (.str [44])), (sc (.int .i64 2))]⟩, ⟨(sd 44), s0, .op (.pick (sv 41) (sc (.bool true)) (sv 43))⟩, ⟨(sd 45), s0, .op (.ev (sv 44))⟩, ⟨(sd 46), (sg 45 false), .op (.load (some 4) (sv 5))⟩, ⟨(sd 47), (sg 45 false), .call (sc (.fn (.func 57) [])) [(sv 46), (sc (.str [59])), (sc (.int .i64 2))]⟩, ⟨(sd 48), s0, .op (.pick (sv 45) (sc (.bool true)) (sv 47))⟩, ⟨(sd 49), s0, .op (.ev (sv 48))⟩, ⟨(sd 50), (sg 49 false), .op (.load (some 4) (sv 5))⟩, ⟨(sd 51), (sg 49 false), .call (sc (.fn (.func 57) [])) [(sv 50), (sc (.str [45, 62])), (sc (.int .i64 2))]⟩, ⟨(sd 52), s0, .op (.pick (sv 49) (sc (.bool true)) (sv 51))⟩, ⟨(sd 53), s0, .op (.ev (sv 52))⟩, ⟨(sd 54), (sg 53 false), .op (.load (some 4) (sv 5))⟩, ⟨(sd 55), (sg 53 false), .call (sc (.fn (.func 57) [])) [(sv 54), (sc (.str [92, 43])), (sc (.int .i64 1))]⟩, ⟨(sd 56), s0, .op (.pick (sv 53) (sc (.bool true)) (sv 55))⟩, ⟨(sd 57), s0, .op (.ev (sv 56))⟩, ⟨(sd 58), (sg 57 false), .op (.load (some 4) (sv 5))⟩, ⟨(sd 59), (sg 57 false), .call (sc (.fn (.func 57) [])) [(sv 58), (sc (.str [33])), (sc (.int .i64 0))]⟩, ⟨(sd 60), s0, .op (.pick (sv 57) (sc (.bool true)) (sv 59))⟩, ⟨(sd 61), s0, .op (.ev (sv 60))⟩, ⟨(sd 62), (sg 61 false), .op (.load (some 4) (sv 5))⟩, ⟨(sd 63), (sg 61 false), .call (sc (.fn (.func 57) [])) [(sv 62), (sc (.str [116, 114, 117, 101])), (sc (.int .i64 0))]⟩, ⟨(sd 64), s0, .op (.pick (sv 61) (sc (.bool true)) (sv 63))⟩, ⟨(sd 65), s0, .op (.ev (sv 64))⟩, ⟨(sd 66), (sg 65 false), .op (.load (some 4) (sv 5))⟩, ⟨(sd 67), (sg 65 false), .call (sc (.fn (.func 57) [])) [(sv 66), (sc (.str [102, 97, 105, 108])), (sc (.int .i64 0))]⟩, ⟨(sd 68), s0, .op (.pick (sv 65) (sc (.bool true)) (sv 67))⟩, ⟨(sd 38), s0, .op (.ev (sv 68))⟩])
 (.cond (sv 38) (.ta (.ops [⟨(sd 7), s0, .op (.ev (sc (.int .i64 8)))⟩]) [2, 3, 5, 6, 7]) (.ta (.ops [⟨(sd 26), s0, .op (.load (some 4) (sv 6))⟩, ⟨(sd 27), s0, .call (sc (.fn (.func 53) [])) [(sv 26)]⟩, ⟨(sd 25), s0, .op (.ev (sv 27))⟩, ⟨(sd 28), s0, .op (.ext (sv 25) 0)⟩, ⟨(sd 29), s0, .op (.ext (sv 25) 1)⟩, ⟨(sd 7), s0, .op (.ev (sv 29))⟩]) [2, 3, 5, 6, 7]))) [2, 3, 5, 6, 7]))) [2, 3, 5, 6, 7]))))
 (.seq (.seq (.ops [⟨(sd 69), s0, .op (.ev (sv 7))⟩, ⟨(sd 70), s0, .op (.bin .neq 28 (some (.int .i64)) true (sv 69) (sc (.int .i64 0)))⟩])
 (.cond (sv 70) (.seq (.ops [⟨(sd 71), s0, .op (.build [(.int .i64 0), (.int .i64 0), (.str []), .nils] [])⟩, ⟨(sd 72), s0, .op (.build [(.int .i64 0), (.int .i64 0), (.str []), .nils] [])⟩, ⟨(sd 73), s0, .op (.ev (sv 7))⟩, ⟨sn, s0, .op (.store 4 (sv 2) (sv 71))⟩, ⟨sn, s0, .op (.store 4 (sv 3) (sv 72))⟩, ⟨(sd 4), s0, .op (.ev (sv 73))⟩])
 (.tb [2, 3, 4] .ret)) (.ta .skip [2, 3, 5, 6])))
 (.seq (.dops 5 [⟨0, (sd 74), s0, .load (some 4) (sv 5)⟩, ⟨1, (sd 75), s0, .load (some 4) (sv 6)⟩, ⟨2, sn, s0, .k2 (.op (.store 4 (sv 2) (sv 74))) [1]⟩, ⟨3, sn, s0, .k2 (.op (.store 4 (sv 3) (sv 75))) []⟩, ⟨4, (sd 4), s0, .pure (.ev (sc (.int .i64 0)))⟩])
 (.tb [2, 3, 4] .ret))))))))), [sk 2 (some 4), sk 3 (some 4), sr 4]⟩
def yRSamea_ : YC := (.ta (.seq (.seq (.ops [⟨(sd 58), s0, .op (.ev (sv 6))⟩, ⟨(sd 59), s0, .op (.ev (sv 0))⟩, ⟨(sd 60), s0, .op (.ev (sv 5))⟩, ⟨(sd 61), s0, .op (.iaddr 6 (sv 59) (sv 60))⟩, ⟨(sd 62), s0, .op (.faddr 5 (sv 61))⟩, ⟨(sd 63), s0, .op (.load none (sv 62))⟩, ⟨(sd 64), s0, .op (.len false (sv 63))⟩, ⟨(sd 65), s0, .op (.bin .lss 3 (some (.int .i64)) false (sv 58) (sv 64))⟩])
 (.cond (sv 65) (.ta .skip [0, 1, 5, 6]) (.tb [0, 1, 5] (.exit 2))))
 (.seq (.block 3 (.seq (.dops 18 [⟨0, (sd 68), s0, .pure (.ev (sv 0))⟩, ⟨1, (sd 69), s0, .pure (.ev (sv 5))⟩, ⟨2, (sd 70), s0, .pure (.iaddr 6 (sv 68) (sv 69))⟩, ⟨3, (sd 71), s0, .pure (.faddr 5 (sv 70))⟩, ⟨4, (sd 72), s0, .load none (sv 71)⟩, ⟨5, (sd 73), s0, .pure (.ev (sv 6))⟩, ⟨6, (sd 74), s0, .pure (.iaddr 1 (sv 72) (sv 73))⟩, ⟨7, (sd 75), s0, .load none (sv 74)⟩, ⟨8, (sd 76), s0, .pure (.ev (sv 1))⟩, ⟨9, (sd 77), s0, .pure (.ev (sv 5))⟩, ⟨10, (sd 78), s0, .pure (.iaddr 6 (sv 76) (sv 77))⟩, ⟨11, (sd 79), s0, .pure (.faddr 5 (sv 78))⟩, ⟨12, (sd 80), s0, .load none (sv 79)⟩, ⟨13, (sd 81), s0, .pure (.ev (sv 6))⟩, ⟨14, (sd 82), s0, .pure (.iaddr 1 (sv 80) (sv 81))⟩, ⟨15, (sd 83), s0, .load none (sv 82)⟩, ⟨16, (sd 84), s0, .k2 (.call (sc (.fn (.func 16) [])) [(sv 75), (sv 83)]) []⟩, ⟨17, (sd 85), s0, .pure (.un .not (sv 84))⟩])
 (.cond (sv 85) (.seq (.ops [⟨(sd 4), s0, .op (.ev (sc (.bool false)))⟩])
 (.tb [4] .ret)) (.ta .skip [0, 1, 5, 6]))))
 (.ops [⟨(sd 66), s0, .op (.ev (sv 6))⟩, ⟨(sd 67), s0, .op (.bin .add 3 (some (.int .i64)) true (sv 66) (sc (.int .i64 1)))⟩, ⟨(sd 6), s0, .op (.ev (sv 67))⟩]))) [0, 1, 5, 6])
def yRSamea : YC := yRSamea_
theorem yRSamea_r (call : ICall) (F : Nat) (T : Tr AV) (H : AH) : run call F yRSamea T H = ycode call F yRSamea_ T H := (rfl)
def yRSameb_ : YC := (.ta (.seq (.seq (.ops [⟨(sd 12), s0, .op (.ev (sv 5))⟩, ⟨(sd 13), s0, .op (.ev (sv 0))⟩, ⟨(sd 14), s0, .op (.len false (sv 13))⟩, ⟨(sd 15), s0, .op (.bin .lss 3 (some (.int .i64)) false (sv 12) (sv 14))⟩])
 (.cond (sv 15) (.ta .skip [0, 1, 5]) (.tb [] (.exit 0))))
 (.seq (.block 1 (.seq (.seq (.dops 40 [⟨0, (sd 18), s0, .pure (.ev (sv 0))⟩, ⟨1, (sd 19), s0, .pure (.ev (sv 5))⟩, ⟨2, (sd 20), s0, .pure (.iaddr 6 (sv 18) (sv 19))⟩, ⟨3, (sd 21), s0, .pure (.faddr 0 (sv 20))⟩, ⟨4, (sd 22), s0, .load none (sv 21)⟩, ⟨5, (sd 23), s0, .pure (.ev (sv 1))⟩, ⟨6, (sd 24), s0, .pure (.ev (sv 5))⟩, ⟨7, (sd 25), s0, .pure (.iaddr 6 (sv 23) (sv 24))⟩, ⟨8, (sd 26), s0, .pure (.faddr 0 (sv 25))⟩, ⟨9, (sd 27), s0, .load none (sv 26)⟩, ⟨10, (sd 28), s0, .pure (.bin .neq 3 (some (.int .i64)) false (sv 22) (sv 27))⟩, ⟨11, (sd 29), s0, .pure (.ev (sv 28))⟩, ⟨12, (sd 30), (sg 29 false), .pure (.ev (sv 0))⟩, ⟨13, (sd 31), (sg 29 false), .pure (.ev (sv 5))⟩, ⟨14, (sd 32), (sg 29 false), .pure (.iaddr 6 (sv 30) (sv 31))⟩, ⟨15, (sd 33), (sg 29 false), .pure (.faddr 1 (sv 32))⟩, ⟨16, (sd 34), (sg 29 false), .load (some 4) (sv 33)⟩, ⟨17, (sd 35), (sg 29 false), .pure (.ev (sv 1))⟩, ⟨18, (sd 36), (sg 29 false), .pure (.ev (sv 5))⟩, ⟨19, (sd 37), (sg 29 false), .pure (.iaddr 6 (sv 35) (sv 36))⟩, ⟨20, (sd 38), (sg 29 false), .pure (.faddr 1 (sv 37))⟩, ⟨21, (sd 39), (sg 29 false), .load (some 4) (sv 38)⟩, ⟨22, (sd 40), (sg 29 false), .k2 (.call (sc (.fn (.func 24) [])) [(sv 34), (sv 39)]) []⟩, ⟨23, (sd 41), (sg 29 false), .pure (.un .not (sv 40))⟩, ⟨24, (sd 42), s0, .pure (.pick (sv 29) (sc (.bool true)) (sv 41))⟩, ⟨25, (sd 43), s0, .pure (.ev (sv 42))⟩, ⟨26, (sd 44), (sg 43 false), .pure (.ev (sv 0))⟩, ⟨27, (sd 45), (sg 43 false), .pure (.ev (sv 5))⟩, ⟨28, (sd 46), (sg 43 false), .pure (.iaddr 6 (sv 44) (sv 45))⟩, ⟨29, (sd 47), (sg 43 false), .pure (.faddr 5 (sv 46))⟩, ⟨30, (sd 48), (sg 43 false), .load none (sv 47)⟩, ⟨31, (sd 49), (sg 43 false), .pure (.len false (sv 48))⟩, ⟨32, (sd 50), (sg 43 false), .pure (.ev (sv 1))⟩, ⟨33, (sd 51), (sg 43 false), .pure (.ev (sv 5))⟩, ⟨34, (sd 52), (sg 43 false), .pure (.iaddr 6 (sv 50) (sv 51))⟩, ⟨35, (sd 53), (sg 43 false), .pure (.faddr 5 (sv 52))⟩, ⟨36, (sd 54), (sg 43 false), .load none (sv 53)⟩, ⟨37, (sd 55), (sg 43 false), .pure (.len false (sv 54))⟩, ⟨38, (sd 56), (sg 43 false), .pure (.bin .neq 3 (some (.int .i64)) false (sv 49) (sv 55))⟩, ⟨39, (sd 57), s0, .pure (.pick (sv 43) (sc (.bool true)) (sv 56))⟩])
 (.cond (sv 57) (.seq (.ops [⟨(sd 4), s0, .op (.ev (sc (.bool false)))⟩])
 (.tb [4] .ret)) (.ta .skip [0, 1, 5])))
 (.seq (.ops [⟨(sd 6), s0, .op (.ev (sc (.int .i64 0)))⟩])
 (.block 2 (.tb [0, 1, 5, 6] (.loop yRSamea))))))
 (.ops [⟨(sd 16), s0, .op (.ev (sv 5))⟩, ⟨(sd 17), s0, .op (.bin .add 3 (some (.int .i64)) true (sv 16) (sc (.int .i64 1)))⟩, ⟨(sd 5), s0, .op (.ev (sv 17))⟩]))) [0, 1, 5])
def yRSameb : YC := yRSameb_
theorem yRSameb_r (call : ICall) (F : Nat) (T : Tr AV) (H : AH) : run call F yRSameb T H = ycode call F yRSameb_ T H := (rfl)
def yRSame : YF := ⟨86, (.seq (.ops [⟨(sd 4), s0, .op (.ev (sc (.bool false)))⟩])
 (.seq (.seq (.ops [⟨(sd 7), s0, .op (.ev (sv 0))⟩, ⟨(sd 8), s0, .op (.len false (sv 7))⟩, ⟨(sd 9), s0, .op (.ev (sv 1))⟩, ⟨(sd 10), s0, .op (.len false (sv 9))⟩, ⟨(sd 11), s0, .op (.bin .neq 3 (some (.int .i64)) false (sv 8) (sv 10))⟩])
 (.cond (sv 11) (.seq (.ops [⟨(sd 4), s0, .op (.ev (sc (.bool false)))⟩])
 (.tb [4] .ret)) (.ta .skip [0, 1])))
 (.seq (.seq (.ops [⟨(sd 5), s0, .op (.ev (sc (.int .i64 0)))⟩])
 (.block 0 (.tb [0, 1, 5] (.loop yRSameb))))
 (.seq (.ops [⟨(sd 4), s0, .op (.ev (sc (.bool true)))⟩])
 (.tb [4] .ret))))), [sr 4]⟩
def yRCounta_ : YC := (.ta (.seq (.seq (.ops [⟨(sd 14), s0, .op (.ev (sv 5))⟩, ⟨(sd 15), s0, .op (.ev (sv 0))⟩, ⟨(sd 16), s0, .op (.ev (sv 4))⟩, ⟨(sd 17), s0, .op (.iaddr 6 (sv 15) (sv 16))⟩, ⟨(sd 18), s0, .op (.faddr 5 (sv 17))⟩, ⟨(sd 19), s0, .op (.load none (sv 18))⟩, ⟨(sd 20), s0, .op (.len false (sv 19))⟩, ⟨(sd 21), s0, .op (.bin .lss 3 (some (.int .i64)) false (sv 14) (sv 20))⟩])
 (.cond (sv 21) (.ta .skip [0, 3, 4, 5]) (.tb [0, 3, 4] (.exit 2))))
 (.seq (.block 3 (.ops [⟨(sd 24), s0, .op (.ev (sv 3))⟩, ⟨(sd 25), s0, .op (.ev (sv 0))⟩, ⟨(sd 26), s0, .op (.ev (sv 4))⟩, ⟨(sd 27), s0, .op (.iaddr 6 (sv 25) (sv 26))⟩, ⟨(sd 28), s0, .op (.faddr 5 (sv 27))⟩, ⟨(sd 29), s0, .op (.load none (sv 28))⟩, ⟨(sd 30), s0, .op (.ev (sv 5))⟩, ⟨(sd 31), s0, .op (.iaddr 1 (sv 29) (sv 30))⟩, ⟨(sd 32), s0, .op (.load none (sv 31))⟩, ⟨(sd 33), s0, .call (sc (.fn (.func 25) [])) [(sv 32)]⟩, ⟨(sd 34), s0, .op (.bin .add 3 (some (.int .i64)) false (sv 24) (sv 33))⟩, ⟨(sd 3), s0, .op (.ev (sv 34))⟩]))
 (.ops [⟨(sd 22), s0, .op (.ev (sv 5))⟩, ⟨(sd 23), s0, .op (.bin .add 3 (some (.int .i64)) true (sv 22) (sc (.int .i64 1)))⟩, ⟨(sd 5), s0, .op (.ev (sv 23))⟩]))) [0, 3, 4, 5])
def yRCounta : YC := yRCounta_
theorem yRCounta_r (call : ICall) (F : Nat) (T : Tr AV) (H : AH) : run call F yRCounta T H = ycode call F yRCounta_ T H := (rfl)
def yRCountb_ : YC := (.ta (.seq (.seq (.ops [⟨(sd 8), s0, .op (.ev (sv 4))⟩, ⟨(sd 9), s0, .op (.ev (sv 0))⟩, ⟨(sd 10), s0, .op (.len false (sv 9))⟩, ⟨(sd 11), s0, .op (.bin .lss 3 (some (.int .i64)) false (sv 8) (sv 10))⟩])
 (.cond (sv 11) (.ta .skip [0, 3, 4]) (.tb [3] (.exit 0))))
 (.seq (.block 1 (.seq (.ops [⟨(sd 5), s0, .op (.ev (sc (.int .i64 0)))⟩])
 (.block 2 (.tb [0, 3, 4, 5] (.loop yRCounta)))))
 (.ops [⟨(sd 12), s0, .op (.ev (sv 4))⟩, ⟨(sd 13), s0, .op (.bin .add 3 (some (.int .i64)) true (sv 12) (sc (.int .i64 1)))⟩, ⟨(sd 4), s0, .op (.ev (sv 13))⟩]))) [0, 3, 4])
def yRCountb : YC := yRCountb_
theorem yRCountb_r (call : ICall) (F : Nat) (T : Tr AV) (H : AH) : run call F yRCountb T H = ycode call F yRCountb_ T H := (rfl)
def yRCount : YF := ⟨36, (.seq (.ops [⟨(sd 2), s0, .op (.ev (sc (.int .i64 0)))⟩])
 (.seq (.ops [⟨(sd 6), s0, .op (.ev (sv 0))⟩, ⟨(sd 7), s0, .op (.len false (sv 6))⟩, ⟨(sd 3), s0, .op (.ev (sv 7))⟩])
 (.seq (.seq (.ops [⟨(sd 4), s0, .op (.ev (sc (.int .i64 0)))⟩])
 (.block 0 (.tb [0, 3, 4] (.loop yRCountb))))
 (.seq (.ops [⟨(sd 35), s0, .op (.ev (sv 3))⟩, ⟨(sd 2), s0, .op (.ev (sv 35))⟩])
 (.tb [2] .ret))))), [sr 2]⟩
def yRCutsa_ : YC := (.ta (.seq (.seq (.ops [⟨(sd 17), s0, .op (.ev (sv 4))⟩, ⟨(sd 18), s0, .op (.ev (sv 0))⟩, ⟨(sd 19), s0, .op (.ev (sv 3))⟩, ⟨(sd 20), s0, .op (.iaddr 6 (sv 18) (sv 19))⟩, ⟨(sd 21), s0, .op (.faddr 5 (sv 20))⟩, ⟨(sd 22), s0, .op (.load none (sv 21))⟩, ⟨(sd 23), s0, .op (.len false (sv 22))⟩, ⟨(sd 24), s0, .op (.bin .lss 3 (some (.int .i64)) false (sv 17) (sv 23))⟩, ⟨(sd 25), s0, .op (.ev (sv 24))⟩, ⟨(sd 26), (sg 25 true), .op (.ev (sv 0))⟩, ⟨(sd 27), (sg 25 true), .op (.ev (sv 3))⟩, ⟨(sd 28), (sg 25 true), .op (.iaddr 6 (sv 26) (sv 27))⟩, ⟨(sd 29), (sg 25 true), .op (.faddr 0 (sv 28))⟩, ⟨(sd 30), (sg 25 true), .op (.load none (sv 29))⟩, ⟨(sd 31), (sg 25 true), .op (.bin .neq 3 (some (.int .i64)) true (sv 30) (sc (.int .i64 5)))⟩, ⟨(sd 32), s0, .op (.pick (sv 25) (sv 31) (sc (.bool false)))⟩])
 (.cond (sv 32) (.ta .skip [0, 3, 4]) (.tb [0, 3] (.exit 2))))
 (.seq (.block 3 (.seq (.ops [⟨(sd 35), s0, .op (.ev (sv 0))⟩, ⟨(sd 36), s0, .op (.ev (sv 3))⟩, ⟨(sd 37), s0, .op (.iaddr 6 (sv 35) (sv 36))⟩, ⟨(sd 38), s0, .op (.faddr 0 (sv 37))⟩, ⟨(sd 39), s0, .op (.load none (sv 38))⟩, ⟨(sd 40), s0, .op (.bin .neq 3 (some (.int .i64)) true (sv 39) (sc (.int .i64 4)))⟩, ⟨(sd 41), s0, .op (.ev (sv 40))⟩, ⟨(sd 42), (sg 41 false), .op (.ev (sv 4))⟩, ⟨(sd 43), (sg 41 false), .op (.bin .gtr 3 (some (.int .i64)) true (sv 42) (sc (.int .i64 0)))⟩, ⟨(sd 44), s0, .op (.pick (sv 41) (sc (.bool true)) (sv 43))⟩, ⟨(sd 45), s0, .op (.ev (sv 44))⟩, ⟨(sd 46), (sg 45 true), .op (.ev (sv 0))⟩, ⟨(sd 47), (sg 45 true), .op (.ev (sv 3))⟩, ⟨(sd 48), (sg 45 true), .op (.iaddr 6 (sv 46) (sv 47))⟩, ⟨(sd 49), (sg 45 true), .op (.faddr 5 (sv 48))⟩, ⟨(sd 50), (sg 45 true), .op (.load none (sv 49))⟩, ⟨(sd 51), (sg 45 true), .op (.ev (sv 4))⟩, ⟨(sd 52), (sg 45 true), .op (.iaddr 1 (sv 50) (sv 51))⟩, ⟨(sd 53), (sg 45 true), .op (.load none (sv 52))⟩, ⟨(sd 54), (sg 45 true), .call (sc (.fn (.func 26) [])) [(sv 53)]⟩, ⟨(sd 55), s0, .op (.pick (sv 45) (sv 54) (sc (.bool false)))⟩])
 (.cond (sv 55) (.seq (.ops [⟨(sd 2), s0, .op (.ev (sc (.bool true)))⟩])
 (.tb [2] .ret)) (.ta .skip [0, 3, 4]))))
 (.ops [⟨(sd 33), s0, .op (.ev (sv 4))⟩, ⟨(sd 34), s0, .op (.bin .add 3 (some (.int .i64)) true (sv 33) (sc (.int .i64 1)))⟩, ⟨(sd 4), s0, .op (.ev (sv 34))⟩]))) [0, 3, 4])
def yRCutsa : YC := yRCutsa_
theorem yRCutsa_r (call : ICall) (F : Nat) (T : Tr AV) (H : AH) : run call F yRCutsa T H = ycode call F yRCutsa_ T H := (rfl)
def yRCutsb_ : YC := (.ta (.seq (.seq (.ops [⟨(sd 5), s0, .op (.ev (sv 3))⟩, ⟨(sd 6), s0, .op (.ev (sv 0))⟩, ⟨(sd 7), s0, .op (.len false (sv 6))⟩, ⟨(sd 8), s0, .op (.bin .lss 3 (some (.int .i64)) false (sv 5) (sv 7))⟩])
 (.cond (sv 8) (.ta .skip [0, 3]) (.tb [] (.exit 0))))
 (.seq (.block 1 (.seq (.seq (.ops [⟨(sd 11), s0, .op (.ev (sv 0))⟩, ⟨(sd 12), s0, .op (.ev (sv 3))⟩, ⟨(sd 13), s0, .op (.iaddr 6 (sv 11) (sv 12))⟩, ⟨(sd 14), s0, .op (.faddr 0 (sv 13))⟩, ⟨(sd 15), s0, .op (.load none (sv 14))⟩, ⟨(sd 16), s0, .op (.bin .eql 3 (some (.int .i64)) true (sv 15) (sc (.int .i64 2)))⟩])
 (.cond (sv 16) (.seq (.ops [⟨(sd 2), s0, .op (.ev (sc (.bool true)))⟩])
 (.tb [2] .ret)) (.ta .skip [0, 3])))
 (.seq (.ops [⟨(sd 4), s0, .op (.ev (sc (.int .i64 0)))⟩])
 (.block 2 (.tb [0, 3, 4] (.loop yRCutsa))))))
 (.ops [⟨(sd 9), s0, .op (.ev (sv 3))⟩, ⟨(sd 10), s0, .op (.bin .add 3 (some (.int .i64)) true (sv 9) (sc (.int .i64 1)))⟩, ⟨(sd 3), s0, .op (.ev (sv 10))⟩]))) [0, 3])
def yRCutsb : YC := yRCutsb_
theorem yRCutsb_r (call : ICall) (F : Nat) (T : Tr AV) (H : AH) : run call F yRCutsb T H = ycode call F yRCutsb_ T H := (rfl)
def yRCuts : YF := ⟨56, (.seq (.ops [⟨(sd 2), s0, .op (.ev (sc (.bool false)))⟩])
 (.seq (.seq (.ops [⟨(sd 3), s0, .op (.ev (sc (.int .i64 0)))⟩])
 (.block 0 (.tb [0, 3] (.loop yRCutsb))))
 (.seq (.ops [⟨(sd 2), s0, .op (.ev (sc (.bool false)))⟩])
 (.tb [2] .ret)))), [sr 2]⟩
def yRAtom : YF := ⟨5, (.seq (.ops [⟨(sd 2), s0, .op (.new (sc (.agg [(.int .i64 0), (.int .i64 0), (.str []), .nils])))⟩])
 (.seq (.ops [⟨(sd 3), s0, .op (.ev (sv 0))⟩, ⟨(sd 4), s0, .op (.build [(.int .i64 0), (.int .i64 0), (.str []), .nils] [(0, 1, (sc (.int .i64 2))), (2, 1, (sv 3))])⟩, ⟨sn, s0, .op (.store 4 (sv 2) (sv 4))⟩])
 (.tb [2] .ret))), [sk 2 (some 4)]⟩
def yRComp : YF := ⟨8, (.seq (.ops [⟨(sd 4), s0, .op (.new (sc (.agg [(.int .i64 0), (.int .i64 0), (.str []), .nils])))⟩])
 (.seq (.ops [⟨(sd 5), s0, .op (.ev (sv 0))⟩, ⟨(sd 6), s0, .op (.ev (sv 1))⟩, ⟨(sd 7), s0, .op (.build [(.int .i64 0), (.int .i64 0), (.str []), .nils] [(0, 1, (sc (.int .i64 2))), (2, 1, (sv 5)), (3, 1, (sv 6))])⟩, ⟨sn, s0, .op (.store 4 (sv 4) (sv 7))⟩])
 (.tb [4] .ret))), [sk 4 (some 4)]⟩
def yTSamea_ : YC := (.ta (.seq (.seq (.ops [⟨(sd 34), s0, .op (.ev (sv 5))⟩, ⟨(sd 35), s0, .op (.faddr 3 (sv 2))⟩, ⟨(sd 36), s0, .op (.load none (sv 35))⟩, ⟨(sd 37), s0, .op (.len false (sv 36))⟩, ⟨(sd 38), s0, .op (.bin .lss 3 (some (.int .i64)) false (sv 34) (sv 37))⟩])
 (.cond (sv 38) (.ta .skip [2, 3, 5]) (.tb [] (.exit 0))))
 (.seq (.block 1 (.seq (.dops 12 [⟨0, (sd 41), s0, .pure (.faddr 3 (sv 2))⟩, ⟨1, (sd 42), s0, .load none (sv 41)⟩, ⟨2, (sd 43), s0, .pure (.ev (sv 5))⟩, ⟨3, (sd 44), s0, .pure (.iaddr 4 (sv 42) (sv 43))⟩, ⟨4, (sd 45), s0, .load (some 4) (sv 44)⟩, ⟨5, (sd 46), s0, .pure (.faddr 3 (sv 3))⟩, ⟨6, (sd 47), s0, .load none (sv 46)⟩, ⟨7, (sd 48), s0, .pure (.ev (sv 5))⟩, ⟨8, (sd 49), s0, .pure (.iaddr 4 (sv 47) (sv 48))⟩, ⟨9, (sd 50), s0, .load (some 4) (sv 49)⟩, ⟨10, (sd 51), s0, .k2 (.call (sc (.fn (.func 24) [])) [(sv 45), (sv 50)]) []⟩, ⟨11, (sd 52), s0, .pure (.un .not (sv 51))⟩])
 (.cond (sv 52) (.seq (.ops [⟨(sd 4), s0, .op (.ev (sc (.bool false)))⟩])
 (.tb [4] .ret)) (.ta .skip [2, 3, 5]))))
 (.ops [⟨(sd 39), s0, .op (.ev (sv 5))⟩, ⟨(sd 40), s0, .op (.bin .add 3 (some (.int .i64)) true (sv 39) (sc (.int .i64 1)))⟩, ⟨(sd 5), s0, .op (.ev (sv 40))⟩]))) [2, 3, 5])
def yTSamea : YC := yTSamea_
theorem yTSamea_r (call : ICall) (F : Nat) (T : Tr AV) (H : AH) : run call F yTSamea T H = ycode call F yTSamea_ T H := (rfl)
def yTSame : YF := ⟨53, (.seq (.ops [⟨(sd 2), s0, .op (.new (sv 0))⟩, ⟨(sd 3), s0, .op (.new (sv 1))⟩, ⟨(sd 4), s0, .op (.ev (sc (.bool false)))⟩])
 (.seq (.seq (.ops [⟨(sd 6), s0, .op (.faddr 0 (sv 2))⟩, ⟨(sd 7), s0, .op (.load none (sv 6))⟩, ⟨(sd 8), s0, .op (.faddr 0 (sv 3))⟩, ⟨(sd 9), s0, .op (.load none (sv 8))⟩, ⟨(sd 10), s0, .op (.bin .neq 3 (some (.int .i64)) false (sv 7) (sv 9))⟩, ⟨(sd 11), s0, .op (.ev (sv 10))⟩, ⟨(sd 12), (sg 11 false), .op (.faddr 1 (sv 2))⟩, ⟨(sd 13), (sg 11 false), .op (.load none (sv 12))⟩, ⟨(sd 14), (sg 11 false), .op (.faddr 1 (sv 3))⟩, ⟨(sd 15), (sg 11 false), .op (.load none (sv 14))⟩, ⟨(sd 16), (sg 11 false), .op (.bin .neq 2 (some (.int .i64)) false (sv 13) (sv 15))⟩, ⟨(sd 17), s0, .op (.pick (sv 11) (sc (.bool true)) (sv 16))⟩, ⟨(sd 18), s0, .op (.ev (sv 17))⟩, ⟨(sd 19), (sg 18 false), .op (.faddr 2 (sv 2))⟩, ⟨(sd 20), (sg 18 false), .op (.load none (sv 19))⟩, ⟨(sd 21), (sg 18 false), .op (.faddr 2 (sv 3))⟩, ⟨(sd 22), (sg 18 false), .op (.load none (sv 21))⟩, ⟨(sd 23), (sg 18 false), .op (.bin .neq 9 (some .string) false (sv 20) (sv 22))⟩, ⟨(sd 24), s0, .op (.pick (sv 18) (sc (.bool true)) (sv 23))⟩, ⟨(sd 25), s0, .op (.ev (sv 24))⟩, ⟨(sd 26), (sg 25 false), .op (.faddr 3 (sv 2))⟩, ⟨(sd 27), (sg 25 false), .op (.load none (sv 26))⟩, ⟨(sd 28), (sg 25 false), .op (.len false (sv 27))⟩, ⟨(sd 29), (sg 25 false), .op (.faddr 3 (sv 3))⟩, ⟨(sd 30), (sg 25 false), .op (.load none (sv 29))⟩, ⟨(sd 31), (sg 25 false), .op (.len false (sv 30))⟩, ⟨(sd 32), (sg 25 false), .op (.bin .neq 3 (some (.int .i64)) false (sv 28) (sv 31))⟩, ⟨(sd 33), s0, .op (.pick (sv 25) (sc (.bool true)) (sv 32))⟩])
 (.cond (sv 33) (.seq (.ops [⟨(sd 4), s0, .op (.ev (sc (.bool false)))⟩])
 (.tb [4] .ret)) (.ta .skip [2, 3])))
 (.seq (.seq (.ops [⟨(sd 5), s0, .op (.ev (sc (.int .i64 0)))⟩])
 (.block 0 (.tb [2, 3, 5] (.loop yTSamea))))
 (.seq (.ops [⟨(sd 4), s0, .op (.ev (sc (.bool true)))⟩])
 (.tb [4] .ret))))), [sr 4]⟩
set_option maxRecDepth 100000 in
theorem yCtl_ok : cFun Tryz.prog (fun _ => true) 55 = some yCtl.er := by kernel_rfl
set_option maxRecDepth 100000 in
theorem yOf_ok : cFun Tryz.prog (fun _ => true) 13 = some yOf.er := by kernel_rfl
set_option maxRecDepth 100000 in
theorem yClause_ok : cFun Tryz.prog (fun _ => true) 22 = some yClause.er := by kernel_rfl
set_option maxRecDepth 100000 in
theorem yCount_ok : cFun Tryz.prog (fun _ => true) 18 = some yCount.er := by kernel_rfl
set_option maxRecDepth 100000 in
theorem yCuts_ok : cFun Tryz.prog (fun _ => true) 19 = some yCuts.er := by kernel_rfl
set_option maxRecDepth 100000 in
theorem yCuts1_ok : cFun Tryz.prog (fun _ => true) 50 = some yCuts1.er := by kernel_rfl
set_option maxRecDepth 100000 in
theorem yCtF_ok : cFun Tryz.prog (fun _ => true) 49 = some yCtF.er := by kernel_rfl
set_option maxRecDepth 100000 in
theorem yCtR_ok : cFun Tryz.prog (fun _ => true) 51 = some yCtR.er := by kernel_rfl
set_option maxRecDepth 100000 in
theorem yIxF_ok : cFun Tryz.prog (fun _ => true) 75 = some yIxF.er := by kernel_rfl
set_option maxRecDepth 100000 in
theorem yIxR_ok : cFun Tryz.prog (fun _ => true) 76 = some yIxR.er := by kernel_rfl
set_option maxRecDepth 100000 in
theorem yGoals_ok : cFun Tryz.prog (fun _ => true) 17 = some yGoals.er := by kernel_rfl
set_option maxRecDepth 100000 in
theorem yRis_ok : cFun Tryz.prog (fun _ => true) 57 = some yRis.er := by kernel_rfl
set_option maxRecDepth 100000 in
theorem yRof_ok : cFun Tryz.prog (fun _ => true) 53 = some yRof.er := by kernel_rfl
set_option maxRecDepth 100000 in
theorem yRtwo_ok : cFun Tryz.prog (fun _ => true) 81 = some yRtwo.er := by kernel_rfl
set_option maxRecDepth 100000 in
theorem yRrows_ok : cFun Tryz.prog (fun _ => true) 82 = some yRrows.er := by kernel_rfl
set_option maxRecDepth 100000 in
theorem yROf_ok : cFun Tryz.prog (fun _ => true) 21 = some yROf.er := by kernel_rfl
set_option maxRecDepth 100000 in
theorem yRClause_ok : cFun Tryz.prog (fun _ => true) 23 = some yRClause.er := by kernel_rfl
set_option maxRecDepth 100000 in
theorem yRSame_ok : cFun Tryz.prog (fun _ => true) 16 = some yRSame.er := by kernel_rfl
set_option maxRecDepth 100000 in
theorem yRCount_ok : cFun Tryz.prog (fun _ => true) 25 = some yRCount.er := by kernel_rfl
set_option maxRecDepth 100000 in
theorem yRCuts_ok : cFun Tryz.prog (fun _ => true) 26 = some yRCuts.er := by kernel_rfl
set_option maxRecDepth 100000 in
theorem yRAtom_ok : cFun Tryz.prog (fun _ => true) 56 = some yRAtom.er := by kernel_rfl
set_option maxRecDepth 100000 in
theorem yRComp_ok : cFun Tryz.prog (fun _ => true) 80 = some yRComp.er := by kernel_rfl
set_option maxRecDepth 100000 in
theorem yTSame_ok : cFun Tryz.prog (fun _ => true) 24 = some yTSame.er := by kernel_rfl
end Go.Proofs.YtcnnobcncklgfaaGreatDoor
