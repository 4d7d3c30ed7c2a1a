/- The code of functions, looked up, its frames cut down. -/
import Derived.Test.YtcnnobcncklgfaaGreatDoorAbsS
import Derived.Test.YtcnnobcncklgfaaGreatDoorRows
import Derived.ProofKit
namespace Go.Proofs.YtcnnobcncklgfaaGreatDoor
open Go Go.Abs
def yGBacka_ : YC := (.ta (.seq (.ops [⟨(sd 25), s0, .op (.bin .lss 3 (some (.int .i64)) false (sv 24) (sv 23))⟩])
 (.seq (.cond (sv 25) (.ta .skip [1, 2, 5, 22, 23, 24]) (.tb [1, 2, 5] (.exit 0)))
 (.seq (.block 1 (.seq (.ops [⟨(sd 26), s0, .op (.iaddr 1 (sv 22) (sv 24))⟩, ⟨(sd 27), s0, .op (.load none (sv 26))⟩, ⟨(sd 7), s0, .op (.ev (sv 27))⟩])
 (.seq (.ops [⟨(sd 29), s0, .op (.ev (sv 7))⟩, ⟨(sd 30), s0, .call (sc (.fn (.func 59) [])) [(sv 29)]⟩, ⟨(sd 28), s0, .op (.ev (sv 30))⟩, ⟨(sd 31), s0, .op (.ext (sv 28) 0)⟩, ⟨(sd 32), s0, .op (.ext (sv 28) 1)⟩, ⟨(sd 8), s0, .op (.new (sc (.agg [(.int .i64 0), (.int .i64 0), (.str []), .nils])))⟩, ⟨sn, s0, .op (.store 4 (sv 8) (sv 31))⟩, ⟨(sd 9), s0, .op (.ev (sv 32))⟩])
 (.seq (.seq (.ops [⟨(sd 33), s0, .op (.ev (sv 9))⟩, ⟨(sd 34), s0, .op (.un .not (sv 33))⟩])
 (.cond (sv 34) (.seq (.ops [⟨(sd 35), s0, .op (.build [(.int .i64 0), (.int .i64 0), (.str []), .nils] [])⟩, ⟨sn, s0, .op (.store 4 (sv 2) (sv 35))⟩, ⟨(sd 3), s0, .op (.ev (sc (.bool false)))⟩])
 (.tb [2, 3] .ret)) (.ta .skip [1, 2, 5, 8, 22, 23, 24])))
 (.ops [⟨(sd 36), s0, .op (.ev (sv 5))⟩, ⟨(sd 37), s0, .op (.load (some 4) (sv 8))⟩, ⟨(sd 38), s0, .op (.bslice 4 1 [(.int .i64 0), (.int .i64 0), (.str []), .nils] [(0, 4, (sv 37))])⟩, ⟨(sd 39), s0, .op (.app 4 56 (sv 36) (sv 38))⟩, ⟨(sd 5), s0, .op (.ev (sv 39))⟩])))))
 (.ops [⟨(sd 40), s0, .op (.bin .add 3 (some (.int .i64)) true (sv 24) (sc (.int .i64 1)))⟩, ⟨(sd 24), s0, .op (.ev (sv 40))⟩])))) [1, 2, 5, 22, 23, 24])
def yGBacka : YC := yGBacka_
theorem yGBacka_r (call : ICall) (F : Nat) (T : Tr AV) (H : AH) : run call F yGBacka T H = ycode call F yGBacka_ T H := (rfl)
def yGBack : YF := ⟨74, (.seq (.ops [⟨(sd 1), s0, .op (.new (sv 0))⟩, ⟨(sd 2), s0, .op (.new (sc (.agg [(.int .i64 0), (.int .i64 0), (.str []), .nils])))⟩, ⟨(sd 3), s0, .op (.ev (sc (.bool false)))⟩])
 (.seq (.ops [⟨(sd 10), s0, .op (.mop .make [])⟩, ⟨sn, s0, .op (.mop (.put (.int .i64)) [(sv 10), (sc (.int .i64 3)), (sc (.int .i64 2))])⟩, ⟨sn, s0, .op (.mop (.put (.int .i64)) [(sv 10), (sc (.int .i64 4)), (sc (.int .i64 3))])⟩, ⟨sn, s0, .op (.mop (.put (.int .i64)) [(sv 10), (sc (.int .i64 5)), (sc (.int .i64 1))])⟩, ⟨(sd 11), s0, .op (.ev (sv 10))⟩, ⟨(sd 4), s0, .op (.ev (sv 11))⟩])
 (.seq (.seq (.ops [⟨(sd 12), s0, .op (.faddr 5 (sv 1))⟩, ⟨(sd 13), s0, .op (.load none (sv 12))⟩, ⟨(sd 14), s0, .op (.len false (sv 13))⟩, ⟨(sd 15), s0, .op (.ev (sv 4))⟩, ⟨(sd 16), s0, .op (.faddr 0 (sv 1))⟩, ⟨(sd 17), s0, .op (.load none (sv 16))⟩, ⟨(sd 18), s0, .op (.mop (.get (.int .i64) (.int .i64 0) false) [(sv 15), (sv 17)])⟩, ⟨(sd 19), s0, .op (.bin .neq 3 (some (.int .i64)) false (sv 14) (sv 18))⟩])
 (.cond (sv 19) (.seq (.ops [⟨(sd 20), s0, .op (.build [(.int .i64 0), (.int .i64 0), (.str []), .nils] [])⟩, ⟨sn, s0, .op (.store 4 (sv 2) (sv 20))⟩, ⟨(sd 3), s0, .op (.ev (sc (.bool false)))⟩])
 (.tb [2, 3] .ret)) (.ta .skip [1, 2])))
 (.seq (.ops [⟨(sd 5), s0, .op (.ev (sc .nils))⟩])
 (.seq (.seq (.ops [⟨(sd 21), s0, .op (.faddr 5 (sv 1))⟩, ⟨(sd 22), s0, .op (.load none (sv 21))⟩, ⟨(sd 23), s0, .op (.len false (sv 22))⟩, ⟨(sd 24), s0, .op (.ev (sc (.int .i64 0)))⟩])
 (.block 0 (.tb [1, 2, 5, 22, 23, 24] (.loop yGBacka))))
 (.seq (.seq (.ops [⟨(sd 41), s0, .op (.faddr 0 (sv 1))⟩, ⟨(sd 42), s0, .op (.load none (sv 41))⟩])
 (.block 2 (.seq (.ops [⟨(sd 44), s0, .op (.bin .eql 3 (some (.int .i64)) true (sv 42) (sc (.int .i64 1)))⟩, ⟨(sd 43), s0, .op (.ev (sv 44))⟩])
 (.cond (sv 43) (.seq (.ops [⟨(sd 45), s0, .op (.faddr 1 (sv 1))⟩, ⟨(sd 46), s0, .op (.load (some 4) (sv 45))⟩, ⟨sn, s0, .op (.store 4 (sv 2) (sv 46))⟩, ⟨(sd 3), s0, .op (.ev (sc (.bool true)))⟩])
 (.tb [2, 3] .ret)) (.ta (.seq (.ops [⟨(sd 48), s0, .op (.bin .eql 3 (some (.int .i64)) true (sv 42) (sc (.int .i64 2)))⟩, ⟨(sd 47), s0, .op (.ev (sv 48))⟩])
 (.cond (sv 47) (.seq (.ops [⟨(sd 49), s0, .call (sc (.fn (.func 42) [])) [(sc (.str [33]))]⟩, ⟨sn, s0, .op (.store 4 (sv 2) (sv 49))⟩, ⟨(sd 3), s0, .op (.ev (sc (.bool true)))⟩])
 (.tb [2, 3] .ret)) (.ta (.seq (.ops [⟨(sd 51), s0, .op (.bin .eql 3 (some (.int .i64)) true (sv 42) (sc (.int .i64 3)))⟩, ⟨(sd 50), s0, .op (.ev (sv 51))⟩])
 (.cond (sv 50) (.seq (.ops [⟨(sd 52), s0, .op (.ev (sv 5))⟩, ⟨(sd 53), s0, .call (sc (.fn (.func 14) [])) [(sc (.str [59])), (sv 52)]⟩, ⟨sn, s0, .op (.store 4 (sv 2) (sv 53))⟩, ⟨(sd 3), s0, .op (.ev (sc (.bool true)))⟩])
 (.tb [2, 3] .ret)) (.ta (.seq (.ops [⟨(sd 55), s0, .op (.bin .eql 3 (some (.int .i64)) true (sv 42) (sc (.int .i64 4)))⟩, ⟨(sd 54), s0, .op (.ev (sv 55))⟩])
 (.cond (sv 54) (.seq (.dops 15 [⟨0, (sd 56), s0, .pure (.ev (sv 5))⟩, ⟨1, (sd 57), s0, .pure (.iaddr 4 (sv 56) (sc (.int .i64 0)))⟩, ⟨2, (sd 58), s0, .load (some 4) (sv 57)⟩, ⟨3, (sd 59), s0, .pure (.ev (sv 5))⟩, ⟨4, (sd 60), s0, .pure (.iaddr 4 (sv 59) (sc (.int .i64 1)))⟩, ⟨5, (sd 61), s0, .load (some 4) (sv 60)⟩, ⟨8, (sd 64), s0, .pure (.ev (sv 5))⟩, ⟨9, (sd 65), s0, .pure (.iaddr 4 (sv 64) (sc (.int .i64 2)))⟩, ⟨10, (sd 66), s0, .load (some 4) (sv 65)⟩, ⟨6, (sd 62), s0, .alloc (.bslice 4 2 [(.int .i64 0), (.int .i64 0), (.str []), .nils, (.int .i64 0), (.int .i64 0), (.str []), .nils] [(0, 4, (sv 58)), (4, 4, (sv 61))])⟩, ⟨7, (sd 63), s0, .k2 (.call (sc (.fn (.func 14) [])) [(sc (.str [45, 62])), (sv 62)]) [10]⟩, ⟨11, (sd 67), s0, .alloc (.bslice 4 2 [(.int .i64 0), (.int .i64 0), (.str []), .nils, (.int .i64 0), (.int .i64 0), (.str []), .nils] [(0, 4, (sv 63)), (4, 4, (sv 66))])⟩, ⟨12, (sd 68), s0, .k2 (.call (sc (.fn (.func 14) [])) [(sc (.str [59])), (sv 67)]) []⟩, ⟨13, sn, s0, .k2 (.op (.store 4 (sv 2) (sv 68))) []⟩, ⟨14, (sd 3), s0, .pure (.ev (sc (.bool true)))⟩])
 (.tb [2, 3] .ret)) (.ta (.seq (.ops [⟨(sd 70), s0, .op (.bin .eql 3 (some (.int .i64)) true (sv 42) (sc (.int .i64 5)))⟩, ⟨(sd 69), s0, .op (.ev (sv 70))⟩])
 (.cond (sv 69) (.seq (.ops [⟨(sd 71), s0, .op (.ev (sv 5))⟩, ⟨(sd 72), s0, .call (sc (.fn (.func 14) [])) [(sc (.str [92, 43])), (sv 71)]⟩, ⟨sn, s0, .op (.store 4 (sv 2) (sv 72))⟩, ⟨(sd 3), s0, .op (.ev (sc (.bool true)))⟩])
 (.tb [2, 3] .ret)) (.ta .skip [2]))) [2]))) [2]))) [2]))) [2])))))
 (.seq (.ops [⟨(sd 73), s0, .op (.build [(.int .i64 0), (.int .i64 0), (.str []), .nils] [])⟩, ⟨sn, s0, .op (.store 4 (sv 2) (sv 73))⟩, ⟨(sd 3), s0, .op (.ev (sc (.bool false)))⟩])
 (.tb [2, 3] .ret)))))))), [sk 2 (some 4), sr 3]⟩
def yJoineda_ : YC := (.ta (.seq (.seq (.ops [⟨(sd 15), s0, .op (.ev (sv 5))⟩, ⟨(sd 16), s0, .op (.bin .geq 3 (some (.int .i64)) true (sv 15) (sc (.int .i64 0)))⟩])
 (.cond (sv 16) (.ta .skip [0, 2, 4, 5]) (.tb [2, 4] (.exit 0))))
 (.seq (.block 1 (.seq (.ops [⟨(sd 20), s0, .op (.ev (sv 0))⟩, ⟨(sd 21), s0, .op (.ev (sv 5))⟩, ⟨(sd 22), s0, .op (.iaddr 6 (sv 20) (sv 21))⟩, ⟨(sd 23), s0, .op (.load (some 6) (sv 22))⟩, ⟨(sd 24), s0, .call (sc (.fn (.func 86) [])) [(sv 23)]⟩, ⟨(sd 19), s0, .op (.ev (sv 24))⟩, ⟨(sd 25), s0, .op (.ext (sv 19) 0)⟩, ⟨(sd 26), s0, .op (.ext (sv 19) 1)⟩, ⟨(sd 6), s0, .op (.new (sc (.agg [(.int .i64 0), (.int .i64 0), (.str []), .nils])))⟩, ⟨sn, s0, .op (.store 4 (sv 6) (sv 25))⟩, ⟨(sd 7), s0, .op (.ev (sv 26))⟩])
 (.seq (.seq (.ops [⟨(sd 27), s0, .op (.ev (sv 7))⟩, ⟨(sd 28), s0, .op (.un .not (sv 27))⟩])
 (.cond (sv 28) (.seq (.ops [⟨(sd 29), s0, .op (.build [(.int .i64 0), (.int .i64 0), (.str []), .nils] [])⟩, ⟨sn, s0, .op (.store 4 (sv 2) (sv 29))⟩, ⟨(sd 3), s0, .op (.ev (sc (.bool false)))⟩])
 (.tb [2, 3] .ret)) (.ta .skip [0, 2, 4, 5, 6])))
 (.seq (.seq (.ops [⟨(sd 30), s0, .op (.ev (sv 5))⟩, ⟨(sd 31), s0, .op (.ev (sv 0))⟩, ⟨(sd 32), s0, .op (.len false (sv 31))⟩, ⟨(sd 33), s0, .op (.bin .sub 3 (some (.int .i64)) true (sv 32) (sc (.int .i64 1)))⟩, ⟨(sd 34), s0, .op (.bin .lss 3 (some (.int .i64)) false (sv 30) (sv 33))⟩])
 (.cond (sv 34) (.ta (.ops [⟨(sd 35), s0, .op (.load (some 4) (sv 6))⟩, ⟨(sd 36), s0, .op (.load (some 4) (sv 4))⟩, ⟨(sd 37), s0, .op (.bslice 4 2 [(.int .i64 0), (.int .i64 0), (.str []), .nils, (.int .i64 0), (.int .i64 0), (.str []), .nils] [(0, 4, (sv 35)), (4, 4, (sv 36))])⟩, ⟨(sd 38), s0, .call (sc (.fn (.func 14) [])) [(sc (.str [44])), (sv 37)]⟩, ⟨sn, s0, .op (.store 4 (sv 6) (sv 38))⟩]) [0, 2, 4, 5, 6]) (.ta .skip [0, 2, 4, 5, 6])))
 (.ops [⟨(sd 39), s0, .op (.load (some 4) (sv 6))⟩, ⟨sn, s0, .op (.store 4 (sv 4) (sv 39))⟩])))))
 (.ops [⟨(sd 17), s0, .op (.ev (sv 5))⟩, ⟨(sd 18), s0, .op (.bin .sub 3 (some (.int .i64)) true (sv 17) (sc (.int .i64 1)))⟩, ⟨(sd 5), s0, .op (.ev (sv 18))⟩]))) [0, 2, 4, 5])
def yJoineda : YC := yJoineda_
theorem yJoineda_r (call : ICall) (F : Nat) (T : Tr AV) (H : AH) : run call F yJoineda T H = ycode call F yJoineda_ T H := (rfl)
def yJoined : YF := ⟨41, (.seq (.ops [⟨(sd 2), s0, .op (.new (sc (.agg [(.int .i64 0), (.int .i64 0), (.str []), .nils])))⟩, ⟨(sd 3), s0, .op (.ev (sc (.bool false)))⟩])
 (.seq (.seq (.ops [⟨(sd 8), s0, .op (.ev (sv 0))⟩, ⟨(sd 9), s0, .op (.len false (sv 8))⟩, ⟨(sd 10), s0, .op (.bin .eql 3 (some (.int .i64)) true (sv 9) (sc (.int .i64 0)))⟩])
 (.cond (sv 10) (.seq (.ops [⟨(sd 11), s0, .call (sc (.fn (.func 42) [])) [(sc (.str [116, 114, 117, 101]))]⟩, ⟨sn, s0, .op (.store 4 (sv 2) (sv 11))⟩, ⟨(sd 3), s0, .op (.ev (sc (.bool true)))⟩])
 (.tb [2, 3] .ret)) (.ta .skip [0, 2])))
 (.seq (.ops [⟨(sd 4), s0, .op (.new (sc (.agg [(.int .i64 0), (.int .i64 0), (.str []), .nils])))⟩])
 (.seq (.seq (.ops [⟨(sd 12), s0, .op (.ev (sv 0))⟩, ⟨(sd 13), s0, .op (.len false (sv 12))⟩, ⟨(sd 14), s0, .op (.bin .sub 3 (some (.int .i64)) true (sv 13) (sc (.int .i64 1)))⟩, ⟨(sd 5), s0, .op (.ev (sv 14))⟩])
 (.block 0 (.tb [0, 2, 4, 5] (.loop yJoineda))))
 (.seq (.ops [⟨(sd 40), s0, .op (.load (some 4) (sv 4))⟩, ⟨sn, s0, .op (.store 4 (sv 2) (sv 40))⟩, ⟨(sd 3), s0, .op (.ev (sc (.bool true)))⟩])
 (.tb [2, 3] .ret)))))), [sk 2 (some 4), sr 3]⟩
def yBack : YF := ⟨11, (.seq (.ops [⟨(sd 2), s0, .op (.new (sc (.agg [(.int .i64 0), (.int .i64 0), (.str []), .nils])))⟩])
 (.seq (.ops [⟨(sd 6), s0, .op (.ev (sv 0))⟩, ⟨(sd 7), s0, .call (sc (.fn (.func 59) [])) [(sv 6)]⟩, ⟨(sd 5), s0, .op (.ev (sv 7))⟩, ⟨(sd 8), s0, .op (.ext (sv 5) 0)⟩, ⟨(sd 9), s0, .op (.ext (sv 5) 1)⟩, ⟨(sd 3), s0, .op (.new (sc (.agg [(.int .i64 0), (.int .i64 0), (.str []), .nils])))⟩, ⟨sn, s0, .op (.store 4 (sv 3) (sv 8))⟩, ⟨(sd 4), s0, .op (.ev (sv 9))⟩])
 (.seq (.ops [⟨(sd 10), s0, .op (.load (some 4) (sv 3))⟩, ⟨sn, s0, .op (.store 4 (sv 2) (sv 10))⟩])
 (.tb [2] .ret)))), [sk 2 (some 4)]⟩
def yBBack : YF := ⟨38, (.seq (.ops [⟨(sd 1), s0, .op (.new (sv 0))⟩, ⟨(sd 2), s0, .op (.ev (sc (.bool false)))⟩])
 (.seq (.seq (.ops [⟨(sd 8), s0, .call (sc (.fn (.func 11) [])) []⟩, ⟨(sd 9), s0, .op (.un .not (sv 8))⟩])
 (.cond (sv 9) (.seq (.ops [⟨(sd 2), s0, .op (.ev (sc (.bool false)))⟩])
 (.tb [2] .ret)) (.ta .skip [1])))
 (.seq (.seq (.ops [⟨(sd 10), s0, .op (.load (some 4) (sv 1))⟩, ⟨(sd 11), s0, .call (sc (.fn (.func 12) [])) [(sv 10), (sc (.int .i64 40))]⟩])
 (.cond (sv 11) (.seq (.ops [⟨(sd 2), s0, .op (.ev (sc (.bool true)))⟩])
 (.tb [2] .ret)) (.ta .skip [1])))
 (.seq (.ops [⟨(sd 13), s0, .op (.load (some 4) (sv 1))⟩, ⟨(sd 14), s0, .call (sc (.fn (.func 13) [])) [(sv 13)]⟩, ⟨(sd 12), s0, .op (.ev (sv 14))⟩, ⟨(sd 15), s0, .op (.ext (sv 12) 0)⟩, ⟨(sd 16), s0, .op (.ext (sv 12) 1)⟩, ⟨(sd 3), s0, .op (.ev (sv 15))⟩, ⟨(sd 4), s0, .op (.ev (sv 16))⟩])
 (.seq (.seq (.ops [⟨(sd 17), s0, .op (.ev (sv 4))⟩, ⟨(sd 18), s0, .op (.bin .neq 28 (some (.int .i64)) true (sv 17) (sc (.int .i64 0)))⟩])
 (.cond (sv 18) (.seq (.ops [⟨(sd 2), s0, .op (.ev (sc (.bool true)))⟩])
 (.tb [2] .ret)) (.ta .skip [3])))
 (.seq (.ops [⟨(sd 19), s0, .op (.ev (sv 3))⟩, ⟨(sd 20), s0, .call (sc (.fn (.func 31) [])) [(sv 19)]⟩, ⟨(sd 5), s0, .op (.new (sc (.agg [(.int .i64 0), (.int .i64 0), (.str []), .nils])))⟩, ⟨sn, s0, .op (.store 4 (sv 5) (sv 20))⟩])
 (.seq (.seq (.ops [⟨(sd 21), s0, .op (.load (some 4) (sv 5))⟩, ⟨(sd 22), s0, .call (sc (.fn (.func 15) [])) [(sv 21)]⟩, ⟨(sd 23), s0, .op (.un .not (sv 22))⟩])
 (.cond (sv 23) (.seq (.ops [⟨(sd 2), s0, .op (.ev (sc (.bool true)))⟩])
 (.tb [2] .ret)) (.ta .skip [3, 5])))
 (.seq (.ops [⟨(sd 25), s0, .op (.load (some 4) (sv 5))⟩, ⟨(sd 26), s0, .call (sc (.fn (.func 13) [])) [(sv 25)]⟩, ⟨(sd 24), s0, .op (.ev (sv 26))⟩, ⟨(sd 27), s0, .op (.ext (sv 24) 0)⟩, ⟨(sd 28), s0, .op (.ext (sv 24) 1)⟩, ⟨(sd 6), s0, .op (.ev (sv 27))⟩, ⟨(sd 7), s0, .op (.ev (sv 28))⟩])
 (.seq (.ops [⟨(sd 29), s0, .op (.ev (sv 7))⟩, ⟨(sd 30), s0, .op (.bin .eql 28 (some (.int .i64)) true (sv 29) (sc (.int .i64 0)))⟩, ⟨(sd 31), s0, .op (.ev (sv 30))⟩, ⟨(sd 32), (sg 31 true), .op (.ev (sv 6))⟩, ⟨(sd 33), (sg 31 true), .call (sc (.fn (.func 17) [])) [(sv 32)]⟩, ⟨(sd 34), (sg 31 true), .op (.ev (sv 3))⟩, ⟨(sd 35), (sg 31 true), .call (sc (.fn (.func 17) [])) [(sv 34)]⟩, ⟨(sd 36), (sg 31 true), .call (sc (.fn (.func 16) [])) [(sv 33), (sv 35)]⟩, ⟨(sd 37), s0, .op (.pick (sv 31) (sv 36) (sc (.bool false)))⟩, ⟨(sd 2), s0, .op (.ev (sv 37))⟩])
 (.tb [2] .ret)))))))))), [sr 2]⟩
set_option maxRecDepth 100000 in
theorem yGBack_ok : cFun Tryz.prog (fun _ => true) 86 = some yGBack.er := by kernel_rfl
set_option maxRecDepth 100000 in
theorem yJoined_ok : cFun Tryz.prog (fun _ => true) 59 = some yJoined.er := by kernel_rfl
set_option maxRecDepth 100000 in
theorem yBack_ok : cFun Tryz.prog (fun _ => true) 31 = some yBack.er := by kernel_rfl
set_option maxRecDepth 100000 in
theorem yBBack_ok : cFun Tryz.prog (fun _ => true) 6 = some yBBack.er := by kernel_rfl
end Go.Proofs.YtcnnobcncklgfaaGreatDoor
