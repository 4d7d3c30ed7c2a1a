/- The code of functions, looked up, its frames cut down. -/
import Derived.Test.YtdekdghldblfaaaGreatDoorAbsS
import Derived.Test.YtdekdghldblfaaaGreatDoorRows
import Derived.ProofKit
namespace Go.Proofs.YtdekdghldblfaaaGreatDoor
open Go Go.Abs
def yDeepa_ : YC := (.ta (.seq (.seq (.ops [⟨(sd 14), s0, .op (.ev (sv 5))⟩, ⟨(sd 15), s0, .op (.faddr 3 (sv 2))⟩, ⟨(sd 16), s0, .op (.load none (sv 15))⟩, ⟨(sd 17), s0, .op (.len false (sv 16))⟩, ⟨(sd 18), s0, .op (.bin .lss 3 (some (.int .i64)) false (sv 14) (sv 17))⟩])
 (.cond (sv 18) (.ta .skip [1, 2, 5]) (.tb [] (.exit 0))))
 (.seq (.block 1 (.seq (.ops [⟨(sd 21), s0, .op (.faddr 3 (sv 2))⟩, ⟨(sd 22), s0, .op (.load none (sv 21))⟩, ⟨(sd 23), s0, .op (.ev (sv 5))⟩, ⟨(sd 24), s0, .op (.iaddr 4 (sv 22) (sv 23))⟩, ⟨(sd 25), s0, .op (.load (some 4) (sv 24))⟩, ⟨(sd 26), s0, .op (.ev (sv 1))⟩, ⟨(sd 27), s0, .op (.bin .sub 3 (some (.int .i64)) true (sv 26) (sc (.int .i64 1)))⟩, ⟨(sd 28), s0, .call (sc (.fn (.func 11) [])) [(sv 25), (sv 27)]⟩])
 (.cond (sv 28) (.seq (.ops [⟨(sd 4), s0, .op (.ev (sc (.bool true)))⟩])
 (.tb [4] .ret)) (.ta .skip [1, 2, 5]))))
 (.ops [⟨(sd 19), s0, .op (.ev (sv 5))⟩, ⟨(sd 20), s0, .op (.bin .add 3 (some (.int .i64)) true (sv 19) (sc (.int .i64 1)))⟩, ⟨(sd 5), s0, .op (.ev (sv 20))⟩]))) [1, 2, 5])
def yDeepa : YC := yDeepa_
theorem yDeepa_r (call : ICall) (F : Nat) (T : Tr AV) (H : AH) : run call F yDeepa T H = ycode call F yDeepa_ T H := (rfl)
def yDeep : YF := ⟨29, (.seq (.ops [⟨(sd 2), s0, .op (.new (sv 0))⟩, ⟨(sd 4), s0, .op (.ev (sc (.bool false)))⟩])
 (.seq (.seq (.ops [⟨(sd 6), s0, .op (.ev (sv 1))⟩, ⟨(sd 7), s0, .op (.bin .lss 3 (some (.int .i64)) true (sv 6) (sc (.int .i64 1)))⟩, ⟨(sd 8), s0, .op (.ev (sv 7))⟩, ⟨(sd 9), (sg 8 false), .op (.faddr 3 (sv 2))⟩, ⟨(sd 10), (sg 8 false), .op (.load none (sv 9))⟩, ⟨(sd 11), (sg 8 false), .op (.len false (sv 10))⟩, ⟨(sd 12), (sg 8 false), .op (.bin .gtr 3 (some (.int .i64)) true (sv 11) (sc (.int .i64 12)))⟩, ⟨(sd 13), s0, .op (.pick (sv 8) (sc (.bool true)) (sv 12))⟩])
 (.cond (sv 13) (.seq (.ops [⟨(sd 4), s0, .op (.ev (sc (.bool true)))⟩])
 (.tb [4] .ret)) (.ta .skip [1, 2])))
 (.seq (.seq (.ops [⟨(sd 5), s0, .op (.ev (sc (.int .i64 0)))⟩])
 (.block 0 (.tb [1, 2, 5] (.loop yDeepa))))
 (.seq (.ops [⟨(sd 4), s0, .op (.ev (sc (.bool false)))⟩])
 (.tb [4] .ret))))), [sr 4]⟩
def yMade : YF := ⟨46, (.seq (.ops [⟨(sd 2), s0, .op (.ev (sc .nilp))⟩, ⟨(sd 3), s0, .op (.ev (sc .nilp))⟩])
 (.seq (.ops [⟨(sd 13), s0, .op (.bslice 1 2 [(.str []), (.str [])] [(0, 1, (sc (.str [97]))), (1, 1, (sc (.str [98])))])⟩, ⟨(sd 4), s0, .op (.ev (sv 13))⟩])
 (.seq (.ops [⟨(sd 15), s0, .op (.ev (sv 4))⟩, ⟨(sd 16), s0, .op (.build [(.str []), (.int .i64 0), (.int .u64 0), (.bool false)] [(0, 1, (sc (.str [112]))), (1, 1, (sc (.int .i64 1))), (2, 1, (sc (.int .u64 3)))])⟩, ⟨(sd 17), s0, .op (.build [(.str []), (.int .i64 0), (.int .u64 0), (.bool false)] [(0, 1, (sc (.str [113]))), (1, 1, (sc (.int .i64 2))), (2, 1, (sc (.int .u64 1))), (3, 1, (sc (.bool true)))])⟩, ⟨(sd 18), s0, .op (.build [(.str []), (.int .i64 0), (.int .u64 0), (.bool false)] [(0, 1, (sc (.str [114])))])⟩, ⟨(sd 19), s0, .op (.bslice 4 3 [(.str []), (.int .i64 0), (.int .u64 0), (.bool false), (.str []), (.int .i64 0), (.int .u64 0), (.bool false), (.str []), (.int .i64 0), (.int .u64 0), (.bool false)] [(0, 4, (sv 16)), (4, 4, (sv 17)), (8, 4, (sv 18))])⟩, ⟨(sd 20), s0, .call (sc (.fn (.func 31) [])) [(sv 15), (sv 19)]⟩, ⟨(sd 14), s0, .op (.ev (sv 20))⟩, ⟨(sd 21), s0, .op (.ext (sv 14) 0)⟩, ⟨(sd 22), s0, .op (.ext (sv 14) 1)⟩, ⟨(sd 5), s0, .op (.ev (sv 21))⟩, ⟨(sd 6), s0, .op (.ev (sv 22))⟩])
 (.seq (.ops [⟨(sd 24), s0, .op (.ev (sv 4))⟩, ⟨(sd 25), s0, .op (.build [(.str []), (.int .i64 0), (.int .u64 0), (.bool false)] [(0, 1, (sc (.str [112]))), (1, 1, (sc (.int .i64 1))), (2, 1, (sc (.int .u64 3)))])⟩, ⟨(sd 26), s0, .op (.build [(.str []), (.int .i64 0), (.int .u64 0), (.bool false)] [(0, 1, (sc (.str [113]))), (1, 1, (sc (.int .i64 2))), (2, 1, (sc (.int .u64 1))), (3, 1, (sc (.bool true)))])⟩, ⟨(sd 27), s0, .op (.build [(.str []), (.int .i64 0), (.int .u64 0), (.bool false)] [(0, 1, (sc (.str [114])))])⟩, ⟨(sd 28), s0, .op (.bslice 4 3 [(.str []), (.int .i64 0), (.int .u64 0), (.bool false), (.str []), (.int .i64 0), (.int .u64 0), (.bool false), (.str []), (.int .i64 0), (.int .u64 0), (.bool false)] [(0, 4, (sv 25)), (4, 4, (sv 26)), (8, 4, (sv 27))])⟩, ⟨(sd 29), s0, .call (sc (.fn (.func 32) [])) [(sv 24), (sv 28)]⟩, ⟨(sd 23), s0, .op (.ev (sv 29))⟩, ⟨(sd 30), s0, .op (.ext (sv 23) 0)⟩, ⟨(sd 31), s0, .op (.ext (sv 23) 1)⟩, ⟨(sd 7), s0, .op (.ev (sv 30))⟩, ⟨(sd 8), s0, .op (.ev (sv 31))⟩])
 (.seq (.ops [⟨(sd 33), s0, .op (.ev (sv 5))⟩, ⟨(sd 34), s0, .op (.ev (sv 0))⟩, ⟨(sd 35), s0, .call (sc (.fn (.func 23) [])) [(sv 33), (sv 34)]⟩, ⟨(sd 32), s0, .op (.ev (sv 35))⟩, ⟨(sd 36), s0, .op (.ext (sv 32) 0)⟩, ⟨(sd 37), s0, .op (.ext (sv 32) 1)⟩, ⟨(sd 9), s0, .op (.ev (sv 36))⟩, ⟨(sd 10), s0, .op (.ev (sv 37))⟩])
 (.seq (.ops [⟨(sd 39), s0, .op (.ev (sv 7))⟩, ⟨(sd 40), s0, .op (.ev (sv 0))⟩, ⟨(sd 41), s0, .call (sc (.fn (.func 33) [])) [(sv 39), (sv 40)]⟩, ⟨(sd 38), s0, .op (.ev (sv 41))⟩, ⟨(sd 42), s0, .op (.ext (sv 38) 0)⟩, ⟨(sd 43), s0, .op (.ext (sv 38) 1)⟩, ⟨(sd 11), s0, .op (.ev (sv 42))⟩, ⟨(sd 12), s0, .op (.ev (sv 43))⟩])
 (.seq (.ops [⟨(sd 44), s0, .op (.ev (sv 9))⟩, ⟨(sd 45), s0, .op (.ev (sv 11))⟩, ⟨(sd 2), s0, .op (.ev (sv 44))⟩, ⟨(sd 3), s0, .op (.ev (sv 45))⟩])
 (.tb [2, 3] .ret)))))))), [sr 2, sr 3]⟩
def yAwake : YF := ⟨61, (.seq (.ops [⟨(sd 0), s0, .op (.ev (sc (.bool false)))⟩])
 (.seq (.ops [⟨(sd 9), s0, .call (sc (.fn (.func 10) [])) [(sc (.int .i64 9))]⟩, ⟨(sd 8), s0, .op (.ev (sv 9))⟩, ⟨(sd 10), s0, .op (.ext (sv 8) 0)⟩, ⟨(sd 11), s0, .op (.ext (sv 8) 1)⟩, ⟨(sd 1), s0, .op (.ev (sv 10))⟩, ⟨(sd 2), s0, .op (.ev (sv 11))⟩])
 (.seq (.seq (.ops [⟨(sd 12), s0, .op (.ev (sv 1))⟩, ⟨(sd 13), s0, .op (.bin .eql 25 (some (.pointer 93)) true (sv 12) (sc .nilp))⟩])
 (.cond (sv 13) (.seq (.ops [⟨(sd 0), s0, .op (.ev (sc (.bool false)))⟩])
 (.tb [0] .ret)) (.ta .skip [1])))
 (.seq (.ops [⟨(sd 15), s0, .op (.ev (sv 1))⟩, ⟨(sd 16), s0, .call (sc (.fn (.func 25) [])) [(sc (.str [112, 40, 49, 41]))]⟩, ⟨(sd 17), s0, .call (sc (.fn (.func 12) [])) [(sv 15), (sv 16), (sc (.int .u64 0)), (sc (.bool false))]⟩, ⟨(sd 14), s0, .op (.ev (sv 17))⟩, ⟨(sd 18), s0, .op (.ext (sv 14) 0)⟩, ⟨(sd 19), s0, .op (.ext (sv 14) 1)⟩, ⟨(sd 3), s0, .op (.ev (sv 18))⟩, ⟨(sd 4), s0, .op (.ev (sv 19))⟩])
 (.seq (.ops [⟨(sd 21), s0, .op (.ev (sv 1))⟩, ⟨(sd 22), s0, .call (sc (.fn (.func 25) [])) [(sc (.str [112, 40, 50, 41]))]⟩, ⟨(sd 23), s0, .call (sc (.fn (.func 12) [])) [(sv 21), (sv 22), (sc (.int .u64 1)), (sc (.bool false))]⟩, ⟨(sd 20), s0, .op (.ev (sv 23))⟩, ⟨(sd 24), s0, .op (.ext (sv 20) 0)⟩, ⟨(sd 25), s0, .op (.ext (sv 20) 1)⟩, ⟨(sd 5), s0, .op (.ev (sv 24))⟩, ⟨(sd 6), s0, .op (.ev (sv 25))⟩])
 (.seq (.ops [⟨(sd 26), s0, .op (.ev (sv 1))⟩, ⟨(sd 27), s0, .call (sc (.fn (.func 26) [])) [(sv 26), (sc (.str [112])), (sc (.int .i64 1)), (sc (.int .u64 0))]⟩, ⟨(sd 7), s0, .op (.ev (sv 27))⟩])
 (.seq (.dops 34 [⟨0, (sd 28), s0, .pure (.ev (sv 4))⟩, ⟨1, (sd 29), s0, .pure (.bin .eql 35 (some (.int .i64)) true (sv 28) (sc (.int .i64 0)))⟩, ⟨2, (sd 30), s0, .pure (.ev (sv 29))⟩, ⟨3, (sd 31), (sg 30 true), .pure (.ev (sv 6))⟩, ⟨4, (sd 32), (sg 30 true), .pure (.bin .eql 35 (some (.int .i64)) true (sv 31) (sc (.int .i64 0)))⟩, ⟨5, (sd 33), s0, .pure (.pick (sv 30) (sv 32) (sc (.bool false)))⟩, ⟨6, (sd 34), s0, .pure (.ev (sv 33))⟩, ⟨7, (sd 35), (sg 34 true), .pure (.ev (sv 3))⟩, ⟨8, (sd 36), (sg 34 true), .pure (.bin .eql 3 (some (.int .i64)) true (sv 35) (sc (.int .i64 1)))⟩, ⟨9, (sd 37), s0, .pure (.pick (sv 34) (sv 36) (sc (.bool false)))⟩, ⟨10, (sd 38), s0, .pure (.ev (sv 37))⟩, ⟨11, (sd 39), (sg 38 true), .pure (.ev (sv 5))⟩, ⟨12, (sd 40), (sg 38 true), .pure (.bin .eql 3 (some (.int .i64)) true (sv 39) (sc (.int .i64 2)))⟩, ⟨13, (sd 41), s0, .pure (.pick (sv 38) (sv 40) (sc (.bool false)))⟩, ⟨14, (sd 42), s0, .pure (.ev (sv 41))⟩, ⟨15, (sd 43), (sg 42 true), .pure (.ev (sv 7))⟩, ⟨16, (sd 44), (sg 42 true), .pure (.len false (sv 43))⟩, ⟨17, (sd 45), (sg 42 true), .pure (.bin .eql 3 (some (.int .i64)) true (sv 44) (sc (.int .i64 1)))⟩, ⟨18, (sd 46), s0, .pure (.pick (sv 42) (sv 45) (sc (.bool false)))⟩, ⟨19, (sd 47), s0, .pure (.ev (sv 46))⟩, ⟨20, (sd 48), (sg 47 true), .pure (.ev (sv 7))⟩, ⟨21, (sd 49), (sg 47 true), .pure (.iaddr 10 (sv 48) (sc (.int .i64 0)))⟩, ⟨22, (sd 50), (sg 47 true), .pure (.faddr 2 (sv 49))⟩, ⟨23, (sd 51), (sg 47 true), .load (some 4) (sv 50)⟩, ⟨24, (sd 52), (sg 47 true), .k2 (.call (sc (.fn (.func 25) [])) [(sc (.str [112, 40, 49, 41]))]) [23]⟩, ⟨25, (sd 53), (sg 47 true), .k2 (.call (sc (.fn (.func 14) [])) [(sv 51), (sv 52)]) []⟩, ⟨26, (sd 54), s0, .pure (.pick (sv 47) (sv 53) (sc (.bool false)))⟩, ⟨27, (sd 55), s0, .pure (.ev (sv 54))⟩, ⟨28, (sd 56), (sg 55 true), .pure (.ev (sv 1))⟩, ⟨29, (sd 57), (sg 55 true), .k2 (.call (sc (.fn (.func 26) [])) [(sv 56), (sc (.str [112])), (sc (.int .i64 1)), (sc (.int .u64 1))]) []⟩, ⟨30, (sd 58), (sg 55 true), .pure (.len false (sv 57))⟩, ⟨31, (sd 59), (sg 55 true), .pure (.bin .eql 3 (some (.int .i64)) true (sv 58) (sc (.int .i64 2)))⟩, ⟨32, (sd 60), s0, .pure (.pick (sv 55) (sv 59) (sc (.bool false)))⟩, ⟨33, (sd 0), s0, .pure (.ev (sv 60))⟩])
 (.tb [0] .ret)))))))), [sr 0]⟩
def ySeesa_ : YC := (.ta (.seq (.seq (.ops [⟨(sd 23), s0, .op (.ev (sv 9))⟩, ⟨(sd 24), s0, .op (.ev (sv 0))⟩, ⟨(sd 25), s0, .op (.len false (sv 24))⟩, ⟨(sd 26), s0, .op (.bin .lss 3 (some (.int .i64)) false (sv 23) (sv 25))⟩])
 (.cond (sv 26) (.ta .skip [0, 1, 2, 7, 9]) (.tb [1, 2, 7] (.exit 0))))
 (.seq (.block 1 (.seq (.seq (.ops [⟨(sd 29), s0, .op (.ev (sv 0))⟩, ⟨(sd 30), s0, .op (.ev (sv 9))⟩, ⟨(sd 31), s0, .op (.iaddr 8 (sv 29) (sv 30))⟩, ⟨(sd 32), s0, .op (.faddr 2 (sv 31))⟩, ⟨(sd 33), s0, .op (.load (some 4) (sv 32))⟩, ⟨(sd 34), s0, .call (sc (.fn (.func 11) [])) [(sv 33), (sc (.int .i64 40))]⟩])
 (.cond (sv 34) (.seq (.ops [⟨(sd 6), s0, .op (.ev (sc (.bool true)))⟩])
 (.tb [6] .ret)) (.ta .skip [0, 1, 2, 7, 9])))
 (.dops 18 [⟨0, (sd 35), s0, .pure (.ev (sv 7))⟩, ⟨1, (sd 36), s0, .pure (.ev (sv 0))⟩, ⟨2, (sd 37), s0, .pure (.ev (sv 9))⟩, ⟨3, (sd 38), s0, .pure (.iaddr 8 (sv 36) (sv 37))⟩, ⟨4, (sd 39), s0, .pure (.faddr 2 (sv 38))⟩, ⟨5, (sd 40), s0, .load (some 4) (sv 39)⟩, ⟨6, (sd 41), s0, .pure (.ev (sv 0))⟩, ⟨7, (sd 42), s0, .pure (.ev (sv 9))⟩, ⟨8, (sd 43), s0, .pure (.iaddr 8 (sv 41) (sv 42))⟩, ⟨9, (sd 44), s0, .pure (.faddr 6 (sv 43))⟩, ⟨10, (sd 45), s0, .load none (sv 44)⟩, ⟨11, (sd 46), s0, .pure (.bin .and 23 (some (.int .u64)) true (sv 45) (sc (.int .u64 3)))⟩, ⟨12, (sd 47), s0, .pure (.ev (sv 0))⟩, ⟨13, (sd 48), s0, .pure (.ev (sv 9))⟩, ⟨14, (sd 49), s0, .pure (.iaddr 8 (sv 47) (sv 48))⟩, ⟨15, (sd 50), s0, .pure (.faddr 7 (sv 49))⟩, ⟨16, (sd 51), s0, .load none (sv 50)⟩, ⟨17, (sd 52), s0, .k2 (.call (sc (.fn (.func 12) [])) [(sv 35), (sv 40), (sv 46), (sv 51)]) []⟩])))
 (.ops [⟨(sd 27), s0, .op (.ev (sv 9))⟩, ⟨(sd 28), s0, .op (.bin .add 3 (some (.int .i64)) true (sv 27) (sc (.int .i64 1)))⟩, ⟨(sd 9), s0, .op (.ev (sv 28))⟩]))) [0, 1, 2, 7, 9])
def ySeesa : YC := ySeesa_
theorem ySeesa_r (call : ICall) (F : Nat) (T : Tr AV) (H : AH) : run call F ySeesa T H = ycode call F ySeesa_ T H := (rfl)
def ySeesb_ : YC := (.ta (.seq (.seq (.dops 17 [⟨0, (sd 69), s0, .pure (.ev (sv 12))⟩, ⟨1, (sd 70), s0, .pure (.ev (sv 11))⟩, ⟨2, (sd 71), s0, .pure (.len false (sv 70))⟩, ⟨3, (sd 72), s0, .pure (.bin .lss 3 (some (.int .i64)) false (sv 69) (sv 71))⟩, ⟨4, (sd 73), s0, .pure (.ev (sv 72))⟩, ⟨5, (sd 74), (sg 73 true), .pure (.ev (sv 11))⟩, ⟨6, (sd 75), (sg 73 true), .pure (.ev (sv 12))⟩, ⟨7, (sd 76), (sg 73 true), .pure (.iaddr 10 (sv 74) (sv 75))⟩, ⟨8, (sd 77), (sg 73 true), .pure (.faddr 0 (sv 76))⟩, ⟨9, (sd 78), (sg 73 true), .load none (sv 77)⟩, ⟨10, (sd 79), (sg 73 true), .pure (.ev (sv 10))⟩, ⟨11, (sd 80), (sg 73 true), .pure (.ev (sv 13))⟩, ⟨12, (sd 81), (sg 73 true), .pure (.iaddr 10 (sv 79) (sv 80))⟩, ⟨13, (sd 82), (sg 73 true), .pure (.faddr 0 (sv 81))⟩, ⟨14, (sd 83), (sg 73 true), .load none (sv 82)⟩, ⟨15, (sd 84), (sg 73 true), .pure (.bin .neq 3 (some (.int .i64)) false (sv 78) (sv 83))⟩, ⟨16, (sd 85), s0, .pure (.pick (sv 73) (sv 84) (sc (.bool false)))⟩])
 (.cond (sv 85) (.ta .skip [1, 2, 10, 11, 12, 13]) (.tb [1, 2, 10, 11, 12, 13] (.exit 4))))
 (.block 5 (.ops [⟨(sd 86), s0, .op (.ev (sv 12))⟩, ⟨(sd 87), s0, .op (.bin .add 3 (some (.int .i64)) true (sv 86) (sc (.int .i64 1)))⟩, ⟨(sd 12), s0, .op (.ev (sv 87))⟩]))) [1, 2, 10, 11, 12, 13])
def ySeesb : YC := ySeesb_
theorem ySeesb_r (call : ICall) (F : Nat) (T : Tr AV) (H : AH) : run call F ySeesb T H = ycode call F ySeesb_ T H := (rfl)
def ySeesc_ : YC := (.ta (.seq (.seq (.ops [⟨(sd 63), s0, .op (.ev (sv 13))⟩, ⟨(sd 64), s0, .op (.ev (sv 10))⟩, ⟨(sd 65), s0, .op (.len false (sv 64))⟩, ⟨(sd 66), s0, .op (.bin .lss 3 (some (.int .i64)) false (sv 63) (sv 65))⟩])
 (.cond (sv 66) (.ta .skip [1, 2, 10, 11, 12, 13]) (.tb [] (.exit 2))))
 (.seq (.block 3 (.seq (.block 4 (.tb [1, 2, 10, 11, 12, 13] (.loop ySeesb)))
 (.seq (.ops [⟨(sd 88), s0, .op (.ev (sv 12))⟩, ⟨(sd 89), s0, .op (.ev (sv 11))⟩, ⟨(sd 90), s0, .op (.len false (sv 89))⟩, ⟨(sd 91), s0, .op (.bin .eql 3 (some (.int .i64)) false (sv 88) (sv 90))⟩, ⟨(sd 92), s0, .op (.ev (sv 91))⟩, ⟨(sd 93), (sg 92 false), .op (.ev (sv 10))⟩, ⟨(sd 94), (sg 92 false), .op (.ev (sv 13))⟩, ⟨(sd 95), (sg 92 false), .op (.iaddr 10 (sv 93) (sv 94))⟩, ⟨(sd 96), (sg 92 false), .op (.faddr 1 (sv 95))⟩, ⟨(sd 97), (sg 92 false), .op (.load none (sv 96))⟩, ⟨(sd 98), (sg 92 false), .op (.ev (sv 1))⟩, ⟨(sd 99), (sg 92 false), .op (.ev (sv 2))⟩, ⟨(sd 100), (sg 92 false), .op (.bin .and 23 (some (.int .u64)) false (sv 98) (sv 99))⟩, ⟨(sd 101), (sg 92 false), .op (.bin .and 23 (some (.int .u64)) true (sv 100) (sc (.int .u64 3)))⟩, ⟨(sd 102), (sg 92 false), .call (sc (.fn (.func 15) [])) [(sv 97), (sv 101)]⟩, ⟨(sd 103), (sg 92 false), .op (.un .not (sv 102))⟩, ⟨(sd 104), s0, .op (.pick (sv 92) (sc (.bool true)) (sv 103))⟩])
 (.cond (sv 104) (.seq (.ops [⟨(sd 6), s0, .op (.ev (sc (.bool false)))⟩])
 (.tb [6] .ret)) (.ta .skip [1, 2, 10, 11, 12, 13])))))
 (.ops [⟨(sd 67), s0, .op (.ev (sv 13))⟩, ⟨(sd 68), s0, .op (.bin .add 3 (some (.int .i64)) true (sv 67) (sc (.int .i64 1)))⟩, ⟨(sd 13), s0, .op (.ev (sv 68))⟩]))) [1, 2, 10, 11, 12, 13])
def ySeesc : YC := ySeesc_
theorem ySeesc_r (call : ICall) (F : Nat) (T : Tr AV) (H : AH) : run call F ySeesc T H = ycode call F ySeesc_ T H := (rfl)
def ySees : YF := ⟨105, (.seq (.ops [⟨(sd 6), s0, .op (.ev (sc (.bool false)))⟩])
 (.seq (.seq (.ops [⟨(sd 14), s0, .call (sc (.fn (.func 9) [])) []⟩, ⟨(sd 15), s0, .op (.un .not (sv 14))⟩])
 (.cond (sv 15) (.seq (.ops [⟨(sd 6), s0, .op (.ev (sc (.bool false)))⟩])
 (.tb [6] .ret)) (.ta .skip [0, 1, 2])))
 (.seq (.seq (.ops [⟨(sd 16), s0, .op (.ev (sv 0))⟩, ⟨(sd 17), s0, .op (.len false (sv 16))⟩, ⟨(sd 18), s0, .op (.bin .gtr 3 (some (.int .i64)) true (sv 17) (sc (.int .i64 30)))⟩])
 (.cond (sv 18) (.seq (.ops [⟨(sd 6), s0, .op (.ev (sc (.bool true)))⟩])
 (.tb [6] .ret)) (.ta .skip [0, 1, 2])))
 (.seq (.ops [⟨(sd 20), s0, .call (sc (.fn (.func 10) [])) [(sc (.int .i64 20))]⟩, ⟨(sd 19), s0, .op (.ev (sv 20))⟩, ⟨(sd 21), s0, .op (.ext (sv 19) 0)⟩, ⟨(sd 22), s0, .op (.ext (sv 19) 1)⟩, ⟨(sd 7), s0, .op (.ev (sv 21))⟩, ⟨(sd 8), s0, .op (.ev (sv 22))⟩])
 (.seq (.seq (.ops [⟨(sd 9), s0, .op (.ev (sc (.int .i64 0)))⟩])
 (.block 0 (.tb [0, 1, 2, 7, 9] (.loop ySeesa))))
 (.seq (.ops [⟨(sd 53), s0, .op (.ev (sv 7))⟩, ⟨(sd 54), s0, .op (.ev (sv 1))⟩, ⟨(sd 55), s0, .op (.ev (sv 2))⟩, ⟨(sd 56), s0, .op (.bin .and 23 (some (.int .u64)) false (sv 54) (sv 55))⟩, ⟨(sd 57), s0, .op (.bin .and 23 (some (.int .u64)) true (sv 56) (sc (.int .u64 3)))⟩, ⟨(sd 58), s0, .call (sc (.fn (.func 13) [])) [(sv 53), (sv 57)]⟩, ⟨(sd 59), s0, .op (.ev (sv 7))⟩, ⟨(sd 60), s0, .op (.ev (sv 2))⟩, ⟨(sd 61), s0, .op (.bin .and 23 (some (.int .u64)) true (sv 60) (sc (.int .u64 3)))⟩, ⟨(sd 62), s0, .call (sc (.fn (.func 13) [])) [(sv 59), (sv 61)]⟩, ⟨(sd 10), s0, .op (.ev (sv 58))⟩, ⟨(sd 11), s0, .op (.ev (sv 62))⟩])
 (.seq (.ops [⟨(sd 12), s0, .op (.ev (sc (.int .i64 0)))⟩])
 (.seq (.seq (.ops [⟨(sd 13), s0, .op (.ev (sc (.int .i64 0)))⟩])
 (.block 2 (.tb [1, 2, 10, 11, 12, 13] (.loop ySeesc))))
 (.seq (.ops [⟨(sd 6), s0, .op (.ev (sc (.bool true)))⟩])
 (.tb [6] .ret)))))))))), [sr 6]⟩
set_option maxRecDepth 100000 in
theorem yDeep_ok : cFun Tryz.prog (fun _ => true) 11 = some yDeep.er := by kernel_rfl
set_option maxRecDepth 100000 in
theorem yMade_ok : cFun Tryz.prog (fun _ => true) 10 = some yMade.er := by kernel_rfl
set_option maxRecDepth 100000 in
theorem yAwake_ok : cFun Tryz.prog (fun _ => true) 9 = some yAwake.er := by kernel_rfl
set_option maxRecDepth 100000 in
theorem ySees_ok : cFun Tryz.prog (fun _ => true) 4 = some ySees.er := by kernel_rfl
end Go.Proofs.YtdekdghldblfaaaGreatDoor
