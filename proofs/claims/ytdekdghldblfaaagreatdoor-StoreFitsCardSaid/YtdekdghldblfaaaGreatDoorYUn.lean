import Derived.Test.YtdekdghldblfaaaGreatDoorAbsS
import Derived.Test.YtdekdghldblfaaaGreatDoorRows
import Derived.ProofKit
namespace Go.Proofs.YtdekdghldblfaaaGreatDoor
open Go Go.Abs
def yBNew : YF:=⟨4,(.seq (.ops [⟨(sd 0),s0,.op (.ev (sc .nilp))⟩])
 (.seq (.ops [⟨(sd 1),s0,.call (sc (.fn (.func 108) [])) [(sc (.int .i64 65536))]⟩,⟨(sd 2),s0,.op (.build [.nils,.nilp] [(1,1,(sv 1))])⟩,⟨(sd 3),s0,.op (.new (sv 2))⟩,⟨(sd 0),s0,.op (.ev (sv 3))⟩])
 (.tb [0] .ret))),[sr 0]⟩
def ySNew : YF:=⟨8,(.seq (.ops [⟨(sd 2),s0,.op (.ev (sc .nilp))⟩])
 (.seq (.ops [⟨(sd 3),s0,.op (.ev (sv 0))⟩,⟨(sd 4),s0,.op (.mm true [(sv 3),(sc (.int .i64 1))])⟩,⟨(sd 5),s0,.op (.mm false [(sv 4),(sc (.int .i64 65536))])⟩,⟨(sd 6),s0,.op (.build [(.int .i64 0),.nils] [(0,1,(sv 5))])⟩,⟨(sd 7),s0,.op (.new (sv 6))⟩,⟨(sd 2),s0,.op (.ev (sv 7))⟩])
 (.tb [2] .ret))),[sr 2]⟩
def yFresh : YF:=⟨27,(.seq (.ops [⟨(sd 2),s0,.op (.new (sc (.agg [(.int .i64 0),(.int .i64 0),(.str []),.nils])))⟩,⟨(sd 3),s0,.op (.ev (sc (.bool false)))⟩])
 (.seq (.seq (.ops [⟨(sd 4),s0,.op (.ev (sv 0))⟩,⟨(sd 5),s0,.op (.nilck (sv 4))⟩,⟨(sd 6),s0,.op (.faddr 0 (sv 5))⟩,⟨(sd 7),s0,.op (.load none (sv 6))⟩,⟨(sd 8),s0,.op (.len false (sv 7))⟩,⟨(sd 9),s0,.op (.bin .geq 3 (some (.int .i64)) true (sv 8) (sc (.int .i64 65536)))⟩])
 (.cond (sv 9) (.seq (.ops [⟨(sd 10),s0,.op (.build [(.int .i64 0),(.int .i64 0),(.str []),.nils] [])⟩,⟨sn,s0,.op (.store 4 (sv 2) (sv 10))⟩,⟨(sd 3),s0,.op (.ev (sc (.bool false)))⟩])
 (.tb [2,3] .ret)) (.ta .skip [0,2])))
 (.seq (.ops [⟨(sd 11),s0,.op (.ev (sv 0))⟩,⟨(sd 12),s0,.op (.ev (sv 0))⟩,⟨(sd 13),s0,.op (.nilck (sv 12))⟩,⟨(sd 14),s0,.op (.faddr 0 (sv 13))⟩,⟨(sd 15),s0,.op (.load none (sv 14))⟩,⟨(sd 16),s0,.op (.bslice 1 1 [.nilp] [(0,1,(sc .nilp))])⟩,⟨(sd 17),s0,.op (.app 1 8 (sv 15) (sv 16))⟩,⟨(sd 18),s0,.op (.nilck (sv 11))⟩,⟨(sd 19),s0,.op (.faddr 0 (sv 18))⟩,⟨sn,s0,.op (.store 1 (sv 19) (sv 17))⟩])
 (.seq (.ops [⟨(sd 20),s0,.op (.ev (sv 0))⟩,⟨(sd 21),s0,.op (.nilck (sv 20))⟩,⟨(sd 22),s0,.op (.faddr 0 (sv 21))⟩,⟨(sd 23),s0,.op (.load none (sv 22))⟩,⟨(sd 24),s0,.op (.len false (sv 23))⟩,⟨(sd 25),s0,.op (.bin .sub 3 (some (.int .i64)) true (sv 24) (sc (.int .i64 1)))⟩,⟨(sd 26),s0,.call (sc (.fn (.func 29) [])) [(sv 25)]⟩,⟨sn,s0,.op (.store 4 (sv 2) (sv 26))⟩,⟨(sd 3),s0,.op (.ev (sc (.bool true)))⟩])
 (.tb [2,3] .ret))))),[sk 2 (some 4),sr 3]⟩
def yOwnBa_ : YC:=(.ta (.seq (.ops [⟨(sd 14),s0,.op (.bin .lss 3 (some (.int .i64)) false (sv 13) (sv 12))⟩])
 (.seq (.cond (sv 14) (.ta .skip [0,11,12,13]) (.tb [] (.exit 0)))
 (.seq (.block 1 (.seq (.ops [⟨(sd 15),s0,.op (.iaddr 1 (sv 11) (sv 13))⟩,⟨(sd 16),s0,.op (.load none (sv 15))⟩,⟨(sd 6),s0,.op (.ev (sv 16))⟩])
 (.seq (.ops [⟨(sd 17),s0,.op (.ev (sv 0))⟩,⟨(sd 18),s0,.op (.ev (sv 6))⟩,⟨(sd 19),s0,.call (sc (.fn (.func 138) [])) [(sv 17),(sv 18)]⟩,⟨(sd 20),s0,.op (.un .not (sv 19))⟩])
 (.cond (sv 20) (.seq (.ops [⟨(sd 4),s0,.op (.ev (sc (.bool false)))⟩])
 (.tb [4] .ret)) (.ta .skip [0,11,12,13])))))
 (.ops [⟨(sd 21),s0,.op (.bin .add 3 (some (.int .i64)) true (sv 13) (sc (.int .i64 1)))⟩,⟨(sd 13),s0,.op (.ev (sv 21))⟩])))) [0,11,12,13])
def yOwnBa : YC:=yOwnBa_
theorem yOwnBa_r (call : ICall) (F : Nat) (T : Tr AV) (H : AH) : run call F yOwnBa T H = ycode call F yOwnBa_ T H:=(rfl)
def yOwnB : YF:=⟨22,(.seq (.ops [⟨(sd 3),s0,.op (.new (sv 1))⟩,⟨(sd 4),s0,.op (.ev (sc (.bool false)))⟩])
 (.seq (.seq (.ops [⟨(sd 7),s0,.op (.load (some 4) (sv 3))⟩,⟨(sd 8),s0,.call (sc (.fn (.func 42) [])) [(sv 7)]⟩,⟨(sd 9),s0,.op (.un .not (sv 8))⟩])
 (.cond (sv 9) (.seq (.ops [⟨(sd 4),s0,.op (.ev (sc (.bool false)))⟩])
 (.tb [4] .ret)) (.ta .skip [0,3])))
 (.seq (.seq (.ops [⟨(sd 10),s0,.op (.load (some 4) (sv 3))⟩,⟨(sd 11),s0,.call (sc (.fn (.func 113) [])) [(sv 10)]⟩,⟨(sd 12),s0,.op (.len false (sv 11))⟩,⟨(sd 13),s0,.op (.ev (sc (.int .i64 0)))⟩])
 (.block 0 (.tb [0,11,12,13] (.loop yOwnBa))))
 (.seq (.ops [⟨(sd 4),s0,.op (.ev (sc (.bool true)))⟩])
 (.tb [4] .ret))))),[sr 4]⟩
def yGiven : YF:=⟨16,(.seq (.ops [⟨(sd 4),s0,.op (.ev (sc (.bool false)))⟩])
 (.seq (.ops [⟨(sd 5),s0,.op (.ev (sv 1))⟩,⟨(sd 6),s0,.op (.bin .geq 2 (some (.int .i64)) true (sv 5) (sc (.int .i64 0)))⟩,⟨(sd 7),s0,.op (.ev (sv 6))⟩,⟨(sd 8),(sg 7 true),.op (.ev (sv 1))⟩,⟨(sd 9),(sg 7 true),.op (.ev (sv 0))⟩,⟨(sd 10),(sg 7 true),.op (.nilck (sv 9))⟩,⟨(sd 11),(sg 7 true),.op (.faddr 0 (sv 10))⟩,⟨(sd 12),(sg 7 true),.op (.load none (sv 11))⟩,⟨(sd 13),(sg 7 true),.op (.len false (sv 12))⟩,⟨(sd 14),(sg 7 true),.op (.bin .lss 2 (some (.int .i64)) false (sv 8) (sv 13))⟩,⟨(sd 15),s0,.op (.pick (sv 7) (sv 14) (sc (.bool false)))⟩,⟨(sd 4),s0,.op (.ev (sv 15))⟩])
 (.tb [4] .ret))),[sr 4]⟩
def yMarkB : YF:=⟨8,(.seq (.ops [⟨(sd 2),s0,.op (.ev (sc (.int .i64 0)))⟩])
 (.seq (.ops [⟨(sd 3),s0,.op (.ev (sv 0))⟩,⟨(sd 4),s0,.op (.nilck (sv 3))⟩,⟨(sd 5),s0,.op (.faddr 1 (sv 4))⟩,⟨(sd 6),s0,.op (.load none (sv 5))⟩,⟨(sd 7),s0,.call (sc (.fn (.func 139) [])) [(sv 6)]⟩,⟨(sd 2),s0,.op (.ev (sv 7))⟩])
 (.tb [2] .ret))),[sr 2]⟩
def yMarkS : YF:=⟨8,(.seq (.ops [⟨(sd 2),s0,.op (.ev (sc (.int .i64 0)))⟩])
 (.seq (.ops [⟨(sd 3),s0,.op (.ev (sv 0))⟩,⟨(sd 4),s0,.op (.nilck (sv 3))⟩,⟨(sd 5),s0,.op (.faddr 1 (sv 4))⟩,⟨(sd 6),s0,.op (.load none (sv 5))⟩,⟨(sd 7),s0,.op (.len false (sv 6))⟩,⟨(sd 2),s0,.op (.ev (sv 7))⟩])
 (.tb [2] .ret))),[sr 2]⟩
def yUndoBa_ : YC:=(.ta (.seq (.ops [⟨(sd 21),s0,.op (.bin .lss 3 (some (.int .i64)) false (sv 20) (sv 19))⟩])
 (.seq (.cond (sv 21) (.ta .skip [0,6,18,19,20]) (.tb [6] (.exit 0)))
 (.seq (.block 1 (.seq (.ops [⟨(sd 22),s0,.op (.iaddr 1 (sv 18) (sv 20))⟩,⟨(sd 23),s0,.op (.load none (sv 22))⟩,⟨(sd 8),s0,.op (.ev (sv 23))⟩])
 (.ops [⟨(sd 24),s0,.op (.ev (sv 0))⟩,⟨(sd 25),s0,.op (.nilck (sv 24))⟩,⟨(sd 26),s0,.op (.faddr 0 (sv 25))⟩,⟨(sd 27),s0,.op (.load none (sv 26))⟩,⟨(sd 28),s0,.op (.ev (sv 8))⟩,⟨(sd 29),s0,.op (.iaddr 1 (sv 27) (sv 28))⟩,⟨sn,s0,.op (.store 1 (sv 29) (sc .nilp))⟩])))
 (.ops [⟨(sd 30),s0,.op (.bin .add 3 (some (.int .i64)) true (sv 20) (sc (.int .i64 1)))⟩,⟨(sd 20),s0,.op (.ev (sv 30))⟩])))) [0,6,18,19,20])
def yUndoBa : YC:=yUndoBa_
theorem yUndoBa_r (call : ICall) (F : Nat) (T : Tr AV) (H : AH) : run call F yUndoBa T H = ycode call F yUndoBa_ T H:=(rfl)
def yUndoB : YF:=⟨32,(.seq (.ops [⟨(sd 4),s0,.op (.ev (sc (.bool false)))⟩])
 (.seq (.ops [⟨(sd 10),s0,.op (.ev (sv 0))⟩,⟨(sd 11),s0,.op (.nilck (sv 10))⟩,⟨(sd 12),s0,.op (.faddr 1 (sv 11))⟩,⟨(sd 13),s0,.op (.load none (sv 12))⟩,⟨(sd 14),s0,.op (.ev (sv 1))⟩,⟨(sd 15),s0,.call (sc (.fn (.func 141) [])) [(sv 13),(sv 14)]⟩,⟨(sd 9),s0,.op (.ev (sv 15))⟩,⟨(sd 16),s0,.op (.ext (sv 9) 0)⟩,⟨(sd 17),s0,.op (.ext (sv 9) 1)⟩,⟨(sd 5),s0,.op (.ev (sv 16))⟩,⟨(sd 6),s0,.op (.ev (sv 17))⟩])
 (.seq (.seq (.ops [⟨(sd 18),s0,.op (.ev (sv 5))⟩,⟨(sd 19),s0,.op (.len false (sv 18))⟩,⟨(sd 20),s0,.op (.ev (sc (.int .i64 0)))⟩])
 (.block 0 (.tb [0,6,18,19,20] (.loop yUndoBa))))
 (.seq (.ops [⟨(sd 31),s0,.op (.ev (sv 6))⟩,⟨(sd 4),s0,.op (.ev (sv 31))⟩])
 (.tb [4] .ret))))),[sr 4]⟩
def yUndoS : YF:=⟨43,(.seq (.ops [⟨(sd 4),s0,.op (.ev (sc .nils))⟩,⟨(sd 5),s0,.op (.ev (sc (.bool false)))⟩])
 (.seq (.seq (.ops [⟨(sd 7),s0,.op (.ev (sv 1))⟩,⟨(sd 8),s0,.op (.bin .lss 3 (some (.int .i64)) true (sv 7) (sc (.int .i64 0)))⟩,⟨(sd 9),s0,.op (.ev (sv 8))⟩,⟨(sd 10),(sg 9 false),.op (.ev (sv 1))⟩,⟨(sd 11),(sg 9 false),.op (.ev (sv 0))⟩,⟨(sd 12),(sg 9 false),.op (.nilck (sv 11))⟩,⟨(sd 13),(sg 9 false),.op (.faddr 1 (sv 12))⟩,⟨(sd 14),(sg 9 false),.op (.load none (sv 13))⟩,⟨(sd 15),(sg 9 false),.op (.len false (sv 14))⟩,⟨(sd 16),(sg 9 false),.op (.bin .gtr 3 (some (.int .i64)) false (sv 10) (sv 15))⟩,⟨(sd 17),s0,.op (.pick (sv 9) (sc (.bool true)) (sv 16))⟩])
 (.cond (sv 17) (.seq (.ops [⟨(sd 4),s0,.op (.ev (sc .nils))⟩,⟨(sd 5),s0,.op (.ev (sc (.bool false)))⟩])
 (.tb [4,5] .ret)) (.ta .skip [0,1])))
 (.seq (.ops [⟨(sd 18),s0,.op (.ev (sv 0))⟩,⟨(sd 19),s0,.op (.nilck (sv 18))⟩,⟨(sd 20),s0,.op (.faddr 1 (sv 19))⟩,⟨(sd 21),s0,.op (.load none (sv 20))⟩,⟨(sd 22),s0,.op (.ev (sv 1))⟩,⟨(sd 23),s0,.op (.slice (some 1) (sv 21) (some (sv 22)) none none)⟩,⟨(sd 24),s0,.call (sc (.fn (.func 163) [])) [(sv 23)]⟩,⟨(sd 6),s0,.op (.ev (sv 24))⟩])
 (.seq (.ops [⟨(sd 25),s0,.op (.ev (sv 6))⟩,⟨(sd 26),s0,.call (sc (.fn (.func 164) [])) [(sv 25)]⟩])
 (.seq (.ops [⟨(sd 27),s0,.op (.ev (sv 0))⟩,⟨(sd 28),s0,.op (.nilck (sv 27))⟩,⟨(sd 29),s0,.op (.faddr 1 (sv 28))⟩,⟨(sd 30),s0,.op (.load none (sv 29))⟩,⟨(sd 31),s0,.op (.ev (sv 1))⟩,⟨(sd 32),s0,.op (.slice (some 1) (sv 30) (some (sv 31)) none none)⟩,⟨sn,s0,.op (.mop (.clr 1 [(.int .i64 0)]) [(sv 32)])⟩])
 (.seq (.ops [⟨(sd 33),s0,.op (.ev (sv 0))⟩,⟨(sd 34),s0,.op (.ev (sv 0))⟩,⟨(sd 35),s0,.op (.nilck (sv 34))⟩,⟨(sd 36),s0,.op (.faddr 1 (sv 35))⟩,⟨(sd 37),s0,.op (.load none (sv 36))⟩,⟨(sd 38),s0,.op (.ev (sv 1))⟩,⟨(sd 39),s0,.op (.slice (some 1) (sv 37) none (some (sv 38)) none)⟩,⟨(sd 40),s0,.op (.nilck (sv 33))⟩,⟨(sd 41),s0,.op (.faddr 1 (sv 40))⟩,⟨sn,s0,.op (.store 1 (sv 41) (sv 39))⟩])
 (.seq (.ops [⟨(sd 42),s0,.op (.ev (sv 6))⟩,⟨(sd 4),s0,.op (.ev (sv 42))⟩,⟨(sd 5),s0,.op (.ev (sc (.bool true)))⟩])
 (.tb [4,5] .ret)))))))),[sr 4,sr 5]⟩
def yWalka_ : YC:=(.ta (.seq (.seq (.dops 20 [⟨0,(sd 5),s0,.pure (.faddr 0 (sv 3))⟩,⟨1,(sd 6),s0,.load none (sv 5)⟩,⟨2,(sd 7),s0,.pure (.bin .eql 3 (some (.int .i64)) true (sv 6) (sc (.int .i64 0)))⟩,⟨3,(sd 8),s0,.pure (.ev (sv 7))⟩,⟨4,(sd 9),(sg 8 true),.pure (.ev (sv 0))⟩,⟨5,(sd 10),(sg 8 true),.pure (.faddr 1 (sv 3))⟩,⟨6,(sd 11),(sg 8 true),.load none (sv 10)⟩,⟨7,(sd 12),(sg 8 true),.k2 (.call (sc (.fn (.func 138) [])) [(sv 9),(sv 11)]) []⟩,⟨8,(sd 13),s0,.pure (.pick (sv 8) (sv 12) (sc (.bool false)))⟩,⟨9,(sd 14),s0,.pure (.ev (sv 13))⟩,⟨10,(sd 15),(sg 14 true),.pure (.ev (sv 0))⟩,⟨11,(sd 16),(sg 14 true),.pure (.nilck (sv 15))⟩,⟨12,(sd 17),(sg 14 true),.pure (.faddr 0 (sv 16))⟩,⟨13,(sd 18),(sg 14 true),.load none (sv 17)⟩,⟨14,(sd 19),(sg 14 true),.pure (.faddr 1 (sv 3))⟩,⟨15,(sd 20),(sg 14 true),.load none (sv 19)⟩,⟨16,(sd 21),(sg 14 true),.pure (.iaddr 1 (sv 18) (sv 20))⟩,⟨17,(sd 22),(sg 14 true),.load none (sv 21)⟩,⟨18,(sd 23),(sg 14 true),.pure (.bin .neq 244 (some (.pointer 32)) true (sv 22) (sc .nilp))⟩,⟨19,(sd 24),s0,.pure (.pick (sv 14) (sv 23) (sc (.bool false)))⟩])
 (.cond (sv 24) (.ta .skip [0,3,4]) (.tb [3,4] (.exit 0))))
 (.block 1 (.dops 11 [⟨0,(sd 25),s0,.pure (.ev (sv 0))⟩,⟨1,(sd 26),s0,.pure (.nilck (sv 25))⟩,⟨2,(sd 27),s0,.pure (.faddr 0 (sv 26))⟩,⟨3,(sd 28),s0,.load none (sv 27)⟩,⟨4,(sd 29),s0,.pure (.faddr 1 (sv 3))⟩,⟨5,(sd 30),s0,.load none (sv 29)⟩,⟨6,(sd 31),s0,.pure (.iaddr 1 (sv 28) (sv 30))⟩,⟨7,(sd 32),s0,.load none (sv 31)⟩,⟨8,(sd 33),s0,.pure (.nilck (sv 32))⟩,⟨9,(sd 34),s0,.load (some 4) (sv 33)⟩,⟨10,sn,s0,.k2 (.op (.store 4 (sv 3) (sv 34))) []⟩]))) [0,3,4])
def yWalka : YC:=yWalka_
theorem yWalka_r (call : ICall) (F : Nat) (T : Tr AV) (H : AH) : run call F yWalka T H = ycode call F yWalka_ T H:=(rfl)
def yWalk : YF:=⟨36,(.seq (.ops [⟨(sd 3),s0,.op (.new (sv 1))⟩,⟨(sd 4),s0,.op (.new (sc (.agg [(.int .i64 0),(.int .i64 0),(.str []),.nils])))⟩])
 (.seq (.block 0 (.tb [0,3,4] (.loop yWalka)))
 (.seq (.ops [⟨(sd 35),s0,.op (.load (some 4) (sv 3))⟩,⟨sn,s0,.op (.store 4 (sv 4) (sv 35))⟩])
 (.tb [4] .ret)))),[sk 4 (some 4)]⟩
def yBoth : YF:=⟨52,(.seq (.ops [⟨(sd 4),s0,.op (.new (sv 1))⟩,⟨(sd 5),s0,.op (.new (sv 2))⟩,⟨(sd 6),s0,.op (.ev (sc (.bool false)))⟩,⟨(sd 7),s0,.op (.ev (sc (.int .i64 0)))⟩,⟨(sd 8),s0,.op (.ev (sc (.int .i64 0)))⟩])
 (.seq (.seq (.ops [⟨(sd 11),s0,.op (.ev (sv 0))⟩,⟨(sd 12),s0,.op (.bin .eql 144 (some (.pointer 201)) true (sv 11) (sc .nilp))⟩,⟨(sd 13),s0,.op (.ev (sv 12))⟩,⟨(sd 14),(sg 13 false),.op (.ev (sv 0))⟩,⟨(sd 15),(sg 13 false),.op (.load (some 4) (sv 4))⟩,⟨(sd 16),(sg 13 false),.call (sc (.fn (.func 109) [])) [(sv 14),(sv 15)]⟩,⟨(sd 17),(sg 13 false),.op (.un .not (sv 16))⟩,⟨(sd 18),s0,.op (.pick (sv 13) (sc (.bool true)) (sv 17))⟩,⟨(sd 19),s0,.op (.ev (sv 18))⟩,⟨(sd 20),(sg 19 false),.op (.ev (sv 0))⟩,⟨(sd 21),(sg 19 false),.op (.load (some 4) (sv 5))⟩,⟨(sd 22),(sg 19 false),.call (sc (.fn (.func 109) [])) [(sv 20),(sv 21)]⟩,⟨(sd 23),(sg 19 false),.op (.un .not (sv 22))⟩,⟨(sd 24),s0,.op (.pick (sv 19) (sc (.bool true)) (sv 23))⟩])
 (.cond (sv 24) (.seq (.ops [⟨(sd 6),s0,.op (.ev (sc (.bool false)))⟩,⟨(sd 7),s0,.op (.ev (sc (.int .i64 0)))⟩,⟨(sd 8),s0,.op (.ev (sc (.int .i64 1)))⟩])
 (.tb [6,7,8] .ret)) (.ta .skip [0,4,5])))
 (.seq (.ops [⟨(sd 25),s0,.op (.ev (sv 0))⟩,⟨(sd 26),s0,.call (sc (.fn (.func 110) [])) [(sv 25)]⟩,⟨(sd 9),s0,.op (.ev (sv 26))⟩])
 (.seq (.ops [⟨(sd 27),s0,.op (.ev (sv 0))⟩,⟨(sd 28),s0,.op (.load (some 4) (sv 4))⟩,⟨(sd 29),s0,.op (.load (some 4) (sv 5))⟩,⟨(sd 30),s0,.op (.build [(.int .i64 0),(.int .i64 0),(.str []),.nils,(.int .i64 0),(.int .i64 0),(.str []),.nils] [(0,4,(sv 28)),(4,4,(sv 29))])⟩,⟨(sd 31),s0,.op (.bslice 8 1 [(.int .i64 0),(.int .i64 0),(.str []),.nils,(.int .i64 0),(.int .i64 0),(.str []),.nils] [(0,8,(sv 30))])⟩,⟨(sd 32),s0,.op (.build [.nilp,.nils,(.int .i64 0)] [(0,1,(sv 27)),(1,1,(sv 31))])⟩,⟨(sd 33),s0,.op (.new (sv 32))⟩,⟨(sd 10),s0,.op (.ev (sv 33))⟩])
 (.seq (.ops [⟨(sd 35),s0,.op (.ev (sv 10))⟩,⟨(sd 36),s0,.call (sc (.fn (.func 111) [])) [(sv 35)]⟩,⟨(sd 34),s0,.op (.ev (sv 36))⟩,⟨(sd 37),s0,.op (.ext (sv 34) 0)⟩,⟨(sd 38),s0,.op (.ext (sv 34) 1)⟩,⟨(sd 6),s0,.op (.ev (sv 37))⟩,⟨(sd 8),s0,.op (.ev (sv 38))⟩])
 (.seq (.seq (.ops [⟨(sd 39),s0,.op (.ev (sv 6))⟩,⟨(sd 40),s0,.op (.un .not (sv 39))⟩])
 (.cond (sv 40) (.ta (.ops [⟨(sd 41),s0,.op (.ev (sv 0))⟩,⟨(sd 42),s0,.op (.ev (sv 9))⟩,⟨(sd 43),s0,.call (sc (.fn (.func 112) [])) [(sv 41),(sv 42)]⟩]) [6,8,10]) (.ta .skip [6,8,10])))
 (.seq (.seq (.ops [⟨(sd 44),s0,.op (.ev (sv 8))⟩,⟨(sd 45),s0,.op (.bin .neq 35 (some (.int .i64)) true (sv 44) (sc (.int .i64 0)))⟩])
 (.cond (sv 45) (.seq (.ops [⟨(sd 46),s0,.op (.ev (sv 8))⟩,⟨(sd 6),s0,.op (.ev (sc (.bool false)))⟩,⟨(sd 7),s0,.op (.ev (sc (.int .i64 0)))⟩,⟨(sd 8),s0,.op (.ev (sv 46))⟩])
 (.tb [6,7,8] .ret)) (.ta .skip [6,10])))
 (.seq (.dops 8 [⟨0,(sd 47),s0,.pure (.ev (sv 6))⟩,⟨1,(sd 48),s0,.pure (.ev (sv 10))⟩,⟨2,(sd 49),s0,.pure (.nilck (sv 48))⟩,⟨3,(sd 50),s0,.pure (.faddr 2 (sv 49))⟩,⟨4,(sd 51),s0,.load none (sv 50)⟩,⟨5,(sd 6),s0,.pure (.ev (sv 47))⟩,⟨6,(sd 7),s0,.pure (.ev (sv 51))⟩,⟨7,(sd 8),s0,.pure (.ev (sc (.int .i64 0)))⟩])
 (.tb [6,7,8] .ret))))))))),[sr 6,sr 7,sr 8]⟩
def yAllUa_ : YC:=(.ta (.seq (.seq (.ops [⟨(sd 7),s0,.op (.ev (sv 0))⟩,⟨(sd 8),s0,.op (.nilck (sv 7))⟩,⟨(sd 9),s0,.op (.faddr 1 (sv 8))⟩,⟨(sd 10),s0,.op (.load none (sv 9))⟩,⟨(sd 11),s0,.op (.len false (sv 10))⟩,⟨(sd 12),s0,.op (.bin .gtr 3 (some (.int .i64)) true (sv 11) (sc (.int .i64 0)))⟩])
 (.cond (sv 12) (.ta .skip [0]) (.tb [] (.exit 0))))
 (.block 1 (.seq (.dops 14 [⟨0,(sd 13),s0,.pure (.ev (sv 0))⟩,⟨1,(sd 14),s0,.pure (.nilck (sv 13))⟩,⟨2,(sd 15),s0,.pure (.faddr 1 (sv 14))⟩,⟨3,(sd 16),s0,.load none (sv 15)⟩,⟨4,(sd 17),s0,.pure (.ev (sv 0))⟩,⟨5,(sd 18),s0,.pure (.nilck (sv 17))⟩,⟨6,(sd 19),s0,.pure (.faddr 1 (sv 18))⟩,⟨7,(sd 20),s0,.load none (sv 19)⟩,⟨8,(sd 21),s0,.pure (.len false (sv 20))⟩,⟨9,(sd 22),s0,.pure (.bin .sub 3 (some (.int .i64)) true (sv 21) (sc (.int .i64 1)))⟩,⟨10,(sd 23),s0,.pure (.iaddr 8 (sv 16) (sv 22))⟩,⟨11,(sd 24),s0,.load (some 8) (sv 23)⟩,⟨12,(sd 4),s0,.alloc (.new (sc (.agg [(.int .i64 0),(.int .i64 0),(.str []),.nils,(.int .i64 0),(.int .i64 0),(.str []),.nils])))⟩,⟨13,sn,s0,.k2 (.op (.store 8 (sv 4) (sv 24))) []⟩])
 (.seq (.dops 15 [⟨0,(sd 25),s0,.pure (.ev (sv 0))⟩,⟨1,(sd 26),s0,.pure (.ev (sv 0))⟩,⟨2,(sd 27),s0,.pure (.nilck (sv 26))⟩,⟨3,(sd 28),s0,.pure (.faddr 1 (sv 27))⟩,⟨4,(sd 29),s0,.load none (sv 28)⟩,⟨5,(sd 30),s0,.pure (.ev (sv 0))⟩,⟨6,(sd 31),s0,.pure (.nilck (sv 30))⟩,⟨7,(sd 32),s0,.pure (.faddr 1 (sv 31))⟩,⟨8,(sd 33),s0,.load none (sv 32)⟩,⟨9,(sd 34),s0,.pure (.len false (sv 33))⟩,⟨10,(sd 35),s0,.pure (.bin .sub 3 (some (.int .i64)) true (sv 34) (sc (.int .i64 1)))⟩,⟨11,(sd 36),s0,.pure (.slice (some 8) (sv 29) none (some (sv 35)) none)⟩,⟨12,(sd 37),s0,.pure (.nilck (sv 25))⟩,⟨13,(sd 38),s0,.pure (.faddr 1 (sv 37))⟩,⟨14,sn,s0,.k2 (.op (.store 1 (sv 38) (sv 36))) []⟩])
 (.seq (.ops [⟨(sd 39),s0,.op (.ev (sv 0))⟩,⟨(sd 40),s0,.op (.nilck (sv 39))⟩,⟨(sd 41),s0,.op (.faddr 2 (sv 40))⟩,⟨(sd 42),s0,.op (.load none (sv 41))⟩,⟨(sd 43),s0,.op (.bin .add 3 (some (.int .i64)) true (sv 42) (sc (.int .i64 1)))⟩,⟨(sd 44),s0,.op (.nilck (sv 39))⟩,⟨(sd 45),s0,.op (.faddr 2 (sv 44))⟩,⟨sn,s0,.op (.store 1 (sv 45) (sv 43))⟩])
 (.seq (.seq (.ops [⟨(sd 46),s0,.op (.ev (sv 0))⟩,⟨(sd 47),s0,.op (.nilck (sv 46))⟩,⟨(sd 48),s0,.op (.faddr 2 (sv 47))⟩,⟨(sd 49),s0,.op (.load none (sv 48))⟩,⟨(sd 50),s0,.op (.bin .gtr 3 (some (.int .i64)) true (sv 49) (sc (.int .i64 2000)))⟩])
 (.cond (sv 50) (.seq (.ops [⟨(sd 2),s0,.op (.ev (sc (.bool false)))⟩,⟨(sd 3),s0,.op (.ev (sc (.int .i64 12)))⟩])
 (.tb [2,3] .ret)) (.ta .skip [0,4])))
 (.seq (.ops [⟨(sd 52),s0,.op (.ev (sv 0))⟩,⟨(sd 53),s0,.op (.faddr 0 (sv 4))⟩,⟨(sd 54),s0,.op (.load (some 4) (sv 53))⟩,⟨(sd 55),s0,.op (.faddr 4 (sv 4))⟩,⟨(sd 56),s0,.op (.load (some 4) (sv 55))⟩,⟨(sd 57),s0,.call (sc (.fn (.func 140) [])) [(sv 52),(sv 54),(sv 56)]⟩,⟨(sd 51),s0,.op (.ev (sv 57))⟩,⟨(sd 58),s0,.op (.ext (sv 51) 0)⟩,⟨(sd 59),s0,.op (.ext (sv 51) 1)⟩,⟨(sd 5),s0,.op (.ev (sv 58))⟩,⟨(sd 6),s0,.op (.ev (sv 59))⟩])
 (.seq (.ops [⟨(sd 60),s0,.op (.ev (sv 5))⟩,⟨(sd 61),s0,.op (.un .not (sv 60))⟩,⟨(sd 62),s0,.op (.ev (sv 61))⟩,⟨(sd 63),(sg 62 false),.op (.ev (sv 6))⟩,⟨(sd 64),(sg 62 false),.op (.bin .neq 35 (some (.int .i64)) true (sv 63) (sc (.int .i64 0)))⟩,⟨(sd 65),s0,.op (.pick (sv 62) (sc (.bool true)) (sv 64))⟩])
 (.cond (sv 65) (.seq (.ops [⟨(sd 66),s0,.op (.ev (sv 6))⟩,⟨(sd 2),s0,.op (.ev (sc (.bool false)))⟩,⟨(sd 3),s0,.op (.ev (sv 66))⟩])
 (.tb [2,3] .ret)) (.ta .skip [0])))))))))) [0])
def yAllUa : YC:=yAllUa_
theorem yAllUa_r (call : ICall) (F : Nat) (T : Tr AV) (H : AH) : run call F yAllUa T H = ycode call F yAllUa_ T H:=(rfl)
def yAllU : YF:=⟨67,(.seq (.ops [⟨(sd 2),s0,.op (.ev (sc (.bool false)))⟩,⟨(sd 3),s0,.op (.ev (sc (.int .i64 0)))⟩])
 (.seq (.block 0 (.tb [0] (.loop yAllUa)))
 (.seq (.ops [⟨(sd 2),s0,.op (.ev (sc (.bool true)))⟩,⟨(sd 3),s0,.op (.ev (sc (.int .i64 0)))⟩])
 (.tb [2,3] .ret)))),[sr 2,sr 3]⟩
def yOneUa_ : YC:=(.ta (.seq (.seq (.ops [⟨(sd 104),s0,.op (.ev (sv 8))⟩,⟨(sd 105),s0,.op (.bin .geq 3 (some (.int .i64)) true (sv 104) (sc (.int .i64 0)))⟩])
 (.cond (sv 105) (.ta .skip [0,4,5,8]) (.tb [] (.exit 1))))
 (.seq (.block 2 (.dops 21 [⟨0,(sd 108),s0,.pure (.ev (sv 0))⟩,⟨1,(sd 109),s0,.pure (.ev (sv 0))⟩,⟨2,(sd 110),s0,.pure (.nilck (sv 109))⟩,⟨3,(sd 111),s0,.pure (.faddr 1 (sv 110))⟩,⟨4,(sd 112),s0,.load none (sv 111)⟩,⟨5,(sd 113),s0,.pure (.faddr 3 (sv 4))⟩,⟨6,(sd 114),s0,.load none (sv 113)⟩,⟨7,(sd 115),s0,.pure (.ev (sv 8))⟩,⟨8,(sd 116),s0,.pure (.iaddr 4 (sv 114) (sv 115))⟩,⟨9,(sd 117),s0,.load (some 4) (sv 116)⟩,⟨10,(sd 118),s0,.pure (.faddr 3 (sv 5))⟩,⟨11,(sd 119),s0,.load none (sv 118)⟩,⟨12,(sd 120),s0,.pure (.ev (sv 8))⟩,⟨13,(sd 121),s0,.pure (.iaddr 4 (sv 119) (sv 120))⟩,⟨14,(sd 122),s0,.load (some 4) (sv 121)⟩,⟨15,(sd 123),s0,.pure (.build [(.int .i64 0),(.int .i64 0),(.str []),.nils,(.int .i64 0),(.int .i64 0),(.str []),.nils] [(0,4,(sv 117)),(4,4,(sv 122))])⟩,⟨16,(sd 124),s0,.alloc (.bslice 8 1 [(.int .i64 0),(.int .i64 0),(.str []),.nils,(.int .i64 0),(.int .i64 0),(.str []),.nils] [(0,8,(sv 123))])⟩,⟨17,(sd 125),s0,.k2 (.op (.app 8 112 (sv 112) (sv 124))) []⟩,⟨18,(sd 126),s0,.pure (.nilck (sv 108))⟩,⟨19,(sd 127),s0,.pure (.faddr 1 (sv 126))⟩,⟨20,sn,s0,.k2 (.op (.store 1 (sv 127) (sv 125))) []⟩]))
 (.ops [⟨(sd 106),s0,.op (.ev (sv 8))⟩,⟨(sd 107),s0,.op (.bin .sub 3 (some (.int .i64)) true (sv 106) (sc (.int .i64 1)))⟩,⟨(sd 8),s0,.op (.ev (sv 107))⟩]))) [0,4,5,8])
def yOneUa : YC:=yOneUa_
theorem yOneUa_r (call : ICall) (F : Nat) (T : Tr AV) (H : AH) : run call F yOneUa T H = ycode call F yOneUa_ T H:=(rfl)
def yOneU : YF:=⟨128,(.seq (.ops [⟨(sd 4),s0,.op (.new (sv 1))⟩,⟨(sd 5),s0,.op (.new (sv 2))⟩,⟨(sd 6),s0,.op (.ev (sc (.bool false)))⟩,⟨(sd 7),s0,.op (.ev (sc (.int .i64 0)))⟩])
 (.seq (.dops 14 [⟨0,(sd 9),s0,.pure (.ev (sv 0))⟩,⟨1,(sd 10),s0,.pure (.nilck (sv 9))⟩,⟨2,(sd 11),s0,.pure (.faddr 0 (sv 10))⟩,⟨3,(sd 12),s0,.load none (sv 11)⟩,⟨4,(sd 13),s0,.load (some 4) (sv 4)⟩,⟨6,(sd 15),s0,.pure (.ev (sv 0))⟩,⟨7,(sd 16),s0,.pure (.nilck (sv 15))⟩,⟨8,(sd 17),s0,.pure (.faddr 0 (sv 16))⟩,⟨9,(sd 18),s0,.load none (sv 17)⟩,⟨10,(sd 19),s0,.load (some 4) (sv 5)⟩,⟨5,(sd 14),s0,.k2 (.call (sc (.fn (.func 160) [])) [(sv 12),(sv 13)]) [10,9]⟩,⟨11,(sd 20),s0,.k2 (.call (sc (.fn (.func 160) [])) [(sv 18),(sv 19)]) []⟩,⟨12,sn,s0,.k2 (.op (.store 4 (sv 4) (sv 14))) []⟩,⟨13,sn,s0,.k2 (.op (.store 4 (sv 5) (sv 20))) []⟩])
 (.seq (.block 0 (.seq (.ops [⟨(sd 22),s0,.op (.faddr 0 (sv 4))⟩,⟨(sd 23),s0,.op (.load none (sv 22))⟩,⟨(sd 24),s0,.op (.bin .eql 3 (some (.int .i64)) true (sv 23) (sc (.int .i64 0)))⟩,⟨(sd 25),s0,.op (.ev (sv 24))⟩,⟨(sd 26),(sg 25 true),.op (.faddr 0 (sv 5))⟩,⟨(sd 27),(sg 25 true),.op (.load none (sv 26))⟩,⟨(sd 28),(sg 25 true),.op (.bin .eql 3 (some (.int .i64)) true (sv 27) (sc (.int .i64 0)))⟩,⟨(sd 29),s0,.op (.pick (sv 25) (sv 28) (sc (.bool false)))⟩,⟨(sd 21),s0,.op (.ev (sv 29))⟩])
 (.cond (sv 21) (.seq (.seq (.ops [⟨(sd 30),s0,.op (.faddr 1 (sv 4))⟩,⟨(sd 31),s0,.op (.load none (sv 30))⟩,⟨(sd 32),s0,.op (.faddr 1 (sv 5))⟩,⟨(sd 33),s0,.op (.load none (sv 32))⟩,⟨(sd 34),s0,.op (.bin .eql 2 (some (.int .i64)) false (sv 31) (sv 33))⟩])
 (.cond (sv 34) (.seq (.ops [⟨(sd 6),s0,.op (.ev (sc (.bool true)))⟩,⟨(sd 7),s0,.op (.ev (sc (.int .i64 0)))⟩])
 (.tb [6,7] .ret)) (.ta .skip [0,4,5])))
 (.seq (.dops 18 [⟨0,(sd 35),s0,.pure (.ev (sv 0))⟩,⟨1,(sd 36),s0,.pure (.nilck (sv 35))⟩,⟨2,(sd 37),s0,.pure (.faddr 0 (sv 36))⟩,⟨3,(sd 38),s0,.load none (sv 37)⟩,⟨4,(sd 39),s0,.pure (.faddr 1 (sv 4))⟩,⟨5,(sd 40),s0,.load none (sv 39)⟩,⟨6,(sd 41),s0,.pure (.faddr 1 (sv 5))⟩,⟨7,(sd 42),s0,.load none (sv 41)⟩,⟨8,(sd 43),s0,.pure (.mm true [(sv 40),(sv 42)])⟩,⟨9,(sd 44),s0,.pure (.faddr 1 (sv 4))⟩,⟨10,(sd 45),s0,.load none (sv 44)⟩,⟨11,(sd 46),s0,.pure (.faddr 1 (sv 5))⟩,⟨12,(sd 47),s0,.load none (sv 46)⟩,⟨13,(sd 48),s0,.pure (.mm false [(sv 45),(sv 47)])⟩,⟨14,(sd 49),s0,.k2 (.call (sc (.fn (.func 29) [])) [(sv 48)]) [7,5,3]⟩,⟨15,(sd 50),s0,.k2 (.call (sc (.fn (.func 161) [])) [(sv 38),(sv 43),(sv 49)]) []⟩,⟨16,(sd 6),s0,.pure (.ev (sc (.bool true)))⟩,⟨17,(sd 7),s0,.pure (.ev (sv 50))⟩])
 (.tb [6,7] .ret))) (.ta (.seq (.ops [⟨(sd 52),s0,.op (.faddr 0 (sv 4))⟩,⟨(sd 53),s0,.op (.load none (sv 52))⟩,⟨(sd 54),s0,.op (.bin .eql 3 (some (.int .i64)) true (sv 53) (sc (.int .i64 0)))⟩,⟨(sd 51),s0,.op (.ev (sv 54))⟩])
 (.cond (sv 51) (.seq (.ops [⟨(sd 55),s0,.op (.ev (sv 0))⟩,⟨(sd 56),s0,.op (.load (some 4) (sv 4))⟩,⟨(sd 57),s0,.op (.load (some 4) (sv 5))⟩,⟨(sd 58),s0,.call (sc (.fn (.func 162) [])) [(sv 55),(sv 56),(sv 57)]⟩,⟨(sd 59),s0,.op (.ext (sv 58) 0)⟩,⟨(sd 60),s0,.op (.ext (sv 58) 1)⟩,⟨(sd 6),s0,.op (.ev (sv 59))⟩,⟨(sd 7),s0,.op (.ev (sv 60))⟩])
 (.tb [6,7] .ret)) (.ta (.seq (.ops [⟨(sd 62),s0,.op (.faddr 0 (sv 5))⟩,⟨(sd 63),s0,.op (.load none (sv 62))⟩,⟨(sd 64),s0,.op (.bin .eql 3 (some (.int .i64)) true (sv 63) (sc (.int .i64 0)))⟩,⟨(sd 61),s0,.op (.ev (sv 64))⟩])
 (.cond (sv 61) (.seq (.ops [⟨(sd 65),s0,.op (.ev (sv 0))⟩,⟨(sd 66),s0,.op (.load (some 4) (sv 5))⟩,⟨(sd 67),s0,.op (.load (some 4) (sv 4))⟩,⟨(sd 68),s0,.call (sc (.fn (.func 162) [])) [(sv 65),(sv 66),(sv 67)]⟩,⟨(sd 69),s0,.op (.ext (sv 68) 0)⟩,⟨(sd 70),s0,.op (.ext (sv 68) 1)⟩,⟨(sd 6),s0,.op (.ev (sv 69))⟩,⟨(sd 7),s0,.op (.ev (sv 70))⟩])
 (.tb [6,7] .ret)) (.ta (.seq (.ops [⟨(sd 72),s0,.op (.faddr 0 (sv 4))⟩,⟨(sd 73),s0,.op (.load none (sv 72))⟩,⟨(sd 74),s0,.op (.faddr 0 (sv 5))⟩,⟨(sd 75),s0,.op (.load none (sv 74))⟩,⟨(sd 76),s0,.op (.bin .neq 3 (some (.int .i64)) false (sv 73) (sv 75))⟩,⟨(sd 77),s0,.op (.ev (sv 76))⟩,⟨(sd 78),(sg 77 false),.op (.faddr 1 (sv 4))⟩,⟨(sd 79),(sg 77 false),.op (.load none (sv 78))⟩,⟨(sd 80),(sg 77 false),.op (.faddr 1 (sv 5))⟩,⟨(sd 81),(sg 77 false),.op (.load none (sv 80))⟩,⟨(sd 82),(sg 77 false),.op (.bin .neq 2 (some (.int .i64)) false (sv 79) (sv 81))⟩,⟨(sd 83),s0,.op (.pick (sv 77) (sc (.bool true)) (sv 82))⟩,⟨(sd 84),s0,.op (.ev (sv 83))⟩,⟨(sd 85),(sg 84 false),.op (.faddr 2 (sv 4))⟩,⟨(sd 86),(sg 84 false),.op (.load none (sv 85))⟩,⟨(sd 87),(sg 84 false),.op (.faddr 2 (sv 5))⟩,⟨(sd 88),(sg 84 false),.op (.load none (sv 87))⟩,⟨(sd 89),(sg 84 false),.op (.bin .neq 9 (some .string) false (sv 86) (sv 88))⟩,⟨(sd 90),s0,.op (.pick (sv 84) (sc (.bool true)) (sv 89))⟩,⟨(sd 91),s0,.op (.ev (sv 90))⟩,⟨(sd 92),(sg 91 false),.op (.faddr 3 (sv 4))⟩,⟨(sd 93),(sg 91 false),.op (.load none (sv 92))⟩,⟨(sd 94),(sg 91 false),.op (.len false (sv 93))⟩,⟨(sd 95),(sg 91 false),.op (.faddr 3 (sv 5))⟩,⟨(sd 96),(sg 91 false),.op (.load none (sv 95))⟩,⟨(sd 97),(sg 91 false),.op (.len false (sv 96))⟩,⟨(sd 98),(sg 91 false),.op (.bin .neq 3 (some (.int .i64)) false (sv 94) (sv 97))⟩,⟨(sd 99),s0,.op (.pick (sv 91) (sc (.bool true)) (sv 98))⟩,⟨(sd 71),s0,.op (.ev (sv 99))⟩])
 (.cond (sv 71) (.seq (.ops [⟨(sd 6),s0,.op (.ev (sc (.bool false)))⟩,⟨(sd 7),s0,.op (.ev (sc (.int .i64 0)))⟩])
 (.tb [6,7] .ret)) (.ta .skip [0,4,5]))) [0,4,5]))) [0,4,5]))) [0,4,5]))))
 (.seq (.seq (.ops [⟨(sd 100),s0,.op (.faddr 3 (sv 4))⟩,⟨(sd 101),s0,.op (.load none (sv 100))⟩,⟨(sd 102),s0,.op (.len false (sv 101))⟩,⟨(sd 103),s0,.op (.bin .sub 3 (some (.int .i64)) true (sv 102) (sc (.int .i64 1)))⟩,⟨(sd 8),s0,.op (.ev (sv 103))⟩])
 (.block 1 (.tb [0,4,5,8] (.loop yOneUa))))
 (.seq (.ops [⟨(sd 6),s0,.op (.ev (sc (.bool true)))⟩,⟨(sd 7),s0,.op (.ev (sc (.int .i64 0)))⟩])
 (.tb [6,7] .ret)))))),[sr 6,sr 7]⟩
def yRenma_ : YC:=(.ta (.seq (.ops [⟨(sd 13),s0,.op (.bin .lss 3 (some (.int .i64)) false (sv 12) (sv 11))⟩])
 (.seq (.cond (sv 13) (.ta .skip [0,3,4,5,10,11,12]) (.tb [3,4,5] (.exit 0)))
 (.seq (.block 1 (.seq (.ops [⟨(sd 14),s0,.op (.iaddr 1 (sv 10) (sv 12))⟩,⟨(sd 15),s0,.op (.load none (sv 14))⟩,⟨(sd 7),s0,.op (.ev (sv 15))⟩])
 (.ops [⟨(sd 17),s0,.op (.ev (sv 5))⟩,⟨(sd 18),s0,.op (.ev (sv 7))⟩,⟨(sd 19),s0,.op (.ev (sv 0))⟩,⟨(sd 20),s0,.call (sc (.fn (.func 114) [])) [(sv 19)]⟩,⟨(sd 16),s0,.op (.ev (sv 20))⟩,⟨(sd 21),s0,.op (.ext (sv 16) 0)⟩,⟨(sd 22),s0,.op (.ext (sv 16) 1)⟩,⟨sn,s0,.op (.mop (.put (.int .i64)) [(sv 17),(sv 18),(sv 21)])⟩])))
 (.ops [⟨(sd 23),s0,.op (.bin .add 3 (some (.int .i64)) true (sv 12) (sc (.int .i64 1)))⟩,⟨(sd 12),s0,.op (.ev (sv 23))⟩])))) [0,3,4,5,10,11,12])
def yRenma : YC:=yRenma_
theorem yRenma_r (call : ICall) (F : Nat) (T : Tr AV) (H : AH) : run call F yRenma T H = ycode call F yRenma_ T H:=(rfl)
def yRenm : YF:=⟨27,(.seq (.ops [⟨(sd 3),s0,.op (.new (sv 1))⟩,⟨(sd 4),s0,.op (.new (sc (.agg [(.int .i64 0),(.int .i64 0),(.str []),.nils])))⟩])
 (.seq (.ops [⟨(sd 8),s0,.op (.mop .make [])⟩,⟨(sd 5),s0,.op (.ev (sv 8))⟩])
 (.seq (.seq (.ops [⟨(sd 9),s0,.op (.load (some 4) (sv 3))⟩,⟨(sd 10),s0,.call (sc (.fn (.func 113) [])) [(sv 9)]⟩,⟨(sd 11),s0,.op (.len false (sv 10))⟩,⟨(sd 12),s0,.op (.ev (sc (.int .i64 0)))⟩])
 (.block 0 (.tb [0,3,4,5,10,11,12] (.loop yRenma))))
 (.seq (.ops [⟨(sd 24),s0,.op (.load (some 4) (sv 3))⟩,⟨(sd 25),s0,.op (.ev (sv 5))⟩,⟨(sd 26),s0,.call (sc (.fn (.func 115) [])) [(sv 24),(sv 25)]⟩,⟨sn,s0,.op (.store 4 (sv 4) (sv 26))⟩])
 (.tb [4] .ret))))),[sk 4 (some 4)]⟩
def yRplca_ : YC:=(.ta (.seq (.ops [⟨(sd 21),s0,.op (.bin .lss 3 (some (.int .i64)) false (sv 20) (sv 19))⟩])
 (.seq (.cond (sv 21) (.ta .skip [1,4,5,18,19,20]) (.tb [4,5] (.exit 0)))
 (.seq (.block 1 (.seq (.ops [⟨(sd 22),s0,.op (.iaddr 4 (sv 18) (sv 20))⟩,⟨(sd 23),s0,.op (.load (some 4) (sv 22))⟩,⟨(sd 7),s0,.op (.new (sc (.agg [(.int .i64 0),(.int .i64 0),(.str []),.nils])))⟩,⟨sn,s0,.op (.store 4 (sv 7) (sv 23))⟩])
 (.dops 9 [⟨0,(sd 24),s0,.pure (.faddr 3 (sv 5))⟩,⟨1,(sd 25),s0,.load none (sv 24)⟩,⟨2,(sd 26),s0,.load (some 4) (sv 7)⟩,⟨3,(sd 27),s0,.pure (.ev (sv 1))⟩,⟨4,(sd 28),s0,.k2 (.call (sc (.fn (.func 115) [])) [(sv 26),(sv 27)]) [1]⟩,⟨5,(sd 29),s0,.alloc (.bslice 4 1 [(.int .i64 0),(.int .i64 0),(.str []),.nils] [(0,4,(sv 28))])⟩,⟨6,(sd 30),s0,.k2 (.op (.app 4 56 (sv 25) (sv 29))) []⟩,⟨7,(sd 31),s0,.pure (.faddr 3 (sv 5))⟩,⟨8,sn,s0,.k2 (.op (.store 1 (sv 31) (sv 30))) []⟩])))
 (.ops [⟨(sd 32),s0,.op (.bin .add 3 (some (.int .i64)) true (sv 20) (sc (.int .i64 1)))⟩,⟨(sd 20),s0,.op (.ev (sv 32))⟩])))) [1,4,5,18,19,20])
def yRplca : YC:=yRplca_
theorem yRplca_r (call : ICall) (F : Nat) (T : Tr AV) (H : AH) : run call F yRplca T H = ycode call F yRplca_ T H:=(rfl)
def yRplc : YF:=⟨34,(.seq (.ops [⟨(sd 2),s0,.op (.new (sv 0))⟩,⟨(sd 4),s0,.op (.new (sc (.agg [(.int .i64 0),(.int .i64 0),(.str []),.nils])))⟩])
 (.seq (.seq (.ops [⟨(sd 8),s0,.op (.faddr 0 (sv 2))⟩,⟨(sd 9),s0,.op (.load none (sv 8))⟩,⟨(sd 10),s0,.op (.bin .eql 3 (some (.int .i64)) true (sv 9) (sc (.int .i64 0)))⟩])
 (.cond (sv 10) (.seq (.ops [⟨(sd 11),s0,.op (.ev (sv 1))⟩,⟨(sd 12),s0,.op (.faddr 1 (sv 2))⟩,⟨(sd 13),s0,.op (.load none (sv 12))⟩,⟨(sd 14),s0,.op (.mop (.get (.int .i64) (.agg [(.int .i64 0),(.int .i64 0),(.str []),.nils]) false) [(sv 11),(sv 13)])⟩,⟨sn,s0,.op (.store 4 (sv 4) (sv 14))⟩])
 (.tb [4] .ret)) (.ta .skip [1,2,4])))
 (.seq (.ops [⟨(sd 15),s0,.op (.load (some 4) (sv 2))⟩,⟨(sd 5),s0,.op (.new (sc (.agg [(.int .i64 0),(.int .i64 0),(.str []),.nils])))⟩,⟨sn,s0,.op (.store 4 (sv 5) (sv 15))⟩])
 (.seq (.ops [⟨(sd 16),s0,.op (.faddr 3 (sv 5))⟩,⟨sn,s0,.op (.store 1 (sv 16) (sc .nils))⟩])
 (.seq (.seq (.ops [⟨(sd 17),s0,.op (.faddr 3 (sv 2))⟩,⟨(sd 18),s0,.op (.load none (sv 17))⟩,⟨(sd 19),s0,.op (.len false (sv 18))⟩,⟨(sd 20),s0,.op (.ev (sc (.int .i64 0)))⟩])
 (.block 0 (.tb [1,4,5,18,19,20] (.loop yRplca))))
 (.seq (.ops [⟨(sd 33),s0,.op (.load (some 4) (sv 5))⟩,⟨sn,s0,.op (.store 4 (sv 4) (sv 33))⟩])
 (.tb [4] .ret))))))),[sk 4 (some 4)]⟩
def yCould : YF:=⟨35,(.seq (.ops [⟨(sd 2),s0,.op (.new (sv 0))⟩,⟨(sd 3),s0,.op (.new (sv 1))⟩,⟨(sd 4),s0,.op (.ev (sc (.bool false)))⟩])
 (.seq (.seq (.ops [⟨(sd 9),s0,.op (.load (some 4) (sv 2))⟩,⟨(sd 10),s0,.call (sc (.fn (.func 42) [])) [(sv 9)]⟩,⟨(sd 11),s0,.op (.un .not (sv 10))⟩,⟨(sd 12),s0,.op (.ev (sv 11))⟩,⟨(sd 13),(sg 12 false),.op (.load (some 4) (sv 3))⟩,⟨(sd 14),(sg 12 false),.call (sc (.fn (.func 42) [])) [(sv 13)]⟩,⟨(sd 15),(sg 12 false),.op (.un .not (sv 14))⟩,⟨(sd 16),s0,.op (.pick (sv 12) (sc (.bool true)) (sv 15))⟩])
 (.cond (sv 16) (.seq (.ops [⟨(sd 4),s0,.op (.ev (sc (.bool false)))⟩])
 (.tb [4] .ret)) (.ta .skip [2,3])))
 (.seq (.ops [⟨(sd 17),s0,.call (sc (.fn (.func 68) [])) []⟩,⟨(sd 5),s0,.op (.ev (sv 17))⟩])
 (.seq (.dops 15 [⟨0,(sd 19),s0,.pure (.ev (sv 5))⟩,⟨1,(sd 20),s0,.pure (.ev (sv 5))⟩,⟨2,(sd 21),s0,.load (some 4) (sv 2)⟩,⟨4,(sd 23),s0,.pure (.ev (sv 5))⟩,⟨5,(sd 24),s0,.load (some 4) (sv 3)⟩,⟨3,(sd 22),s0,.k2 (.call (sc (.fn (.func 70) [])) [(sv 20),(sv 21)]) [5]⟩,⟨6,(sd 25),s0,.k2 (.call (sc (.fn (.func 70) [])) [(sv 23),(sv 24)]) []⟩,⟨7,(sd 26),s0,.k2 (.call (sc (.fn (.func 69) [])) [(sv 19),(sv 22),(sv 25)]) []⟩,⟨8,(sd 18),s0,.pure (.ev (sv 26))⟩,⟨9,(sd 27),s0,.pure (.ext (sv 18) 0)⟩,⟨10,(sd 28),s0,.pure (.ext (sv 18) 1)⟩,⟨11,(sd 29),s0,.pure (.ext (sv 18) 2)⟩,⟨12,(sd 6),s0,.pure (.ev (sv 27))⟩,⟨13,(sd 7),s0,.pure (.ev (sv 28))⟩,⟨14,(sd 8),s0,.pure (.ev (sv 29))⟩])
 (.seq (.ops [⟨(sd 30),s0,.op (.ev (sv 6))⟩,⟨(sd 31),s0,.op (.ev (sv 30))⟩,⟨(sd 32),(sg 31 true),.op (.ev (sv 8))⟩,⟨(sd 33),(sg 31 true),.op (.bin .eql 35 (some (.int .i64)) true (sv 32) (sc (.int .i64 0)))⟩,⟨(sd 34),s0,.op (.pick (sv 31) (sv 33) (sc (.bool false)))⟩,⟨(sd 4),s0,.op (.ev (sv 34))⟩])
 (.tb [4] .ret)))))),[sr 4]⟩
def yCl64 : YF:=⟨8,(.seq (.ops [⟨(sd 2),s0,.op (.ev (sc .nils))⟩])
 (.seq (.seq (.ops [⟨(sd 3),s0,.op (.ev (sv 0))⟩,⟨(sd 4),s0,.op (.bin .eql 179 (some (.slice 2)) true (sv 3) (sc .nils))⟩])
 (.cond (sv 4) (.seq (.ops [⟨(sd 2),s0,.op (.ev (sc .nils))⟩])
 (.tb [2] .ret)) (.ta .skip [0])))
 (.seq (.ops [⟨(sd 5),s0,.op (.empty)⟩,⟨(sd 6),s0,.op (.ev (sv 0))⟩,⟨(sd 7),s0,.op (.app 1 8 (sv 5) (sv 6))⟩,⟨(sd 2),s0,.op (.ev (sv 7))⟩])
 (.tb [2] .ret)))),[sr 2]⟩
def yRv64a_ : YC:=(.ta (.seq (.seq (.ops [⟨(sd 7),s0,.op (.ev (sv 2))⟩,⟨(sd 8),s0,.op (.ev (sv 3))⟩,⟨(sd 9),s0,.op (.bin .lss 3 (some (.int .i64)) false (sv 7) (sv 8))⟩])
 (.cond (sv 9) (.ta .skip [0,2,3]) (.tb [] (.exit 0))))
 (.seq (.block 1 (.dops 16 [⟨0,(sd 14),s0,.pure (.ev (sv 0))⟩,⟨1,(sd 15),s0,.pure (.ev (sv 2))⟩,⟨2,(sd 16),s0,.pure (.ev (sv 0))⟩,⟨3,(sd 17),s0,.pure (.ev (sv 3))⟩,⟨4,(sd 18),s0,.pure (.ev (sv 0))⟩,⟨5,(sd 19),s0,.pure (.ev (sv 3))⟩,⟨6,(sd 20),s0,.pure (.iaddr 1 (sv 18) (sv 19))⟩,⟨7,(sd 21),s0,.load none (sv 20)⟩,⟨8,(sd 22),s0,.pure (.ev (sv 0))⟩,⟨9,(sd 23),s0,.pure (.ev (sv 2))⟩,⟨10,(sd 24),s0,.pure (.iaddr 1 (sv 22) (sv 23))⟩,⟨11,(sd 25),s0,.load none (sv 24)⟩,⟨12,(sd 26),s0,.pure (.iaddr 1 (sv 14) (sv 15))⟩,⟨13,sn,s0,.k2 (.op (.store 1 (sv 26) (sv 21))) []⟩,⟨14,(sd 27),s0,.pure (.iaddr 1 (sv 16) (sv 17))⟩,⟨15,sn,s0,.k2 (.op (.store 1 (sv 27) (sv 25))) []⟩]))
 (.ops [⟨(sd 10),s0,.op (.ev (sv 2))⟩,⟨(sd 11),s0,.op (.bin .add 3 (some (.int .i64)) true (sv 10) (sc (.int .i64 1)))⟩,⟨(sd 12),s0,.op (.ev (sv 3))⟩,⟨(sd 13),s0,.op (.bin .sub 3 (some (.int .i64)) true (sv 12) (sc (.int .i64 1)))⟩,⟨(sd 2),s0,.op (.ev (sv 11))⟩,⟨(sd 3),s0,.op (.ev (sv 13))⟩]))) [0,2,3])
def yRv64a : YC:=yRv64a_
theorem yRv64a_r (call : ICall) (F : Nat) (T : Tr AV) (H : AH) : run call F yRv64a T H = ycode call F yRv64a_ T H:=(rfl)
def yRv64 : YF:=⟨28,(.seq (.ops [⟨(sd 4),s0,.op (.ev (sv 0))⟩,⟨(sd 5),s0,.op (.len false (sv 4))⟩,⟨(sd 6),s0,.op (.bin .sub 3 (some (.int .i64)) true (sv 5) (sc (.int .i64 1)))⟩,⟨(sd 2),s0,.op (.ev (sc (.int .i64 0)))⟩,⟨(sd 3),s0,.op (.ev (sv 6))⟩])
 (.block 0 (.tb [0,2,3] (.loop yRv64a)))),[]⟩
set_option maxRecDepth 100000 in
theorem yBNew_ok : cFun Tryz.prog (fun _=>true) 68 = some yBNew.er:=by kernel_rfl
set_option maxRecDepth 100000 in
theorem ySNew_ok : cFun Tryz.prog (fun _=>true) 108 = some ySNew.er:=by kernel_rfl
set_option maxRecDepth 100000 in
theorem yFresh_ok : cFun Tryz.prog (fun _=>true) 114 = some yFresh.er:=by kernel_rfl
set_option maxRecDepth 100000 in
theorem yOwnB_ok : cFun Tryz.prog (fun _=>true) 109 = some yOwnB.er:=by kernel_rfl
set_option maxRecDepth 100000 in
theorem yGiven_ok : cFun Tryz.prog (fun _=>true) 138 = some yGiven.er:=by kernel_rfl
set_option maxRecDepth 100000 in
theorem yMarkB_ok : cFun Tryz.prog (fun _=>true) 110 = some yMarkB.er:=by kernel_rfl
set_option maxRecDepth 100000 in
theorem yMarkS_ok : cFun Tryz.prog (fun _=>true) 139 = some yMarkS.er:=by kernel_rfl
set_option maxRecDepth 100000 in
theorem yUndoB_ok : cFun Tryz.prog (fun _=>true) 112 = some yUndoB.er:=by kernel_rfl
set_option maxRecDepth 100000 in
theorem yUndoS_ok : cFun Tryz.prog (fun _=>true) 141 = some yUndoS.er:=by kernel_rfl
set_option maxRecDepth 100000 in
theorem yWalk_ok : cFun Tryz.prog (fun _=>true) 160 = some yWalk.er:=by kernel_rfl
set_option maxRecDepth 100000 in
theorem yBoth_ok : cFun Tryz.prog (fun _=>true) 69 = some yBoth.er:=by kernel_rfl
set_option maxRecDepth 100000 in
theorem yAllU_ok : cFun Tryz.prog (fun _=>true) 111 = some yAllU.er:=by kernel_rfl
set_option maxRecDepth 100000 in
theorem yOneU_ok : cFun Tryz.prog (fun _=>true) 140 = some yOneU.er:=by kernel_rfl
set_option maxRecDepth 100000 in
theorem yRenm_ok : cFun Tryz.prog (fun _=>true) 70 = some yRenm.er:=by kernel_rfl
set_option maxRecDepth 100000 in
theorem yRplc_ok : cFun Tryz.prog (fun _=>true) 115 = some yRplc.er:=by kernel_rfl
set_option maxRecDepth 100000 in
theorem yCould_ok : cFun Tryz.prog (fun _=>true) 30 = some yCould.er:=by kernel_rfl
set_option maxRecDepth 100000 in
theorem yCl64_ok : cFun Tryz.prog (fun _=>true) 163 = some yCl64.er:=by kernel_rfl
set_option maxRecDepth 100000 in
theorem yRv64_ok : cFun Tryz.prog (fun _=>true) 164 = some yRv64.er:=by kernel_rfl
end Go.Proofs.YtdekdghldblfaaaGreatDoor
