import Derived.Test.YtdekdghldblfaaaGreatDoorAbsS
import Derived.Test.YtdekdghldblfaaaGreatDoorRows
import Derived.ProofKit
set_option linter.unusedVariables false
set_option linter.unusedSimpArgs false
namespace Go.Proofs.YtdekdghldblfaaaGreatDoor
open Go Go.Abs
set_option maxRecDepth 100000
def yVars : YF:=⟨13,(.seq (.ops [⟨(sd 1),s0,.op (.new (sv 0))⟩,⟨(sd 2),s0,.op (.ev (sc .nils))⟩])
 (.seq (.seq (.ops [⟨(sd 5),s0,.op (.load (some 4) (sv 1))⟩,⟨(sd 6),s0,.call (sc (.fn (.func 42) [])) [(sv 5)]⟩,⟨(sd 7),s0,.op (.un .not (sv 6))⟩])
 (.cond (sv 7) (.seq (.ops [⟨(sd 2),s0,.op (.ev (sc .nils))⟩])
 (.tb [2] .ret)) (.ta .skip [1])))
 (.seq (.ops [⟨(sd 3),s0,.op (.new (sc .nils))⟩])
 (.seq (.ops [⟨(sd 8),s0,.op (.mop .make [])⟩,⟨(sd 4),s0,.op (.new (sc .nilm))⟩,⟨sn,s0,.op (.store 1 (sv 4) (sv 8))⟩])
 (.seq (.ops [⟨(sd 9),s0,.op (.load (some 4) (sv 1))⟩,⟨(sd 10),s0,.op (.fn (.func 142) [(sv 4),(sv 3)])⟩,⟨(sd 11),s0,.call (sc (.fn (.func 94) [])) [(sv 9),(sv 10)]⟩])
 (.seq (.ops [⟨(sd 12),s0,.op (.load none (sv 3))⟩,oe 2 12])
 (.tb [2] .ret))))))),[sr 2]⟩
def ql0 : YF:=⟨23,(.seq (.ops [⟨(sd 3),s0,.op (.new (sv 0))⟩,⟨(sd 4),s0,.op (.ev (sc (.bool false)))⟩])
 (.seq (.seq (.ops [⟨(sd 5),s0,.op (.faddr 0 (sv 3))⟩,⟨(sd 6),s0,.op (.load none (sv 5))⟩,⟨(sd 7),s0,.op (.bin .eql 3 (some (.int .i64)) true (sv 6) (sc (.int .i64 0)))⟩,oe 8 7,⟨(sd 9),(sg 8 true),.op (.load none (sv 1))⟩,⟨(sd 10),(sg 8 true),.op (.faddr 1 (sv 3))⟩,⟨(sd 11),(sg 8 true),.op (.load none (sv 10))⟩,⟨(sd 12),(sg 8 true),.op (.mop (.get (.int .i64) (.bool false) false) [(sv 9),(sv 11)])⟩,⟨(sd 13),(sg 8 true),.op (.un .not (sv 12))⟩,⟨(sd 14),s0,.op (.pick (sv 8) (sv 13) (sc (.bool false)))⟩])
 (.cond (sv 14) (.ta (.seq (.ops [⟨(sd 15),s0,.op (.load none (sv 1))⟩,⟨(sd 16),s0,.op (.faddr 1 (sv 3))⟩,⟨(sd 17),s0,.op (.load none (sv 16))⟩,⟨sn,s0,.op (.mop (.put (.int .i64)) [(sv 15),(sv 17),(sc (.bool true))])⟩])
 (.ops [⟨(sd 18),s0,.op (.load none (sv 2))⟩,⟨(sd 19),s0,.op (.faddr 1 (sv 3))⟩,⟨(sd 20),s0,.op (.load none (sv 19))⟩,⟨(sd 21),s0,.op (.bslice 1 1 [(.int .i64 0)] [(0,1,(sv 20))])⟩,⟨(sd 22),s0,.op (.app 1 8 (sv 18) (sv 21))⟩,⟨sn,s0,.op (.store 1 (sv 2) (sv 22))⟩])) []) (.ta .skip [])))
 (.seq (.ops [⟨(sd 4),s0,.op (.ev (sc (.bool true)))⟩])
 (.tb [4] .ret)))),[sr 4]⟩
def qpy : YC:=(.ta (.seq (.seq (.ops [oe 32 7,⟨(sd 33),s0,.op (.bin .geq 3 (some (.int .i64)) true (sv 32) (sc (.int .i64 0)))⟩])
 (.cond (sv 33) (.ta .skip [1,5,6,7]) (.tb [1,5] (.exit 2))))
 (.seq (.block 3 (.ops [oe 36 5,⟨(sd 37),s0,.op (.faddr 3 (sv 6))⟩,⟨(sd 38),s0,.op (.load none (sv 37))⟩,oe 39 7,⟨(sd 40),s0,.op (.iaddr 4 (sv 38) (sv 39))⟩,⟨(sd 41),s0,.op (.load (some 4) (sv 40))⟩,⟨(sd 42),s0,.op (.bslice 4 1 [(.int .i64 0),(.int .i64 0),(.str []),.nils] [(0,4,(sv 41))])⟩,⟨(sd 43),s0,.op (.app 4 56 (sv 36) (sv 42))⟩,oe 5 43]))
 (.ops [oe 34 7,⟨(sd 35),s0,.op (.bin .sub 3 (some (.int .i64)) true (sv 34) (sc (.int .i64 1)))⟩,oe 7 35]))) [1,5,6,7])
def q20:YC:=qpy
theorem qxe(call:qar)(F:Nat)(T:Tr AV)(H:AH):run call F q20 T H=ycode call F qpy T H:=(rfl)
def qpx : YC:=(.ta (.seq (.seq (.ops [oe 10 5,⟨(sd 11),s0,.op (.len false (sv 10))⟩,⟨(sd 12),s0,.op (.bin .gtr 3 (some (.int .i64)) true (sv 11) (sc (.int .i64 0)))⟩])
 (.cond (sv 12) (.ta .skip [1,5]) (.tb [] (.exit 0))))
 (.block 1 (.seq (.ops [oe 13 5,oe 14 5,⟨(sd 15),s0,.op (.len false (sv 14))⟩,⟨(sd 16),s0,.op (.bin .sub 3 (some (.int .i64)) true (sv 15) (sc (.int .i64 1)))⟩,⟨(sd 17),s0,.op (.iaddr 4 (sv 13) (sv 16))⟩,⟨(sd 18),s0,.op (.load (some 4) (sv 17))⟩,⟨(sd 6),s0,.op (.new (sc (.agg [(.int .i64 0),(.int .i64 0),(.str []),.nils])))⟩,⟨sn,s0,.op (.store 4 (sv 6) (sv 18))⟩])
 (.seq (.ops [oe 19 5,oe 20 5,⟨(sd 21),s0,.op (.len false (sv 20))⟩,⟨(sd 22),s0,.op (.bin .sub 3 (some (.int .i64)) true (sv 21) (sc (.int .i64 1)))⟩,⟨(sd 23),s0,.op (.slice (some 4) (sv 19) none (some (sv 22)) none)⟩,oe 5 23])
 (.seq (.seq (.ops [oe 24 1,⟨(sd 25),s0,.op (.load (some 4) (sv 6))⟩,⟨(sd 26),s0,.call (sv 24) [(sv 25)]⟩,⟨(sd 27),s0,.op (.un .not (sv 26))⟩])
 (.cond (sv 27) (.seq (.ops [⟨(sd 4),s0,.op (.ev (sc (.bool false)))⟩])
 (.tb [4] .ret)) (.ta .skip [1,5,6])))
 (.seq (.ops [⟨(sd 28),s0,.op (.faddr 3 (sv 6))⟩,⟨(sd 29),s0,.op (.load none (sv 28))⟩,⟨(sd 30),s0,.op (.len false (sv 29))⟩,⟨(sd 31),s0,.op (.bin .sub 3 (some (.int .i64)) true (sv 30) (sc (.int .i64 1)))⟩,oe 7 31])
 (.block 2 (.tb [1,5,6,7] (.loop q20))))))))) [1,5])
def q2z:YC:=qpx
theorem qxd(call:qar)(F:Nat)(T:Tr AV)(H:AH):run call F q2z T H=ycode call F qpx T H:=(rfl)
def yEach : YF:=⟨44,(.seq (.ops [⟨(sd 2),s0,.op (.new (sv 0))⟩,⟨(sd 4),s0,.op (.ev (sc (.bool false)))⟩])
 (.seq (.ops [⟨(sd 8),s0,.op (.load (some 4) (sv 2))⟩,⟨(sd 9),s0,.op (.bslice 4 1 [(.int .i64 0),(.int .i64 0),(.str []),.nils] [(0,4,(sv 8))])⟩,oe 5 9])
 (.seq (.block 0 (.tb [1,5] (.loop q2z)))
 (.seq (.ops [⟨(sd 4),s0,.op (.ev (sc (.bool true)))⟩])
 (.tb [4] .ret))))),[sr 4]⟩
def qg5 : YC:=(.ta (.seq (.ops [⟨(sd 29),s0,.op (.bin .lss 3 (some (.int .i64)) false (sv 28) (sv 27))⟩])
 (.seq (.cond (sv 29) (.ta .skip [1,4,7,26,27,28]) (.tb [4,7] (.exit 0)))
 (.seq (.block 1 (.seq (.ops [⟨(sd 30),s0,.op (.iaddr 4 (sv 26) (sv 28))⟩,⟨(sd 31),s0,.op (.load (some 4) (sv 30))⟩,⟨(sd 9),s0,.op (.new (sc (.agg [(.int .i64 0),(.int .i64 0),(.str []),.nils])))⟩,⟨sn,s0,.op (.store 4 (sv 9) (sv 31))⟩])
 (.dops 9 [⟨0,(sd 32),s0,.pure (.faddr 3 (sv 7))⟩,⟨1,(sd 33),s0,.load none (sv 32)⟩,⟨2,(sd 34),s0,.load (some 4) (sv 9)⟩,⟨3,(sd 35),s0,.pure (.ev (sv 1))⟩,⟨4,(sd 36),s0,.k2 (.call (sc (.fn (.func 107) [])) [(sv 34),(sv 35)]) [1]⟩,⟨5,(sd 37),s0,.alloc (.bslice 4 1 [(.int .i64 0),(.int .i64 0),(.str []),.nils] [(0,4,(sv 36))])⟩,⟨6,(sd 38),s0,.k2 (.op (.app 4 56 (sv 33) (sv 37))) []⟩,⟨7,(sd 39),s0,.pure (.faddr 3 (sv 7))⟩,⟨8,sn,s0,.k2 (.op (.store 1 (sv 39) (sv 38))) []⟩])))
 (.ops [⟨(sd 40),s0,.op (.bin .add 3 (some (.int .i64)) true (sv 28) (sc (.int .i64 1)))⟩,oe 28 40])))) [1,4,7,26,27,28])
def ql4:YC:=qg5
theorem ql3(call:qar)(F:Nat)(T:Tr AV)(H:AH):run call F ql4 T H=ycode call F qg5 T H:=(rfl)
def qld : YF:=⟨42,(.seq (.ops [⟨(sd 2),s0,.op (.new (sv 0))⟩,⟨(sd 4),s0,.op (.new (sc (.agg [(.int .i64 0),(.int .i64 0),(.str []),.nils])))⟩])
 (.seq (.seq (.ops [⟨(sd 10),s0,.op (.faddr 0 (sv 2))⟩,⟨(sd 11),s0,.op (.load none (sv 10))⟩,⟨(sd 12),s0,.op (.bin .eql 3 (some (.int .i64)) true (sv 11) (sc (.int .i64 0)))⟩])
 (.cond (sv 12) (.seq (.seq (.ops [oe 14 1,⟨(sd 15),s0,.op (.faddr 1 (sv 2))⟩,⟨(sd 16),s0,.op (.load none (sv 15))⟩,⟨(sd 17),s0,.op (.mop (.get (.int .i64) (.agg [(.int .i64 0),(.int .i64 0),(.str []),.nils]) true) [(sv 14),(sv 16)])⟩,oe 13 17,⟨(sd 18),s0,.op (.ext (sv 13) 0)⟩,⟨(sd 19),s0,.op (.ext (sv 13) 1)⟩,⟨(sd 5),s0,.op (.new (sc (.agg [(.int .i64 0),(.int .i64 0),(.str []),.nils])))⟩,⟨sn,s0,.op (.store 4 (sv 5) (sv 18))⟩,oe 6 19])
 (.seq (.ops [oe 20 6])
 (.cond (sv 20) (.seq (.ops [⟨(sd 21),s0,.op (.load (some 4) (sv 5))⟩,⟨sn,s0,.op (.store 4 (sv 4) (sv 21))⟩])
 (.tb [4] .ret)) (.ta .skip [2,4]))))
 (.seq (.ops [⟨(sd 22),s0,.op (.load (some 4) (sv 2))⟩,⟨sn,s0,.op (.store 4 (sv 4) (sv 22))⟩])
 (.tb [4] .ret))) (.ta .skip [1,2,4])))
 (.seq (.ops [⟨(sd 23),s0,.op (.load (some 4) (sv 2))⟩,⟨(sd 7),s0,.op (.new (sc (.agg [(.int .i64 0),(.int .i64 0),(.str []),.nils])))⟩,⟨sn,s0,.op (.store 4 (sv 7) (sv 23))⟩])
 (.seq (.ops [⟨(sd 24),s0,.op (.faddr 3 (sv 7))⟩,⟨sn,s0,.op (.store 1 (sv 24) (sc .nils))⟩])
 (.seq (.seq (.ops [⟨(sd 25),s0,.op (.faddr 3 (sv 2))⟩,⟨(sd 26),s0,.op (.load none (sv 25))⟩,⟨(sd 27),s0,.op (.len false (sv 26))⟩,⟨(sd 28),s0,.op (.ev (sc (.int .i64 0)))⟩])
 (.block 0 (.tb [1,4,7,26,27,28] (.loop ql4))))
 (.seq (.ops [⟨(sd 41),s0,.op (.load (some 4) (sv 7))⟩,⟨sn,s0,.op (.store 4 (sv 4) (sv 41))⟩])
 (.tb [4] .ret))))))),[sk 4 (some 4)]⟩
def qpw : YC:=(.ta (.seq (.ops [⟨(sd 27),s0,.op (.bin .lss 3 (some (.int .i64)) false (sv 26) (sv 25))⟩])
 (.seq (.cond (sv 27) (.ta .skip [1,2,4,7,24,25,26]) (.tb [1,2,4,7] (.exit 0)))
 (.seq (.block 1 (.seq (.ops [⟨(sd 28),s0,.op (.iaddr 1 (sv 24) (sv 26))⟩,⟨(sd 29),s0,.op (.load none (sv 28))⟩,oe 9 29])
 (.seq (.seq (.ops [oe 30 1,⟨(sd 31),s0,.op (.bin .gtr 2 (some (.int .i64)) true (sv 30) (sc (.int .i64 2147483647)))⟩])
 (.cond (sv 31) (.seq (.ops [⟨(sd 32),s0,.op (.build [(.int .i64 0),(.int .i64 0),(.str []),.nils] [])⟩,⟨sn,s0,.op (.store 4 (sv 4) (sv 32))⟩,⟨(sd 5),s0,.op (.ev (sc (.int .i64 0)))⟩,⟨(sd 6),s0,.op (.ev (sc (.int .i64 3)))⟩])
 (.tb [4,5,6] .ret)) (.ta .skip [1,2,4,7,9,24,25,26])))
 (.seq (.ops [oe 33 7,oe 34 9,oe 35 1,⟨(sd 36),s0,.call (sc (.fn (.func 29) [])) [(sv 35)]⟩,⟨sn,s0,.op (.mop (.put (.int .i64)) [(sv 33),(sv 34),(sv 36)])⟩])
 (.ops [oe 37 1,⟨(sd 38),s0,.op (.bin .add 2 (some (.int .i64)) true (sv 37) (sc (.int .i64 1)))⟩,oe 1 38])))))
 (.ops [⟨(sd 39),s0,.op (.bin .add 3 (some (.int .i64)) true (sv 26) (sc (.int .i64 1)))⟩,oe 26 39])))) [1,2,4,7,24,25,26])
def q2y:YC:=qpw
theorem qxc(call:qar)(F:Nat)(T:Tr AV)(H:AH):run call F q2y T H=ycode call F qpw T H:=(rfl)
def yFrom : YF:=⟨44,(.seq (.ops [⟨(sd 2),s0,.op (.new (sv 0))⟩,⟨(sd 4),s0,.op (.new (sc (.agg [(.int .i64 0),(.int .i64 0),(.str []),.nils])))⟩,⟨(sd 5),s0,.op (.ev (sc (.int .i64 0)))⟩,⟨(sd 6),s0,.op (.ev (sc (.int .i64 0)))⟩])
 (.seq (.seq (.ops [⟨(sd 10),s0,.op (.load (some 4) (sv 2))⟩,⟨(sd 11),s0,.call (sc (.fn (.func 42) [])) [(sv 10)]⟩,⟨(sd 12),s0,.op (.un .not (sv 11))⟩,oe 13 12,⟨(sd 14),(sg 13 false),.op (.ev (sv 1))⟩,⟨(sd 15),(sg 13 false),.op (.bin .lss 2 (some (.int .i64)) true (sv 14) (sc (.int .i64 0)))⟩,⟨(sd 16),s0,.op (.pick (sv 13) (sc (.bool true)) (sv 15))⟩,oe 17 16,⟨(sd 18),(sg 17 false),.op (.ev (sv 1))⟩,⟨(sd 19),(sg 17 false),.op (.bin .gtr 2 (some (.int .i64)) true (sv 18) (sc (.int .i64 2147483647)))⟩,⟨(sd 20),s0,.op (.pick (sv 17) (sc (.bool true)) (sv 19))⟩])
 (.cond (sv 20) (.seq (.ops [⟨(sd 21),s0,.op (.build [(.int .i64 0),(.int .i64 0),(.str []),.nils] [])⟩,⟨sn,s0,.op (.store 4 (sv 4) (sv 21))⟩,⟨(sd 5),s0,.op (.ev (sc (.int .i64 0)))⟩,⟨(sd 6),s0,.op (.ev (sc (.int .i64 1)))⟩])
 (.tb [4,5,6] .ret)) (.ta .skip [1,2,4])))
 (.seq (.ops [⟨(sd 22),s0,.op (.mop .make [])⟩,oe 7 22])
 (.seq (.seq (.ops [⟨(sd 23),s0,.op (.load (some 4) (sv 2))⟩,⟨(sd 24),s0,.call (sc (.fn (.func 113) [])) [(sv 23)]⟩,⟨(sd 25),s0,.op (.len false (sv 24))⟩,⟨(sd 26),s0,.op (.ev (sc (.int .i64 0)))⟩])
 (.block 0 (.tb [1,2,4,7,24,25,26] (.loop q2y))))
 (.seq (.ops [⟨(sd 40),s0,.op (.load (some 4) (sv 2))⟩,oe 41 7,⟨(sd 42),s0,.call (sc (.fn (.func 107) [])) [(sv 40),(sv 41)]⟩,oe 43 1,⟨sn,s0,.op (.store 4 (sv 4) (sv 42))⟩,oe 5 43,⟨(sd 6),s0,.op (.ev (sc (.int .i64 0)))⟩])
 (.tb [4,5,6] .ret)))))),[sk 4 (some 4),sr 5,sr 6]⟩
def yPlain : YF:=⟨15,(.seq (.ops [⟨(sd 1),s0,.op (.new (sv 0))⟩,⟨(sd 2),s0,.op (.new (sc (.agg [(.int .i64 0),(.int .i64 0),(.str []),.nils])))⟩,⟨(sd 3),s0,.op (.ev (sc (.int .i64 0)))⟩])
 (.seq (.ops [⟨(sd 8),s0,.op (.load (some 4) (sv 1))⟩,⟨(sd 9),s0,.call (sc (.fn (.func 87) [])) [(sv 8),(sc (.int .i64 0))]⟩,oe 7 9,⟨(sd 10),s0,.op (.ext (sv 7) 0)⟩,⟨(sd 11),s0,.op (.ext (sv 7) 1)⟩,⟨(sd 12),s0,.op (.ext (sv 7) 2)⟩,⟨(sd 4),s0,.op (.new (sc (.agg [(.int .i64 0),(.int .i64 0),(.str []),.nils])))⟩,⟨sn,s0,.op (.store 4 (sv 4) (sv 10))⟩,oe 5 11,oe 6 12])
 (.seq (.ops [⟨(sd 13),s0,.op (.load (some 4) (sv 4))⟩,oe 14 6,⟨sn,s0,.op (.store 4 (sv 2) (sv 13))⟩,oe 3 14])
 (.tb [2,3] .ret)))),[sk 2 (some 4),sr 3]⟩
def qun : YF:=⟨18,(.seq (.ops [⟨(sd 4),s0,.op (.ev (sc (.bool false)))⟩])
 (.seq (.ops [oe 5 0,⟨(sd 6),s0,.call (sc (.fn (.func 116) [])) [(sv 5),(sc (.str [32]))]⟩,⟨(sd 7),s0,.op (.un .not (sv 6))⟩,oe 8 7,⟨(sd 9),(sg 8 true),.op (.ev (sv 0))⟩,⟨(sd 10),(sg 8 true),.op (.bin .add 9 (some .string) true (sc (.str [32])) (sv 9))⟩,⟨(sd 11),(sg 8 true),.op (.bin .add 9 (some .string) true (sv 10) (sc (.str [47])))⟩,⟨(sd 12),(sg 8 true),.op (.ev (sv 1))⟩,⟨(sd 13),(sg 8 true),.call (sc (.fn (.func 117) [])) [(sv 12)]⟩,⟨(sd 14),(sg 8 true),.op (.bin .add 9 (some .string) false (sv 11) (sv 13))⟩,⟨(sd 15),(sg 8 true),.op (.bin .add 9 (some .string) true (sv 14) (sc (.str [32])))⟩,⟨(sd 16),(sg 8 true),.call (sc (.fn (.func 116) [])) [(sc (.str [32,116,114,117,101,47,48,32,102,97,105,108,47,48,32,33,47,48,32,44,47,50,32,59,47,50,32,45,62,47,50,32,92,43,47,49,32,99,97,108,108,47,49,32,99,97,116,99,104,47,51,32,116,104,114,111,119,47,49,32,102,105,110,100,97,108,108,47,51,32,61,47,50,32,92,61,47,50,32,61,61,47,50,32,92,61,61,47,50,32,64,60,47,50,32,64,62,47,50,32,64,61,60,47,50,32,64,62,61,47,50,32,118,97,114,47,49,32,110,111,110,118,97,114,47,49,32,97,116,111,109,47,49,32,105,110,116,101,103,101,114,47,49,32,97,116,111,109,105,99,47,49,32,99,111,109,112,111,117,110,100,47,49,32,105,115,47,50,32,61,58,61,47,50,32,61,92,61,47,50,32,60,47,50,32,62,47,50,32,61,60,47,50,32,62,61,47,50,32,102,117,110,99,116,111,114,47,51,32,97,114,103,47,51,32,61,46,46,47,50,32,99,111,112,121,95,116,101,114,109,47,50,32,97,116,111,109,95,108,101,110,103,116,104,47,50,32,97,116,111,109,95,99,104,97,114,115,47,50,32,110,117,109,98,101,114,95,99,104,97,114,115,47,50,32,115,111,114,116,47,50,32,109,115,111,114,116,47,50,32,107,101,121,115,111,114,116,47,50,32,108,101,110,103,116,104,47,50,32,97,115,115,101,114,116,122,47,49,32,97,115,115,101,114,116,97,47,49,32,114,101,116,114,97,99,116,47,49,32,108,97,98,101,108,47,49,32,116,111,95,108,97,98,101,108,101,100,47,52,32,117,110,108,97,98,101,108,47,50,32,58,45,47,50,32])),(sv 15)]⟩,⟨(sd 17),s0,.op (.pick (sv 8) (sv 16) (sc (.bool false)))⟩,oe 4 17])
 (.tb [4] .ret))),[sr 4]⟩
def ySOf : YF:=⟨45,(.seq (.ops [⟨(sd 3),s0,.op (.new (sv 1))⟩,⟨(sd 4),s0,.op (.new (sc (.agg [(.str []),(.int .i64 0),(.int .u64 0),(.bool false)])))⟩,⟨(sd 5),s0,.op (.ev (sc (.int .i64 0)))⟩])
 (.seq (.block 0 (.seq (.ops [⟨(sd 9),s0,.op (.load (some 4) (sv 3))⟩,⟨(sd 10),s0,.call (sc (.fn (.func 42) [])) [(sv 9)]⟩,⟨(sd 11),s0,.op (.un .not (sv 10))⟩,oe 8 11])
 (.cond (sv 8) (.seq (.ops [⟨(sd 12),s0,.op (.build [(.str []),(.int .i64 0),(.int .u64 0),(.bool false)] [])⟩,⟨sn,s0,.op (.store 4 (sv 4) (sv 12))⟩,⟨(sd 5),s0,.op (.ev (sc (.int .i64 1)))⟩])
 (.tb [4,5] .ret)) (.ta (.seq (.ops [⟨(sd 14),s0,.op (.faddr 0 (sv 3))⟩,⟨(sd 15),s0,.op (.load none (sv 14))⟩,⟨(sd 16),s0,.op (.bin .eql 3 (some (.int .i64)) true (sv 15) (sc (.int .i64 0)))⟩,oe 13 16])
 (.cond (sv 13) (.seq (.ops [⟨(sd 17),s0,.op (.build [(.str []),(.int .i64 0),(.int .u64 0),(.bool false)] [])⟩,⟨sn,s0,.op (.store 4 (sv 4) (sv 17))⟩,⟨(sd 5),s0,.op (.ev (sc (.int .i64 6)))⟩])
 (.tb [4,5] .ret)) (.ta (.seq (.ops [⟨(sd 19),s0,.op (.faddr 0 (sv 3))⟩,⟨(sd 20),s0,.op (.load none (sv 19))⟩,⟨(sd 21),s0,.op (.bin .eql 3 (some (.int .i64)) true (sv 20) (sc (.int .i64 1)))⟩,oe 18 21])
 (.cond (sv 18) (.seq (.ops [⟨(sd 22),s0,.op (.build [(.str []),(.int .i64 0),(.int .u64 0),(.bool false)] [])⟩,⟨sn,s0,.op (.store 4 (sv 4) (sv 22))⟩,⟨(sd 5),s0,.op (.ev (sc (.int .i64 5)))⟩])
 (.tb [4,5] .ret)) (.ta (.seq (.ops [⟨(sd 24),s0,.op (.faddr 2 (sv 3))⟩,⟨(sd 25),s0,.op (.load none (sv 24))⟩,⟨(sd 26),s0,.op (.faddr 3 (sv 3))⟩,⟨(sd 27),s0,.op (.load none (sv 26))⟩,⟨(sd 28),s0,.op (.len false (sv 27))⟩,⟨(sd 29),s0,.call (sc (.fn (.func 74) [])) [(sv 25),(sv 28)]⟩,oe 23 29])
 (.cond (sv 23) (.seq (.ops [⟨(sd 30),s0,.op (.build [(.str []),(.int .i64 0),(.int .u64 0),(.bool false)] [])⟩,⟨sn,s0,.op (.store 4 (sv 4) (sv 30))⟩,⟨(sd 5),s0,.op (.ev (sc (.int .i64 8)))⟩])
 (.tb [4,5] .ret)) (.ta .skip [0,3,4]))) [0,3,4]))) [0,3,4]))) [0,3,4]))))
 (.seq (.ops [oe 32 0,⟨(sd 33),s0,.op (.faddr 2 (sv 3))⟩,⟨(sd 34),s0,.op (.load none (sv 33))⟩,⟨(sd 35),s0,.op (.faddr 3 (sv 3))⟩,⟨(sd 36),s0,.op (.load none (sv 35))⟩,⟨(sd 37),s0,.op (.len false (sv 36))⟩,⟨(sd 38),s0,.call (sc (.fn (.func 78) [])) [(sv 32),(sv 34),(sv 37)]⟩,oe 31 38,⟨(sd 39),s0,.op (.ext (sv 31) 0)⟩,⟨(sd 40),s0,.op (.ext (sv 31) 1)⟩,⟨(sd 6),s0,.op (.new (sc (.agg [(.str []),(.int .i64 0),(.int .u64 0),(.bool false)])))⟩,⟨sn,s0,.op (.store 4 (sv 6) (sv 39))⟩,oe 7 40])
 (.seq (.seq (.ops [oe 41 7,⟨(sd 42),s0,.op (.un .not (sv 41))⟩])
 (.cond (sv 42) (.seq (.ops [⟨(sd 43),s0,.op (.build [(.str []),(.int .i64 0),(.int .u64 0),(.bool false)] [])⟩,⟨sn,s0,.op (.store 4 (sv 4) (sv 43))⟩,⟨(sd 5),s0,.op (.ev (sc (.int .i64 7)))⟩])
 (.tb [4,5] .ret)) (.ta .skip [4,6])))
 (.seq (.ops [⟨(sd 44),s0,.op (.load (some 4) (sv 6))⟩,⟨sn,s0,.op (.store 4 (sv 4) (sv 44))⟩,⟨(sd 5),s0,.op (.ev (sc (.int .i64 0)))⟩])
 (.tb [4,5] .ret)))))),[sk 4 (some 4),sr 5]⟩
def qg2 : YC:=(.ta (.seq (.ops [⟨(sd 16),s0,.op (.bin .lss 3 (some (.int .i64)) false (sv 15) (sv 14))⟩])
 (.seq (.cond (sv 16) (.ta .skip [1,2,6,13,14,15]) (.tb [6] (.exit 0)))
 (.seq (.block 1 (.seq (.ops [⟨(sd 17),s0,.op (.iaddr 4 (sv 13) (sv 15))⟩,⟨(sd 18),s0,.op (.load (some 4) (sv 17))⟩,⟨(sd 9),s0,.op (.new (sc (.agg [(.str []),(.int .i64 0),(.int .u64 0),(.bool false)])))⟩,⟨sn,s0,.op (.store 4 (sv 9) (sv 18))⟩])
 (.seq (.ops [⟨(sd 19),s0,.op (.faddr 0 (sv 9))⟩,⟨(sd 20),s0,.op (.load none (sv 19))⟩,oe 21 1,⟨(sd 22),s0,.op (.bin .eql 9 (some .string) false (sv 20) (sv 21))⟩,oe 23 22,⟨(sd 24),(sg 23 true),.op (.faddr 1 (sv 9))⟩,⟨(sd 25),(sg 23 true),.op (.load none (sv 24))⟩,⟨(sd 26),(sg 23 true),.op (.ev (sv 2))⟩,⟨(sd 27),(sg 23 true),.op (.bin .eql 3 (some (.int .i64)) false (sv 25) (sv 26))⟩,⟨(sd 28),s0,.op (.pick (sv 23) (sv 27) (sc (.bool false)))⟩])
 (.cond (sv 28) (.seq (.ops [⟨(sd 29),s0,.op (.load (some 4) (sv 9))⟩,⟨sn,s0,.op (.store 4 (sv 6) (sv 29))⟩,⟨(sd 7),s0,.op (.ev (sc (.bool true)))⟩])
 (.tb [6,7] .ret)) (.ta .skip [1,2,6,13,14,15])))))
 (.ops [⟨(sd 30),s0,.op (.bin .add 3 (some (.int .i64)) true (sv 15) (sc (.int .i64 1)))⟩,oe 15 30])))) [1,2,6,13,14,15])
def qup:YC:=qg2
theorem qie(call:qar)(F:Nat)(T:Tr AV)(H:AH):run call F qup T H=ycode call F qg2 T H:=(rfl)
def q13 : YF:=⟨32,(.seq (.ops [⟨(sd 6),s0,.op (.new (sc (.agg [(.str []),(.int .i64 0),(.int .u64 0),(.bool false)])))⟩,⟨(sd 7),s0,.op (.ev (sc (.bool false)))⟩])
 (.seq (.seq (.ops [oe 10 0,⟨(sd 11),s0,.op (.nilck (sv 10))⟩,⟨(sd 12),s0,.op (.faddr 1 (sv 11))⟩,⟨(sd 13),s0,.op (.load none (sv 12))⟩,⟨(sd 14),s0,.op (.len false (sv 13))⟩,⟨(sd 15),s0,.op (.ev (sc (.int .i64 0)))⟩])
 (.block 0 (.tb [1,2,6,13,14,15] (.loop qup))))
 (.seq (.ops [⟨(sd 31),s0,.op (.build [(.str []),(.int .i64 0),(.int .u64 0),(.bool false)] [])⟩,⟨sn,s0,.op (.store 4 (sv 6) (sv 31))⟩,⟨(sd 7),s0,.op (.ev (sc (.bool false)))⟩])
 (.tb [6,7] .ret)))),[sk 6 (some 4),sr 7]⟩
def q11 : YF:=⟨8,(.seq (.ops [⟨(sd 2),s0,.op (.ev (sc .nils))⟩])
 (.seq (.ops [oe 3 0,⟨(sd 4),s0,.op (.nilck (sv 3))⟩,⟨(sd 5),s0,.op (.faddr 0 (sv 4))⟩,⟨(sd 6),s0,.op (.load none (sv 5))⟩,⟨(sd 7),s0,.call (sc (.fn (.func 77) [])) [(sv 6)]⟩,oe 2 7])
 (.tb [2] .ret))),[sr 2]⟩
def ySAll : YF:=⟨8,(.seq (.ops [⟨(sd 2),s0,.op (.ev (sc .nils))⟩])
 (.seq (.ops [oe 3 0,⟨(sd 4),s0,.op (.nilck (sv 3))⟩,⟨(sd 5),s0,.op (.faddr 1 (sv 4))⟩,⟨(sd 6),s0,.op (.load none (sv 5))⟩,⟨(sd 7),s0,.call (sc (.fn (.func 91) [])) [(sv 6)]⟩,oe 2 7])
 (.tb [2] .ret))),[sr 2]⟩
def yLLeq : YF:=⟨9,(.seq (.ops [⟨(sd 4),s0,.op (.ev (sc (.bool false)))⟩])
 (.seq (.ops [oe 5 0,oe 6 1,⟨(sd 7),s0,.op (.bin .andNot 38 (some (.int .u64)) false (sv 5) (sv 6))⟩,⟨(sd 8),s0,.op (.bin .eql 38 (some (.int .u64)) true (sv 7) (sc (.int .u64 0)))⟩,oe 4 8])
 (.tb [4] .ret))),[sr 4]⟩
def yOwn : YF:=⟨12,(.seq (.ops [⟨(sd 1),s0,.op (.new (sv 0))⟩,⟨(sd 2),s0,.op (.new (sc (.agg [(.int .i64 0),(.int .u64 0),(.int .i64 0),(.int .i64 0),(.str []),.nils,(.int .i64 0),(.int .i64 0),(.str []),.nils])))⟩])
 (.seq (.dops 10 [⟨0,(sd 3),s0,.pure (.faddr 2 (sv 1))⟩,⟨1,(sd 4),s0,.load (some 4) (sv 3)⟩,⟨3,(sd 6),s0,.pure (.faddr 6 (sv 1))⟩,⟨4,(sd 7),s0,.load (some 4) (sv 6)⟩,⟨2,(sd 5),s0,.k2 (.call (sc (.fn (.func 107) [])) [(sv 4),(sc .nilm)]) [4]⟩,⟨6,(sd 9),s0,.pure (.faddr 2 (sv 1))⟩,⟨5,(sd 8),s0,.k2 (.call (sc (.fn (.func 107) [])) [(sv 7),(sc .nilm)]) []⟩,⟨7,sn,s0,.k2 (.op (.store 4 (sv 9) (sv 5))) []⟩,⟨8,(sd 10),s0,.pure (.faddr 6 (sv 1))⟩,⟨9,sn,s0,.k2 (.op (.store 4 (sv 10) (sv 8))) []⟩])
 (.seq (.ops [⟨(sd 11),s0,.op (.load (some 10) (sv 1))⟩,⟨sn,s0,.op (.store 10 (sv 2) (sv 11))⟩])
 (.tb [2] .ret)))),[sk 2 (some 10)]⟩
def q3a : YF:=⟨134,(.seq (.ops [⟨(sd 5),s0,.op (.new (sv 1))⟩,⟨(sd 8),s0,.op (.ev (sc (.int .i64 0)))⟩,⟨(sd 9),s0,.op (.ev (sc (.int .i64 0)))⟩])
 (.seq (.seq (.ops [⟨(sd 21),s0,.op (.load (some 4) (sv 5))⟩,⟨(sd 22),s0,.call (sc (.fn (.func 34) [])) [(sv 21)]⟩,oe 20 22,⟨(sd 23),s0,.op (.ext (sv 20) 0)⟩,⟨(sd 24),s0,.op (.ext (sv 20) 1)⟩,⟨(sd 25),s0,.op (.ext (sv 20) 2)⟩,⟨(sd 10),s0,.op (.new (sc (.agg [(.int .i64 0),(.int .i64 0),(.str []),.nils])))⟩,⟨(sd 11),s0,.op (.new (sc (.agg [(.int .i64 0),(.int .i64 0),(.str []),.nils])))⟩,⟨sn,s0,.op (.store 4 (sv 10) (sv 23))⟩,⟨sn,s0,.op (.store 4 (sv 11) (sv 24))⟩,oe 12 25])
 (.seq (.ops [oe 26 12,⟨(sd 27),s0,.op (.bin .neq 35 (some (.int .i64)) true (sv 26) (sc (.int .i64 0)))⟩])
 (.cond (sv 27) (.seq (.ops [oe 28 12,⟨(sd 8),s0,.op (.ev (sc (.int .i64 0)))⟩,oe 9 28])
 (.tb [8,9] .ret)) (.ta .skip [0,2,3,5]))))
 (.seq (.ops [⟨(sd 30),s0,.op (.load (some 4) (sv 5))⟩,⟨(sd 31),s0,.call (sc (.fn (.func 35) [])) [(sv 30)]⟩,oe 29 31,⟨(sd 32),s0,.op (.ext (sv 29) 0)⟩,⟨(sd 33),s0,.op (.ext (sv 29) 1)⟩,⟨sn,s0,.op (.store 4 (sv 5) (sv 32))⟩])
 (.seq (.ops [⟨(sd 35),s0,.op (.load (some 4) (sv 5))⟩,⟨(sd 36),s0,.call (sc (.fn (.func 34) [])) [(sv 35)]⟩,oe 34 36,⟨(sd 37),s0,.op (.ext (sv 34) 0)⟩,⟨(sd 38),s0,.op (.ext (sv 34) 1)⟩,⟨(sd 39),s0,.op (.ext (sv 34) 2)⟩,⟨(sd 13),s0,.op (.new (sc (.agg [(.int .i64 0),(.int .i64 0),(.str []),.nils])))⟩,⟨(sd 14),s0,.op (.new (sc (.agg [(.int .i64 0),(.int .i64 0),(.str []),.nils])))⟩,⟨sn,s0,.op (.store 4 (sv 13) (sv 37))⟩,⟨sn,s0,.op (.store 4 (sv 14) (sv 38))⟩,oe 15 39])
 (.seq (.dops 12 [⟨0,(sd 41),s0,.pure (.ev (sv 0))⟩,⟨1,(sd 42),s0,.pure (.nilck (sv 41))⟩,⟨2,(sd 43),s0,.pure (.faddr 0 (sv 42))⟩,⟨3,(sd 44),s0,.load none (sv 43)⟩,⟨4,(sd 45),s0,.load (some 4) (sv 13)⟩,⟨5,(sd 46),s0,.k2 (.call (sc (.fn (.func 36) [])) [(sv 44),(sv 45)]) []⟩,⟨6,(sd 40),s0,.pure (.ev (sv 46))⟩,⟨7,(sd 47),s0,.pure (.ext (sv 40) 0)⟩,⟨8,(sd 48),s0,.pure (.ext (sv 40) 1)⟩,⟨9,(sd 16),s0,.alloc (.new (sc (.agg [(.str []),(.int .i64 0),(.int .u64 0),(.bool false)])))⟩,⟨10,sn,s0,.k2 (.op (.store 4 (sv 16) (sv 47))) []⟩,⟨11,(sd 17),s0,.pure (.ev (sv 48))⟩])
 (.seq (.block 0 (.seq (.ops [oe 50 17,⟨(sd 51),s0,.op (.bin .neq 35 (some (.int .i64)) true (sv 50) (sc (.int .i64 0)))⟩,oe 49 51])
 (.cond (sv 49) (.seq (.ops [oe 52 17,⟨(sd 8),s0,.op (.ev (sc (.int .i64 0)))⟩,oe 9 52])
 (.tb [8,9] .ret)) (.ta (.seq (.ops [oe 54 0,⟨(sd 55),s0,.op (.nilck (sv 54))⟩,⟨(sd 56),s0,.op (.faddr 0 (sv 55))⟩,⟨(sd 57),s0,.op (.load none (sv 56))⟩,⟨(sd 58),s0,.call (sc (.fn (.func 38) [])) [(sv 57)]⟩,oe 59 2,⟨(sd 60),s0,.call (sc (.fn (.func 37) [])) [(sv 58),(sv 59)]⟩,⟨(sd 61),s0,.op (.un .not (sv 60))⟩,oe 53 61])
 (.cond (sv 53) (.seq (.ops [⟨(sd 8),s0,.op (.ev (sc (.int .i64 0)))⟩,⟨(sd 9),s0,.op (.ev (sc (.int .i64 1)))⟩])
 (.tb [8,9] .ret)) (.ta (.seq (.ops [oe 63 2,⟨(sd 64),s0,.op (.faddr 2 (sv 16))⟩,⟨(sd 65),s0,.op (.load none (sv 64))⟩,⟨(sd 66),s0,.call (sc (.fn (.func 15) [])) [(sv 63),(sv 65)]⟩,⟨(sd 67),s0,.op (.un .not (sv 66))⟩,oe 62 67])
 (.cond (sv 62) (.seq (.ops [⟨(sd 8),s0,.op (.ev (sc (.int .i64 0)))⟩,⟨(sd 9),s0,.op (.ev (sc (.int .i64 9)))⟩])
 (.tb [8,9] .ret)) (.ta (.seq (.dops 12 [⟨0,(sd 69),s0,.pure (.ev (sv 0))⟩,⟨1,(sd 70),s0,.pure (.nilck (sv 69))⟩,⟨2,(sd 71),s0,.pure (.faddr 4 (sv 70))⟩,⟨3,(sd 72),s0,.load none (sv 71)⟩,⟨4,(sd 73),s0,.pure (.ev (sv 2))⟩,⟨6,(sd 75),s0,.pure (.ev (sv 0))⟩,⟨7,(sd 76),s0,.pure (.nilck (sv 75))⟩,⟨8,(sd 77),s0,.pure (.faddr 1 (sv 76))⟩,⟨9,(sd 78),s0,.load none (sv 77)⟩,⟨5,(sd 74),s0,.k2 (.op (.mop (.get (.int .u64) (.int .i64 0) false) [(sv 72),(sv 73)])) [9]⟩,⟨10,(sd 79),s0,.pure (.bin .geq 3 (some (.int .i64)) false (sv 74) (sv 78))⟩,⟨11,(sd 68),s0,.pure (.ev (sv 79))⟩])
 (.cond (sv 68) (.seq (.ops [⟨(sd 8),s0,.op (.ev (sc (.int .i64 0)))⟩,⟨(sd 9),s0,.op (.ev (sc (.int .i64 10)))⟩])
 (.tb [8,9] .ret)) (.ta .skip [0,2,3,13,14,16]))) [0,2,3,13,14,16]))) [0,2,3,13,14,16]))) [0,2,3,13,14,16]))))
 (.seq (.ops [oe 80 0,⟨(sd 81),s0,.op (.nilck (sv 80))⟩,⟨(sd 82),s0,.op (.faddr 2 (sv 81))⟩,⟨(sd 83),s0,.op (.load none (sv 82))⟩,⟨(sd 84),s0,.op (.bin .add 3 (some (.int .i64)) true (sv 83) (sc (.int .i64 1)))⟩,⟨(sd 85),s0,.op (.nilck (sv 80))⟩,⟨(sd 86),s0,.op (.faddr 2 (sv 85))⟩,⟨sn,s0,.op (.store 1 (sv 86) (sv 84))⟩])
 (.seq (.ops [oe 87 0,⟨(sd 88),s0,.op (.nilck (sv 87))⟩,⟨(sd 89),s0,.op (.faddr 4 (sv 88))⟩,⟨(sd 90),s0,.op (.load none (sv 89))⟩,oe 91 2,⟨(sd 92),s0,.op (.mop (.get (.int .u64) (.int .i64 0) false) [(sv 90),(sv 91)])⟩,⟨(sd 93),s0,.op (.bin .add 3 (some (.int .i64)) true (sv 92) (sc (.int .i64 1)))⟩,⟨sn,s0,.op (.mop (.put (.int .u64)) [(sv 90),(sv 91),(sv 93)])⟩])
 (.seq (.ops [⟨(sd 94),s0,.op (.faddr 0 (sv 16))⟩,⟨(sd 95),s0,.op (.load none (sv 94))⟩,⟨(sd 96),s0,.op (.faddr 1 (sv 16))⟩,⟨(sd 97),s0,.op (.load none (sv 96))⟩,⟨(sd 98),s0,.op (.build [(.str []),(.int .i64 0)] [(0,1,(sv 95)),(1,1,(sv 97))])⟩,⟨(sd 18),s0,.op (.new (sc (.agg [(.str []),(.int .i64 0)])))⟩,⟨sn,s0,.op (.store 2 (sv 18) (sv 98))⟩])
 (.seq (.dops 8 [⟨0,(sd 99),s0,.pure (.ev (sv 0))⟩,⟨1,(sd 100),s0,.pure (.nilck (sv 99))⟩,⟨2,(sd 101),s0,.pure (.faddr 3 (sv 100))⟩,⟨3,(sd 102),s0,.load none (sv 101)⟩,⟨4,(sd 103),s0,.load (some 2) (sv 18)⟩,⟨5,(sd 104),s0,.k2 (.op (.mop (.get (.pair .str (.int .i64)) .nils false) [(sv 102),(sv 103)])) []⟩,⟨6,(sd 105),s0,.pure (.len false (sv 104))⟩,⟨7,(sd 19),s0,.pure (.ev (sv 105))⟩])
 (.seq (.seq (.ops [oe 106 3])
 (.cond (sv 106) (.ta (.ops [⟨(sd 19),s0,.op (.ev (sc (.int .i64 0)))⟩]) [0,2,13,14,18,19]) (.ta .skip [0,2,13,14,18,19])))
 (.seq (.dops 24 [⟨0,(sd 107),s0,.pure (.ev (sv 0))⟩,⟨1,(sd 108),s0,.pure (.nilck (sv 107))⟩,⟨2,(sd 109),s0,.pure (.faddr 3 (sv 108))⟩,⟨3,(sd 110),s0,.load none (sv 109)⟩,⟨4,(sd 111),s0,.load (some 2) (sv 18)⟩,⟨5,(sd 112),s0,.pure (.ev (sv 0))⟩,⟨6,(sd 113),s0,.pure (.nilck (sv 112))⟩,⟨7,(sd 114),s0,.pure (.faddr 3 (sv 113))⟩,⟨8,(sd 115),s0,.load none (sv 114)⟩,⟨9,(sd 116),s0,.load (some 2) (sv 18)⟩,⟨12,(sd 119),s0,.pure (.ev (sv 19))⟩,⟨13,(sd 120),s0,.pure (.ev (sv 0))⟩,⟨14,(sd 121),s0,.pure (.nilck (sv 120))⟩,⟨15,(sd 122),s0,.pure (.faddr 2 (sv 121))⟩,⟨16,(sd 123),s0,.load none (sv 122)⟩,⟨17,(sd 124),s0,.pure (.ev (sv 2))⟩,⟨18,(sd 125),s0,.load (some 4) (sv 13)⟩,⟨19,(sd 126),s0,.load (some 4) (sv 14)⟩,⟨20,(sd 127),s0,.pure (.build [(.int .i64 0),(.int .u64 0),(.int .i64 0),(.int .i64 0),(.str []),.nils,(.int .i64 0),(.int .i64 0),(.str []),.nils] [(0,1,(sv 123)),(1,1,(sv 124)),(2,4,(sv 125)),(6,4,(sv 126))])⟩,⟨10,(sd 117),s0,.k2 (.op (.mop (.get (.pair .str (.int .i64)) .nils false) [(sv 115),(sv 116)])) [19,18,16,4,3]⟩,⟨11,(sd 118),s0,.k2 (.call (sc (.fn (.func 40) [])) [(sv 117)]) [19,18,16,4,3]⟩,⟨21,(sd 128),s0,.alloc (.bslice 10 1 [(.int .i64 0),(.int .u64 0),(.int .i64 0),(.int .i64 0),(.str []),.nils,(.int .i64 0),(.int .i64 0),(.str []),.nils] [(0,10,(sv 127))])⟩,⟨22,(sd 129),s0,.k2 (.call (sc (.fn (.func 39) [])) [(sv 118),(sv 119),(sv 128)]) [4,3]⟩,⟨23,sn,s0,.k2 (.op (.mop (.put (.pair .str (.int .i64))) [(sv 110),(sv 111),(sv 129)])) []⟩])
 (.seq (.ops [oe 130 0,⟨(sd 131),s0,.op (.nilck (sv 130))⟩,⟨(sd 132),s0,.op (.faddr 2 (sv 131))⟩,⟨(sd 133),s0,.op (.load none (sv 132))⟩,oe 8 133,⟨(sd 9),s0,.op (.ev (sc (.int .i64 0)))⟩])
 (.tb [8,9] .ret)))))))))))))),[sr 8,sr 9]⟩
def qjp : YC:=(.ta (.seq (.ops [⟨(sd 22),s0,.op (.bin .lss 3 (some (.int .i64)) false (sv 21) (sv 20))⟩])
 (.seq (.cond (sv 22) (.ta .skip [3,9,19,20,21]) (.tb [9] (.exit 0)))
 (.seq (.block 1 (.seq (.ops [⟨(sd 23),s0,.op (.iaddr 10 (sv 19) (sv 21))⟩,⟨(sd 24),s0,.op (.load (some 10) (sv 23))⟩,⟨(sd 11),s0,.op (.new (sc (.agg [(.int .i64 0),(.int .u64 0),(.int .i64 0),(.int .i64 0),(.str []),.nils,(.int .i64 0),(.int .i64 0),(.str []),.nils])))⟩,⟨sn,s0,.op (.store 10 (sv 11) (sv 24))⟩])
 (.seq (.ops [⟨(sd 25),s0,.op (.faddr 1 (sv 11))⟩,⟨(sd 26),s0,.op (.load none (sv 25))⟩,oe 27 3,⟨(sd 28),s0,.call (sc (.fn (.func 15) [])) [(sv 26),(sv 27)]⟩])
 (.cond (sv 28) (.ta (.ops [oe 29 9,⟨(sd 30),s0,.op (.load (some 10) (sv 11))⟩,⟨(sd 31),s0,.call (sc (.fn (.func 62) [])) [(sv 30)]⟩,⟨(sd 32),s0,.op (.bslice 10 1 [(.int .i64 0),(.int .u64 0),(.int .i64 0),(.int .i64 0),(.str []),.nils,(.int .i64 0),(.int .i64 0),(.str []),.nils] [(0,10,(sv 31))])⟩,⟨(sd 33),s0,.op (.app 10 128 (sv 29) (sv 32))⟩,oe 9 33]) [3,9,19,20,21]) (.ta .skip [3,9,19,20,21])))))
 (.ops [⟨(sd 34),s0,.op (.bin .add 3 (some (.int .i64)) true (sv 21) (sc (.int .i64 1)))⟩,oe 21 34])))) [3,9,19,20,21])
def q1x:YC:=qjp
theorem qk8(call:qar)(F:Nat)(T:Tr AV)(H:AH):run call F q1x T H=ycode call F qjp T H:=(rfl)
def yView : YF:=⟨36,(.seq (.ops [⟨(sd 8),s0,.op (.ev (sc .nils))⟩])
 (.seq (.ops [⟨(sd 9),s0,.op (.ev (sc .nils))⟩])
 (.seq (.seq (.ops [oe 12 0,⟨(sd 13),s0,.op (.nilck (sv 12))⟩,⟨(sd 14),s0,.op (.faddr 3 (sv 13))⟩,⟨(sd 15),s0,.op (.load none (sv 14))⟩,oe 16 1,oe 17 2,⟨(sd 18),s0,.op (.build [(.str []),(.int .i64 0)] [(0,1,(sv 16)),(1,1,(sv 17))])⟩,⟨(sd 19),s0,.op (.mop (.get (.pair .str (.int .i64)) .nils false) [(sv 15),(sv 18)])⟩,⟨(sd 20),s0,.op (.len false (sv 19))⟩,⟨(sd 21),s0,.op (.ev (sc (.int .i64 0)))⟩])
 (.block 0 (.tb [3,9,19,20,21] (.loop q1x))))
 (.seq (.ops [oe 35 9,oe 8 35])
 (.tb [8] .ret))))),[sr 8]⟩
def qmc : YC:=(.ta (.seq (.ops [⟨(sd 15),s0,.op (.bin .lss 3 (some (.int .i64)) false (sv 14) (sv 13))⟩])
 (.seq (.cond (sv 15) (.ta .skip [0,1,5,12,13,14]) (.tb [5] (.exit 0)))
 (.seq (.block 1 (.seq (.ops [⟨(sd 16),s0,.op (.iaddr 4 (sv 12) (sv 14))⟩,⟨(sd 17),s0,.op (.load (some 4) (sv 16))⟩,⟨(sd 7),s0,.op (.new (sc (.agg [(.str []),(.int .i64 0),(.int .u64 0),(.bool false)])))⟩,⟨sn,s0,.op (.store 4 (sv 7) (sv 17))⟩])
 (.ops [oe 18 5,oe 19 0,⟨(sd 20),s0,.op (.faddr 0 (sv 7))⟩,⟨(sd 21),s0,.op (.load none (sv 20))⟩,⟨(sd 22),s0,.op (.faddr 1 (sv 7))⟩,⟨(sd 23),s0,.op (.load none (sv 22))⟩,oe 24 1,⟨(sd 25),s0,.call (sc (.fn (.func 26) [])) [(sv 19),(sv 21),(sv 23),(sv 24)]⟩,⟨(sd 26),s0,.op (.app 10 128 (sv 18) (sv 25))⟩,oe 5 26])))
 (.ops [⟨(sd 27),s0,.op (.bin .add 3 (some (.int .i64)) true (sv 14) (sc (.int .i64 1)))⟩,oe 14 27])))) [0,1,5,12,13,14])
def q2x:YC:=qmc
theorem qpv(call:qar)(F:Nat)(T:Tr AV)(H:AH):run call F q2x T H=ycode call F qmc T H:=(rfl)
def yList : YF:=⟨29,(.seq (.ops [⟨(sd 4),s0,.op (.ev (sc .nils))⟩])
 (.seq (.ops [⟨(sd 5),s0,.op (.ev (sc .nils))⟩])
 (.seq (.seq (.ops [oe 8 0,⟨(sd 9),s0,.op (.nilck (sv 8))⟩,⟨(sd 10),s0,.op (.faddr 0 (sv 9))⟩,⟨(sd 11),s0,.op (.load none (sv 10))⟩,⟨(sd 12),s0,.call (sc (.fn (.func 41) [])) [(sv 11)]⟩,⟨(sd 13),s0,.op (.len false (sv 12))⟩,⟨(sd 14),s0,.op (.ev (sc (.int .i64 0)))⟩])
 (.block 0 (.tb [0,1,5,12,13,14] (.loop q2x))))
 (.seq (.ops [oe 28 5,oe 4 28])
 (.tb [4] .ret))))),[sr 4]⟩
def yCount : YF:=⟨11,(.seq (.ops [⟨(sd 4),s0,.op (.ev (sc (.int .i64 0)))⟩])
 (.seq (.ops [oe 5 0,⟨(sd 6),s0,.op (.nilck (sv 5))⟩,⟨(sd 7),s0,.op (.faddr 4 (sv 6))⟩,⟨(sd 8),s0,.op (.load none (sv 7))⟩,oe 9 1,⟨(sd 10),s0,.op (.mop (.get (.int .u64) (.int .i64 0) false) [(sv 8),(sv 9)])⟩,oe 4 10])
 (.tb [4] .ret))),[sr 4]⟩
theorem yVars_ok:qbp Tryz.prog (fun _=>true) 113=some yVars.er:=by kernel_rfl
theorem q1y:qbp Tryz.prog (fun _=>true) 142=some ql0.er:=by kernel_rfl
theorem yEach_ok:qbp Tryz.prog (fun _=>true) 94=some yEach.er:=by kernel_rfl
theorem quv:qbp Tryz.prog (fun _=>true) 107=some qld.er:=by kernel_rfl
theorem yFrom_ok:qbp Tryz.prog (fun _=>true) 87=some yFrom.er:=by kernel_rfl
theorem q2v:qbp Tryz.prog (fun _=>true) 35=some yPlain.er:=by kernel_rfl
theorem qzz:qbp Tryz.prog (fun _=>true) 74=some qun.er:=by kernel_rfl
theorem ySOf_ok:qbp Tryz.prog (fun _=>true) 36=some ySOf.er:=by kernel_rfl
theorem q12:qbp Tryz.prog (fun _=>true) 78=some q13.er:=by kernel_rfl
theorem qz0:qbp Tryz.prog (fun _=>true) 38=some q11.er:=by kernel_rfl
theorem ySAll_ok:qbp Tryz.prog (fun _=>true) 41=some ySAll.er:=by kernel_rfl
theorem yLLeq_ok:qbp Tryz.prog (fun _=>true) 15=some yLLeq.er:=by kernel_rfl
theorem yOwn_ok:qbp Tryz.prog (fun _=>true) 62=some yOwn.er:=by kernel_rfl
theorem yAdd_ok:qbp Tryz.prog (fun _=>true) 12=some q3a.er:=by kernel_rfl
theorem yView_ok:qbp Tryz.prog (fun _=>true) 26=some yView.er:=by kernel_rfl
theorem yList_ok:qbp Tryz.prog (fun _=>true) 13=some yList.er:=by kernel_rfl
theorem q23:qbp Tryz.prog (fun _=>true) 16=some yCount.er:=by kernel_rfl
end Go.Proofs.YtdekdghldblfaaaGreatDoor
