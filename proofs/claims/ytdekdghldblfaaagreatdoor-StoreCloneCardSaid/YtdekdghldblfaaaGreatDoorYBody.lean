import Derived.Test.YtdekdghldblfaaaGreatDoorAbsS
import Derived.Test.YtdekdghldblfaaaGreatDoorRows
import Derived.ProofKit
set_option linter.unusedVariables false
set_option linter.unusedSimpArgs false
namespace Go.Proofs.YtdekdghldblfaaaGreatDoor
open Go Go.Abs
set_option maxRecDepth 100000
def q27 : YF:=⟨8,(.seq (.ops [⟨(sd 2),s0,.op (.ev (sc .nils))⟩])
 (.seq (.seq (.ops [oe 3 0,⟨(sd 4),s0,.op (.bin .eql 30 (some (.slice 32)) true (sv 3) (sc .nils))⟩])
 (.cond (sv 4) (.seq (.ops [⟨(sd 2),s0,.op (.ev (sc .nils))⟩])
 (.tb [2] .ret)) (.ta .skip [0])))
 (.seq (.ops [⟨(sd 5),s0,.op (.empty)⟩,oe 6 0,⟨(sd 7),s0,.op (.app 4 56 (sv 5) (sv 6))⟩,oe 2 7])
 (.tb [2] .ret)))),[sr 2]⟩
def yComp : YF:=⟨9,(.seq (.ops [⟨(sd 4),s0,.op (.new (sc (.agg [(.int .i64 0),(.int .i64 0),(.str []),.nils])))⟩])
 (.seq (.ops [oe 5 0,oe 6 1,⟨(sd 7),s0,.call (sc (.fn (.func 67) [])) [(sv 6)]⟩,⟨(sd 8),s0,.op (.build [(.int .i64 0),(.int .i64 0),(.str []),.nils] [(0,1,(sc (.int .i64 2))),(2,1,(sv 5)),(3,1,(sv 7))])⟩,⟨sn,s0,.op (.store 4 (sv 4) (sv 8))⟩])
 (.tb [4] .ret))),[sk 4 (some 4)]⟩
def yAtom : YF:=⟨5,(.seq (.ops [⟨(sd 2),s0,.op (.new (sc (.agg [(.int .i64 0),(.int .i64 0),(.str []),.nils])))⟩])
 (.seq (.ops [oe 3 0,⟨(sd 4),s0,.op (.build [(.int .i64 0),(.int .i64 0),(.str []),.nils] [(0,1,(sc (.int .i64 2))),(2,1,(sv 3))])⟩,⟨sn,s0,.op (.store 4 (sv 2) (sv 4))⟩])
 (.tb [2] .ret))),[sk 2 (some 4)]⟩
def yIs : YF:=⟨23,(.seq (.ops [⟨(sd 3),s0,.op (.new (sv 0))⟩,⟨(sd 6),s0,.op (.ev (sc (.bool false)))⟩])
 (.seq (.ops [⟨(sd 7),s0,.op (.faddr 0 (sv 3))⟩,⟨(sd 8),s0,.op (.load none (sv 7))⟩,⟨(sd 9),s0,.op (.bin .gtr 3 (some (.int .i64)) true (sv 8) (sc (.int .i64 1)))⟩,oe 10 9,⟨(sd 11),(sg 10 true),.op (.faddr 2 (sv 3))⟩,⟨(sd 12),(sg 10 true),.op (.load none (sv 11))⟩,⟨(sd 13),(sg 10 true),.op (.ev (sv 1))⟩,⟨(sd 14),(sg 10 true),.op (.bin .eql 9 (some .string) false (sv 12) (sv 13))⟩,⟨(sd 15),s0,.op (.pick (sv 10) (sv 14) (sc (.bool false)))⟩,oe 16 15,⟨(sd 17),(sg 16 true),.op (.faddr 3 (sv 3))⟩,⟨(sd 18),(sg 16 true),.op (.load none (sv 17))⟩,⟨(sd 19),(sg 16 true),.op (.len false (sv 18))⟩,⟨(sd 20),(sg 16 true),.op (.ev (sv 2))⟩,⟨(sd 21),(sg 16 true),.op (.bin .eql 3 (some (.int .i64)) false (sv 19) (sv 20))⟩,⟨(sd 22),s0,.op (.pick (sv 16) (sv 21) (sc (.bool false)))⟩,oe 6 22])
 (.tb [6] .ret))),[sr 6]⟩
def qda : YC:=(.ta (.seq (.ops [⟨(sd 12),s0,.op (.bin .lss 3 (some (.int .i64)) false (sv 11) (sv 10))⟩])
 (.seq (.cond (sv 12) (.ta .skip [0,3,9,10,11]) (.tb [0,3] (.exit 0)))
 (.seq (.block 1 (.seq (.ops [⟨(sd 13),s0,.op (.iaddr 1 (sv 9) (sv 11))⟩,⟨(sd 14),s0,.op (.load none (sv 13))⟩,oe 5 14])
 (.seq (.ops [oe 15 3,oe 16 5,⟨(sd 17),s0,.op (.len false (sv 16))⟩,⟨(sd 18),s0,.op (.bin .add 3 (some (.int .i64)) false (sv 15) (sv 17))⟩,oe 3 18])
 (.seq (.ops [oe 19 3,⟨(sd 20),s0,.op (.bin .lss 3 (some (.int .i64)) true (sv 19) (sc (.int .i64 0)))⟩])
 (.cond (sv 20) .bad (.ta .skip [0,3,9,10,11]))))))
 (.ops [⟨(sd 22),s0,.op (.bin .add 3 (some (.int .i64)) true (sv 11) (sc (.int .i64 1)))⟩,oe 11 22])))) [0,3,9,10,11])
def qxh:YC:=qda
theorem qdn(call:qar)(F:Nat)(T:Tr AV)(H:AH):run call F qxh T H=ycode call F qda T H:=(rfl)
def qc9 : YC:=(.ta (.seq (.ops [⟨(sd 28),s0,.op (.bin .lss 3 (some (.int .i64)) false (sv 27) (sv 26))⟩])
 (.seq (.cond (sv 28) (.ta .skip [6,25,26,27]) (.tb [6] (.exit 2)))
 (.seq (.block 3 (.seq (.ops [⟨(sd 29),s0,.op (.iaddr 1 (sv 25) (sv 27))⟩,⟨(sd 30),s0,.op (.load none (sv 29))⟩,oe 8 30])
 (.ops [oe 31 6,oe 32 8,⟨(sd 33),s0,.op (.app 6 88 (sv 31) (sv 32))⟩,oe 6 33])))
 (.ops [⟨(sd 34),s0,.op (.bin .add 3 (some (.int .i64)) true (sv 27) (sc (.int .i64 1)))⟩,oe 27 34])))) [6,25,26,27])
def qxg:YC:=qc9
theorem qdm(call:qar)(F:Nat)(T:Tr AV)(H:AH):run call F qxg T H=ycode call F qc9 T H:=(rfl)
def qf7 : YF:=⟨36,(.seq (.ops [⟨(sd 2),s0,.op (.ev (sc .nils))⟩])
 (.seq (.ops [⟨(sd 3),s0,.op (.ev (sc (.int .i64 0)))⟩])
 (.seq (.seq (.ops [oe 9 0,⟨(sd 10),s0,.op (.len false (sv 9))⟩,⟨(sd 11),s0,.op (.ev (sc (.int .i64 0)))⟩])
 (.block 0 (.tb [0,3,9,10,11] (.loop qxh))))
 (.seq (.ops [oe 23 3,⟨(sd 24),s0,.call (sc (.fn (.func 174) [])) [(sc .nils),(sv 23)]⟩,oe 6 24])
 (.seq (.seq (.ops [oe 25 0,⟨(sd 26),s0,.op (.len false (sv 25))⟩,⟨(sd 27),s0,.op (.ev (sc (.int .i64 0)))⟩])
 (.block 2 (.tb [6,25,26,27] (.loop qxg))))
 (.seq (.ops [oe 35 6,oe 2 35])
 (.tb [2] .ret))))))),[sr 2]⟩
def yGrow : YF:=⟨27,(.seq (.ops [⟨(sd 4),s0,.op (.ev (sc .nils))⟩])
 (.seq (.seq (.ops [oe 5 1,⟨(sd 6),s0,.op (.bin .lss 3 (some (.int .i64)) true (sv 5) (sc (.int .i64 0)))⟩])
 (.cond (sv 6) .bad (.ta .skip [0,1])))
 (.seq (.seq (.ops [oe 8 1,oe 9 0,⟨(sd 10),s0,.op (.capn (sv 9))⟩,oe 11 0,⟨(sd 12),s0,.op (.len false (sv 11))⟩,⟨(sd 13),s0,.op (.bin .sub 3 (some (.int .i64)) false (sv 10) (sv 12))⟩,⟨(sd 14),s0,.op (.bin .sub 3 (some (.int .i64)) false (sv 8) (sv 13))⟩,oe 1 14])
 (.seq (.ops [oe 15 1,⟨(sd 16),s0,.op (.bin .gtr 3 (some (.int .i64)) true (sv 15) (sc (.int .i64 0)))⟩])
 (.cond (sv 16) (.ta (.ops [oe 17 0,oe 18 0,⟨(sd 19),s0,.op (.capn (sv 18))⟩,⟨(sd 20),s0,.op (.slice (some 6) (sv 17) none (some (sv 19)) none)⟩,oe 21 1,⟨(sd 22),s0,.op (.appz 6 88 [(.int .i64 0),(.int .i64 0),(.int .i64 0),(.str []),.nils,.nils] (sv 20) (sv 21))⟩,oe 23 0,⟨(sd 24),s0,.op (.len false (sv 23))⟩,⟨(sd 25),s0,.op (.slice (some 6) (sv 22) none (some (sv 24)) none)⟩,oe 0 25]) [0]) (.ta .skip [0]))))
 (.seq (.ops [oe 26 0,oe 4 26])
 (.tb [4] .ret))))),[sr 4]⟩
def ql2 : YC:=(.ta (.seq (.ops [⟨(sd 12),s0,.op (.bin .lss 3 (some (.int .i64)) false (sv 11) (sv 10))⟩])
 (.seq (.cond (sv 12) (.ta .skip [4,9,10,11]) (.tb [4] (.exit 0)))
 (.seq (.block 1 (.seq (.ops [⟨(sd 13),s0,.op (.iaddr 4 (sv 9) (sv 11))⟩,⟨(sd 14),s0,.op (.load (some 4) (sv 13))⟩,⟨(sd 6),s0,.op (.new (sc (.agg [(.int .i64 0),(.int .i64 0),(.str []),.nils])))⟩,⟨sn,s0,.op (.store 4 (sv 6) (sv 14))⟩])
 (.seq (.ops [⟨(sd 16),s0,.op (.load (some 4) (sv 6))⟩,⟨(sd 17),s0,.call (sc (.fn (.func 126) [])) [(sv 16)]⟩,oe 15 17,⟨(sd 18),s0,.op (.ext (sv 15) 0)⟩,⟨(sd 19),s0,.op (.ext (sv 15) 1)⟩,oe 7 18,oe 8 19])
 (.seq (.seq (.ops [oe 20 8,⟨(sd 21),s0,.op (.bin .neq 35 (some (.int .i64)) true (sv 20) (sc (.int .i64 0)))⟩])
 (.cond (sv 21) (.seq (.ops [oe 22 8,⟨(sd 2),s0,.op (.ev (sc .nils))⟩,oe 3 22])
 (.tb [2,3] .ret)) (.ta .skip [4,7,9,10,11])))
 (.ops [oe 23 4,oe 24 7,⟨(sd 25),s0,.op (.bslice 1 1 [.nils] [(0,1,(sv 24))])⟩,⟨(sd 26),s0,.op (.app 1 24 (sv 23) (sv 25))⟩,oe 4 26])))))
 (.ops [⟨(sd 27),s0,.op (.bin .add 3 (some (.int .i64)) true (sv 11) (sc (.int .i64 1)))⟩,oe 11 27])))) [4,9,10,11])
def qw8:YC:=ql2
theorem qpp(call:qar)(F:Nat)(T:Tr AV)(H:AH):run call F qw8 T H=ycode call F ql2 T H:=(rfl)
def yRows : YF:=⟨29,(.seq (.ops [⟨(sd 2),s0,.op (.ev (sc .nils))⟩,⟨(sd 3),s0,.op (.ev (sc (.int .i64 0)))⟩])
 (.seq (.ops [⟨(sd 4),s0,.op (.ev (sc .nils))⟩])
 (.seq (.seq (.ops [oe 9 0,⟨(sd 10),s0,.op (.len false (sv 9))⟩,⟨(sd 11),s0,.op (.ev (sc (.int .i64 0)))⟩])
 (.block 0 (.tb [4,9,10,11] (.loop qw8))))
 (.seq (.ops [oe 28 4,oe 2 28,⟨(sd 3),s0,.op (.ev (sc (.int .i64 0)))⟩])
 (.tb [2,3] .ret))))),[sr 2,sr 3]⟩
def qu8 : YF:=⟨20,(.seq (.ops [⟨(sd 4),s0,.op (.ev (sc .nils))⟩,⟨(sd 5),s0,.op (.ev (sc (.int .i64 0)))⟩])
 (.seq (.ops [oe 9 1,⟨(sd 10),s0,.call (sc (.fn (.func 147) [])) [(sv 9)]⟩,oe 8 10,⟨(sd 11),s0,.op (.ext (sv 8) 0)⟩,⟨(sd 12),s0,.op (.ext (sv 8) 1)⟩,oe 6 11,oe 7 12])
 (.seq (.seq (.ops [oe 13 7,⟨(sd 14),s0,.op (.bin .neq 35 (some (.int .i64)) true (sv 13) (sc (.int .i64 0)))⟩])
 (.cond (sv 14) (.seq (.ops [oe 15 7,⟨(sd 4),s0,.op (.ev (sc .nils))⟩,oe 5 15])
 (.tb [4,5] .ret)) (.ta .skip [0,6])))
 (.seq (.ops [oe 16 0,oe 17 6,⟨(sd 18),s0,.op (.build [(.int .i64 0),(.int .i64 0),(.int .i64 0),(.str []),.nils,.nils] [(0,1,(sv 16)),(5,1,(sv 17))])⟩,⟨(sd 19),s0,.op (.bslice 6 1 [(.int .i64 0),(.int .i64 0),(.int .i64 0),(.str []),.nils,.nils] [(0,6,(sv 18))])⟩,oe 4 19,⟨(sd 5),s0,.op (.ev (sc (.int .i64 0)))⟩])
 (.tb [4,5] .ret))))),[sr 4,sr 5]⟩
def q2d : YF:=⟨106,(.seq (.ops [⟨(sd 1),s0,.op (.new (sv 0))⟩,⟨(sd 2),s0,.op (.ev (sc .nils))⟩,⟨(sd 3),s0,.op (.ev (sc (.int .i64 0)))⟩])
 (.seq (.block 0 (.seq (.ops [⟨(sd 7),s0,.op (.faddr 0 (sv 1))⟩,⟨(sd 8),s0,.op (.load none (sv 7))⟩,⟨(sd 9),s0,.op (.bin .eql 3 (some (.int .i64)) true (sv 8) (sc (.int .i64 0)))⟩,oe 6 9])
 (.cond (sv 6) (.seq (.ops [⟨(sd 10),s0,.op (.load (some 4) (sv 1))⟩,⟨(sd 11),s0,.op (.bslice 4 1 [(.int .i64 0),(.int .i64 0),(.str []),.nils] [(0,4,(sv 10))])⟩,⟨(sd 12),s0,.call (sc (.fn (.func 28) [])) [(sc (.str [99,97,108,108])),(sv 11)]⟩,⟨(sd 13),s0,.op (.build [(.int .i64 0),(.int .i64 0),(.int .i64 0),(.str []),.nils,.nils] [(0,1,(sc (.int .i64 1))),(1,4,(sv 12))])⟩,⟨(sd 14),s0,.op (.bslice 6 1 [(.int .i64 0),(.int .i64 0),(.int .i64 0),(.str []),.nils,.nils] [(0,6,(sv 13))])⟩,oe 2 14,⟨(sd 3),s0,.op (.ev (sc (.int .i64 0)))⟩])
 (.tb [2,3] .ret)) (.ta (.seq (.ops [⟨(sd 16),s0,.op (.faddr 0 (sv 1))⟩,⟨(sd 17),s0,.op (.load none (sv 16))⟩,⟨(sd 18),s0,.op (.bin .eql 3 (some (.int .i64)) true (sv 17) (sc (.int .i64 1)))⟩,oe 15 18])
 (.cond (sv 15) (.seq (.ops [⟨(sd 2),s0,.op (.ev (sc .nils))⟩,⟨(sd 3),s0,.op (.ev (sc (.int .i64 5)))⟩])
 (.tb [2,3] .ret)) (.ta (.seq (.ops [⟨(sd 20),s0,.op (.load (some 4) (sv 1))⟩,⟨(sd 21),s0,.call (sc (.fn (.func 84) [])) [(sv 20),(sc (.str [116,114,117,101])),(sc (.int .i64 0))]⟩,oe 19 21])
 (.cond (sv 19) (.seq (.ops [⟨(sd 2),s0,.op (.ev (sc .nils))⟩,⟨(sd 3),s0,.op (.ev (sc (.int .i64 0)))⟩])
 (.tb [2,3] .ret)) (.ta (.seq (.ops [⟨(sd 23),s0,.op (.load (some 4) (sv 1))⟩,⟨(sd 24),s0,.call (sc (.fn (.func 84) [])) [(sv 23),(sc (.str [33])),(sc (.int .i64 0))]⟩,oe 22 24])
 (.cond (sv 22) (.seq (.ops [⟨(sd 25),s0,.op (.build [(.int .i64 0),(.int .i64 0),(.int .i64 0),(.str []),.nils,.nils] [(0,1,(sc (.int .i64 2)))])⟩,⟨(sd 26),s0,.op (.bslice 6 1 [(.int .i64 0),(.int .i64 0),(.int .i64 0),(.str []),.nils,.nils] [(0,6,(sv 25))])⟩,oe 2 26,⟨(sd 3),s0,.op (.ev (sc (.int .i64 0)))⟩])
 (.tb [2,3] .ret)) (.ta (.seq (.ops [⟨(sd 28),s0,.op (.load (some 4) (sv 1))⟩,⟨(sd 29),s0,.call (sc (.fn (.func 84) [])) [(sv 28),(sc (.str [44])),(sc (.int .i64 2))]⟩,oe 27 29])
 (.cond (sv 27) (.seq (.ops [⟨(sd 31),s0,.op (.faddr 3 (sv 1))⟩,⟨(sd 32),s0,.op (.load none (sv 31))⟩,⟨(sd 33),s0,.call (sc (.fn (.func 147) [])) [(sv 32)]⟩,oe 30 33,⟨(sd 34),s0,.op (.ext (sv 30) 0)⟩,⟨(sd 35),s0,.op (.ext (sv 30) 1)⟩,oe 4 34,oe 5 35])
 (.seq (.ops [oe 36 4,⟨(sd 37),s0,.call (sc (.fn (.func 148) [])) [(sv 36)]⟩,oe 38 5,oe 2 37,oe 3 38])
 (.tb [2,3] .ret))) (.ta (.seq (.ops [⟨(sd 40),s0,.op (.load (some 4) (sv 1))⟩,⟨(sd 41),s0,.call (sc (.fn (.func 84) [])) [(sv 40),(sc (.str [59])),(sc (.int .i64 2))]⟩,oe 42 41,⟨(sd 43),(sg 42 true),.op (.faddr 3 (sv 1))⟩,⟨(sd 44),(sg 42 true),.op (.load none (sv 43))⟩,⟨(sd 45),(sg 42 true),.op (.iaddr 4 (sv 44) (sc (.int .i64 0)))⟩,⟨(sd 46),(sg 42 true),.op (.load (some 4) (sv 45))⟩,⟨(sd 47),(sg 42 true),.call (sc (.fn (.func 84) [])) [(sv 46),(sc (.str [45,62])),(sc (.int .i64 2))]⟩,⟨(sd 48),s0,.op (.pick (sv 42) (sv 47) (sc (.bool false)))⟩,oe 39 48])
 (.cond (sv 39) (.seq (.dops 24 [⟨0,(sd 49),s0,.pure (.faddr 3 (sv 1))⟩,⟨1,(sd 50),s0,.load none (sv 49)⟩,⟨2,(sd 51),s0,.pure (.iaddr 4 (sv 50) (sc (.int .i64 0)))⟩,⟨3,(sd 52),s0,.pure (.faddr 3 (sv 51))⟩,⟨4,(sd 53),s0,.load none (sv 52)⟩,⟨5,(sd 54),s0,.pure (.iaddr 4 (sv 53) (sc (.int .i64 0)))⟩,⟨6,(sd 55),s0,.load (some 4) (sv 54)⟩,⟨7,(sd 56),s0,.pure (.faddr 3 (sv 1))⟩,⟨8,(sd 57),s0,.load none (sv 56)⟩,⟨9,(sd 58),s0,.pure (.iaddr 4 (sv 57) (sc (.int .i64 0)))⟩,⟨10,(sd 59),s0,.pure (.faddr 3 (sv 58))⟩,⟨11,(sd 60),s0,.load none (sv 59)⟩,⟨12,(sd 61),s0,.pure (.iaddr 4 (sv 60) (sc (.int .i64 1)))⟩,⟨13,(sd 62),s0,.load (some 4) (sv 61)⟩,⟨14,(sd 63),s0,.pure (.faddr 3 (sv 1))⟩,⟨15,(sd 64),s0,.load none (sv 63)⟩,⟨16,(sd 65),s0,.pure (.iaddr 4 (sv 64) (sc (.int .i64 1)))⟩,⟨17,(sd 66),s0,.load (some 4) (sv 65)⟩,⟨18,(sd 67),s0,.alloc (.bslice 4 3 [(.int .i64 0),(.int .i64 0),(.str []),.nils,(.int .i64 0),(.int .i64 0),(.str []),.nils,(.int .i64 0),(.int .i64 0),(.str []),.nils] [(0,4,(sv 55)),(4,4,(sv 62)),(8,4,(sv 66))])⟩,⟨19,(sd 68),s0,.k2 (.call (sc (.fn (.func 149) [])) [(sc (.int .i64 4)),(sv 67)]) []⟩,⟨20,(sd 69),s0,.pure (.ext (sv 68) 0)⟩,⟨21,(sd 70),s0,.pure (.ext (sv 68) 1)⟩,⟨22,(sd 2),s0,.pure (.ev (sv 69))⟩,⟨23,(sd 3),s0,.pure (.ev (sv 70))⟩])
 (.tb [2,3] .ret)) (.ta (.seq (.ops [⟨(sd 72),s0,.op (.load (some 4) (sv 1))⟩,⟨(sd 73),s0,.call (sc (.fn (.func 84) [])) [(sv 72),(sc (.str [59])),(sc (.int .i64 2))]⟩,oe 71 73])
 (.cond (sv 71) (.seq (.ops [⟨(sd 74),s0,.op (.faddr 3 (sv 1))⟩,⟨(sd 75),s0,.op (.load none (sv 74))⟩,⟨(sd 76),s0,.call (sc (.fn (.func 149) [])) [(sc (.int .i64 3)),(sv 75)]⟩,⟨(sd 77),s0,.op (.ext (sv 76) 0)⟩,⟨(sd 78),s0,.op (.ext (sv 76) 1)⟩,oe 2 77,oe 3 78])
 (.tb [2,3] .ret)) (.ta (.seq (.ops [⟨(sd 80),s0,.op (.load (some 4) (sv 1))⟩,⟨(sd 81),s0,.call (sc (.fn (.func 84) [])) [(sv 80),(sc (.str [45,62])),(sc (.int .i64 2))]⟩,oe 79 81])
 (.cond (sv 79) (.seq (.dops 15 [⟨0,(sd 82),s0,.pure (.faddr 3 (sv 1))⟩,⟨1,(sd 83),s0,.load none (sv 82)⟩,⟨2,(sd 84),s0,.pure (.iaddr 4 (sv 83) (sc (.int .i64 0)))⟩,⟨3,(sd 85),s0,.load (some 4) (sv 84)⟩,⟨4,(sd 86),s0,.pure (.faddr 3 (sv 1))⟩,⟨5,(sd 87),s0,.load none (sv 86)⟩,⟨6,(sd 88),s0,.pure (.iaddr 4 (sv 87) (sc (.int .i64 1)))⟩,⟨7,(sd 89),s0,.load (some 4) (sv 88)⟩,⟨8,(sd 90),s0,.k2 (.call (sc (.fn (.func 83) [])) [(sc (.str [102,97,105,108]))]) [7,5,3,1]⟩,⟨9,(sd 91),s0,.alloc (.bslice 4 3 [(.int .i64 0),(.int .i64 0),(.str []),.nils,(.int .i64 0),(.int .i64 0),(.str []),.nils,(.int .i64 0),(.int .i64 0),(.str []),.nils] [(0,4,(sv 85)),(4,4,(sv 89)),(8,4,(sv 90))])⟩,⟨10,(sd 92),s0,.k2 (.call (sc (.fn (.func 149) [])) [(sc (.int .i64 4)),(sv 91)]) []⟩,⟨11,(sd 93),s0,.pure (.ext (sv 92) 0)⟩,⟨12,(sd 94),s0,.pure (.ext (sv 92) 1)⟩,⟨13,(sd 2),s0,.pure (.ev (sv 93))⟩,⟨14,(sd 3),s0,.pure (.ev (sv 94))⟩])
 (.tb [2,3] .ret)) (.ta (.seq (.ops [⟨(sd 96),s0,.op (.load (some 4) (sv 1))⟩,⟨(sd 97),s0,.call (sc (.fn (.func 84) [])) [(sv 96),(sc (.str [92,43])),(sc (.int .i64 1))]⟩,oe 95 97])
 (.cond (sv 95) (.seq (.ops [⟨(sd 98),s0,.op (.faddr 3 (sv 1))⟩,⟨(sd 99),s0,.op (.load none (sv 98))⟩,⟨(sd 100),s0,.call (sc (.fn (.func 149) [])) [(sc (.int .i64 5)),(sv 99)]⟩,⟨(sd 101),s0,.op (.ext (sv 100) 0)⟩,⟨(sd 102),s0,.op (.ext (sv 100) 1)⟩,oe 2 101,oe 3 102])
 (.tb [2,3] .ret)) (.ta .skip [1]))) [1]))) [1]))) [1]))) [1]))) [1]))) [1]))) [1]))) [1]))))
 (.seq (.ops [⟨(sd 103),s0,.op (.load (some 4) (sv 1))⟩,⟨(sd 104),s0,.op (.build [(.int .i64 0),(.int .i64 0),(.int .i64 0),(.str []),.nils,.nils] [(0,1,(sc (.int .i64 1))),(1,4,(sv 103))])⟩,⟨(sd 105),s0,.op (.bslice 6 1 [(.int .i64 0),(.int .i64 0),(.int .i64 0),(.str []),.nils,.nils] [(0,6,(sv 104))])⟩,oe 2 105,⟨(sd 3),s0,.op (.ev (sc (.int .i64 0)))⟩])
 (.tb [2,3] .ret)))),[sr 2,sr 3]⟩
theorem qse:qbp Tryz.prog (fun _=>true) 67=some q27.er:=by kernel_rfl
theorem qxi:qbp Tryz.prog (fun _=>true) 28=some yComp.er:=by kernel_rfl
theorem yAtom_ok:qbp Tryz.prog (fun _=>true) 83=some yAtom.er:=by kernel_rfl
theorem yIs_ok:qbp Tryz.prog (fun _=>true) 84=some yIs.er:=by kernel_rfl
theorem qz5:qbp Tryz.prog (fun _=>true) 148=some qf7.er:=by kernel_rfl
theorem qxb:qbp Tryz.prog (fun _=>true) 174=some yGrow.er:=by kernel_rfl
theorem yRows_ok:qbp Tryz.prog (fun _=>true) 147=some yRows.er:=by kernel_rfl
theorem qz4:qbp Tryz.prog (fun _=>true) 149=some qu8.er:=by kernel_rfl
theorem yRow_ok:qbp Tryz.prog (fun _=>true) 126=some q2d.er:=by kernel_rfl
end Go.Proofs.YtdekdghldblfaaaGreatDoor
