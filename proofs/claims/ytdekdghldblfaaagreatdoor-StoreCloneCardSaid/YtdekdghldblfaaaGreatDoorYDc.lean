import Derived.Test.YtdekdghldblfaaaGreatDoorAbsS
import Derived.Test.YtdekdghldblfaaaGreatDoorRows
import Derived.ProofKit
set_option linter.unusedVariables false
set_option linter.unusedSimpArgs false
namespace Go.Proofs.YtdekdghldblfaaaGreatDoor
open Go Go.Abs
set_option maxRecDepth 100000
def yStClo : YF:=⟨27,(.seq (.ops [⟨(sd 2),s0,.op (.ev (sc .nilp))⟩])
 (.seq (.dops 25 [⟨0,(sd 3),s0,.pure (.ev (sv 0))⟩,⟨1,(sd 4),s0,.pure (.nilck (sv 3))⟩,⟨2,(sd 5),s0,.pure (.faddr 0 (sv 4))⟩,⟨3,(sd 6),s0,.load none (sv 5)⟩,⟨4,(sd 7),s0,.pure (.ev (sv 0))⟩,⟨5,(sd 8),s0,.pure (.nilck (sv 7))⟩,⟨6,(sd 9),s0,.pure (.faddr 1 (sv 8))⟩,⟨7,(sd 10),s0,.load none (sv 9)⟩,⟨8,(sd 11),s0,.pure (.ev (sv 0))⟩,⟨9,(sd 12),s0,.pure (.nilck (sv 11))⟩,⟨10,(sd 13),s0,.pure (.faddr 2 (sv 12))⟩,⟨11,(sd 14),s0,.load none (sv 13)⟩,⟨12,(sd 15),s0,.pure (.ev (sv 0))⟩,⟨13,(sd 16),s0,.pure (.nilck (sv 15))⟩,⟨14,(sd 17),s0,.pure (.faddr 3 (sv 16))⟩,⟨15,(sd 18),s0,.load none (sv 17)⟩,⟨17,(sd 20),s0,.pure (.ev (sv 0))⟩,⟨18,(sd 21),s0,.pure (.nilck (sv 20))⟩,⟨19,(sd 22),s0,.pure (.faddr 4 (sv 21))⟩,⟨20,(sd 23),s0,.load none (sv 22)⟩,⟨16,(sd 19),s0,.k2 (.call (sc (.fn (.func 53) [])) [(sv 18)]) [20,11,7,3]⟩,⟨21,(sd 24),s0,.k2 (.call (sc (.fn (.func 54) [])) [(sv 23)]) [11,7,3]⟩,⟨22,(sd 25),s0,.pure (.build [.nilp,(.int .i64 0),(.int .i64 0),.nilm,.nilm] [(0,1,(sv 6)),(1,1,(sv 10)),(2,1,(sv 14)),(3,1,(sv 19)),(4,1,(sv 24))])⟩,⟨23,(sd 26),s0,.alloc (.new (sv 25))⟩,⟨24,(sd 2),s0,.pure (.ev (sv 26))⟩])
 (.tb [2] .ret))),[sr 2]⟩
def qlf : YC:=(.ta (.seq (.seq (.ops [oe 11 5,oe 12 0,⟨(sd 13),s0,.op (.len false (sv 12))⟩,⟨(sd 14),s0,.op (.bin .lss 3 (some (.int .i64)) false (sv 11) (sv 13))⟩])
 (.cond (sv 14) (.ta .skip [0,1,5]) (.tb [] (.exit 0))))
 (.seq (.block 1 (.seq (.dops 54 [⟨0,(sd 17),s0,.pure (.ev (sv 0))⟩,⟨1,(sd 18),s0,.pure (.ev (sv 5))⟩,⟨2,(sd 19),s0,.pure (.iaddr 10 (sv 17) (sv 18))⟩,⟨3,(sd 20),s0,.pure (.faddr 0 (sv 19))⟩,⟨4,(sd 21),s0,.load none (sv 20)⟩,⟨5,(sd 22),s0,.pure (.ev (sv 1))⟩,⟨6,(sd 23),s0,.pure (.ev (sv 5))⟩,⟨7,(sd 24),s0,.pure (.iaddr 10 (sv 22) (sv 23))⟩,⟨8,(sd 25),s0,.pure (.faddr 0 (sv 24))⟩,⟨9,(sd 26),s0,.load none (sv 25)⟩,⟨10,(sd 27),s0,.pure (.bin .neq 3 (some (.int .i64)) false (sv 21) (sv 26))⟩,⟨11,(sd 28),s0,.pure (.ev (sv 27))⟩,⟨12,(sd 29),(sg 28 false),.pure (.ev (sv 0))⟩,⟨13,(sd 30),(sg 28 false),.pure (.ev (sv 5))⟩,⟨14,(sd 31),(sg 28 false),.pure (.iaddr 10 (sv 29) (sv 30))⟩,⟨15,(sd 32),(sg 28 false),.pure (.faddr 1 (sv 31))⟩,⟨16,(sd 33),(sg 28 false),.load none (sv 32)⟩,⟨17,(sd 34),(sg 28 false),.pure (.ev (sv 1))⟩,⟨18,(sd 35),(sg 28 false),.pure (.ev (sv 5))⟩,⟨19,(sd 36),(sg 28 false),.pure (.iaddr 10 (sv 34) (sv 35))⟩,⟨20,(sd 37),(sg 28 false),.pure (.faddr 1 (sv 36))⟩,⟨21,(sd 38),(sg 28 false),.load none (sv 37)⟩,⟨22,(sd 39),(sg 28 false),.pure (.bin .neq 23 (some (.int .u64)) false (sv 33) (sv 38))⟩,⟨23,(sd 40),s0,.pure (.pick (sv 28) (sc (.bool true)) (sv 39))⟩,⟨24,(sd 41),s0,.pure (.ev (sv 40))⟩,⟨25,(sd 42),(sg 41 false),.pure (.ev (sv 0))⟩,⟨26,(sd 43),(sg 41 false),.pure (.ev (sv 5))⟩,⟨27,(sd 44),(sg 41 false),.pure (.iaddr 10 (sv 42) (sv 43))⟩,⟨28,(sd 45),(sg 41 false),.pure (.faddr 2 (sv 44))⟩,⟨29,(sd 46),(sg 41 false),.load (some 4) (sv 45)⟩,⟨31,(sd 48),(sg 41 false),.pure (.ev (sv 1))⟩,⟨32,(sd 49),(sg 41 false),.pure (.ev (sv 5))⟩,⟨33,(sd 50),(sg 41 false),.pure (.iaddr 10 (sv 48) (sv 49))⟩,⟨34,(sd 51),(sg 41 false),.pure (.faddr 2 (sv 50))⟩,⟨35,(sd 52),(sg 41 false),.load (some 4) (sv 51)⟩,⟨30,(sd 47),(sg 41 false),.k2 (.call (sc (.fn (.func 18) [])) [(sv 46)]) [35]⟩,⟨36,(sd 53),(sg 41 false),.k2 (.call (sc (.fn (.func 58) [])) [(sv 47),(sv 52)]) []⟩,⟨37,(sd 54),(sg 41 false),.pure (.un .not (sv 53))⟩,⟨38,(sd 55),s0,.pure (.pick (sv 41) (sc (.bool true)) (sv 54))⟩,⟨39,(sd 56),s0,.pure (.ev (sv 55))⟩,⟨40,(sd 57),(sg 56 false),.pure (.ev (sv 0))⟩,⟨41,(sd 58),(sg 56 false),.pure (.ev (sv 5))⟩,⟨42,(sd 59),(sg 56 false),.pure (.iaddr 10 (sv 57) (sv 58))⟩,⟨43,(sd 60),(sg 56 false),.pure (.faddr 6 (sv 59))⟩,⟨44,(sd 61),(sg 56 false),.load (some 4) (sv 60)⟩,⟨46,(sd 63),(sg 56 false),.pure (.ev (sv 1))⟩,⟨47,(sd 64),(sg 56 false),.pure (.ev (sv 5))⟩,⟨48,(sd 65),(sg 56 false),.pure (.iaddr 10 (sv 63) (sv 64))⟩,⟨49,(sd 66),(sg 56 false),.pure (.faddr 6 (sv 65))⟩,⟨50,(sd 67),(sg 56 false),.load (some 4) (sv 66)⟩,⟨45,(sd 62),(sg 56 false),.k2 (.call (sc (.fn (.func 18) [])) [(sv 61)]) [50]⟩,⟨51,(sd 68),(sg 56 false),.k2 (.call (sc (.fn (.func 58) [])) [(sv 62),(sv 67)]) []⟩,⟨52,(sd 69),(sg 56 false),.pure (.un .not (sv 68))⟩,⟨53,(sd 70),s0,.pure (.pick (sv 56) (sc (.bool true)) (sv 69))⟩])
 (.cond (sv 70) (.seq (.ops [⟨(sd 4),s0,.op (.ev (sc (.bool false)))⟩])
 (.tb [4] .ret)) (.ta .skip [0,1,5]))))
 (.ops [oe 15 5,⟨(sd 16),s0,.op (.bin .add 3 (some (.int .i64)) true (sv 15) (sc (.int .i64 1)))⟩,oe 5 16]))) [0,1,5])
def qva:YC:=qlf
theorem qsd(call:qar)(F:Nat)(T:Tr AV)(H:AH):run call F qva T H=ycode call F qlf T H:=(rfl)
def yClses : YF:=⟨71,(.seq (.ops [⟨(sd 4),s0,.op (.ev (sc (.bool false)))⟩])
 (.seq (.seq (.ops [oe 6 0,⟨(sd 7),s0,.op (.len false (sv 6))⟩,oe 8 1,⟨(sd 9),s0,.op (.len false (sv 8))⟩,⟨(sd 10),s0,.op (.bin .neq 3 (some (.int .i64)) false (sv 7) (sv 9))⟩])
 (.cond (sv 10) (.seq (.ops [⟨(sd 4),s0,.op (.ev (sc (.bool false)))⟩])
 (.tb [4] .ret)) (.ta .skip [0,1])))
 (.seq (.seq (.ops [⟨(sd 5),s0,.op (.ev (sc (.int .i64 0)))⟩])
 (.block 0 (.tb [0,1,5] (.loop qva))))
 (.seq (.ops [⟨(sd 4),s0,.op (.ev (sc (.bool true)))⟩])
 (.tb [4] .ret))))),[sr 4]⟩
def qim : YC:=(.ta (.seq (.seq (.ops [oe 24 7,oe 25 0,⟨(sd 26),s0,.op (.len false (sv 25))⟩,⟨(sd 27),s0,.op (.bin .lss 3 (some (.int .i64)) false (sv 24) (sv 26))⟩])
 (.cond (sv 27) (.ta .skip [0,1,5,6,7]) (.tb [1,5,6] (.exit 0))))
 (.seq (.block 1 (.seq (.seq (.ops [oe 30 0,oe 31 7,⟨(sd 32),s0,.op (.iaddr 8 (sv 30) (sv 31))⟩,⟨(sd 33),s0,.op (.faddr 2 (sv 32))⟩,⟨(sd 34),s0,.op (.load (some 4) (sv 33))⟩,⟨(sd 35),s0,.call (sc (.fn (.func 11) [])) [(sv 34),(sc (.int .i64 40))]⟩])
 (.cond (sv 35) (.seq (.ops [⟨(sd 4),s0,.op (.ev (sc (.bool true)))⟩])
 (.tb [4] .ret)) (.ta .skip [0,1,5,6,7])))
 (.seq (.dops 18 [⟨0,(sd 36),s0,.pure (.ev (sv 5))⟩,⟨1,(sd 37),s0,.pure (.ev (sv 0))⟩,⟨2,(sd 38),s0,.pure (.ev (sv 7))⟩,⟨3,(sd 39),s0,.pure (.iaddr 8 (sv 37) (sv 38))⟩,⟨4,(sd 40),s0,.pure (.faddr 2 (sv 39))⟩,⟨5,(sd 41),s0,.load (some 4) (sv 40)⟩,⟨6,(sd 42),s0,.pure (.ev (sv 0))⟩,⟨7,(sd 43),s0,.pure (.ev (sv 7))⟩,⟨8,(sd 44),s0,.pure (.iaddr 8 (sv 42) (sv 43))⟩,⟨9,(sd 45),s0,.pure (.faddr 6 (sv 44))⟩,⟨10,(sd 46),s0,.load none (sv 45)⟩,⟨11,(sd 47),s0,.pure (.bin .and 23 (some (.int .u64)) true (sv 46) (sc (.int .u64 3)))⟩,⟨12,(sd 48),s0,.pure (.ev (sv 0))⟩,⟨13,(sd 49),s0,.pure (.ev (sv 7))⟩,⟨14,(sd 50),s0,.pure (.iaddr 8 (sv 48) (sv 49))⟩,⟨15,(sd 51),s0,.pure (.faddr 7 (sv 50))⟩,⟨16,(sd 52),s0,.load none (sv 51)⟩,⟨17,(sd 53),s0,.k2 (.call (sc (.fn (.func 12) [])) [(sv 36),(sv 41),(sv 47),(sv 52)]) []⟩])
 (.dops 19 [⟨0,(sd 54),s0,.pure (.ev (sv 6))⟩,⟨1,(sd 55),s0,.pure (.ev (sv 0))⟩,⟨2,(sd 56),s0,.pure (.ev (sv 7))⟩,⟨3,(sd 57),s0,.pure (.iaddr 8 (sv 55) (sv 56))⟩,⟨4,(sd 58),s0,.pure (.faddr 2 (sv 57))⟩,⟨5,(sd 59),s0,.load (some 4) (sv 58)⟩,⟨7,(sd 61),s0,.pure (.ev (sv 0))⟩,⟨8,(sd 62),s0,.pure (.ev (sv 7))⟩,⟨9,(sd 63),s0,.pure (.iaddr 8 (sv 61) (sv 62))⟩,⟨10,(sd 64),s0,.pure (.faddr 6 (sv 63))⟩,⟨11,(sd 65),s0,.load none (sv 64)⟩,⟨12,(sd 66),s0,.pure (.bin .and 23 (some (.int .u64)) true (sv 65) (sc (.int .u64 3)))⟩,⟨13,(sd 67),s0,.pure (.ev (sv 0))⟩,⟨14,(sd 68),s0,.pure (.ev (sv 7))⟩,⟨15,(sd 69),s0,.pure (.iaddr 8 (sv 67) (sv 68))⟩,⟨16,(sd 70),s0,.pure (.faddr 7 (sv 69))⟩,⟨17,(sd 71),s0,.load none (sv 70)⟩,⟨6,(sd 60),s0,.k2 (.call (sc (.fn (.func 18) [])) [(sv 59)]) [17,11]⟩,⟨18,(sd 72),s0,.k2 (.call (sc (.fn (.func 17) [])) [(sv 54),(sv 60),(sv 66),(sv 71)]) []⟩]))))
 (.ops [oe 28 7,⟨(sd 29),s0,.op (.bin .add 3 (some (.int .i64)) true (sv 28) (sc (.int .i64 1)))⟩,oe 7 29]))) [0,1,5,6,7])
def qvc:YC:=qim
theorem qmg(call:qar)(F:Nat)(T:Tr AV)(H:AH):run call F qvc T H=ycode call F qim T H:=(rfl)
def qg8 : YC:=(.ta (.seq (.seq (.ops [oe 77 9,oe 78 1,⟨(sd 79),s0,.op (.len false (sv 78))⟩,⟨(sd 80),s0,.op (.bin .lss 3 (some (.int .i64)) false (sv 77) (sv 79))⟩])
 (.cond (sv 80) (.ta .skip [1,5,6,8,9]) (.tb [5,6] (.exit 2))))
 (.seq (.block 3 (.seq (.seq (.ops [oe 83 1,oe 84 9,⟨(sd 85),s0,.op (.iaddr 8 (sv 83) (sv 84))⟩,⟨(sd 86),s0,.op (.faddr 2 (sv 85))⟩,⟨(sd 87),s0,.op (.load (some 4) (sv 86))⟩,⟨(sd 88),s0,.call (sc (.fn (.func 11) [])) [(sv 87),(sc (.int .i64 40))]⟩])
 (.cond (sv 88) (.seq (.ops [⟨(sd 4),s0,.op (.ev (sc (.bool true)))⟩])
 (.tb [4] .ret)) (.ta .skip [1,5,6,8,9])))
 (.seq (.ops [oe 89 1,oe 90 9,⟨(sd 91),s0,.op (.iaddr 8 (sv 89) (sv 90))⟩,⟨(sd 92),s0,.op (.faddr 0 (sv 91))⟩,⟨(sd 93),s0,.op (.load none (sv 92))⟩,⟨(sd 94),s0,.op (.bin .eql 3 (some (.int .i64)) true (sv 93) (sc (.int .i64 0)))⟩])
 (.cond (sv 94) (.ta (.dops 18 [⟨0,(sd 95),s0,.pure (.ev (sv 8))⟩,⟨1,(sd 96),s0,.pure (.ev (sv 1))⟩,⟨2,(sd 97),s0,.pure (.ev (sv 9))⟩,⟨3,(sd 98),s0,.pure (.iaddr 8 (sv 96) (sv 97))⟩,⟨4,(sd 99),s0,.pure (.faddr 2 (sv 98))⟩,⟨5,(sd 100),s0,.load (some 4) (sv 99)⟩,⟨6,(sd 101),s0,.pure (.ev (sv 1))⟩,⟨7,(sd 102),s0,.pure (.ev (sv 9))⟩,⟨8,(sd 103),s0,.pure (.iaddr 8 (sv 101) (sv 102))⟩,⟨9,(sd 104),s0,.pure (.faddr 6 (sv 103))⟩,⟨10,(sd 105),s0,.load none (sv 104)⟩,⟨11,(sd 106),s0,.pure (.bin .and 23 (some (.int .u64)) true (sv 105) (sc (.int .u64 3)))⟩,⟨12,(sd 107),s0,.pure (.ev (sv 1))⟩,⟨13,(sd 108),s0,.pure (.ev (sv 9))⟩,⟨14,(sd 109),s0,.pure (.iaddr 8 (sv 107) (sv 108))⟩,⟨15,(sd 110),s0,.pure (.faddr 7 (sv 109))⟩,⟨16,(sd 111),s0,.load none (sv 110)⟩,⟨17,(sd 112),s0,.k2 (.call (sc (.fn (.func 12) [])) [(sv 95),(sv 100),(sv 106),(sv 111)]) []⟩]) [1,5,6,8,9]) (.ta (.ops [oe 113 8,oe 114 1,oe 115 9,⟨(sd 116),s0,.op (.iaddr 8 (sv 114) (sv 115))⟩,⟨(sd 117),s0,.op (.faddr 1 (sv 116))⟩,⟨(sd 118),s0,.op (.load none (sv 117))⟩,⟨(sd 119),s0,.call (sc (.fn (.func 20) [])) [(sv 113),(sv 118)]⟩]) [1,5,6,8,9])))))
 (.ops [oe 81 9,⟨(sd 82),s0,.op (.bin .add 3 (some (.int .i64)) true (sv 81) (sc (.int .i64 1)))⟩,oe 9 82]))) [1,5,6,8,9])
def qvb:YC:=qg8
theorem qil(call:qar)(F:Nat)(T:Tr AV)(H:AH):run call F qvb T H=ycode call F qg8 T H:=(rfl)
def qoc : YF:=⟨125,(.seq (.ops [⟨(sd 4),s0,.op (.ev (sc (.bool false)))⟩])
 (.seq (.seq (.ops [⟨(sd 10),s0,.call (sc (.fn (.func 9) [])) []⟩,⟨(sd 11),s0,.op (.un .not (sv 10))⟩])
 (.cond (sv 11) (.seq (.ops [⟨(sd 4),s0,.op (.ev (sc (.bool false)))⟩])
 (.tb [4] .ret)) (.ta .skip [0,1])))
 (.seq (.seq (.ops [oe 12 0,⟨(sd 13),s0,.op (.len false (sv 12))⟩,⟨(sd 14),s0,.op (.bin .gtr 3 (some (.int .i64)) true (sv 13) (sc (.int .i64 25)))⟩,oe 15 14,⟨(sd 16),(sg 15 false),.op (.ev (sv 1))⟩,⟨(sd 17),(sg 15 false),.op (.len false (sv 16))⟩,⟨(sd 18),(sg 15 false),.op (.bin .gtr 3 (some (.int .i64)) true (sv 17) (sc (.int .i64 25)))⟩,⟨(sd 19),s0,.op (.pick (sv 15) (sc (.bool true)) (sv 18))⟩])
 (.cond (sv 19) (.seq (.ops [⟨(sd 4),s0,.op (.ev (sc (.bool true)))⟩])
 (.tb [4] .ret)) (.ta .skip [0,1])))
 (.seq (.ops [⟨(sd 21),s0,.call (sc (.fn (.func 10) [])) [(sc (.int .i64 20))]⟩,oe 20 21,⟨(sd 22),s0,.op (.ext (sv 20) 0)⟩,⟨(sd 23),s0,.op (.ext (sv 20) 1)⟩,oe 5 22,oe 6 23])
 (.seq (.seq (.ops [⟨(sd 7),s0,.op (.ev (sc (.int .i64 0)))⟩])
 (.block 0 (.tb [0,1,5,6,7] (.loop qvc))))
 (.seq (.ops [oe 73 5,⟨(sd 74),s0,.call (sc (.fn (.func 19) [])) [(sv 73)]⟩,oe 8 74])
 (.seq (.seq (.ops [oe 75 8,⟨(sd 76),s0,.op (.bin .eql 25 (some (.pointer 93)) true (sv 75) (sc .nilp))⟩])
 (.cond (sv 76) (.seq (.ops [⟨(sd 4),s0,.op (.ev (sc (.bool false)))⟩])
 (.tb [4] .ret)) (.ta .skip [1,5,6,8])))
 (.seq (.seq (.ops [⟨(sd 9),s0,.op (.ev (sc (.int .i64 0)))⟩])
 (.block 2 (.tb [1,5,6,8,9] (.loop qvb))))
 (.seq (.ops [oe 120 5,⟨(sd 121),s0,.call (sc (.fn (.func 13) [])) [(sv 120),(sc (.int .u64 3))]⟩,oe 122 6,⟨(sd 123),s0,.call (sc (.fn (.func 22) [])) [(sv 122),(sc (.int .u64 3))]⟩,⟨(sd 124),s0,.call (sc (.fn (.func 21) [])) [(sv 121),(sv 123)]⟩,oe 4 124])
 (.tb [4] .ret)))))))))),[sr 4]⟩
theorem q10:qbp Tryz.prog (fun _=>true) 19=some yStClo.er:=by kernel_rfl
theorem q24:qbp Tryz.prog (fun _=>true) 21=some yClses.er:=by kernel_rfl
theorem q28:qbp Tryz.prog (fun _=>true) 6=some qoc.er:=by kernel_rfl
end Go.Proofs.YtdekdghldblfaaaGreatDoor
