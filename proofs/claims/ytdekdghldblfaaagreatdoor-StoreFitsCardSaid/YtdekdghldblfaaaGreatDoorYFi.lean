import Derived.Test.YtdekdghldblfaaaGreatDoorAbsS
import Derived.Test.YtdekdghldblfaaaGreatDoorRows
import Derived.ProofKit
namespace Go.Proofs.YtdekdghldblfaaaGreatDoor
open Go Go.Abs
def yKeyOf : YF:=⟨38,(.seq (.ops [⟨(sd 1),s0,.op (.new (sv 0))⟩,⟨(sd 2),s0,.op (.new (sc (.agg [(.int .i64 0),(.int .i64 0),(.str []),(.int .i64 0)])))⟩])
 (.seq (.seq (.ops [⟨(sd 4),s0,.op (.load (some 4) (sv 1))⟩,⟨(sd 5),s0,.call (sc (.fn (.func 42) [])) [(sv 4)]⟩,⟨(sd 6),s0,.op (.un .not (sv 5))⟩,⟨(sd 7),s0,.op (.ev (sv 6))⟩,⟨(sd 8),(sg 7 false),.op (.faddr 3 (sv 1))⟩,⟨(sd 9),(sg 7 false),.op (.load none (sv 8))⟩,⟨(sd 10),(sg 7 false),.op (.len false (sv 9))⟩,⟨(sd 11),(sg 7 false),.op (.bin .eql 3 (some (.int .i64)) true (sv 10) (sc (.int .i64 0)))⟩,⟨(sd 12),s0,.op (.pick (sv 7) (sc (.bool true)) (sv 11))⟩])
 (.cond (sv 12) (.seq (.ops [⟨(sd 13),s0,.op (.build [(.int .i64 0),(.int .i64 0),(.str []),(.int .i64 0)] [])⟩,⟨sn,s0,.op (.store 4 (sv 2) (sv 13))⟩])
 (.tb [2] .ret)) (.ta .skip [1,2])))
 (.seq (.ops [⟨(sd 14),s0,.op (.faddr 3 (sv 1))⟩,⟨(sd 15),s0,.op (.load none (sv 14))⟩,⟨(sd 16),s0,.op (.iaddr 4 (sv 15) (sc (.int .i64 0)))⟩,⟨(sd 17),s0,.op (.load (some 4) (sv 16))⟩,⟨(sd 3),s0,.op (.new (sc (.agg [(.int .i64 0),(.int .i64 0),(.str []),.nils])))⟩,⟨sn,s0,.op (.store 4 (sv 3) (sv 17))⟩])
 (.seq (.ops [⟨(sd 18),s0,.op (.faddr 0 (sv 3))⟩,⟨(sd 19),s0,.op (.load none (sv 18))⟩])
 (.block 0 (.seq (.ops [⟨(sd 29),s0,.op (.bin .eql 3 (some (.int .i64)) true (sv 19) (sc (.int .i64 0)))⟩,⟨(sd 28),s0,.op (.ev (sv 29))⟩])
 (.cond (sv 28) (.seq (.ops [⟨(sd 30),s0,.op (.build [(.int .i64 0),(.int .i64 0),(.str []),(.int .i64 0)] [])⟩,⟨sn,s0,.op (.store 4 (sv 2) (sv 30))⟩])
 (.tb [2] .ret)) (.seq (.ops [⟨(sd 32),s0,.op (.bin .eql 3 (some (.int .i64)) true (sv 19) (sc (.int .i64 1)))⟩,⟨(sd 31),s0,.op (.ev (sv 32))⟩])
 (.cond (sv 31) (.seq (.ops [⟨(sd 33),s0,.op (.faddr 0 (sv 3))⟩,⟨(sd 34),s0,.op (.load none (sv 33))⟩,⟨(sd 35),s0,.op (.faddr 1 (sv 3))⟩,⟨(sd 36),s0,.op (.load none (sv 35))⟩,⟨(sd 37),s0,.op (.build [(.int .i64 0),(.int .i64 0),(.str []),(.int .i64 0)] [(0,1,(sv 34)),(1,1,(sv 36))])⟩,⟨sn,s0,.op (.store 4 (sv 2) (sv 37))⟩])
 (.tb [2] .ret)) (.seq (.ops [⟨(sd 20),s0,.op (.faddr 0 (sv 3))⟩,⟨(sd 21),s0,.op (.load none (sv 20))⟩,⟨(sd 22),s0,.op (.faddr 2 (sv 3))⟩,⟨(sd 23),s0,.op (.load none (sv 22))⟩,⟨(sd 24),s0,.op (.faddr 3 (sv 3))⟩,⟨(sd 25),s0,.op (.load none (sv 24))⟩,⟨(sd 26),s0,.op (.len false (sv 25))⟩,⟨(sd 27),s0,.op (.build [(.int .i64 0),(.int .i64 0),(.str []),(.int .i64 0)] [(0,1,(sv 21)),(2,1,(sv 23)),(3,1,(sv 26))])⟩,⟨sn,s0,.op (.store 4 (sv 2) (sv 27))⟩])
 (.tb [2] .ret))))))))))),[sk 2 (some 4)]⟩
def yMay : YF:=⟨18,(.seq (.ops [⟨(sd 2),s0,.op (.new (sv 0))⟩,⟨(sd 3),s0,.op (.new (sv 1))⟩,⟨(sd 4),s0,.op (.ev (sc (.bool false)))⟩])
 (.seq (.ops [⟨(sd 5),s0,.op (.faddr 0 (sv 2))⟩,⟨(sd 6),s0,.op (.load none (sv 5))⟩,⟨(sd 7),s0,.op (.bin .eql 3 (some (.int .i64)) true (sv 6) (sc (.int .i64 0)))⟩,⟨(sd 8),s0,.op (.ev (sv 7))⟩,⟨(sd 9),(sg 8 false),.op (.faddr 0 (sv 3))⟩,⟨(sd 10),(sg 8 false),.op (.load none (sv 9))⟩,⟨(sd 11),(sg 8 false),.op (.bin .eql 3 (some (.int .i64)) true (sv 10) (sc (.int .i64 0)))⟩,⟨(sd 12),s0,.op (.pick (sv 8) (sc (.bool true)) (sv 11))⟩,⟨(sd 13),s0,.op (.ev (sv 12))⟩,⟨(sd 14),(sg 13 false),.op (.load (some 4) (sv 2))⟩,⟨(sd 15),(sg 13 false),.op (.load (some 4) (sv 3))⟩,⟨(sd 16),(sg 13 false),.op (.mop (.steq false [(.int .i64),(.int .i64),.str,(.int .i64)]) [(sv 14),(sv 15)])⟩,⟨(sd 17),s0,.op (.pick (sv 13) (sc (.bool true)) (sv 16))⟩,⟨(sd 4),s0,.op (.ev (sv 17))⟩])
 (.tb [4] .ret))),[sr 4]⟩
def yFits : YF:=⟨23,(.seq (.ops [⟨(sd 4),s0,.op (.new (sv 1))⟩,⟨(sd 6),s0,.op (.ev (sc .nils))⟩])
 (.seq (.seq (.ops [⟨(sd 8),s0,.op (.faddr 0 (sv 4))⟩,⟨(sd 9),s0,.op (.load none (sv 8))⟩,⟨(sd 10),s0,.op (.bin .neq 3 (some (.int .i64)) true (sv 9) (sc (.int .i64 2)))⟩])
 (.cond (sv 10) (.seq (.ops [⟨(sd 6),s0,.op (.ev (sc .nils))⟩])
 (.tb [6] .ret)) (.ta .skip [0,2,4])))
 (.seq (.ops [⟨(sd 11),s0,.op (.load (some 4) (sv 4))⟩,⟨(sd 12),s0,.call (sc (.fn (.func 63) [])) [(sv 11)]⟩,⟨(sd 7),s0,.op (.new (sc (.agg [(.int .i64 0),(.int .i64 0),(.str []),(.int .i64 0)])))⟩,⟨sn,s0,.op (.store 4 (sv 7) (sv 12))⟩])
 (.seq (.ops [⟨(sd 13),s0,.op (.ev (sv 0))⟩,⟨(sd 14),s0,.op (.faddr 2 (sv 4))⟩,⟨(sd 15),s0,.op (.load none (sv 14))⟩,⟨(sd 16),s0,.op (.faddr 3 (sv 4))⟩,⟨(sd 17),s0,.op (.load none (sv 16))⟩,⟨(sd 18),s0,.op (.len false (sv 17))⟩,⟨(sd 19),s0,.op (.ev (sv 2))⟩,⟨(sd 20),s0,.call (sc (.fn (.func 26) [])) [(sv 13),(sv 15),(sv 18),(sv 19)]⟩,⟨(sd 21),s0,.op (.fn (.func 65) [(sv 7)])⟩,⟨(sd 22),s0,.call (sc (.fn (.func 64) [])) [(sv 20),(sv 21)]⟩,⟨(sd 6),s0,.op (.ev (sv 22))⟩])
 (.tb [6] .ret))))),[sr 6]⟩
def yFits1 : YF:=⟨10,(.seq (.ops [⟨(sd 2),s0,.op (.new (sv 0))⟩,⟨(sd 3),s0,.op (.ev (sc (.bool false)))⟩])
 (.seq (.dops 7 [⟨0,(sd 4),s0,.pure (.faddr 2 (sv 2))⟩,⟨1,(sd 5),s0,.load (some 4) (sv 4)⟩,⟨3,(sd 7),s0,.load (some 4) (sv 1)⟩,⟨2,(sd 6),s0,.k2 (.call (sc (.fn (.func 63) [])) [(sv 5)]) [3]⟩,⟨4,(sd 8),s0,.k2 (.call (sc (.fn (.func 66) [])) [(sv 6),(sv 7)]) []⟩,⟨5,(sd 9),s0,.pure (.un .not (sv 8))⟩,⟨6,(sd 3),s0,.pure (.ev (sv 9))⟩])
 (.tb [3] .ret))),[sr 3]⟩
def yDelFa_ : YC:=(.ta (.seq (.seq (.ops [⟨(sd 16),s0,.op (.ev (sv 6))⟩,⟨(sd 17),s0,.op (.ev (sv 0))⟩,⟨(sd 18),s0,.op (.len false (sv 17))⟩,⟨(sd 19),s0,.op (.bin .lss 3 (some (.int .i64)) false (sv 16) (sv 18))⟩])
 (.cond (sv 19) (.ta .skip [0,1,5,6]) (.tb [0,5] (.exit 0))))
 (.seq (.block 1 (.seq (.ops [⟨(sd 22),s0,.op (.ev (sv 0))⟩,⟨(sd 23),s0,.op (.ev (sv 6))⟩,⟨(sd 24),s0,.op (.iaddr 10 (sv 22) (sv 23))⟩,⟨(sd 25),s0,.op (.load (some 10) (sv 24))⟩,⟨(sd 7),s0,.op (.new (sc (.agg [(.int .i64 0),(.int .u64 0),(.int .i64 0),(.int .i64 0),(.str []),.nils,(.int .i64 0),(.int .i64 0),(.str []),.nils])))⟩,⟨sn,s0,.op (.store 10 (sv 7) (sv 25))⟩])
 (.seq (.ops [⟨(sd 26),s0,.op (.ev (sv 1))⟩,⟨(sd 27),s0,.op (.load (some 10) (sv 7))⟩,⟨(sd 28),s0,.call (sv 26) [(sv 27)]⟩,⟨(sd 29),s0,.op (.un .not (sv 28))⟩])
 (.cond (sv 29) (.ta (.seq (.ops [⟨(sd 30),s0,.op (.ev (sv 0))⟩,⟨(sd 31),s0,.op (.ev (sv 5))⟩,⟨(sd 32),s0,.op (.load (some 10) (sv 7))⟩,⟨(sd 33),s0,.op (.iaddr 10 (sv 30) (sv 31))⟩,⟨sn,s0,.op (.store 10 (sv 33) (sv 32))⟩])
 (.ops [⟨(sd 34),s0,.op (.ev (sv 5))⟩,⟨(sd 35),s0,.op (.bin .add 3 (some (.int .i64)) true (sv 34) (sc (.int .i64 1)))⟩,⟨(sd 5),s0,.op (.ev (sv 35))⟩])) [0,1,5,6]) (.ta .skip [0,1,5,6])))))
 (.ops [⟨(sd 20),s0,.op (.ev (sv 6))⟩,⟨(sd 21),s0,.op (.bin .add 3 (some (.int .i64)) true (sv 20) (sc (.int .i64 1)))⟩,⟨(sd 6),s0,.op (.ev (sv 21))⟩]))) [0,1,5,6])
def yDelFa : YC:=yDelFa_
theorem yDelFa_r (call : ICall) (F : Nat) (T : Tr AV) (H : AH) : run call F yDelFa T H = ycode call F yDelFa_ T H:=(rfl)
def yDelF : YF:=⟨42,(.seq (.ops [⟨(sd 4),s0,.op (.ev (sc .nils))⟩])
 (.seq (.ops [⟨(sd 8),s0,.op (.ev (sv 0))⟩,⟨(sd 9),s0,.op (.ev (sv 1))⟩,⟨(sd 10),s0,.call (sc (.fn (.func 55) [])) [(sv 8),(sv 9)]⟩,⟨(sd 5),s0,.op (.ev (sv 10))⟩])
 (.seq (.seq (.ops [⟨(sd 11),s0,.op (.ev (sv 5))⟩,⟨(sd 12),s0,.op (.bin .eql 3 (some (.int .i64)) true (sv 11) (sc (.int .i64 (-1))))⟩])
 (.cond (sv 12) (.seq (.ops [⟨(sd 13),s0,.op (.ev (sv 0))⟩,⟨(sd 4),s0,.op (.ev (sv 13))⟩])
 (.tb [4] .ret)) (.ta .skip [0,1,5])))
 (.seq (.seq (.ops [⟨(sd 14),s0,.op (.ev (sv 5))⟩,⟨(sd 15),s0,.op (.bin .add 3 (some (.int .i64)) true (sv 14) (sc (.int .i64 1)))⟩,⟨(sd 6),s0,.op (.ev (sv 15))⟩])
 (.block 0 (.tb [0,1,5,6] (.loop yDelFa))))
 (.seq (.ops [⟨(sd 36),s0,.op (.ev (sv 0))⟩,⟨(sd 37),s0,.op (.ev (sv 5))⟩,⟨(sd 38),s0,.op (.slice (some 10) (sv 36) (some (sv 37)) none none)⟩,⟨sn,s0,.op (.mop (.clr 10 [(.int .i64 0),(.int .u64 0),(.int .i64 0),(.int .i64 0),(.str []),.nils,(.int .i64 0),(.int .i64 0),(.str []),.nils]) [(sv 38)])⟩])
 (.seq (.ops [⟨(sd 39),s0,.op (.ev (sv 0))⟩,⟨(sd 40),s0,.op (.ev (sv 5))⟩,⟨(sd 41),s0,.op (.slice (some 10) (sv 39) none (some (sv 40)) none)⟩,⟨(sd 4),s0,.op (.ev (sv 41))⟩])
 (.tb [4] .ret))))))),[sr 4]⟩
def yIdxFa_ : YC:=(.ta (.seq (.ops [⟨(sd 9),s0,.op (.bin .lss 3 (some (.int .i64)) false (sv 8) (sv 7))⟩])
 (.seq (.cond (sv 9) (.ta .skip [0,1,7,8]) (.tb [] (.exit 0)))
 (.seq (.block 1 (.seq (.ops [⟨(sd 10),s0,.op (.ev (sv 8))⟩,⟨(sd 5),s0,.op (.ev (sv 10))⟩])
 (.seq (.ops [⟨(sd 11),s0,.op (.ev (sv 1))⟩,⟨(sd 12),s0,.op (.ev (sv 0))⟩,⟨(sd 13),s0,.op (.ev (sv 5))⟩,⟨(sd 14),s0,.op (.iaddr 10 (sv 12) (sv 13))⟩,⟨(sd 15),s0,.op (.load (some 10) (sv 14))⟩,⟨(sd 16),s0,.call (sv 11) [(sv 15)]⟩])
 (.cond (sv 16) (.seq (.ops [⟨(sd 17),s0,.op (.ev (sv 5))⟩,⟨(sd 4),s0,.op (.ev (sv 17))⟩])
 (.tb [4] .ret)) (.ta .skip [0,1,7,8])))))
 (.ops [⟨(sd 18),s0,.op (.bin .add 3 (some (.int .i64)) true (sv 8) (sc (.int .i64 1)))⟩,⟨(sd 8),s0,.op (.ev (sv 18))⟩])))) [0,1,7,8])
def yIdxFa : YC:=yIdxFa_
theorem yIdxFa_r (call : ICall) (F : Nat) (T : Tr AV) (H : AH) : run call F yIdxFa T H = ycode call F yIdxFa_ T H:=(rfl)
def yIdxF : YF:=⟨19,(.seq (.ops [⟨(sd 4),s0,.op (.ev (sc (.int .i64 0)))⟩])
 (.seq (.seq (.ops [⟨(sd 6),s0,.op (.ev (sv 0))⟩,⟨(sd 7),s0,.op (.len false (sv 6))⟩,⟨(sd 8),s0,.op (.ev (sc (.int .i64 0)))⟩])
 (.block 0 (.tb [0,1,7,8] (.loop yIdxFa))))
 (.seq (.ops [⟨(sd 4),s0,.op (.ev (sc (.int .i64 (-1))))⟩])
 (.tb [4] .ret)))),[sr 4]⟩
def yStoreFitsa_ : YC:=(.ta (.seq (.seq (.ops [⟨(sd 30),s0,.op (.ev (sv 7))⟩,⟨(sd 31),s0,.op (.ev (sv 0))⟩,⟨(sd 32),s0,.op (.len false (sv 31))⟩,⟨(sd 33),s0,.op (.bin .lss 3 (some (.int .i64)) false (sv 30) (sv 32))⟩])
 (.cond (sv 33) (.ta .skip [0,3,5,7]) (.tb [3,5] (.exit 0))))
 (.seq (.block 1 (.seq (.seq (.ops [⟨(sd 36),s0,.op (.ev (sv 0))⟩,⟨(sd 37),s0,.op (.ev (sv 7))⟩,⟨(sd 38),s0,.op (.iaddr 8 (sv 36) (sv 37))⟩,⟨(sd 39),s0,.op (.faddr 2 (sv 38))⟩,⟨(sd 40),s0,.op (.load (some 4) (sv 39))⟩,⟨(sd 41),s0,.call (sc (.fn (.func 11) [])) [(sv 40),(sc (.int .i64 30))]⟩])
 (.cond (sv 41) (.seq (.ops [⟨(sd 4),s0,.op (.ev (sc (.bool true)))⟩])
 (.tb [4] .ret)) (.ta .skip [0,3,5,7])))
 (.dops 18 [⟨0,(sd 42),s0,.pure (.ev (sv 5))⟩,⟨1,(sd 43),s0,.pure (.ev (sv 0))⟩,⟨2,(sd 44),s0,.pure (.ev (sv 7))⟩,⟨3,(sd 45),s0,.pure (.iaddr 8 (sv 43) (sv 44))⟩,⟨4,(sd 46),s0,.pure (.faddr 2 (sv 45))⟩,⟨5,(sd 47),s0,.load (some 4) (sv 46)⟩,⟨6,(sd 48),s0,.pure (.ev (sv 0))⟩,⟨7,(sd 49),s0,.pure (.ev (sv 7))⟩,⟨8,(sd 50),s0,.pure (.iaddr 8 (sv 48) (sv 49))⟩,⟨9,(sd 51),s0,.pure (.faddr 6 (sv 50))⟩,⟨10,(sd 52),s0,.load none (sv 51)⟩,⟨11,(sd 53),s0,.pure (.bin .and 23 (some (.int .u64)) true (sv 52) (sc (.int .u64 3)))⟩,⟨12,(sd 54),s0,.pure (.ev (sv 0))⟩,⟨13,(sd 55),s0,.pure (.ev (sv 7))⟩,⟨14,(sd 56),s0,.pure (.iaddr 8 (sv 54) (sv 55))⟩,⟨15,(sd 57),s0,.pure (.faddr 7 (sv 56))⟩,⟨16,(sd 58),s0,.load none (sv 57)⟩,⟨17,(sd 59),s0,.k2 (.call (sc (.fn (.func 12) [])) [(sv 42),(sv 47),(sv 53),(sv 58)]) []⟩])))
 (.ops [⟨(sd 34),s0,.op (.ev (sv 7))⟩,⟨(sd 35),s0,.op (.bin .add 3 (some (.int .i64)) true (sv 34) (sc (.int .i64 1)))⟩,⟨(sd 7),s0,.op (.ev (sv 35))⟩]))) [0,3,5,7])
def yStoreFitsa : YC:=yStoreFitsa_
theorem yStoreFitsa_r (call : ICall) (F : Nat) (T : Tr AV) (H : AH) : run call F yStoreFitsa T H = ycode call F yStoreFitsa_ T H:=(rfl)
def yStoreFitsb_ : YC:=(.ta (.seq (.seq (.ops [⟨(sd 70),s0,.op (.ev (sv 11))⟩,⟨(sd 71),s0,.op (.ev (sv 8))⟩,⟨(sd 72),s0,.op (.len false (sv 71))⟩,⟨(sd 73),s0,.op (.bin .lss 3 (some (.int .i64)) false (sv 70) (sv 72))⟩])
 (.cond (sv 73) (.ta .skip [3,8,9,10,11]) (.tb [9,10] (.exit 2))))
 (.seq (.block 3 (.ta (.seq (.seq (.dops 17 [⟨0,(sd 76),s0,.pure (.ev (sv 10))⟩,⟨1,(sd 77),s0,.pure (.ev (sv 9))⟩,⟨2,(sd 78),s0,.pure (.len false (sv 77))⟩,⟨3,(sd 79),s0,.pure (.bin .lss 3 (some (.int .i64)) false (sv 76) (sv 78))⟩,⟨4,(sd 80),s0,.pure (.ev (sv 79))⟩,⟨5,(sd 81),(sg 80 true),.pure (.ev (sv 9))⟩,⟨6,(sd 82),(sg 80 true),.pure (.ev (sv 10))⟩,⟨7,(sd 83),(sg 80 true),.pure (.iaddr 10 (sv 81) (sv 82))⟩,⟨8,(sd 84),(sg 80 true),.pure (.faddr 0 (sv 83))⟩,⟨9,(sd 85),(sg 80 true),.load none (sv 84)⟩,⟨10,(sd 86),(sg 80 true),.pure (.ev (sv 8))⟩,⟨11,(sd 87),(sg 80 true),.pure (.ev (sv 11))⟩,⟨12,(sd 88),(sg 80 true),.pure (.iaddr 10 (sv 86) (sv 87))⟩,⟨13,(sd 89),(sg 80 true),.pure (.faddr 0 (sv 88))⟩,⟨14,(sd 90),(sg 80 true),.load none (sv 89)⟩,⟨15,(sd 91),(sg 80 true),.pure (.bin .eql 3 (some (.int .i64)) false (sv 85) (sv 90))⟩,⟨16,(sd 92),s0,.pure (.pick (sv 80) (sv 91) (sc (.bool false)))⟩])
 (.cond (sv 92) (.seq (.ops [⟨(sd 93),s0,.op (.ev (sv 10))⟩,⟨(sd 94),s0,.op (.bin .add 3 (some (.int .i64)) true (sv 93) (sc (.int .i64 1)))⟩,⟨(sd 10),s0,.op (.ev (sv 94))⟩])
 (.tb [3,8,9,10,11] (.exit 3))) (.ta .skip [3,8,9,10,11])))
 (.seq (.dops 7 [⟨0,(sd 95),s0,.pure (.ev (sv 8))⟩,⟨1,(sd 96),s0,.pure (.ev (sv 11))⟩,⟨2,(sd 97),s0,.pure (.iaddr 10 (sv 95) (sv 96))⟩,⟨3,(sd 98),s0,.pure (.faddr 2 (sv 97))⟩,⟨4,(sd 99),s0,.load (some 4) (sv 98)⟩,⟨5,(sd 100),s0,.load (some 4) (sv 3)⟩,⟨6,(sd 101),s0,.k2 (.call (sc (.fn (.func 30) [])) [(sv 99),(sv 100)]) []⟩])
 (.cond (sv 101) (.seq (.ops [⟨(sd 4),s0,.op (.ev (sc (.bool false)))⟩])
 (.tb [4] .ret)) (.ta .skip [3,8,9,10,11])))) [3,8,9,10,11]))
 (.ops [⟨(sd 74),s0,.op (.ev (sv 11))⟩,⟨(sd 75),s0,.op (.bin .add 3 (some (.int .i64)) true (sv 74) (sc (.int .i64 1)))⟩,⟨(sd 11),s0,.op (.ev (sv 75))⟩]))) [3,8,9,10,11])
def yStoreFitsb : YC:=yStoreFitsb_
theorem yStoreFitsb_r (call : ICall) (F : Nat) (T : Tr AV) (H : AH) : run call F yStoreFitsb T H = ycode call F yStoreFitsb_ T H:=(rfl)
def yStoreFits : YF:=⟨106,(.seq (.ops [⟨(sd 3),s0,.op (.new (sv 1))⟩,⟨(sd 4),s0,.op (.ev (sc (.bool false)))⟩])
 (.seq (.seq (.ops [⟨(sd 12),s0,.call (sc (.fn (.func 9) [])) []⟩,⟨(sd 13),s0,.op (.un .not (sv 12))⟩])
 (.cond (sv 13) (.seq (.ops [⟨(sd 4),s0,.op (.ev (sc (.bool false)))⟩])
 (.tb [4] .ret)) (.ta .skip [0,3])))
 (.seq (.seq (.ops [⟨(sd 14),s0,.op (.ev (sv 0))⟩,⟨(sd 15),s0,.op (.len false (sv 14))⟩,⟨(sd 16),s0,.op (.bin .gtr 3 (some (.int .i64)) true (sv 15) (sc (.int .i64 25)))⟩,⟨(sd 17),s0,.op (.ev (sv 16))⟩,⟨(sd 18),(sg 17 false),.op (.load (some 4) (sv 3))⟩,⟨(sd 19),(sg 17 false),.call (sc (.fn (.func 11) [])) [(sv 18),(sc (.int .i64 30))]⟩,⟨(sd 20),s0,.op (.pick (sv 17) (sc (.bool true)) (sv 19))⟩,⟨(sd 21),s0,.op (.ev (sv 20))⟩,⟨(sd 22),(sg 21 false),.op (.faddr 0 (sv 3))⟩,⟨(sd 23),(sg 21 false),.op (.load none (sv 22))⟩,⟨(sd 24),(sg 21 false),.op (.bin .neq 3 (some (.int .i64)) true (sv 23) (sc (.int .i64 2)))⟩,⟨(sd 25),s0,.op (.pick (sv 21) (sc (.bool true)) (sv 24))⟩])
 (.cond (sv 25) (.seq (.ops [⟨(sd 4),s0,.op (.ev (sc (.bool true)))⟩])
 (.tb [4] .ret)) (.ta .skip [0,3])))
 (.seq (.ops [⟨(sd 27),s0,.call (sc (.fn (.func 10) [])) [(sc (.int .i64 30))]⟩,⟨(sd 26),s0,.op (.ev (sv 27))⟩,⟨(sd 28),s0,.op (.ext (sv 26) 0)⟩,⟨(sd 29),s0,.op (.ext (sv 26) 1)⟩,⟨(sd 5),s0,.op (.ev (sv 28))⟩,⟨(sd 6),s0,.op (.ev (sv 29))⟩])
 (.seq (.seq (.ops [⟨(sd 7),s0,.op (.ev (sc (.int .i64 0)))⟩])
 (.block 0 (.tb [0,3,5,7] (.loop yStoreFitsa))))
 (.seq (.dops 12 [⟨0,(sd 60),s0,.pure (.ev (sv 5))⟩,⟨1,(sd 61),s0,.pure (.faddr 2 (sv 3))⟩,⟨2,(sd 62),s0,.load none (sv 61)⟩,⟨3,(sd 63),s0,.pure (.faddr 3 (sv 3))⟩,⟨4,(sd 64),s0,.load none (sv 63)⟩,⟨5,(sd 65),s0,.pure (.len false (sv 64))⟩,⟨7,(sd 67),s0,.pure (.ev (sv 5))⟩,⟨8,(sd 68),s0,.load (some 4) (sv 3)⟩,⟨6,(sd 66),s0,.k2 (.call (sc (.fn (.func 26) [])) [(sv 60),(sv 62),(sv 65),(sc (.int .u64 3))]) [8]⟩,⟨9,(sd 69),s0,.k2 (.call (sc (.fn (.func 27) [])) [(sv 67),(sv 68),(sc (.int .u64 3))]) []⟩,⟨10,(sd 8),s0,.pure (.ev (sv 66))⟩,⟨11,(sd 9),s0,.pure (.ev (sv 69))⟩])
 (.seq (.ops [⟨(sd 10),s0,.op (.ev (sc (.int .i64 0)))⟩])
 (.seq (.seq (.ops [⟨(sd 11),s0,.op (.ev (sc (.int .i64 0)))⟩])
 (.block 2 (.tb [3,8,9,10,11] (.loop yStoreFitsb))))
 (.seq (.ops [⟨(sd 102),s0,.op (.ev (sv 10))⟩,⟨(sd 103),s0,.op (.ev (sv 9))⟩,⟨(sd 104),s0,.op (.len false (sv 103))⟩,⟨(sd 105),s0,.op (.bin .eql 3 (some (.int .i64)) false (sv 102) (sv 104))⟩,⟨(sd 4),s0,.op (.ev (sv 105))⟩])
 (.tb [4] .ret)))))))))),[sr 4]⟩
set_option maxRecDepth 100000 in
theorem yKeyOf_ok : cFun Tryz.prog (fun _=>true) 63 = some yKeyOf.er:=by kernel_rfl
set_option maxRecDepth 100000 in
theorem yMay_ok : cFun Tryz.prog (fun _=>true) 66 = some yMay.er:=by kernel_rfl
set_option maxRecDepth 100000 in
theorem yFits_ok : cFun Tryz.prog (fun _=>true) 27 = some yFits.er:=by kernel_rfl
set_option maxRecDepth 100000 in
theorem yFits1_ok : cFun Tryz.prog (fun _=>true) 65 = some yFits1.er:=by kernel_rfl
set_option maxRecDepth 100000 in
theorem yDelF_ok : cFun Tryz.prog (fun _=>true) 64 = some yDelF.er:=by kernel_rfl
set_option maxRecDepth 100000 in
theorem yIdxF_ok : cFun Tryz.prog (fun _=>true) 55 = some yIdxF.er:=by kernel_rfl
set_option maxRecDepth 100000 in
theorem yStoreFits_ok : cFun Tryz.prog (fun _=>true) 8 = some yStoreFits.er:=by kernel_rfl
end Go.Proofs.YtdekdghldblfaaaGreatDoor
