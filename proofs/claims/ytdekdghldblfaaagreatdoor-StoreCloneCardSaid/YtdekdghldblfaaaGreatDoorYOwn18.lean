import Derived.Test.YtdekdghldblfaaaGreatDoorAbsS
import Derived.Test.YtdekdghldblfaaaGreatDoorRows
import Derived.ProofKit
set_option linter.unusedVariables false
set_option linter.unusedSimpArgs false
namespace Go.Proofs.YtdekdghldblfaaaGreatDoor
open Go Go.Abs
set_option maxRecDepth 100000
def qle : YC:=(.ta (.seq (.seq (.ops [oe 12 4,⟨(sd 13),s0,.op (.faddr 3 (sv 1))⟩,⟨(sd 14),s0,.op (.load none (sv 13))⟩,⟨(sd 15),s0,.op (.len false (sv 14))⟩,⟨(sd 16),s0,.op (.bin .lss 3 (some (.int .i64)) false (sv 12) (sv 15))⟩])
 (.cond (sv 16) (.ta .skip [1,2,3,4]) (.tb [2,3] (.exit 0))))
 (.seq (.block 1 (.dops 12 [⟨0,(sd 19),s0,.pure (.faddr 3 (sv 3))⟩,⟨1,(sd 20),s0,.load none (sv 19)⟩,⟨2,(sd 21),s0,.pure (.faddr 3 (sv 1))⟩,⟨3,(sd 22),s0,.load none (sv 21)⟩,⟨4,(sd 23),s0,.pure (.ev (sv 4))⟩,⟨5,(sd 24),s0,.pure (.iaddr 4 (sv 22) (sv 23))⟩,⟨6,(sd 25),s0,.load (some 4) (sv 24)⟩,⟨7,(sd 26),s0,.k2 (.call (sc (.fn (.func 18) [])) [(sv 25)]) [1]⟩,⟨8,(sd 27),s0,.alloc (.bslice 4 1 [(.int .i64 0),(.int .i64 0),(.str []),.nils] [(0,4,(sv 26))])⟩,⟨9,(sd 28),s0,.k2 (.op (.app 4 56 (sv 20) (sv 27))) []⟩,⟨10,(sd 29),s0,.pure (.faddr 3 (sv 3))⟩,⟨11,sn,s0,.k2 (.op (.store 1 (sv 29) (sv 28))) []⟩]))
 (.ops [oe 17 4,⟨(sd 18),s0,.op (.bin .add 3 (some (.int .i64)) true (sv 17) (sc (.int .i64 1)))⟩,oe 4 18]))) [1,2,3,4])
def qu7:YC:=qle
theorem qsa(call:qar)(F:Nat)(T:Tr AV)(H:AH):run call F qu7 T H=ycode call F qle T H:=(rfl)
def yOwn18 : YF:=⟨31,(.seq (.ops [⟨(sd 1),s0,.op (.new (sv 0))⟩,⟨(sd 2),s0,.op (.new (sc (.agg [(.int .i64 0),(.int .i64 0),(.str []),.nils])))⟩])
 (.seq (.ops [⟨(sd 5),s0,.op (.faddr 0 (sv 1))⟩,⟨(sd 6),s0,.op (.load none (sv 5))⟩,⟨(sd 7),s0,.op (.faddr 1 (sv 1))⟩,⟨(sd 8),s0,.op (.load none (sv 7))⟩,⟨(sd 9),s0,.op (.faddr 2 (sv 1))⟩,⟨(sd 10),s0,.op (.load none (sv 9))⟩,⟨(sd 11),s0,.op (.build [(.int .i64 0),(.int .i64 0),(.str []),.nils] [(0,1,(sv 6)),(1,1,(sv 8)),(2,1,(sv 10))])⟩,⟨(sd 3),s0,.op (.new (sc (.agg [(.int .i64 0),(.int .i64 0),(.str []),.nils])))⟩,⟨sn,s0,.op (.store 4 (sv 3) (sv 11))⟩])
 (.seq (.seq (.ops [⟨(sd 4),s0,.op (.ev (sc (.int .i64 0)))⟩])
 (.block 0 (.tb [1,2,3,4] (.loop qu7))))
 (.seq (.ops [⟨(sd 30),s0,.op (.load (some 4) (sv 3))⟩,⟨sn,s0,.op (.store 4 (sv 2) (sv 30))⟩])
 (.tb [2] .ret))))),[sk 2 (some 4)]⟩
def qmd : YC:=(.ta (.seq (.seq (.ops [oe 14 5,⟨(sd 15),s0,.op (.faddr 3 (sv 2))⟩,⟨(sd 16),s0,.op (.load none (sv 15))⟩,⟨(sd 17),s0,.op (.len false (sv 16))⟩,⟨(sd 18),s0,.op (.bin .lss 3 (some (.int .i64)) false (sv 14) (sv 17))⟩])
 (.cond (sv 18) (.ta .skip [1,2,5]) (.tb [] (.exit 0))))
 (.seq (.block 1 (.seq (.ops [⟨(sd 21),s0,.op (.faddr 3 (sv 2))⟩,⟨(sd 22),s0,.op (.load none (sv 21))⟩,oe 23 5,⟨(sd 24),s0,.op (.iaddr 4 (sv 22) (sv 23))⟩,⟨(sd 25),s0,.op (.load (some 4) (sv 24))⟩,oe 26 1,⟨(sd 27),s0,.op (.bin .sub 3 (some (.int .i64)) true (sv 26) (sc (.int .i64 1)))⟩,⟨(sd 28),s0,.call (sc (.fn (.func 11) [])) [(sv 25),(sv 27)]⟩])
 (.cond (sv 28) (.seq (.ops [⟨(sd 4),s0,.op (.ev (sc (.bool true)))⟩])
 (.tb [4] .ret)) (.ta .skip [1,2,5]))))
 (.ops [oe 19 5,⟨(sd 20),s0,.op (.bin .add 3 (some (.int .i64)) true (sv 19) (sc (.int .i64 1)))⟩,oe 5 20]))) [1,2,5])
def q21:YC:=qmd
theorem qpz(call:qar)(F:Nat)(T:Tr AV)(H:AH):run call F q21 T H=ycode call F qmd T H:=(rfl)
def q22 : YF:=⟨29,(.seq (.ops [⟨(sd 2),s0,.op (.new (sv 0))⟩,⟨(sd 4),s0,.op (.ev (sc (.bool false)))⟩])
 (.seq (.seq (.ops [oe 6 1,⟨(sd 7),s0,.op (.bin .lss 3 (some (.int .i64)) true (sv 6) (sc (.int .i64 1)))⟩,oe 8 7,⟨(sd 9),(sg 8 false),.op (.faddr 3 (sv 2))⟩,⟨(sd 10),(sg 8 false),.op (.load none (sv 9))⟩,⟨(sd 11),(sg 8 false),.op (.len false (sv 10))⟩,⟨(sd 12),(sg 8 false),.op (.bin .gtr 3 (some (.int .i64)) true (sv 11) (sc (.int .i64 12)))⟩,⟨(sd 13),s0,.op (.pick (sv 8) (sc (.bool true)) (sv 12))⟩])
 (.cond (sv 13) (.seq (.ops [⟨(sd 4),s0,.op (.ev (sc (.bool true)))⟩])
 (.tb [4] .ret)) (.ta .skip [1,2])))
 (.seq (.seq (.ops [⟨(sd 5),s0,.op (.ev (sc (.int .i64 0)))⟩])
 (.block 0 (.tb [1,2,5] (.loop q21))))
 (.seq (.ops [⟨(sd 4),s0,.op (.ev (sc (.bool false)))⟩])
 (.tb [4] .ret))))),[sr 4]⟩
def yMade : YF:=⟨46,(.seq (.ops [⟨(sd 2),s0,.op (.ev (sc .nilp))⟩,⟨(sd 3),s0,.op (.ev (sc .nilp))⟩])
 (.seq (.ops [⟨(sd 13),s0,.op (.bslice 1 2 [(.str []),(.str [])] [(0,1,(sc (.str [97]))),(1,1,(sc (.str [98])))])⟩,oe 4 13])
 (.seq (.ops [oe 15 4,⟨(sd 16),s0,.op (.build [(.str []),(.int .i64 0),(.int .u64 0),(.bool false)] [(0,1,(sc (.str [112]))),(1,1,(sc (.int .i64 1))),(2,1,(sc (.int .u64 3)))])⟩,⟨(sd 17),s0,.op (.build [(.str []),(.int .i64 0),(.int .u64 0),(.bool false)] [(0,1,(sc (.str [113]))),(1,1,(sc (.int .i64 2))),(2,1,(sc (.int .u64 1))),(3,1,(sc (.bool true)))])⟩,⟨(sd 18),s0,.op (.build [(.str []),(.int .i64 0),(.int .u64 0),(.bool false)] [(0,1,(sc (.str [114])))])⟩,⟨(sd 19),s0,.op (.bslice 4 3 [(.str []),(.int .i64 0),(.int .u64 0),(.bool false),(.str []),(.int .i64 0),(.int .u64 0),(.bool false),(.str []),(.int .i64 0),(.int .u64 0),(.bool false)] [(0,4,(sv 16)),(4,4,(sv 17)),(8,4,(sv 18))])⟩,⟨(sd 20),s0,.call (sc (.fn (.func 31) [])) [(sv 15),(sv 19)]⟩,oe 14 20,⟨(sd 21),s0,.op (.ext (sv 14) 0)⟩,⟨(sd 22),s0,.op (.ext (sv 14) 1)⟩,oe 5 21,oe 6 22])
 (.seq (.ops [oe 24 4,⟨(sd 25),s0,.op (.build [(.str []),(.int .i64 0),(.int .u64 0),(.bool false)] [(0,1,(sc (.str [112]))),(1,1,(sc (.int .i64 1))),(2,1,(sc (.int .u64 3)))])⟩,⟨(sd 26),s0,.op (.build [(.str []),(.int .i64 0),(.int .u64 0),(.bool false)] [(0,1,(sc (.str [113]))),(1,1,(sc (.int .i64 2))),(2,1,(sc (.int .u64 1))),(3,1,(sc (.bool true)))])⟩,⟨(sd 27),s0,.op (.build [(.str []),(.int .i64 0),(.int .u64 0),(.bool false)] [(0,1,(sc (.str [114])))])⟩,⟨(sd 28),s0,.op (.bslice 4 3 [(.str []),(.int .i64 0),(.int .u64 0),(.bool false),(.str []),(.int .i64 0),(.int .u64 0),(.bool false),(.str []),(.int .i64 0),(.int .u64 0),(.bool false)] [(0,4,(sv 25)),(4,4,(sv 26)),(8,4,(sv 27))])⟩,⟨(sd 29),s0,.call (sc (.fn (.func 32) [])) [(sv 24),(sv 28)]⟩,oe 23 29,⟨(sd 30),s0,.op (.ext (sv 23) 0)⟩,⟨(sd 31),s0,.op (.ext (sv 23) 1)⟩,oe 7 30,oe 8 31])
 (.seq (.ops [oe 33 5,oe 34 0,⟨(sd 35),s0,.call (sc (.fn (.func 23) [])) [(sv 33),(sv 34)]⟩,oe 32 35,⟨(sd 36),s0,.op (.ext (sv 32) 0)⟩,⟨(sd 37),s0,.op (.ext (sv 32) 1)⟩,oe 9 36,oe 10 37])
 (.seq (.ops [oe 39 7,oe 40 0,⟨(sd 41),s0,.call (sc (.fn (.func 33) [])) [(sv 39),(sv 40)]⟩,oe 38 41,⟨(sd 42),s0,.op (.ext (sv 38) 0)⟩,⟨(sd 43),s0,.op (.ext (sv 38) 1)⟩,oe 11 42,oe 12 43])
 (.seq (.ops [oe 44 9,oe 45 11,oe 2 44,oe 3 45])
 (.tb [2,3] .ret)))))))),[sr 2,sr 3]⟩
def yAwake : YF:=⟨61,(.seq (.ops [⟨(sd 0),s0,.op (.ev (sc (.bool false)))⟩])
 (.seq (.ops [⟨(sd 9),s0,.call (sc (.fn (.func 10) [])) [(sc (.int .i64 9))]⟩,oe 8 9,⟨(sd 10),s0,.op (.ext (sv 8) 0)⟩,⟨(sd 11),s0,.op (.ext (sv 8) 1)⟩,oe 1 10,oe 2 11])
 (.seq (.seq (.ops [oe 12 1,⟨(sd 13),s0,.op (.bin .eql 25 (some (.pointer 93)) true (sv 12) (sc .nilp))⟩])
 (.cond (sv 13) (.seq (.ops [⟨(sd 0),s0,.op (.ev (sc (.bool false)))⟩])
 (.tb [0] .ret)) (.ta .skip [1])))
 (.seq (.ops [oe 15 1,⟨(sd 16),s0,.call (sc (.fn (.func 25) [])) [(sc (.str [112,40,49,41]))]⟩,⟨(sd 17),s0,.call (sc (.fn (.func 12) [])) [(sv 15),(sv 16),(sc (.int .u64 0)),(sc (.bool false))]⟩,oe 14 17,⟨(sd 18),s0,.op (.ext (sv 14) 0)⟩,⟨(sd 19),s0,.op (.ext (sv 14) 1)⟩,oe 3 18,oe 4 19])
 (.seq (.ops [oe 21 1,⟨(sd 22),s0,.call (sc (.fn (.func 25) [])) [(sc (.str [112,40,50,41]))]⟩,⟨(sd 23),s0,.call (sc (.fn (.func 12) [])) [(sv 21),(sv 22),(sc (.int .u64 1)),(sc (.bool false))]⟩,oe 20 23,⟨(sd 24),s0,.op (.ext (sv 20) 0)⟩,⟨(sd 25),s0,.op (.ext (sv 20) 1)⟩,oe 5 24,oe 6 25])
 (.seq (.ops [oe 26 1,⟨(sd 27),s0,.call (sc (.fn (.func 26) [])) [(sv 26),(sc (.str [112])),(sc (.int .i64 1)),(sc (.int .u64 0))]⟩,oe 7 27])
 (.seq (.dops 34 [⟨0,(sd 28),s0,.pure (.ev (sv 4))⟩,⟨1,(sd 29),s0,.pure (.bin .eql 35 (some (.int .i64)) true (sv 28) (sc (.int .i64 0)))⟩,⟨2,(sd 30),s0,.pure (.ev (sv 29))⟩,⟨3,(sd 31),(sg 30 true),.pure (.ev (sv 6))⟩,⟨4,(sd 32),(sg 30 true),.pure (.bin .eql 35 (some (.int .i64)) true (sv 31) (sc (.int .i64 0)))⟩,⟨5,(sd 33),s0,.pure (.pick (sv 30) (sv 32) (sc (.bool false)))⟩,⟨6,(sd 34),s0,.pure (.ev (sv 33))⟩,⟨7,(sd 35),(sg 34 true),.pure (.ev (sv 3))⟩,⟨8,(sd 36),(sg 34 true),.pure (.bin .eql 3 (some (.int .i64)) true (sv 35) (sc (.int .i64 1)))⟩,⟨9,(sd 37),s0,.pure (.pick (sv 34) (sv 36) (sc (.bool false)))⟩,⟨10,(sd 38),s0,.pure (.ev (sv 37))⟩,⟨11,(sd 39),(sg 38 true),.pure (.ev (sv 5))⟩,⟨12,(sd 40),(sg 38 true),.pure (.bin .eql 3 (some (.int .i64)) true (sv 39) (sc (.int .i64 2)))⟩,⟨13,(sd 41),s0,.pure (.pick (sv 38) (sv 40) (sc (.bool false)))⟩,⟨14,(sd 42),s0,.pure (.ev (sv 41))⟩,⟨15,(sd 43),(sg 42 true),.pure (.ev (sv 7))⟩,⟨16,(sd 44),(sg 42 true),.pure (.len false (sv 43))⟩,⟨17,(sd 45),(sg 42 true),.pure (.bin .eql 3 (some (.int .i64)) true (sv 44) (sc (.int .i64 1)))⟩,⟨18,(sd 46),s0,.pure (.pick (sv 42) (sv 45) (sc (.bool false)))⟩,⟨19,(sd 47),s0,.pure (.ev (sv 46))⟩,⟨20,(sd 48),(sg 47 true),.pure (.ev (sv 7))⟩,⟨21,(sd 49),(sg 47 true),.pure (.iaddr 10 (sv 48) (sc (.int .i64 0)))⟩,⟨22,(sd 50),(sg 47 true),.pure (.faddr 2 (sv 49))⟩,⟨23,(sd 51),(sg 47 true),.load (some 4) (sv 50)⟩,⟨24,(sd 52),(sg 47 true),.k2 (.call (sc (.fn (.func 25) [])) [(sc (.str [112,40,49,41]))]) [23]⟩,⟨25,(sd 53),(sg 47 true),.k2 (.call (sc (.fn (.func 14) [])) [(sv 51),(sv 52)]) []⟩,⟨26,(sd 54),s0,.pure (.pick (sv 47) (sv 53) (sc (.bool false)))⟩,⟨27,(sd 55),s0,.pure (.ev (sv 54))⟩,⟨28,(sd 56),(sg 55 true),.pure (.ev (sv 1))⟩,⟨29,(sd 57),(sg 55 true),.k2 (.call (sc (.fn (.func 26) [])) [(sv 56),(sc (.str [112])),(sc (.int .i64 1)),(sc (.int .u64 1))]) []⟩,⟨30,(sd 58),(sg 55 true),.pure (.len false (sv 57))⟩,⟨31,(sd 59),(sg 55 true),.pure (.bin .eql 3 (some (.int .i64)) true (sv 58) (sc (.int .i64 2)))⟩,⟨32,(sd 60),s0,.pure (.pick (sv 55) (sv 59) (sc (.bool false)))⟩,⟨33,(sd 0),s0,.pure (.ev (sv 60))⟩])
 (.tb [0] .ret)))))))),[sr 0]⟩
theorem q2w:qbp Tryz.prog (fun _=>true) 18=some yOwn18.er:=by kernel_rfl
theorem qxf:qbp Tryz.prog (fun _=>true) 11=some q22.er:=by kernel_rfl
theorem qxa:qbp Tryz.prog (fun _=>true) 10=some yMade.er:=by kernel_rfl
theorem q29:qbp Tryz.prog (fun _=>true) 9=some yAwake.er:=by kernel_rfl
end Go.Proofs.YtdekdghldblfaaaGreatDoor
