import Derived.Test.YtdekdghldblfaaaGreatDoorAbsS
import Derived.Test.YtdekdghldblfaaaGreatDoorRows
import Derived.ProofKit
set_option linter.unusedVariables false
set_option linter.unusedSimpArgs false
namespace Go.Proofs.YtdekdghldblfaaaGreatDoor
open Go Go.Abs
set_option maxRecDepth 100000
def qmf : YC:=(.ta (.seq (.ops [⟨(sd 8),s0,.op (.bin .lss 3 (some (.int .i64)) false (sv 7) (sv 6))⟩])
 (.seq (.cond (sv 8) (.ta .skip [1,5,6,7]) (.tb [1] (.exit 0)))
 (.seq (.block 1 (.seq (.ops [⟨(sd 9),s0,.op (.iaddr 1 (sv 5) (sv 7))⟩,⟨(sd 10),s0,.op (.load none (sv 9))⟩,oe 4 10])
 (.seq (.ops [⟨(sd 11),s0,.op (.load (some 4) (sv 1))⟩,oe 12 4,⟨(sd 13),s0,.call (sc (.fn (.func 84) [])) [(sv 11),(sv 12),(sc (.int .i64 2))]⟩])
 (.cond (sv 13) (.seq (.ops [⟨(sd 2),s0,.op (.ev (sc (.bool true)))⟩])
 (.tb [2] .ret)) (.ta .skip [1,5,6,7])))))
 (.ops [⟨(sd 14),s0,.op (.bin .add 3 (some (.int .i64)) true (sv 7) (sc (.int .i64 1)))⟩,oe 7 14])))) [1,5,6,7])
def yCtla:YC:=qmf
theorem qme(call:qar)(F:Nat)(T:Tr AV)(H:AH):run call F yCtla T H=ycode call F qmf T H:=(rfl)
def yCtl : YF:=⟨29,(.seq (.ops [⟨(sd 1),s0,.op (.new (sv 0))⟩,⟨(sd 2),s0,.op (.ev (sc (.bool false)))⟩])
 (.seq (.seq (.ops [⟨(sd 5),s0,.op (.bslice 1 4 [(.str []),(.str []),(.str []),(.str [])] [(0,1,(sc (.str [58,45]))),(1,1,(sc (.str [44]))),(2,1,(sc (.str [59]))),(3,1,(sc (.str [45,62])))])⟩,⟨(sd 6),s0,.op (.len false (sv 5))⟩,⟨(sd 7),s0,.op (.ev (sc (.int .i64 0)))⟩])
 (.block 0 (.tb [1,5,6,7] (.loop yCtla))))
 (.seq (.ops [⟨(sd 15),s0,.op (.load (some 4) (sv 1))⟩,⟨(sd 16),s0,.call (sc (.fn (.func 84) [])) [(sv 15),(sc (.str [92,43])),(sc (.int .i64 1))]⟩,oe 17 16,⟨(sd 18),(sg 17 false),.op (.load (some 4) (sv 1))⟩,⟨(sd 19),(sg 17 false),.call (sc (.fn (.func 84) [])) [(sv 18),(sc (.str [33])),(sc (.int .i64 0))]⟩,⟨(sd 20),s0,.op (.pick (sv 17) (sc (.bool true)) (sv 19))⟩,oe 21 20,⟨(sd 22),(sg 21 false),.op (.load (some 4) (sv 1))⟩,⟨(sd 23),(sg 21 false),.call (sc (.fn (.func 84) [])) [(sv 22),(sc (.str [116,114,117,101])),(sc (.int .i64 0))]⟩,⟨(sd 24),s0,.op (.pick (sv 21) (sc (.bool true)) (sv 23))⟩,oe 25 24,⟨(sd 26),(sg 25 false),.op (.load (some 4) (sv 1))⟩,⟨(sd 27),(sg 25 false),.call (sc (.fn (.func 84) [])) [(sv 26),(sc (.str [102,97,105,108])),(sc (.int .i64 0))]⟩,⟨(sd 28),s0,.op (.pick (sv 25) (sc (.bool true)) (sv 27))⟩,oe 2 28])
 (.tb [2] .ret)))),[sr 2]⟩
def yOf : YF:=⟨11,(.seq (.ops [⟨(sd 1),s0,.op (.new (sv 0))⟩,⟨(sd 2),s0,.op (.ev (sc .nils))⟩,⟨(sd 3),s0,.op (.ev (sc (.int .i64 0)))⟩])
 (.seq (.seq (.ops [⟨(sd 4),s0,.op (.load (some 4) (sv 1))⟩,⟨(sd 5),s0,.call (sc (.fn (.func 42) [])) [(sv 4)]⟩,⟨(sd 6),s0,.op (.un .not (sv 5))⟩])
 (.cond (sv 6) (.seq (.ops [⟨(sd 2),s0,.op (.ev (sc .nils))⟩,⟨(sd 3),s0,.op (.ev (sc (.int .i64 1)))⟩])
 (.tb [2,3] .ret)) (.ta .skip [1])))
 (.seq (.ops [⟨(sd 7),s0,.op (.load (some 4) (sv 1))⟩,⟨(sd 8),s0,.call (sc (.fn (.func 126) [])) [(sv 7)]⟩,⟨(sd 9),s0,.op (.ext (sv 8) 0)⟩,⟨(sd 10),s0,.op (.ext (sv 8) 1)⟩,oe 2 9,oe 3 10])
 (.tb [2,3] .ret)))),[sr 2,sr 3]⟩
def qd3 : YF:=⟨45,(.seq (.ops [⟨(sd 1),s0,.op (.new (sv 0))⟩,⟨(sd 2),s0,.op (.new (sc (.agg [(.int .i64 0),(.int .i64 0),(.str []),.nils])))⟩,⟨(sd 3),s0,.op (.new (sc (.agg [(.int .i64 0),(.int .i64 0),(.str []),.nils])))⟩,⟨(sd 4),s0,.op (.ev (sc (.int .i64 0)))⟩])
 (.seq (.seq (.ops [⟨(sd 5),s0,.op (.load (some 4) (sv 1))⟩,⟨(sd 6),s0,.call (sc (.fn (.func 42) [])) [(sv 5)]⟩,⟨(sd 7),s0,.op (.un .not (sv 6))⟩])
 (.cond (sv 7) (.seq (.ops [⟨(sd 8),s0,.op (.build [(.int .i64 0),(.int .i64 0),(.str []),.nils] [])⟩,⟨(sd 9),s0,.op (.build [(.int .i64 0),(.int .i64 0),(.str []),.nils] [])⟩,⟨sn,s0,.op (.store 4 (sv 2) (sv 8))⟩,⟨sn,s0,.op (.store 4 (sv 3) (sv 9))⟩,⟨(sd 4),s0,.op (.ev (sc (.int .i64 1)))⟩])
 (.tb [2,3,4] .ret)) (.ta .skip [1,2,3])))
 (.seq (.dops 4 [⟨0,(sd 10),s0,.load (some 4) (sv 1)⟩,⟨1,(sd 11),s0,.k2 (.call (sc (.fn (.func 83) [])) [(sc (.str [116,114,117,101]))]) [0]⟩,⟨2,sn,s0,.k2 (.op (.store 4 (sv 2) (sv 10))) []⟩,⟨3,sn,s0,.k2 (.op (.store 4 (sv 3) (sv 11))) []⟩])
 (.seq (.seq (.ops [⟨(sd 12),s0,.op (.load (some 4) (sv 1))⟩,⟨(sd 13),s0,.call (sc (.fn (.func 84) [])) [(sv 12),(sc (.str [58,45])),(sc (.int .i64 2))]⟩])
 (.cond (sv 13) (.ta (.dops 10 [⟨0,(sd 14),s0,.pure (.faddr 3 (sv 1))⟩,⟨1,(sd 15),s0,.load none (sv 14)⟩,⟨2,(sd 16),s0,.pure (.iaddr 4 (sv 15) (sc (.int .i64 0)))⟩,⟨3,(sd 17),s0,.load (some 4) (sv 16)⟩,⟨4,(sd 18),s0,.pure (.faddr 3 (sv 1))⟩,⟨5,(sd 19),s0,.load none (sv 18)⟩,⟨6,(sd 20),s0,.pure (.iaddr 4 (sv 19) (sc (.int .i64 1)))⟩,⟨7,(sd 21),s0,.load (some 4) (sv 20)⟩,⟨8,sn,s0,.k2 (.op (.store 4 (sv 2) (sv 17))) [7,5]⟩,⟨9,sn,s0,.k2 (.op (.store 4 (sv 3) (sv 21))) []⟩]) [2,3]) (.ta .skip [2,3])))
 (.seq (.block 0 (.seq (.ops [⟨(sd 28),s0,.op (.faddr 0 (sv 2))⟩,⟨(sd 29),s0,.op (.load none (sv 28))⟩,⟨(sd 30),s0,.op (.bin .eql 3 (some (.int .i64)) true (sv 29) (sc (.int .i64 0)))⟩,oe 27 30])
 (.cond (sv 27) (.ta (.ops [⟨(sd 4),s0,.op (.ev (sc (.int .i64 6)))⟩]) [2,3,4]) (.ta (.seq (.ops [⟨(sd 32),s0,.op (.faddr 0 (sv 2))⟩,⟨(sd 33),s0,.op (.load none (sv 32))⟩,⟨(sd 34),s0,.op (.bin .eql 3 (some (.int .i64)) true (sv 33) (sc (.int .i64 1)))⟩,oe 31 34])
 (.cond (sv 31) (.ta (.ops [⟨(sd 4),s0,.op (.ev (sc (.int .i64 5)))⟩]) [2,3,4]) (.ta (.seq (.ops [⟨(sd 36),s0,.op (.load (some 4) (sv 2))⟩,⟨(sd 37),s0,.call (sc (.fn (.func 85) [])) [(sv 36)]⟩,oe 35 37])
 (.cond (sv 35) (.ta (.ops [⟨(sd 4),s0,.op (.ev (sc (.int .i64 8)))⟩]) [2,3,4]) (.ta (.ops [⟨(sd 23),s0,.op (.load (some 4) (sv 3))⟩,⟨(sd 24),s0,.call (sc (.fn (.func 86) [])) [(sv 23)]⟩,oe 22 24,⟨(sd 25),s0,.op (.ext (sv 22) 0)⟩,⟨(sd 26),s0,.op (.ext (sv 22) 1)⟩,oe 4 26]) [2,3,4]))) [2,3,4]))) [2,3,4]))))
 (.seq (.seq (.ops [oe 38 4,⟨(sd 39),s0,.op (.bin .neq 35 (some (.int .i64)) true (sv 38) (sc (.int .i64 0)))⟩])
 (.cond (sv 39) (.seq (.ops [⟨(sd 40),s0,.op (.build [(.int .i64 0),(.int .i64 0),(.str []),.nils] [])⟩,⟨(sd 41),s0,.op (.build [(.int .i64 0),(.int .i64 0),(.str []),.nils] [])⟩,oe 42 4,⟨sn,s0,.op (.store 4 (sv 2) (sv 40))⟩,⟨sn,s0,.op (.store 4 (sv 3) (sv 41))⟩,oe 4 42])
 (.tb [2,3,4] .ret)) (.ta .skip [2,3])))
 (.seq (.dops 5 [⟨0,(sd 43),s0,.load (some 4) (sv 2)⟩,⟨1,(sd 44),s0,.load (some 4) (sv 3)⟩,⟨2,sn,s0,.k2 (.op (.store 4 (sv 2) (sv 43))) [1]⟩,⟨3,sn,s0,.k2 (.op (.store 4 (sv 3) (sv 44))) []⟩,⟨4,(sd 4),s0,.pure (.ev (sc (.int .i64 0)))⟩])
 (.tb [2,3,4] .ret)))))))),[sk 2 (some 4),sk 3 (some 4),sr 4]⟩
theorem yCtl_ok:qbp Tryz.prog (fun _=>true) 85=some yCtl.er:=by kernel_rfl
theorem yOf_ok:qbp Tryz.prog (fun _=>true) 86=some yOf.er:=by kernel_rfl
theorem qz8:qbp Tryz.prog (fun _=>true) 34=some qd3.er:=by kernel_rfl
end Go.Proofs.YtdekdghldblfaaaGreatDoor
