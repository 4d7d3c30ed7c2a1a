import Derived.Test.YtdekdghldblfaaaGreatDoorAbsS
import Derived.Test.YtdekdghldblfaaaGreatDoorRows
import Derived.ProofKit
set_option linter.unusedVariables false
set_option linter.unusedSimpArgs false
namespace Go.Proofs.YtdekdghldblfaaaGreatDoor
open Go Go.Abs
set_option maxRecDepth 100000
def yTVar : YF:=⟨5,(.seq (.ops [⟨(sd 2),s0,.op (.new (sc (.agg [(.int .i64 0),(.int .i64 0),(.str []),.nils])))⟩])
 (.seq (.ops [oe 3 0,⟨(sd 4),s0,.op (.build [(.int .i64 0),(.int .i64 0),(.str []),.nils] [(0,1,(sc (.int .i64 0))),(1,1,(sv 3))])⟩,⟨sn,s0,.op (.store 4 (sv 2) (sv 4))⟩])
 (.tb [2] .ret))),[sk 2 (some 4)]⟩
def qsc : YF:=⟨9,(.seq (.ops [⟨(sd 4),s0,.op (.ev (sc (.bool false)))⟩])
 (.seq (.ops [oe 5 0,oe 6 1,⟨(sd 7),s0,.call (sc (.fn (.func 143) [])) [(sv 5),(sv 6)]⟩,⟨(sd 8),s0,.op (.bin .geq 3 (some (.int .i64)) true (sv 7) (sc (.int .i64 0)))⟩,oe 4 8])
 (.tb [4] .ret))),[sr 4]⟩
def q25 : YF:=⟨8,(.seq (.ops [⟨(sd 2),s0,.op (.ev (sc .nils))⟩])
 (.seq (.seq (.ops [oe 3 0,⟨(sd 4),s0,.op (.bin .eql 72 (some (.slice 9)) true (sv 3) (sc .nils))⟩])
 (.cond (sv 4) (.seq (.ops [⟨(sd 2),s0,.op (.ev (sc .nils))⟩])
 (.tb [2] .ret)) (.ta .skip [0])))
 (.seq (.ops [⟨(sd 5),s0,.op (.empty)⟩,oe 6 0,⟨(sd 7),s0,.op (.app 1 16 (sv 5) (sv 6))⟩,oe 2 7])
 (.tb [2] .ret)))),[sr 2]⟩
def q26 : YF:=⟨8,(.seq (.ops [⟨(sd 2),s0,.op (.ev (sc .nils))⟩])
 (.seq (.seq (.ops [oe 3 0,⟨(sd 4),s0,.op (.bin .eql 101 (some (.slice 76)) true (sv 3) (sc .nils))⟩])
 (.cond (sv 4) (.seq (.ops [⟨(sd 2),s0,.op (.ev (sc .nils))⟩])
 (.tb [2] .ret)) (.ta .skip [0])))
 (.seq (.ops [⟨(sd 5),s0,.op (.empty)⟩,oe 6 0,⟨(sd 7),s0,.op (.app 4 40 (sv 5) (sv 6))⟩,oe 2 7])
 (.tb [2] .ret)))),[sr 2]⟩
def qh1 : YF:=⟨8,(.seq (.ops [⟨(sd 2),s0,.op (.ev (sc .nils))⟩])
 (.seq (.seq (.ops [oe 3 0,⟨(sd 4),s0,.op (.bin .eql 39 (some (.slice 42)) true (sv 3) (sc .nils))⟩])
 (.cond (sv 4) (.seq (.ops [⟨(sd 2),s0,.op (.ev (sc .nils))⟩])
 (.tb [2] .ret)) (.ta .skip [0])))
 (.seq (.ops [⟨(sd 5),s0,.op (.empty)⟩,oe 6 0,⟨(sd 7),s0,.op (.app 10 128 (sv 5) (sv 6))⟩,oe 2 7])
 (.tb [2] .ret)))),[sr 2]⟩
def yNew : YF:=⟨22,(.seq (.ops [⟨(sd 4),s0,.op (.ev (sc .nilp))⟩,⟨(sd 5),s0,.op (.ev (sc (.int .i64 0)))⟩])
 (.seq (.seq (.ops [oe 6 0,⟨(sd 7),s0,.op (.bin .eql 63 (some (.pointer 155)) true (sv 6) (sc .nilp))⟩,oe 8 7,⟨(sd 9),(sg 8 false),.op (.ev (sv 1))⟩,⟨(sd 10),(sg 8 false),.op (.bin .lss 3 (some (.int .i64)) true (sv 9) (sc (.int .i64 1)))⟩,⟨(sd 11),s0,.op (.pick (sv 8) (sc (.bool true)) (sv 10))⟩,oe 12 11,⟨(sd 13),(sg 12 false),.op (.ev (sv 1))⟩,⟨(sd 14),(sg 12 false),.op (.bin .gtr 3 (some (.int .i64)) true (sv 13) (sc (.int .i64 64)))⟩,⟨(sd 15),s0,.op (.pick (sv 12) (sc (.bool true)) (sv 14))⟩])
 (.cond (sv 15) (.seq (.ops [⟨(sd 4),s0,.op (.ev (sc .nilp))⟩,⟨(sd 5),s0,.op (.ev (sc (.int .i64 1)))⟩])
 (.tb [4,5] .ret)) (.ta .skip [0,1])))
 (.seq (.ops [oe 16 0,oe 17 1,⟨(sd 18),s0,.op (.mop .make [])⟩,⟨(sd 19),s0,.op (.mop .make [])⟩,⟨(sd 20),s0,.op (.build [.nilp,(.int .i64 0),(.int .i64 0),.nilm,.nilm] [(0,1,(sv 16)),(1,1,(sv 17)),(3,1,(sv 18)),(4,1,(sv 19))])⟩,⟨(sd 21),s0,.op (.new (sv 20))⟩,oe 4 21,⟨(sd 5),s0,.op (.ev (sc (.int .i64 0)))⟩])
 (.tb [4,5] .ret)))),[sr 4,sr 5]⟩
theorem yTVar_ok:qbp Tryz.prog (fun _=>true) 29=some yTVar.er:=by kernel_rfl
theorem qsb:qbp Tryz.prog (fun _=>true) 116=some qsc.er:=by kernel_rfl
theorem qz6:qbp Tryz.prog (fun _=>true) 77=some q25.er:=by kernel_rfl
theorem qz7:qbp Tryz.prog (fun _=>true) 91=some q26.er:=by kernel_rfl
theorem qob:qbp Tryz.prog (fun _=>true) 40=some qh1.er:=by kernel_rfl
theorem yNew_ok:qbp Tryz.prog (fun _=>true) 23=some yNew.er:=by kernel_rfl
end Go.Proofs.YtdekdghldblfaaaGreatDoor
