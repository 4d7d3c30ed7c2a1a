/- The code of functions, looked up, its frames cut down. -/
import Derived.Test.YtcnnobcncklgfaaGreatDoorAbsS
import Derived.Test.YtcnnobcncklgfaaGreatDoorRows
import Derived.ProofKit
namespace Go.Proofs.YtcnnobcncklgfaaGreatDoor
open Go Go.Abs
def yOwna_ : YC := (.ta (.seq (.seq (.ops [⟨(sd 12), s0, .op (.ev (sv 4))⟩, ⟨(sd 13), s0, .op (.faddr 3 (sv 1))⟩, ⟨(sd 14), s0, .op (.load none (sv 13))⟩, ⟨(sd 15), s0, .op (.len false (sv 14))⟩, ⟨(sd 16), s0, .op (.bin .lss 3 (some (.int .i64)) false (sv 12) (sv 15))⟩])
 (.cond (sv 16) (.ta .skip [1, 2, 3, 4]) (.tb [2, 3] (.exit 0))))
 (.seq (.block 1 (.dops 12 [⟨0, (sd 19), s0, .pure (.faddr 3 (sv 3))⟩, ⟨1, (sd 20), s0, .load none (sv 19)⟩, ⟨2, (sd 21), s0, .pure (.faddr 3 (sv 1))⟩, ⟨3, (sd 22), s0, .load none (sv 21)⟩, ⟨4, (sd 23), s0, .pure (.ev (sv 4))⟩, ⟨5, (sd 24), s0, .pure (.iaddr 4 (sv 22) (sv 23))⟩, ⟨6, (sd 25), s0, .load (some 4) (sv 24)⟩, ⟨7, (sd 26), s0, .k2 (.call (sc (.fn (.func 20) [])) [(sv 25)]) [1]⟩, ⟨8, (sd 27), s0, .alloc (.bslice 4 1 [(.int .i64 0), (.int .i64 0), (.str []), .nils] [(0, 4, (sv 26))])⟩, ⟨9, (sd 28), s0, .k2 (.op (.app 4 56 (sv 20) (sv 27))) []⟩, ⟨10, (sd 29), s0, .pure (.faddr 3 (sv 3))⟩, ⟨11, sn, s0, .k2 (.op (.store 1 (sv 29) (sv 28))) []⟩]))
 (.ops [⟨(sd 17), s0, .op (.ev (sv 4))⟩, ⟨(sd 18), s0, .op (.bin .add 3 (some (.int .i64)) true (sv 17) (sc (.int .i64 1)))⟩, ⟨(sd 4), s0, .op (.ev (sv 18))⟩]))) [1, 2, 3, 4])
def yOwna : YC := yOwna_
theorem yOwna_r (call : ICall) (F : Nat) (T : Tr AV) (H : AH) : run call F yOwna T H = ycode call F yOwna_ T H := (rfl)
def yOwn : YF := ⟨31, (.seq (.ops [⟨(sd 1), s0, .op (.new (sv 0))⟩, ⟨(sd 2), s0, .op (.new (sc (.agg [(.int .i64 0), (.int .i64 0), (.str []), .nils])))⟩])
 (.seq (.ops [⟨(sd 5), s0, .op (.faddr 0 (sv 1))⟩, ⟨(sd 6), s0, .op (.load none (sv 5))⟩, ⟨(sd 7), s0, .op (.faddr 1 (sv 1))⟩, ⟨(sd 8), s0, .op (.load none (sv 7))⟩, ⟨(sd 9), s0, .op (.faddr 2 (sv 1))⟩, ⟨(sd 10), s0, .op (.load none (sv 9))⟩, ⟨(sd 11), s0, .op (.build [(.int .i64 0), (.int .i64 0), (.str []), .nils] [(0, 1, (sv 6)), (1, 1, (sv 8)), (2, 1, (sv 10))])⟩, ⟨(sd 3), s0, .op (.new (sc (.agg [(.int .i64 0), (.int .i64 0), (.str []), .nils])))⟩, ⟨sn, s0, .op (.store 4 (sv 3) (sv 11))⟩])
 (.seq (.seq (.ops [⟨(sd 4), s0, .op (.ev (sc (.int .i64 0)))⟩])
 (.block 0 (.tb [1, 2, 3, 4] (.loop yOwna))))
 (.seq (.ops [⟨(sd 30), s0, .op (.load (some 4) (sv 3))⟩, ⟨sn, s0, .op (.store 4 (sv 2) (sv 30))⟩])
 (.tb [2] .ret))))), [sk 2 (some 4)]⟩
def yDeepa_ : YC := (.ta (.seq (.seq (.ops [⟨(sd 14), s0, .op (.ev (sv 5))⟩, ⟨(sd 15), s0, .op (.faddr 3 (sv 2))⟩, ⟨(sd 16), s0, .op (.load none (sv 15))⟩, ⟨(sd 17), s0, .op (.len false (sv 16))⟩, ⟨(sd 18), s0, .op (.bin .lss 3 (some (.int .i64)) false (sv 14) (sv 17))⟩])
 (.cond (sv 18) (.ta .skip [1, 2, 5]) (.tb [] (.exit 0))))
 (.seq (.block 1 (.seq (.ops [⟨(sd 21), s0, .op (.faddr 3 (sv 2))⟩, ⟨(sd 22), s0, .op (.load none (sv 21))⟩, ⟨(sd 23), s0, .op (.ev (sv 5))⟩, ⟨(sd 24), s0, .op (.iaddr 4 (sv 22) (sv 23))⟩, ⟨(sd 25), s0, .op (.load (some 4) (sv 24))⟩, ⟨(sd 26), s0, .op (.ev (sv 1))⟩, ⟨(sd 27), s0, .op (.bin .sub 3 (some (.int .i64)) true (sv 26) (sc (.int .i64 1)))⟩, ⟨(sd 28), s0, .call (sc (.fn (.func 12) [])) [(sv 25), (sv 27)]⟩])
 (.cond (sv 28) (.seq (.ops [⟨(sd 4), s0, .op (.ev (sc (.bool true)))⟩])
 (.tb [4] .ret)) (.ta .skip [1, 2, 5]))))
 (.ops [⟨(sd 19), s0, .op (.ev (sv 5))⟩, ⟨(sd 20), s0, .op (.bin .add 3 (some (.int .i64)) true (sv 19) (sc (.int .i64 1)))⟩, ⟨(sd 5), s0, .op (.ev (sv 20))⟩]))) [1, 2, 5])
def yDeepa : YC := yDeepa_
theorem yDeepa_r (call : ICall) (F : Nat) (T : Tr AV) (H : AH) : run call F yDeepa T H = ycode call F yDeepa_ T H := (rfl)
def yDeep : YF := ⟨29, (.seq (.ops [⟨(sd 2), s0, .op (.new (sv 0))⟩, ⟨(sd 4), s0, .op (.ev (sc (.bool false)))⟩])
 (.seq (.seq (.ops [⟨(sd 6), s0, .op (.ev (sv 1))⟩, ⟨(sd 7), s0, .op (.bin .lss 3 (some (.int .i64)) true (sv 6) (sc (.int .i64 1)))⟩, ⟨(sd 8), s0, .op (.ev (sv 7))⟩, ⟨(sd 9), (sg 8 false), .op (.faddr 3 (sv 2))⟩, ⟨(sd 10), (sg 8 false), .op (.load none (sv 9))⟩, ⟨(sd 11), (sg 8 false), .op (.len false (sv 10))⟩, ⟨(sd 12), (sg 8 false), .op (.bin .gtr 3 (some (.int .i64)) true (sv 11) (sc (.int .i64 12)))⟩, ⟨(sd 13), s0, .op (.pick (sv 8) (sc (.bool true)) (sv 12))⟩])
 (.cond (sv 13) (.seq (.ops [⟨(sd 4), s0, .op (.ev (sc (.bool true)))⟩])
 (.tb [4] .ret)) (.ta .skip [1, 2])))
 (.seq (.seq (.ops [⟨(sd 5), s0, .op (.ev (sc (.int .i64 0)))⟩])
 (.block 0 (.tb [1, 2, 5] (.loop yDeepa))))
 (.seq (.ops [⟨(sd 4), s0, .op (.ev (sc (.bool false)))⟩])
 (.tb [4] .ret))))), [sr 4]⟩
set_option maxRecDepth 100000 in
theorem yOwn_ok : cFun Tryz.prog (fun _ => true) 20 = some yOwn.er := by kernel_rfl
set_option maxRecDepth 100000 in
theorem yDeep_ok : cFun Tryz.prog (fun _ => true) 12 = some yDeep.er := by kernel_rfl
end Go.Proofs.YtcnnobcncklgfaaGreatDoor
