/- The code of functions, looked up, its frames cut down. -/
import Derived.Test.YtdekdghldblfaaaGreatDoorAbsS
import Derived.Test.YtdekdghldblfaaaGreatDoorRows
import Derived.ProofKit
namespace Go.Proofs.YtdekdghldblfaaaGreatDoor
open Go Go.Abs
def ySame : YF := ⟨16, (.seq (.ops [⟨(sd 2), s0, .op (.new (sv 0))⟩, ⟨(sd 3), s0, .op (.new (sv 1))⟩, ⟨(sd 4), s0, .op (.ev (sc (.bool false)))⟩])
 (.seq (.ops [⟨(sd 5), s0, .op (.load (some 4) (sv 2))⟩, ⟨(sd 6), s0, .call (sc (.fn (.func 42) [])) [(sv 5)]⟩, ⟨(sd 7), s0, .op (.ev (sv 6))⟩, ⟨(sd 8), (sg 7 true), .op (.load (some 4) (sv 3))⟩, ⟨(sd 9), (sg 7 true), .call (sc (.fn (.func 42) [])) [(sv 8)]⟩, ⟨(sd 10), s0, .op (.pick (sv 7) (sv 9) (sc (.bool false)))⟩, ⟨(sd 11), s0, .op (.ev (sv 10))⟩, ⟨(sd 12), (sg 11 true), .op (.load (some 4) (sv 2))⟩, ⟨(sd 13), (sg 11 true), .op (.load (some 4) (sv 3))⟩, ⟨(sd 14), (sg 11 true), .call (sc (.fn (.func 43) [])) [(sv 12), (sv 13)]⟩, ⟨(sd 15), s0, .op (.pick (sv 11) (sv 14) (sc (.bool false)))⟩, ⟨(sd 4), s0, .op (.ev (sv 15))⟩])
 (.tb [4] .ret))), [sr 4]⟩
def ysame : YF := ⟨31, (.seq (.ops [⟨(sd 2), s0, .op (.new (sv 0))⟩, ⟨(sd 3), s0, .op (.new (sv 1))⟩, ⟨(sd 4), s0, .op (.ev (sc (.bool false)))⟩])
 (.seq (.ops [⟨(sd 5), s0, .op (.faddr 0 (sv 2))⟩, ⟨(sd 6), s0, .op (.load none (sv 5))⟩, ⟨(sd 7), s0, .op (.faddr 0 (sv 3))⟩, ⟨(sd 8), s0, .op (.load none (sv 7))⟩, ⟨(sd 9), s0, .op (.bin .eql 3 (some (.int .i64)) false (sv 6) (sv 8))⟩, ⟨(sd 10), s0, .op (.ev (sv 9))⟩, ⟨(sd 11), (sg 10 true), .op (.faddr 1 (sv 2))⟩, ⟨(sd 12), (sg 10 true), .op (.load none (sv 11))⟩, ⟨(sd 13), (sg 10 true), .op (.faddr 1 (sv 3))⟩, ⟨(sd 14), (sg 10 true), .op (.load none (sv 13))⟩, ⟨(sd 15), (sg 10 true), .op (.bin .eql 2 (some (.int .i64)) false (sv 12) (sv 14))⟩, ⟨(sd 16), s0, .op (.pick (sv 10) (sv 15) (sc (.bool false)))⟩, ⟨(sd 17), s0, .op (.ev (sv 16))⟩, ⟨(sd 18), (sg 17 true), .op (.faddr 2 (sv 2))⟩, ⟨(sd 19), (sg 17 true), .op (.load none (sv 18))⟩, ⟨(sd 20), (sg 17 true), .op (.faddr 2 (sv 3))⟩, ⟨(sd 21), (sg 17 true), .op (.load none (sv 20))⟩, ⟨(sd 22), (sg 17 true), .op (.bin .eql 9 (some .string) false (sv 19) (sv 21))⟩, ⟨(sd 23), s0, .op (.pick (sv 17) (sv 22) (sc (.bool false)))⟩, ⟨(sd 24), s0, .op (.ev (sv 23))⟩, ⟨(sd 25), (sg 24 true), .op (.faddr 3 (sv 2))⟩, ⟨(sd 26), (sg 24 true), .op (.load none (sv 25))⟩, ⟨(sd 27), (sg 24 true), .op (.faddr 3 (sv 3))⟩, ⟨(sd 28), (sg 24 true), .op (.load none (sv 27))⟩, ⟨(sd 29), (sg 24 true), .call (sc (.fn (.func 96) [])) [(sv 26), (sv 28), (sc (.fn (.func 43) []))]⟩, ⟨(sd 30), s0, .op (.pick (sv 24) (sv 29) (sc (.bool false)))⟩, ⟨(sd 4), s0, .op (.ev (sv 30))⟩])
 (.tb [4] .ret))), [sr 4]⟩
def yEqFa_ : YC := (.ta (.seq (.ops [⟨(sd 18), s0, .op (.bin .lss 3 (some (.int .i64)) false (sv 17) (sv 16))⟩])
 (.seq (.cond (sv 18) (.ta .skip [1, 2, 15, 16, 17]) (.tb [] (.exit 0)))
 (.seq (.block 1 (.seq (.ops [⟨(sd 19), s0, .op (.ev (sv 17))⟩, ⟨(sd 20), s0, .op (.iaddr 4 (sv 15) (sv 17))⟩, ⟨(sd 21), s0, .op (.load (some 4) (sv 20))⟩, ⟨(sd 8), s0, .op (.new (sc (.agg [(.int .i64 0), (.int .i64 0), (.str []), .nils])))⟩, ⟨(sd 7), s0, .op (.ev (sv 19))⟩, ⟨sn, s0, .op (.store 4 (sv 8) (sv 21))⟩])
 (.seq (.ops [⟨(sd 22), s0, .op (.ev (sv 1))⟩, ⟨(sd 23), s0, .op (.ev (sv 7))⟩, ⟨(sd 24), s0, .op (.iaddr 4 (sv 22) (sv 23))⟩, ⟨(sd 25), s0, .op (.load (some 4) (sv 24))⟩, ⟨(sd 9), s0, .op (.new (sc (.agg [(.int .i64 0), (.int .i64 0), (.str []), .nils])))⟩, ⟨sn, s0, .op (.store 4 (sv 9) (sv 25))⟩])
 (.seq (.ops [⟨(sd 26), s0, .op (.ev (sv 2))⟩, ⟨(sd 27), s0, .op (.load (some 4) (sv 8))⟩, ⟨(sd 28), s0, .op (.load (some 4) (sv 9))⟩, ⟨(sd 29), s0, .call (sv 26) [(sv 27), (sv 28)]⟩, ⟨(sd 30), s0, .op (.un .not (sv 29))⟩])
 (.cond (sv 30) (.seq (.ops [⟨(sd 6), s0, .op (.ev (sc (.bool false)))⟩])
 (.tb [6] .ret)) (.ta .skip [1, 2, 15, 16, 17]))))))
 (.ops [⟨(sd 31), s0, .op (.bin .add 3 (some (.int .i64)) true (sv 17) (sc (.int .i64 1)))⟩, ⟨(sd 17), s0, .op (.ev (sv 31))⟩])))) [1, 2, 15, 16, 17])
def yEqFa : YC := yEqFa_
theorem yEqFa_r (call : ICall) (F : Nat) (T : Tr AV) (H : AH) : run call F yEqFa T H = ycode call F yEqFa_ T H := (rfl)
def yEqF : YF := ⟨32, (.seq (.ops [⟨(sd 6), s0, .op (.ev (sc (.bool false)))⟩])
 (.seq (.seq (.ops [⟨(sd 10), s0, .op (.ev (sv 0))⟩, ⟨(sd 11), s0, .op (.len false (sv 10))⟩, ⟨(sd 12), s0, .op (.ev (sv 1))⟩, ⟨(sd 13), s0, .op (.len false (sv 12))⟩, ⟨(sd 14), s0, .op (.bin .neq 3 (some (.int .i64)) false (sv 11) (sv 13))⟩])
 (.cond (sv 14) (.seq (.ops [⟨(sd 6), s0, .op (.ev (sc (.bool false)))⟩])
 (.tb [6] .ret)) (.ta .skip [0, 1, 2])))
 (.seq (.seq (.ops [⟨(sd 15), s0, .op (.ev (sv 0))⟩, ⟨(sd 16), s0, .op (.len false (sv 15))⟩, ⟨(sd 17), s0, .op (.ev (sc (.int .i64 0)))⟩])
 (.block 0 (.tb [1, 2, 15, 16, 17] (.loop yEqFa))))
 (.seq (.ops [⟨(sd 6), s0, .op (.ev (sc (.bool true)))⟩])
 (.tb [6] .ret))))), [sr 6]⟩
set_option maxRecDepth 100000 in
theorem ySame_ok : cFun Tryz.prog (fun _ => true) 14 = some ySame.er := by kernel_rfl
set_option maxRecDepth 100000 in
theorem ysame_ok : cFun Tryz.prog (fun _ => true) 43 = some ysame.er := by kernel_rfl
set_option maxRecDepth 100000 in
theorem yEqF_ok : cFun Tryz.prog (fun _ => true) 96 = some yEqF.er := by kernel_rfl
end Go.Proofs.YtdekdghldblfaaaGreatDoor
