import Derived.Test.YtdekdghldblfaaaGreatDoorAbsS
import Derived.Test.YtdekdghldblfaaaGreatDoorRows
import Derived.ProofKit
set_option linter.unusedVariables false
set_option linter.unusedSimpArgs false
namespace Go.Proofs.YtdekdghldblfaaaGreatDoor
open Go Go.Abs
set_option maxRecDepth 100000
def qij : YC:=(.ta (.seq (.seq (.ops [oe 7 6,⟨(sd 8),s0,.op (.faddr 3 (sv 2))⟩,⟨(sd 9),s0,.op (.load none (sv 8))⟩,⟨(sd 10),s0,.op (.len false (sv 9))⟩,⟨(sd 11),s0,.op (.bin .lss 3 (some (.int .i64)) false (sv 7) (sv 10))⟩,oe 12 11,⟨(sd 13),(sg 12 true),.op (.ev (sv 5))⟩,⟨(sd 14),(sg 12 true),.op (.ev (sv 1))⟩,⟨(sd 15),(sg 12 true),.op (.bin .leq 3 (some (.int .i64)) false (sv 13) (sv 14))⟩,⟨(sd 16),s0,.op (.pick (sv 12) (sv 15) (sc (.bool false)))⟩])
 (.cond (sv 16) (.ta .skip [1,2,5,6]) (.tb [5] (.exit 0))))
 (.seq (.block 1 (.ops [oe 19 5,⟨(sd 20),s0,.op (.faddr 3 (sv 2))⟩,⟨(sd 21),s0,.op (.load none (sv 20))⟩,oe 22 6,⟨(sd 23),s0,.op (.iaddr 4 (sv 21) (sv 22))⟩,⟨(sd 24),s0,.op (.load (some 4) (sv 23))⟩,oe 25 1,oe 26 5,⟨(sd 27),s0,.op (.bin .sub 3 (some (.int .i64)) false (sv 25) (sv 26))⟩,⟨(sd 28),s0,.call (sc (.fn (.func 123) [])) [(sv 24),(sv 27)]⟩,⟨(sd 29),s0,.op (.bin .add 3 (some (.int .i64)) false (sv 19) (sv 28))⟩,oe 5 29]))
 (.ops [oe 17 6,⟨(sd 18),s0,.op (.bin .add 3 (some (.int .i64)) true (sv 17) (sc (.int .i64 1)))⟩,oe 6 18]))) [1,2,5,6])
def qux:YC:=qij
theorem ql5(call:qar)(F:Nat)(T:Tr AV)(H:AH):run call F qux T H=ycode call F qij T H:=(rfl)
def yRSize : YF:=⟨31,(.seq (.ops [⟨(sd 2),s0,.op (.new (sv 0))⟩,⟨(sd 4),s0,.op (.ev (sc (.int .i64 0)))⟩])
 (.seq (.ops [⟨(sd 5),s0,.op (.ev (sc (.int .i64 1)))⟩])
 (.seq (.seq (.ops [⟨(sd 6),s0,.op (.ev (sc (.int .i64 0)))⟩])
 (.block 0 (.tb [1,2,5,6] (.loop qux))))
 (.seq (.ops [oe 30 5,oe 4 30])
 (.tb [4] .ret))))),[sr 4]⟩
def qf6 : YC:=(.ta (.seq (.seq (.ops [oe 10 6,⟨(sd 11),s0,.op (.faddr 3 (sv 2))⟩,⟨(sd 12),s0,.op (.load none (sv 11))⟩,⟨(sd 13),s0,.op (.len false (sv 12))⟩,⟨(sd 14),s0,.op (.bin .lss 3 (some (.int .i64)) false (sv 10) (sv 13))⟩])
 (.cond (sv 14) (.ta .skip [1,2,5,6]) (.tb [5] (.exit 0))))
 (.seq (.block 1 (.seq (.ops [⟨(sd 17),s0,.op (.faddr 3 (sv 2))⟩,⟨(sd 18),s0,.op (.load none (sv 17))⟩,oe 19 6,⟨(sd 20),s0,.op (.iaddr 4 (sv 18) (sv 19))⟩,⟨(sd 21),s0,.op (.load (some 4) (sv 20))⟩,oe 22 1,⟨(sd 23),s0,.op (.bin .sub 3 (some (.int .i64)) true (sv 22) (sc (.int .i64 1)))⟩,⟨(sd 24),s0,.call (sc (.fn (.func 124) [])) [(sv 21),(sv 23)]⟩,oe 7 24])
 (.seq (.ops [oe 25 7,oe 26 5,⟨(sd 27),s0,.op (.bin .gtr 3 (some (.int .i64)) false (sv 25) (sv 26))⟩])
 (.cond (sv 27) (.ta (.ops [oe 28 7,oe 5 28]) [1,2,5,6]) (.ta .skip [1,2,5,6])))))
 (.ops [oe 15 6,⟨(sd 16),s0,.op (.bin .add 3 (some (.int .i64)) true (sv 15) (sc (.int .i64 1)))⟩,oe 6 16]))) [1,2,5,6])
def qpt:YC:=qf6
theorem qjv(call:qar)(F:Nat)(T:Tr AV)(H:AH):run call F qpt T H=ycode call F qf6 T H:=(rfl)
def qu4 : YF:=⟨31,(.seq (.ops [⟨(sd 2),s0,.op (.new (sv 0))⟩,⟨(sd 4),s0,.op (.ev (sc (.int .i64 0)))⟩])
 (.seq (.seq (.ops [oe 8 1,⟨(sd 9),s0,.op (.bin .leq 3 (some (.int .i64)) true (sv 8) (sc (.int .i64 0)))⟩])
 (.cond (sv 9) (.seq (.ops [⟨(sd 4),s0,.op (.ev (sc (.int .i64 1)))⟩])
 (.tb [4] .ret)) (.ta .skip [1,2])))
 (.seq (.ops [⟨(sd 5),s0,.op (.ev (sc (.int .i64 0)))⟩])
 (.seq (.seq (.ops [⟨(sd 6),s0,.op (.ev (sc (.int .i64 0)))⟩])
 (.block 0 (.tb [1,2,5,6] (.loop qpt))))
 (.seq (.ops [oe 29 5,⟨(sd 30),s0,.op (.bin .add 3 (some (.int .i64)) true (sv 29) (sc (.int .i64 1)))⟩,oe 4 30])
 (.tb [4] .ret)))))),[sr 4]⟩
def qc3 : YC:=(.ta (.seq (.seq (.ops [oe 57 3,⟨(sd 58),s0,.op (.faddr 2 (sv 1))⟩,⟨(sd 59),s0,.op (.load none (sv 58))⟩,⟨(sd 60),s0,.op (.len true (sv 59))⟩,⟨(sd 61),s0,.op (.bin .lss 3 (some (.int .i64)) false (sv 57) (sv 60))⟩])
 (.cond (sv 61) (.ta .skip [1,3]) (.tb [1] (.exit 1))))
 (.seq (.block 2 (.seq (.ops [⟨(sd 64),s0,.op (.faddr 2 (sv 1))⟩,⟨(sd 65),s0,.op (.load none (sv 64))⟩,oe 66 3,⟨(sd 67),s0,.op (.index (sv 65) (sv 66))⟩,oe 4 67])
 (.seq (.ops [oe 68 4,⟨(sd 69),s0,.op (.bin .neq 5 (some (.int .u8)) true (sv 68) (sc (.int .u8 9)))⟩,oe 70 69,⟨(sd 71),(sg 70 true),.op (.ev (sv 4))⟩,⟨(sd 72),(sg 70 true),.op (.bin .neq 5 (some (.int .u8)) true (sv 71) (sc (.int .u8 10)))⟩,⟨(sd 73),s0,.op (.pick (sv 70) (sv 72) (sc (.bool false)))⟩,oe 74 73,⟨(sd 75),(sg 74 true),.op (.ev (sv 4))⟩,⟨(sd 76),(sg 74 true),.op (.bin .lss 5 (some (.int .u8)) true (sv 75) (sc (.int .u8 32)))⟩,⟨(sd 77),(sg 74 true),.op (.ev (sv 76))⟩,⟨(sd 78),(sg 77 false),.op (.ev (sv 4))⟩,⟨(sd 79),(sg 77 false),.op (.bin .gtr 5 (some (.int .u8)) true (sv 78) (sc (.int .u8 126)))⟩,⟨(sd 80),(sg 74 true),.op (.pick (sv 77) (sc (.bool true)) (sv 79))⟩,⟨(sd 81),s0,.op (.pick (sv 74) (sv 80) (sc (.bool false)))⟩])
 (.cond (sv 81) (.seq (.ops [⟨(sd 2),s0,.op (.ev (sc (.bool false)))⟩])
 (.tb [2] .ret)) (.ta .skip [1,3])))))
 (.ops [oe 62 3,⟨(sd 63),s0,.op (.bin .add 3 (some (.int .i64)) true (sv 62) (sc (.int .i64 1)))⟩,oe 3 63]))) [1,3])
def qma:YC:=qc3
theorem qdl(call:qar)(F:Nat)(T:Tr AV)(H:AH):run call F qma T H=ycode call F qc3 T H:=(rfl)
def qfa : YC:=(.ta (.seq (.seq (.ops [oe 82 5,⟨(sd 83),s0,.op (.faddr 3 (sv 1))⟩,⟨(sd 84),s0,.op (.load none (sv 83))⟩,⟨(sd 85),s0,.op (.len false (sv 84))⟩,⟨(sd 86),s0,.op (.bin .lss 3 (some (.int .i64)) false (sv 82) (sv 85))⟩])
 (.cond (sv 86) (.ta .skip [1,5]) (.tb [] (.exit 3))))
 (.seq (.block 4 (.seq (.ops [⟨(sd 89),s0,.op (.faddr 3 (sv 1))⟩,⟨(sd 90),s0,.op (.load none (sv 89))⟩,oe 91 5,⟨(sd 92),s0,.op (.iaddr 4 (sv 90) (sv 91))⟩,⟨(sd 93),s0,.op (.load (some 4) (sv 92))⟩,⟨(sd 94),s0,.call (sc (.fn (.func 125) [])) [(sv 93)]⟩,⟨(sd 95),s0,.op (.un .not (sv 94))⟩])
 (.cond (sv 95) (.seq (.ops [⟨(sd 2),s0,.op (.ev (sc (.bool false)))⟩])
 (.tb [2] .ret)) (.ta .skip [1,5]))))
 (.ops [oe 87 5,⟨(sd 88),s0,.op (.bin .add 3 (some (.int .i64)) true (sv 87) (sc (.int .i64 1)))⟩,oe 5 88]))) [1,5])
def ql9:YC:=qfa
theorem qh0(call:qar)(F:Nat)(T:Tr AV)(H:AH):run call F ql9 T H=ycode call F qfa T H:=(rfl)
def qbt : YF:=⟨96,(.seq (.ops [⟨(sd 1),s0,.op (.new (sv 0))⟩,⟨(sd 2),s0,.op (.ev (sc (.bool false)))⟩])
 (.seq (.seq (.ops [⟨(sd 6),s0,.op (.faddr 0 (sv 1))⟩,⟨(sd 7),s0,.op (.load none (sv 6))⟩])
 (.block 0 (.seq (.ops [⟨(sd 9),s0,.op (.bin .eql 3 (some (.int .i64)) true (sv 7) (sc (.int .i64 0)))⟩,oe 8 9])
 (.cond (sv 8) (.seq (.ops [⟨(sd 10),s0,.op (.faddr 1 (sv 1))⟩,⟨(sd 11),s0,.op (.load none (sv 10))⟩,⟨(sd 12),s0,.op (.bin .geq 2 (some (.int .i64)) true (sv 11) (sc (.int .i64 0)))⟩,oe 13 12,⟨(sd 14),(sg 13 true),.op (.faddr 1 (sv 1))⟩,⟨(sd 15),(sg 13 true),.op (.load none (sv 14))⟩,⟨(sd 16),(sg 13 true),.op (.bin .lss 2 (some (.int .i64)) true (sv 15) (sc (.int .i64 2147483648)))⟩,⟨(sd 17),s0,.op (.pick (sv 13) (sv 16) (sc (.bool false)))⟩,oe 18 17,⟨(sd 19),(sg 18 true),.op (.faddr 2 (sv 1))⟩,⟨(sd 20),(sg 18 true),.op (.load none (sv 19))⟩,⟨(sd 21),(sg 18 true),.op (.bin .eql 9 (some .string) true (sv 20) (sc (.str [])))⟩,⟨(sd 22),s0,.op (.pick (sv 18) (sv 21) (sc (.bool false)))⟩,oe 23 22,⟨(sd 24),(sg 23 true),.op (.faddr 3 (sv 1))⟩,⟨(sd 25),(sg 23 true),.op (.load none (sv 24))⟩,⟨(sd 26),(sg 23 true),.op (.len false (sv 25))⟩,⟨(sd 27),(sg 23 true),.op (.bin .eql 3 (some (.int .i64)) true (sv 26) (sc (.int .i64 0)))⟩,⟨(sd 28),s0,.op (.pick (sv 23) (sv 27) (sc (.bool false)))⟩,oe 2 28])
 (.tb [2] .ret)) (.ta (.seq (.ops [⟨(sd 30),s0,.op (.bin .eql 3 (some (.int .i64)) true (sv 7) (sc (.int .i64 1)))⟩,oe 29 30])
 (.cond (sv 29) (.seq (.ops [⟨(sd 31),s0,.op (.faddr 2 (sv 1))⟩,⟨(sd 32),s0,.op (.load none (sv 31))⟩,⟨(sd 33),s0,.op (.bin .eql 9 (some .string) true (sv 32) (sc (.str [])))⟩,oe 34 33,⟨(sd 35),(sg 34 true),.op (.faddr 3 (sv 1))⟩,⟨(sd 36),(sg 34 true),.op (.load none (sv 35))⟩,⟨(sd 37),(sg 34 true),.op (.len false (sv 36))⟩,⟨(sd 38),(sg 34 true),.op (.bin .eql 3 (some (.int .i64)) true (sv 37) (sc (.int .i64 0)))⟩,⟨(sd 39),s0,.op (.pick (sv 34) (sv 38) (sc (.bool false)))⟩,oe 2 39])
 (.tb [2] .ret)) (.ta (.seq (.ops [⟨(sd 41),s0,.op (.bin .eql 3 (some (.int .i64)) true (sv 7) (sc (.int .i64 2)))⟩,oe 40 41])
 (.cond (sv 40) (.ta .skip [1]) (.seq (.ops [⟨(sd 2),s0,.op (.ev (sc (.bool false)))⟩])
 (.tb [2] .ret)))) [1]))) [1])))))
 (.seq (.seq (.ops [⟨(sd 42),s0,.op (.faddr 1 (sv 1))⟩,⟨(sd 43),s0,.op (.load none (sv 42))⟩,⟨(sd 44),s0,.op (.bin .neq 2 (some (.int .i64)) true (sv 43) (sc (.int .i64 0)))⟩,oe 45 44,⟨(sd 46),(sg 45 false),.op (.faddr 2 (sv 1))⟩,⟨(sd 47),(sg 45 false),.op (.load none (sv 46))⟩,⟨(sd 48),(sg 45 false),.op (.len true (sv 47))⟩,⟨(sd 49),(sg 45 false),.op (.bin .gtr 3 (some (.int .i64)) true (sv 48) (sc (.int .i64 64)))⟩,⟨(sd 50),s0,.op (.pick (sv 45) (sc (.bool true)) (sv 49))⟩,oe 51 50,⟨(sd 52),(sg 51 false),.op (.faddr 3 (sv 1))⟩,⟨(sd 53),(sg 51 false),.op (.load none (sv 52))⟩,⟨(sd 54),(sg 51 false),.op (.len false (sv 53))⟩,⟨(sd 55),(sg 51 false),.op (.bin .gtr 3 (some (.int .i64)) true (sv 54) (sc (.int .i64 8)))⟩,⟨(sd 56),s0,.op (.pick (sv 51) (sc (.bool true)) (sv 55))⟩])
 (.cond (sv 56) (.seq (.ops [⟨(sd 2),s0,.op (.ev (sc (.bool false)))⟩])
 (.tb [2] .ret)) (.ta .skip [1])))
 (.seq (.seq (.ops [⟨(sd 3),s0,.op (.ev (sc (.int .i64 0)))⟩])
 (.block 1 (.tb [1,3] (.loop qma))))
 (.seq (.seq (.ops [⟨(sd 5),s0,.op (.ev (sc (.int .i64 0)))⟩])
 (.block 3 (.tb [1,5] (.loop ql9))))
 (.seq (.ops [⟨(sd 2),s0,.op (.ev (sc (.bool true)))⟩])
 (.tb [2] .ret))))))),[sr 2]⟩
def qw9 : YF:=⟨15,(.seq (.ops [⟨(sd 1),s0,.op (.new (sv 0))⟩,⟨(sd 2),s0,.op (.ev (sc (.bool false)))⟩])
 (.seq (.ops [⟨(sd 3),s0,.op (.load (some 4) (sv 1))⟩,⟨(sd 4),s0,.call (sc (.fn (.func 123) [])) [(sv 3),(sc (.int .i64 2000))]⟩,⟨(sd 5),s0,.op (.bin .leq 3 (some (.int .i64)) true (sv 4) (sc (.int .i64 2000)))⟩,oe 6 5,⟨(sd 7),(sg 6 true),.op (.load (some 4) (sv 1))⟩,⟨(sd 8),(sg 6 true),.call (sc (.fn (.func 124) [])) [(sv 7),(sc (.int .i64 64))]⟩,⟨(sd 9),(sg 6 true),.op (.bin .leq 3 (some (.int .i64)) true (sv 8) (sc (.int .i64 64)))⟩,⟨(sd 10),s0,.op (.pick (sv 6) (sv 9) (sc (.bool false)))⟩,oe 11 10,⟨(sd 12),(sg 11 true),.op (.load (some 4) (sv 1))⟩,⟨(sd 13),(sg 11 true),.call (sc (.fn (.func 125) [])) [(sv 12)]⟩,⟨(sd 14),s0,.op (.pick (sv 11) (sv 13) (sc (.bool false)))⟩,oe 2 14])
 (.tb [2] .ret))),[sr 2]⟩
theorem q2j:qbp Tryz.prog (fun _=>true) 123=some yRSize.er:=by kernel_rfl
theorem qz2:qbp Tryz.prog (fun _=>true) 124=some qu4.er:=by kernel_rfl
theorem qu3:qbp Tryz.prog (fun _=>true) 125=some qbt.er:=by kernel_rfl
theorem q2n:qbp Tryz.prog (fun _=>true) 80=some qw9.er:=by kernel_rfl
end Go.Proofs.YtdekdghldblfaaaGreatDoor
