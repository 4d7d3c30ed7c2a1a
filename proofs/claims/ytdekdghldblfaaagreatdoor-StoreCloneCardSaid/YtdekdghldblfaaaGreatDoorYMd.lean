import Derived.Test.YtdekdghldblfaaaGreatDoorAbsS
import Derived.Test.YtdekdghldblfaaaGreatDoorRows
import Derived.ProofKit
set_option linter.unusedVariables false
set_option linter.unusedSimpArgs false
namespace Go.Proofs.YtdekdghldblfaaaGreatDoor
open Go Go.Abs
set_option maxRecDepth 100000
def qju : YC:=(.ta (.seq (.seq (.ops [oe 18 6,oe 19 1,⟨(sd 20),s0,.op (.len false (sv 19))⟩,⟨(sd 21),s0,.op (.bin .lss 3 (some (.int .i64)) false (sv 18) (sv 20))⟩])
 (.cond (sv 21) (.ta .skip [0,1,6]) (.tb [0,1] (.exit 0))))
 (.seq (.block 1 (.seq (.ops [oe 24 1,oe 25 6,⟨(sd 26),s0,.op (.iaddr 4 (sv 24) (sv 25))⟩,⟨(sd 27),s0,.op (.faddr 0 (sv 26))⟩,⟨(sd 28),s0,.op (.load none (sv 27))⟩,⟨(sd 29),s0,.call (sc (.fn (.func 81) [])) [(sv 28)]⟩,⟨(sd 30),s0,.call (sc (.fn (.func 80) [])) [(sv 29)]⟩,⟨(sd 31),s0,.op (.un .not (sv 30))⟩,oe 32 31,⟨(sd 33),(sg 32 false),.op (.ev (sv 1))⟩,⟨(sd 34),(sg 32 false),.op (.ev (sv 6))⟩,⟨(sd 35),(sg 32 false),.op (.iaddr 4 (sv 33) (sv 34))⟩,⟨(sd 36),(sg 32 false),.op (.faddr 1 (sv 35))⟩,⟨(sd 37),(sg 32 false),.op (.load none (sv 36))⟩,⟨(sd 38),(sg 32 false),.op (.bin .lss 3 (some (.int .i64)) true (sv 37) (sc (.int .i64 0)))⟩,⟨(sd 39),s0,.op (.pick (sv 32) (sc (.bool true)) (sv 38))⟩,oe 40 39,⟨(sd 41),(sg 40 false),.op (.ev (sv 1))⟩,⟨(sd 42),(sg 40 false),.op (.ev (sv 6))⟩,⟨(sd 43),(sg 40 false),.op (.iaddr 4 (sv 41) (sv 42))⟩,⟨(sd 44),(sg 40 false),.op (.faddr 1 (sv 43))⟩,⟨(sd 45),(sg 40 false),.op (.load none (sv 44))⟩,⟨(sd 46),(sg 40 false),.op (.bin .gtr 3 (some (.int .i64)) true (sv 45) (sc (.int .i64 8)))⟩,⟨(sd 47),s0,.op (.pick (sv 40) (sc (.bool true)) (sv 46))⟩,oe 48 47,⟨(sd 49),(sg 48 false),.op (.ev (sv 0))⟩,⟨(sd 50),(sg 48 false),.op (.ev (sv 1))⟩,⟨(sd 51),(sg 48 false),.op (.ev (sv 6))⟩,⟨(sd 52),(sg 48 false),.op (.iaddr 4 (sv 50) (sv 51))⟩,⟨(sd 53),(sg 48 false),.op (.faddr 2 (sv 52))⟩,⟨(sd 54),(sg 48 false),.op (.load none (sv 53))⟩,⟨(sd 55),(sg 48 false),.call (sc (.fn (.func 46) [])) [(sv 49),(sv 54)]⟩,⟨(sd 56),(sg 48 false),.op (.un .not (sv 55))⟩,⟨(sd 57),s0,.op (.pick (sv 48) (sc (.bool true)) (sv 56))⟩])
 (.cond (sv 57) (.seq (.ops [⟨(sd 4),s0,.op (.ev (sc .nilp))⟩,⟨(sd 5),s0,.op (.ev (sc (.int .i64 1)))⟩])
 (.tb [4,5] .ret)) (.ta .skip [0,1,6]))))
 (.ops [oe 22 6,⟨(sd 23),s0,.op (.bin .add 3 (some (.int .i64)) true (sv 22) (sc (.int .i64 1)))⟩,oe 6 23]))) [0,1,6])
def qr9:YC:=qju
theorem qu1(call:qar)(F:Nat)(T:Tr AV)(H:AH):run call F qr9 T H=ycode call F qju T H:=(rfl)
def qjt : YC:=(.ta (.seq (.seq (.ops [oe 58 7,oe 59 1,⟨(sd 60),s0,.op (.len false (sv 59))⟩,⟨(sd 61),s0,.op (.bin .lss 3 (some (.int .i64)) false (sv 58) (sv 60))⟩])
 (.cond (sv 61) (.ta .skip [0,1,7]) (.tb [0,1] (.exit 2))))
 (.seq (.block 3 (.seq (.dops 11 [⟨0,(sd 64),s0,.pure (.ev (sv 1))⟩,⟨1,(sd 65),s0,.pure (.ev (sv 7))⟩,⟨2,(sd 66),s0,.pure (.iaddr 4 (sv 64) (sv 65))⟩,⟨3,(sd 67),s0,.pure (.faddr 0 (sv 66))⟩,⟨4,(sd 68),s0,.load none (sv 67)⟩,⟨5,(sd 69),s0,.pure (.ev (sv 1))⟩,⟨6,(sd 70),s0,.pure (.ev (sv 7))⟩,⟨7,(sd 71),s0,.pure (.iaddr 4 (sv 69) (sv 70))⟩,⟨8,(sd 72),s0,.pure (.faddr 1 (sv 71))⟩,⟨9,(sd 73),s0,.load none (sv 72)⟩,⟨10,(sd 74),s0,.k2 (.call (sc (.fn (.func 82) [])) [(sv 68),(sv 73)]) []⟩])
 (.cond (sv 74) (.seq (.ops [⟨(sd 4),s0,.op (.ev (sc .nilp))⟩,⟨(sd 5),s0,.op (.ev (sc (.int .i64 8)))⟩])
 (.tb [4,5] .ret)) (.ta .skip [0,1,7]))))
 (.ops [oe 62 7,⟨(sd 63),s0,.op (.bin .add 3 (some (.int .i64)) true (sv 62) (sc (.int .i64 1)))⟩,oe 7 63]))) [0,1,7])
def qr8:YC:=qjt
theorem qu0(call:qar)(F:Nat)(T:Tr AV)(H:AH):run call F qr8 T H=ycode call F qjt T H:=(rfl)
def qjs : YC:=(.ta (.seq (.seq (.ops [oe 81 9,oe 82 8,⟨(sd 83),s0,.op (.bin .lss 3 (some (.int .i64)) false (sv 81) (sv 82))⟩])
 (.cond (sv 83) (.ta .skip [0,1,8,9]) (.tb [0,1,8] (.exit 6))))
 (.seq (.block 7 (.seq (.dops 24 [⟨0,(sd 86),s0,.pure (.ev (sv 1))⟩,⟨1,(sd 87),s0,.pure (.ev (sv 9))⟩,⟨2,(sd 88),s0,.pure (.iaddr 4 (sv 86) (sv 87))⟩,⟨3,(sd 89),s0,.pure (.faddr 0 (sv 88))⟩,⟨4,(sd 90),s0,.load none (sv 89)⟩,⟨5,(sd 91),s0,.pure (.ev (sv 1))⟩,⟨6,(sd 92),s0,.pure (.ev (sv 8))⟩,⟨7,(sd 93),s0,.pure (.iaddr 4 (sv 91) (sv 92))⟩,⟨8,(sd 94),s0,.pure (.faddr 0 (sv 93))⟩,⟨9,(sd 95),s0,.load none (sv 94)⟩,⟨10,(sd 96),s0,.pure (.bin .eql 9 (some .string) false (sv 90) (sv 95))⟩,⟨11,(sd 97),s0,.pure (.ev (sv 96))⟩,⟨12,(sd 98),(sg 97 true),.pure (.ev (sv 1))⟩,⟨13,(sd 99),(sg 97 true),.pure (.ev (sv 9))⟩,⟨14,(sd 100),(sg 97 true),.pure (.iaddr 4 (sv 98) (sv 99))⟩,⟨15,(sd 101),(sg 97 true),.pure (.faddr 1 (sv 100))⟩,⟨16,(sd 102),(sg 97 true),.load none (sv 101)⟩,⟨17,(sd 103),(sg 97 true),.pure (.ev (sv 1))⟩,⟨18,(sd 104),(sg 97 true),.pure (.ev (sv 8))⟩,⟨19,(sd 105),(sg 97 true),.pure (.iaddr 4 (sv 103) (sv 104))⟩,⟨20,(sd 106),(sg 97 true),.pure (.faddr 1 (sv 105))⟩,⟨21,(sd 107),(sg 97 true),.load none (sv 106)⟩,⟨22,(sd 108),(sg 97 true),.pure (.bin .eql 3 (some (.int .i64)) false (sv 102) (sv 107))⟩,⟨23,(sd 109),s0,.pure (.pick (sv 97) (sv 108) (sc (.bool false)))⟩])
 (.cond (sv 109) (.seq (.ops [⟨(sd 4),s0,.op (.ev (sc .nilp))⟩,⟨(sd 5),s0,.op (.ev (sc (.int .i64 14)))⟩])
 (.tb [4,5] .ret)) (.ta .skip [0,1,8,9]))))
 (.ops [oe 84 9,⟨(sd 85),s0,.op (.bin .add 3 (some (.int .i64)) true (sv 84) (sc (.int .i64 1)))⟩,oe 9 85]))) [0,1,8,9])
def qr7:YC:=qjs
theorem quz(call:qar)(F:Nat)(T:Tr AV)(H:AH):run call F qr7 T H=ycode call F qjs T H:=(rfl)
def qjr : YC:=(.ta (.seq (.seq (.ops [oe 75 8,oe 76 1,⟨(sd 77),s0,.op (.len false (sv 76))⟩,⟨(sd 78),s0,.op (.bin .lss 3 (some (.int .i64)) false (sv 75) (sv 77))⟩])
 (.cond (sv 78) (.ta .skip [0,1,8]) (.tb [0,1] (.exit 4))))
 (.seq (.block 5 (.seq (.ops [⟨(sd 9),s0,.op (.ev (sc (.int .i64 0)))⟩])
 (.block 6 (.tb [0,1,8,9] (.loop qr7)))))
 (.ops [oe 79 8,⟨(sd 80),s0,.op (.bin .add 3 (some (.int .i64)) true (sv 79) (sc (.int .i64 1)))⟩,oe 8 80]))) [0,1,8])
def qr6:YC:=qjr
theorem quy(call:qar)(F:Nat)(T:Tr AV)(H:AH):run call F qr6 T H=ycode call F qjr T H:=(rfl)
def qps : YF:=⟨116,(.seq (.ops [⟨(sd 4),s0,.op (.ev (sc .nilp))⟩,⟨(sd 5),s0,.op (.ev (sc (.int .i64 0)))⟩])
 (.seq (.seq (.ops [oe 10 0,⟨(sd 11),s0,.call (sc (.fn (.func 79) [])) [(sv 10)]⟩,⟨(sd 12),s0,.op (.un .not (sv 11))⟩,oe 13 12,⟨(sd 14),(sg 13 false),.op (.ev (sv 1))⟩,⟨(sd 15),(sg 13 false),.op (.len false (sv 14))⟩,⟨(sd 16),(sg 13 false),.op (.bin .gtr 3 (some (.int .i64)) true (sv 15) (sc (.int .i64 32)))⟩,⟨(sd 17),s0,.op (.pick (sv 13) (sc (.bool true)) (sv 16))⟩])
 (.cond (sv 17) (.seq (.ops [⟨(sd 4),s0,.op (.ev (sc .nilp))⟩,⟨(sd 5),s0,.op (.ev (sc (.int .i64 1)))⟩])
 (.tb [4,5] .ret)) (.ta .skip [0,1])))
 (.seq (.seq (.ops [⟨(sd 6),s0,.op (.ev (sc (.int .i64 0)))⟩])
 (.block 0 (.tb [0,1,6] (.loop qr9))))
 (.seq (.seq (.ops [⟨(sd 7),s0,.op (.ev (sc (.int .i64 0)))⟩])
 (.block 2 (.tb [0,1,7] (.loop qr8))))
 (.seq (.seq (.ops [⟨(sd 8),s0,.op (.ev (sc (.int .i64 0)))⟩])
 (.block 4 (.tb [0,1,8] (.loop qr6))))
 (.seq (.ops [oe 110 0,⟨(sd 111),s0,.op (.empty)⟩,oe 112 1,⟨(sd 113),s0,.op (.app 4 40 (sv 111) (sv 112))⟩,⟨(sd 114),s0,.op (.build [.nils,.nils] [(0,1,(sv 110)),(1,1,(sv 113))])⟩,⟨(sd 115),s0,.op (.new (sv 114))⟩,oe 4 115,⟨(sd 5),s0,.op (.ev (sc (.int .i64 0)))⟩])
 (.tb [4,5] .ret))))))),[sr 4,sr 5]⟩
def qjq : YF:=⟨26,(.seq (.ops [⟨(sd 4),s0,.op (.ev (sc .nilp))⟩,⟨(sd 5),s0,.op (.ev (sc (.int .i64 0)))⟩])
 (.seq (.seq (.ops [oe 6 0,⟨(sd 7),s0,.op (.bin .eql 77 (some (.pointer 113)) true (sv 6) (sc .nilp))⟩,oe 8 7,⟨(sd 9),(sg 8 false),.op (.ev (sv 1))⟩,⟨(sd 10),(sg 8 false),.op (.bin .lss 3 (some (.int .i64)) true (sv 9) (sc (.int .i64 1)))⟩,⟨(sd 11),s0,.op (.pick (sv 8) (sc (.bool true)) (sv 10))⟩,oe 12 11,⟨(sd 13),(sg 12 false),.op (.ev (sv 1))⟩,⟨(sd 14),(sg 12 false),.op (.bin .gtr 3 (some (.int .i64)) true (sv 13) (sc (.int .i64 64)))⟩,⟨(sd 15),s0,.op (.pick (sv 12) (sc (.bool true)) (sv 14))⟩])
 (.cond (sv 15) (.seq (.ops [⟨(sd 4),s0,.op (.ev (sc .nilp))⟩,⟨(sd 5),s0,.op (.ev (sc (.int .i64 1)))⟩])
 (.tb [4,5] .ret)) (.ta .skip [0,1])))
 (.seq (.ops [oe 16 0,oe 17 1,oe 18 0,⟨(sd 19),s0,.op (.nilck (sv 18))⟩,⟨(sd 20),s0,.op (.faddr 1 (sv 19))⟩,⟨(sd 21),s0,.op (.load none (sv 20))⟩,⟨(sd 22),s0,.op (.len false (sv 21))⟩,⟨(sd 23),s0,.op (.mksl 1 24 [.nils] (sv 22) (sv 22))⟩,⟨(sd 24),s0,.op (.build [.nilp,(.int .i64 0),(.int .i64 0),.nils] [(0,1,(sv 16)),(1,1,(sv 17)),(2,1,(sc (.int .i64 1))),(3,1,(sv 23))])⟩,⟨(sd 25),s0,.op (.new (sv 24))⟩,oe 4 25,⟨(sd 5),s0,.op (.ev (sc (.int .i64 0)))⟩])
 (.tb [4,5] .ret)))),[sr 4,sr 5]⟩
theorem qu2:qbp Tryz.prog (fun _=>true) 32=some qps.er:=by kernel_rfl
theorem qpr:qbp Tryz.prog (fun _=>true) 33=some qjq.er:=by kernel_rfl
end Go.Proofs.YtdekdghldblfaaaGreatDoor
