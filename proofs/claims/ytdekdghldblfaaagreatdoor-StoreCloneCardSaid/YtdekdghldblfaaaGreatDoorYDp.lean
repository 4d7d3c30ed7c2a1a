import Derived.Test.YtdekdghldblfaaaGreatDoorAbsS
import Derived.Test.YtdekdghldblfaaaGreatDoorRows
import Derived.ProofKit
set_option linter.unusedVariables false
set_option linter.unusedSimpArgs false
namespace Go.Proofs.YtdekdghldblfaaaGreatDoor
open Go Go.Abs
set_option maxRecDepth 100000
def qu9 : YC:=(.seq .bad
 (.seq (.cond (sv 14) (.ta .skip [0,3,5,6,14]) (.tb [] (.exit 0)))
 (.block 1 (.seq .bad
 (.seq (.ops [oe 18 6,⟨(sd 19),s0,.op (.fn (.func 56) [(sv 3)])⟩,⟨(sd 20),s0,.call (sc (.fn (.func 55) [])) [(sv 18),(sv 19)]⟩,oe 7 20])
 (.seq (.ops [oe 21 7,⟨(sd 22),s0,.op (.bin .geq 3 (some (.int .i64)) true (sv 21) (sc (.int .i64 0)))⟩])
 (.cond (sv 22) (.seq (.dops 12 [⟨0,(sd 23),s0,.pure (.ev (sv 0))⟩,⟨1,(sd 24),s0,.pure (.nilck (sv 23))⟩,⟨2,(sd 25),s0,.pure (.faddr 4 (sv 24))⟩,⟨3,(sd 26),s0,.load none (sv 25)⟩,⟨4,(sd 27),s0,.pure (.ev (sv 6))⟩,⟨5,(sd 28),s0,.pure (.ev (sv 7))⟩,⟨6,(sd 29),s0,.pure (.iaddr 10 (sv 27) (sv 28))⟩,⟨7,(sd 30),s0,.pure (.faddr 1 (sv 29))⟩,⟨8,(sd 31),s0,.load none (sv 30)⟩,⟨9,(sd 32),s0,.k2 (.op (.mop (.get (.int .u64) (.int .i64 0) false) [(sv 26),(sv 31)])) []⟩,⟨10,(sd 33),s0,.pure (.bin .sub 3 (some (.int .i64)) true (sv 32) (sc (.int .i64 1)))⟩,⟨11,sn,s0,.k2 (.op (.mop (.put (.int .u64)) [(sv 26),(sv 31),(sv 33)])) []⟩])
 (.seq (.dops 12 [⟨0,(sd 34),s0,.pure (.ev (sv 0))⟩,⟨1,(sd 35),s0,.pure (.nilck (sv 34))⟩,⟨2,(sd 36),s0,.pure (.faddr 3 (sv 35))⟩,⟨3,(sd 37),s0,.load none (sv 36)⟩,⟨4,(sd 38),s0,.load (some 2) (sv 5)⟩,⟨5,(sd 39),s0,.pure (.ev (sv 6))⟩,⟨7,(sd 41),s0,.pure (.ev (sv 7))⟩,⟨8,(sd 42),s0,.pure (.ev (sv 7))⟩,⟨9,(sd 43),s0,.pure (.bin .add 3 (some (.int .i64)) true (sv 42) (sc (.int .i64 1)))⟩,⟨6,(sd 40),s0,.k2 (.call (sc (.fn (.func 40) [])) [(sv 39)]) [4,3]⟩,⟨10,(sd 44),s0,.k2 (.call (sc (.fn (.func 57) [])) [(sv 40),(sv 41),(sv 43)]) [4,3]⟩,⟨11,sn,s0,.k2 (.op (.mop (.put (.pair .str (.int .i64))) [(sv 37),(sv 38),(sv 44)])) []⟩])
 (.seq (.ops [⟨(sd 4),s0,.op (.ev (sc (.int .i64 0)))⟩])
 (.tb [4] .ret)))) (.ta .skip [0,3,5,6,14]))))))))
end Go.Proofs.YtdekdghldblfaaaGreatDoor
