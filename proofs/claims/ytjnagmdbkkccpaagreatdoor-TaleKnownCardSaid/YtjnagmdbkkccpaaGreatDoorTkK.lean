/- The law: carried out. -/
import Derived.Test.YtjnagmdbkkccpaaGreatDoorTkH5
namespace Go.Proofs.YtjnagmdbkkccpaaGreatDoor
open Go Go.Abs Go.RowKit
set_option linter.unusedVariables false
set_option maxRecDepth 100000
set_option maxHeartbeats 0 in
theorem main_run : answers (tb hk6 3 [] AH.empty) (.bool true) = true := by decide +kernel
theorem known_any (w : World) (gl : Glob w w.heap.size) : Calls Tryz.prog 3 #[] w fun e w' => e = .returned (.bool true) ∧ Below w.heap.size w w' := calls_closed (runH hk6_ok) (answersZ tz_all tz_ok (by have h := main_run; rw [tb, tabU_eq] at h; exact h)) w gl
end Go.Proofs.YtjnagmdbkkccpaaGreatDoor
