/- The law: carried out. -/
import Derived.Test.YtfbhoomfhjlbiaaGreatDoorMkH4
namespace Go.Proofs.YtfbhoomfhjlbiaaGreatDoor
open Go Go.Abs Go.RowKit
set_option linter.unusedVariables false
set_option maxRecDepth 100000
set_option maxHeartbeats 0 in
theorem main_run : answers (tb hk5 3 [] AH.empty) (.bool true) = true := by decide +kernel
theorem known_any (w : World) (gl : Glob w w.heap.size) : Calls Tryz.prog 3 #[] w fun e w' => e = .returned (.bool true) ∧ Below w.heap.size w w' := callsS_closed tz_e (runH hk5_ok) main_run w gl
end Go.Proofs.YtfbhoomfhjlbiaaGreatDoor
