/- The laws' own test of layer 20: carried out. -/
import Derived.Test.YtcnnobcncklgfaaGreatDoorEvalKnownK
namespace Go.Proofs.YtcnnobcncklgfaaGreatDoor
open Go Go.Abs Go.RowKit
set_option linter.unusedVariables false
set_option maxRecDepth 100000 in
set_option maxHeartbeats 0 in
theorem awake_run : answers (arunK Tryz.prog all (hooksOf hooks3) 10000 100 27 [] AH.empty) (.bool true) = true := by decide +kernel
theorem awake_any (w : World) : Calls Tryz.prog 27 #[] w fun e w' => e = .returned (.bool true) ∧ Below w.heap.size w w' := calls_closed (run_ok hooks3_ok) awake_run w
end Go.Proofs.YtcnnobcncklgfaaGreatDoor
