/- op.Good of the table at first. -/
import Derived.Test.YtcnnobcncklgfaaGreatDoorEvalKnownA
namespace Go.Proofs.YtcnnobcncklgfaaGreatDoor
open Go Go.Abs Go.RowKit
set_option linter.unusedVariables false
def goodM : List (List AV × AV) := [([], .bool true)]
set_option maxRecDepth 100000 in
set_option maxHeartbeats 0 in
theorem good_run : (goodM.all fun e => e.1.all flatC && answers (arunK Tryz.prog all (hooksOf hooks0) 10000 100 100 (.agg [.vals 3 rows] :: e.1) AH.empty) e.2) = true := by decide +kernel
theorem good_one : HookOne Tryz.prog 100 (rowsH 3 rows flat goodM) := HookOne.rows (by decide +kernel) flat_eq (rows_of (run_ok hooks0_ok) rows_ok rows_ne good_run)
def hooks1 : List (FuncId × (List AV → AH → Option (AV × AH))) := (100, rowsH 3 rows flat goodM) :: hooks0
theorem hooks1_ok : ∀ e ∈ hooks1, HookOne Tryz.prog e.1 e.2 := by
  intro e he
  rcases List.mem_cons.1 he with rfl | he
  · exact good_one
  · exact hooks0_ok e he
end Go.Proofs.YtcnnobcncklgfaaGreatDoor
