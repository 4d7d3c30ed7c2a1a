/- op.find, op.Plain. -/
import Derived.Test.YtcnnobcncklgfaaGreatDoorEvalKnownG
import Derived.Test.YtcnnobcncklgfaaGreatDoorAbsL
import Derived.Test.YtcnnobcncklgfaaGreatDoorListA
namespace Go.Proofs.YtcnnobcncklgfaaGreatDoor
open Go Go.Abs Go.RowKit
set_option linter.unusedVariables false
def findM : List (List AV × AV) := [([.str [109, 111, 100], .bool false], .tup [.agg [.str [109, 111, 100], .str [121, 102, 120], .int .i64 (400)], .bool true]),
  ([.str [42], .bool false], .tup [.agg [.str [42], .str [121, 102, 120], .int .i64 (400)], .bool true]),
  ([.str [43], .bool false], .tup [.agg [.str [43], .str [121, 102, 120], .int .i64 (500)], .bool true]),
  ([.str [44], .bool false], .tup [.agg [.str [44], .str [120, 102, 121], .int .i64 (1000)], .bool true]),
  ([.str [45], .bool true], .tup [.agg [.str [45], .str [102, 121], .int .i64 (200)], .bool true]),
  ([.str [47, 47], .bool false], .tup [.agg [.str [47, 47], .str [121, 102, 120], .int .i64 (400)], .bool true]),
  ([.str [60, 60], .bool false], .tup [.agg [.str [60, 60], .str [121, 102, 120], .int .i64 (400)], .bool true]),
  ([.str [97], .bool false], .tup [.agg [.str [], .str [], .int .i64 (0)], .bool false]),
  ([.str [97], .bool true], .tup [.agg [.str [], .str [], .int .i64 (0)], .bool false])]
set_option maxRecDepth 100000 in
set_option maxHeartbeats 0 in
theorem find_run : (findM.all fun e => e.1.all flatC && answers (arunK Tryz.prog all (hooksOf hooks1) 10000 100 146 (.agg [.vals 3 rows] :: e.1) AH.empty) e.2) = true := by decide +kernel
theorem find_one : HookOne Tryz.prog 146 (rowsH 3 rows flat findM) := HookOne.rows (by decide +kernel) flat_eq (rows_of (run_ok hooks1_ok) rows_ok rows_ne find_run)
def plainM : List (List AV × AV) := [([], .agg [.vals 3 rows])]
set_option maxRecDepth 100000 in
set_option maxHeartbeats 0 in
theorem plain_run : (plainM.all fun e => e.1.all flatC && answers (arunK Tryz.prog all (hooksOf hooks1) 10000 100 61 e.1 AH.empty) e.2) = true := by decide +kernel
theorem plain_one : HookOne Tryz.prog 61 (memoH plainM) := HookOne.memo (by decide +kernel) (memo_of (run_ok hooks1_ok) plain_run)
def hooks2 : List (FuncId × (List AV → AH → Option (AV × AH))) := (143, listH) :: (146, rowsH 3 rows flat findM) :: (61, memoH plainM) :: hooks1
theorem hooks2_ok : ∀ e ∈ hooks2, HookOne Tryz.prog e.1 e.2 := by
  intro e he
  rcases List.mem_cons.1 he with rfl | he
  · exact list_one
  rcases List.mem_cons.1 he with rfl | he
  · exact find_one
  rcases List.mem_cons.1 he with rfl | he
  · exact plain_one
  · exact hooks1_ok e he
end Go.Proofs.YtcnnobcncklgfaaGreatDoor
