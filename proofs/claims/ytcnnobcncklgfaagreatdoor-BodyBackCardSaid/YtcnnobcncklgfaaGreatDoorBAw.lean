/- The laws' own test of layer 14: carried out. -/
import Derived.Test.YtcnnobcncklgfaaGreatDoorEvalKnownG
namespace Go.Proofs.YtcnnobcncklgfaaGreatDoor
open Go Go.Abs Go.RowKit
set_option linter.unusedVariables false
def findB : List (List AV × AV) := [([.str [33], .bool false], .tup [.agg [.str [], .str [], .int .i64 (0)], .bool false]),
  ([.str [33], .bool true], .tup [.agg [.str [], .str [], .int .i64 (0)], .bool false]),
  ([.str [44], .bool false], .tup [.agg [.str [44], .str [120, 102, 121], .int .i64 (1000)], .bool true]),
  ([.str [97], .bool false], .tup [.agg [.str [], .str [], .int .i64 (0)], .bool false]),
  ([.str [97], .bool true], .tup [.agg [.str [], .str [], .int .i64 (0)], .bool false]),
  ([.str [98], .bool false], .tup [.agg [.str [], .str [], .int .i64 (0)], .bool false]),
  ([.str [98], .bool true], .tup [.agg [.str [], .str [], .int .i64 (0)], .bool false])]
set_option maxRecDepth 100000 in
set_option maxHeartbeats 0 in
theorem findB_run : (findB.all fun e => e.1.all flatC && answers (arunK Tryz.prog all (hooksOf hooks1) 10000 100 146 (.agg [.vals 3 rows] :: e.1) AH.empty) e.2) = true := by decide +kernel
theorem findB_one : HookOne Tryz.prog 146 (rowsH 3 rows flat findB) := HookOne.rows (by decide +kernel) flat_eq (rows_of (run_ok hooks1_ok) rows_ok rows_ne findB_run)
def plainB : List (List AV × AV) := [([], .agg [.vals 3 rows])]
set_option maxRecDepth 100000 in
set_option maxHeartbeats 0 in
theorem plainB_run : (plainB.all fun e => e.1.all flatC && answers (arunK Tryz.prog all (hooksOf hooks1) 10000 100 61 e.1 AH.empty) e.2) = true := by decide +kernel
theorem plainB_one : HookOne Tryz.prog 61 (memoH plainB) := HookOne.memo (by decide +kernel) (memo_of (run_ok hooks1_ok) plainB_run)
def hooksB : List (FuncId × (List AV → AH → Option (AV × AH))) := (146, rowsH 3 rows flat findB) :: (61, memoH plainB) :: hooks1
theorem hooksB_ok : ∀ e ∈ hooksB, HookOne Tryz.prog e.1 e.2 := by
  intro e he
  rcases List.mem_cons.1 he with rfl | he
  · exact findB_one
  rcases List.mem_cons.1 he with rfl | he
  · exact plainB_one
  · exact hooks1_ok e he
def sayB : List (List AV × AV) := [([.str [97, 44, 32, 33, 44, 32, 98]], .agg [.int .i64 (2), .int .i64 (0), .str [44], .vals 4 [[.int .i64 (2), .int .i64 (0), .str [97], .nils], [.int .i64 (2), .int .i64 (0), .str [44], .vals 4 [[.int .i64 (2), .int .i64 (0), .str [33], .nils], [.int .i64 (2), .int .i64 (0), .str [98], .nils]]]]])]
set_option maxRecDepth 100000 in
set_option maxHeartbeats 0 in
theorem sayB_run : (sayB.all fun e => e.1.all flatC && answers (arunK Tryz.prog all (hooksOf hooksB) 10000 100 40 e.1 AH.empty) e.2) = true := by decide +kernel
theorem sayB_one : HookOne Tryz.prog 40 (memoH sayB) := HookOne.memo (by decide +kernel) (memo_of (run_ok hooksB_ok) sayB_run)
def hooksBB : List (FuncId × (List AV → AH → Option (AV × AH))) := (40, memoH sayB) :: hooksB
theorem hooksBB_ok : ∀ e ∈ hooksBB, HookOne Tryz.prog e.1 e.2 := by
  intro e he
  rcases List.mem_cons.1 he with rfl | he
  · exact sayB_one
  · exact hooksB_ok e he
set_option maxRecDepth 100000 in
set_option maxHeartbeats 0 in
theorem awakeB_run : answers (arunK Tryz.prog all (hooksOf hooksBB) 10000 100 11 [] AH.empty) (.bool true) = true := by decide +kernel
theorem awakeB_any (w : World) : Calls Tryz.prog 11 #[] w fun e w' => e = .returned (.bool true) ∧ Below w.heap.size w w' := calls_closed (run_ok hooksBB_ok) awakeB_run w
end Go.Proofs.YtcnnobcncklgfaaGreatDoor
