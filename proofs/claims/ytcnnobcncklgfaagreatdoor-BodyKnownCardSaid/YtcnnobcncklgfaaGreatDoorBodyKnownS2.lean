/- say of some texts. -/
import Derived.Test.YtcnnobcncklgfaaGreatDoorBodyKnownT
namespace Go.Proofs.YtcnnobcncklgfaaGreatDoor
open Go Go.Abs Go.RowKit
set_option linter.unusedVariables false
def sayM2 : List (List AV × AV) := [([.str [51, 32, 58, 45, 32, 97]], .agg [.int .i64 (2), .int .i64 (0), .str [58, 45], .vals 4 [[.int .i64 (1), .int .i64 (3), .str [], .nils], [.int .i64 (2), .int .i64 (0), .str [97], .nils]]]),
  ([.str [88, 32, 58, 45, 32, 97]], .agg [.int .i64 (2), .int .i64 (0), .str [58, 45], .vals 4 [[.int .i64 (0), .int .i64 (0), .str [], .nils], [.int .i64 (2), .int .i64 (0), .str [97], .nils]]]),
  ([.str [88]], .agg [.int .i64 (0), .int .i64 (0), .str [], .nils]),
  ([.str [92, 43, 32, 97, 32, 58, 45, 32, 98]], .agg [.int .i64 (2), .int .i64 (0), .str [58, 45], .vals 4 [[.int .i64 (2), .int .i64 (0), .str [92, 43], .vals 4 [[.int .i64 (2), .int .i64 (0), .str [97], .nils]]], [.int .i64 (2), .int .i64 (0), .str [98], .nils]]]),
  ([.str [92, 43, 32, 97]], .agg [.int .i64 (2), .int .i64 (0), .str [92, 43], .vals 4 [[.int .i64 (2), .int .i64 (0), .str [97], .nils]]]),
  ([.str [97, 32, 58, 45, 32, 51]], .agg [.int .i64 (2), .int .i64 (0), .str [58, 45], .vals 4 [[.int .i64 (2), .int .i64 (0), .str [97], .nils], [.int .i64 (1), .int .i64 (3), .str [], .nils]]]),
  ([.str [97, 44, 32, 33, 44, 32, 98]], .agg [.int .i64 (2), .int .i64 (0), .str [44], .vals 4 [[.int .i64 (2), .int .i64 (0), .str [97], .nils], [.int .i64 (2), .int .i64 (0), .str [44], .vals 4 [[.int .i64 (2), .int .i64 (0), .str [33], .nils], [.int .i64 (2), .int .i64 (0), .str [98], .nils]]]]])]
set_option maxRecDepth 100000 in
set_option maxHeartbeats 0 in
theorem say_run2 : (sayM2.all fun e => e.1.all flatC && answers (arunK Tryz.prog all (hooksOf hooks2) 10000 100 40 e.1 AH.empty) e.2) = true := by decide +kernel
end Go.Proofs.YtcnnobcncklgfaaGreatDoor
