/- say of some texts. -/
import Derived.Test.YtcnnobcncklgfaaGreatDoorEvalKnownT
namespace Go.Proofs.YtcnnobcncklgfaaGreatDoor
open Go Go.Abs Go.RowKit
set_option linter.unusedVariables false
def sayM1 : List (List AV × AV) := [([.str [49, 32, 43, 32, 49]], .agg [.int .i64 (2), .int .i64 (0), .str [43], .vals 4 [[.int .i64 (1), .int .i64 (1), .str [], .nils], [.int .i64 (1), .int .i64 (1), .str [], .nils]]]),
  ([.str [49, 32, 43, 32, 50, 32, 42, 32, 51]], .agg [.int .i64 (2), .int .i64 (0), .str [43], .vals 4 [[.int .i64 (1), .int .i64 (1), .str [], .nils], [.int .i64 (2), .int .i64 (0), .str [42], .vals 4 [[.int .i64 (1), .int .i64 (2), .str [], .nils], [.int .i64 (1), .int .i64 (3), .str [], .nils]]]]]),
  ([.str [49, 32, 47, 47, 32, 48]], .agg [.int .i64 (2), .int .i64 (0), .str [47, 47], .vals 4 [[.int .i64 (1), .int .i64 (1), .str [], .nils], [.int .i64 (1), .int .i64 (0), .str [], .nils]]]),
  ([.str [49, 32, 60, 60, 32, 55, 48]], .agg [.int .i64 (2), .int .i64 (0), .str [60, 60], .vals 4 [[.int .i64 (1), .int .i64 (1), .str [], .nils], [.int .i64 (1), .int .i64 (70), .str [], .nils]]]),
  ([.str [50]], .agg [.int .i64 (1), .int .i64 (2), .str [], .nils]),
  ([.str [55, 32, 109, 111, 100, 32, 45, 50]], .agg [.int .i64 (2), .int .i64 (0), .str [109, 111, 100], .vals 4 [[.int .i64 (1), .int .i64 (7), .str [], .nils], [.int .i64 (1), .int .i64 (-2), .str [], .nils]]]),
  ([.str [57, 50, 50, 51, 51, 55, 50, 48, 51, 54, 56, 53, 52, 55, 55, 53, 56, 48, 55, 32, 43, 32, 49]], .agg [.int .i64 (2), .int .i64 (0), .str [43], .vals 4 [[.int .i64 (1), .int .i64 (9223372036854775807), .str [], .nils], [.int .i64 (1), .int .i64 (1), .str [], .nils]]]),
  ([.str [88, 32, 43, 32, 97]], .agg [.int .i64 (2), .int .i64 (0), .str [43], .vals 4 [[.int .i64 (0), .int .i64 (0), .str [], .nils], [.int .i64 (2), .int .i64 (0), .str [97], .nils]]])]
set_option maxRecDepth 100000 in
set_option maxHeartbeats 0 in
theorem say_run1 : (sayM1.all fun e => e.1.all flatC && answersV (arunK Tryz.prog all (hooksOf hooks2) 10000 100 32 e.1 AH.empty) e.2) = true := by decide +kernel
end Go.Proofs.YtcnnobcncklgfaaGreatDoor
