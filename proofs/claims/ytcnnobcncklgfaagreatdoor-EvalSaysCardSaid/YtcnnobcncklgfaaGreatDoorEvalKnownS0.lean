/- say of some texts. -/
import Derived.Test.YtcnnobcncklgfaaGreatDoorEvalKnownT
namespace Go.Proofs.YtcnnobcncklgfaaGreatDoor
open Go Go.Abs Go.RowKit
set_option linter.unusedVariables false
def sayM0 : List (List AV × AV) := [([.str [102, 40, 49, 32, 43, 32, 50, 44, 32, 103, 40, 45, 32, 88, 41, 41]], .agg [.int .i64 (2), .int .i64 (0), .str [102], .vals 4 [[.int .i64 (2), .int .i64 (0), .str [43], .vals 4 [[.int .i64 (1), .int .i64 (1), .str [], .nils], [.int .i64 (1), .int .i64 (2), .str [], .nils]]], [.int .i64 (2), .int .i64 (0), .str [103], .vals 4 [[.int .i64 (2), .int .i64 (0), .str [45], .vals 4 [[.int .i64 (0), .int .i64 (0), .str [], .nils]]]]]]]),
  ([.str [102, 40, 49, 41]], .agg [.int .i64 (2), .int .i64 (0), .str [102], .vals 4 [[.int .i64 (1), .int .i64 (1), .str [], .nils]]]),
  ([.str [102, 40, 88, 44, 89, 41]], .agg [.int .i64 (2), .int .i64 (0), .str [102], .vals 4 [[.int .i64 (0), .int .i64 (0), .str [], .nils], [.int .i64 (0), .int .i64 (1), .str [], .nils]]]),
  ([.str [109, 105, 110, 40, 50, 44, 49, 41]], .agg [.int .i64 (2), .int .i64 (0), .str [109, 105, 110], .vals 4 [[.int .i64 (1), .int .i64 (2), .str [], .nils], [.int .i64 (1), .int .i64 (1), .str [], .nils]]]),
  ([.str [115, 105, 103, 110, 40, 45, 52, 41]], .agg [.int .i64 (2), .int .i64 (0), .str [115, 105, 103, 110], .vals 4 [[.int .i64 (1), .int .i64 (-4), .str [], .nils]]]),
  ([.str [120, 111, 114, 40, 49, 44, 51, 41]], .agg [.int .i64 (2), .int .i64 (0), .str [120, 111, 114], .vals 4 [[.int .i64 (1), .int .i64 (1), .str [], .nils], [.int .i64 (1), .int .i64 (3), .str [], .nils]]]),
  ([.str [45, 32, 40, 51, 41]], .agg [.int .i64 (2), .int .i64 (0), .str [45], .vals 4 [[.int .i64 (1), .int .i64 (3), .str [], .nils]]]),
  ([.str [45, 32, 88]], .agg [.int .i64 (2), .int .i64 (0), .str [45], .vals 4 [[.int .i64 (0), .int .i64 (0), .str [], .nils]]])]
set_option maxRecDepth 100000 in
set_option maxHeartbeats 0 in
theorem say_run0 : (sayM0.all fun e => e.1.all flatC && answersV (arunK Tryz.prog all (hooksOf hooks2) 10000 100 32 e.1 AH.empty) e.2) = true := by decide +kernel
end Go.Proofs.YtcnnobcncklgfaaGreatDoor
