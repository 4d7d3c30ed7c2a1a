/- say of some texts. -/
import Derived.Test.YtcnnobcncklgfaaGreatDoorBodyKnownT
namespace Go.Proofs.YtcnnobcncklgfaaGreatDoor
open Go Go.Abs Go.RowKit
set_option linter.unusedVariables false
def sayM0 : List (List AV × AV) := [([.str [102, 97, 105, 108, 32, 58, 45, 32, 97]], .agg [.int .i64 (2), .int .i64 (0), .str [58, 45], .vals 4 [[.int .i64 (2), .int .i64 (0), .str [102, 97, 105, 108], .nils], [.int .i64 (2), .int .i64 (0), .str [97], .nils]]]),
  ([.str [112, 40, 88, 41, 32, 58, 45, 32, 113, 40, 88, 41, 44, 32, 114]], .agg [.int .i64 (2), .int .i64 (0), .str [58, 45], .vals 4 [[.int .i64 (2), .int .i64 (0), .str [112], .vals 4 [[.int .i64 (0), .int .i64 (0), .str [], .nils]]], [.int .i64 (2), .int .i64 (0), .str [44], .vals 4 [[.int .i64 (2), .int .i64 (0), .str [113], .vals 4 [[.int .i64 (0), .int .i64 (0), .str [], .nils]]], [.int .i64 (2), .int .i64 (0), .str [114], .nils]]]]]),
  ([.str [112, 40, 88, 41]], .agg [.int .i64 (2), .int .i64 (0), .str [112], .vals 4 [[.int .i64 (0), .int .i64 (0), .str [], .nils]]]),
  ([.str [112]], .agg [.int .i64 (2), .int .i64 (0), .str [112], .nils]),
  ([.str [116, 114, 117, 101, 44, 116, 114, 117, 101]], .agg [.int .i64 (2), .int .i64 (0), .str [44], .vals 4 [[.int .i64 (2), .int .i64 (0), .str [116, 114, 117, 101], .nils], [.int .i64 (2), .int .i64 (0), .str [116, 114, 117, 101], .nils]]]),
  ([.str [116, 114, 117, 101]], .agg [.int .i64 (2), .int .i64 (0), .str [116, 114, 117, 101], .nils]),
  ([.str [33, 32, 58, 45, 32, 99]], .agg [.int .i64 (2), .int .i64 (0), .str [58, 45], .vals 4 [[.int .i64 (2), .int .i64 (0), .str [33], .nils], [.int .i64 (2), .int .i64 (0), .str [99], .nils]]])]
set_option maxRecDepth 100000 in
set_option maxHeartbeats 0 in
theorem say_run0 : (sayM0.all fun e => e.1.all flatC && answers (arunK Tryz.prog all (hooksOf hooks2) 10000 100 40 e.1 AH.empty) e.2) = true := by decide +kernel
end Go.Proofs.YtcnnobcncklgfaaGreatDoor
