/- say of some texts. -/
import Derived.Test.YtcnnobcncklgfaaGreatDoorBodyKnownT
namespace Go.Proofs.YtcnnobcncklgfaaGreatDoor
open Go Go.Abs Go.RowKit
set_option linter.unusedVariables false
def sayM1 : List (List AV × AV) := [([.str [40, 33, 32, 45, 62, 32, 97, 32, 59, 32, 98, 41, 44, 32, 92, 43, 32, 33]], .agg [.int .i64 (2), .int .i64 (0), .str [44], .vals 4 [[.int .i64 (2), .int .i64 (0), .str [59], .vals 4 [[.int .i64 (2), .int .i64 (0), .str [45, 62], .vals 4 [[.int .i64 (2), .int .i64 (0), .str [33], .nils], [.int .i64 (2), .int .i64 (0), .str [97], .nils]]], [.int .i64 (2), .int .i64 (0), .str [98], .nils]]], [.int .i64 (2), .int .i64 (0), .str [92, 43], .vals 4 [[.int .i64 (2), .int .i64 (0), .str [33], .nils]]]]]),
  ([.str [40, 97, 32, 45, 62, 32, 33, 32, 59, 32, 98, 41]], .agg [.int .i64 (2), .int .i64 (0), .str [59], .vals 4 [[.int .i64 (2), .int .i64 (0), .str [45, 62], .vals 4 [[.int .i64 (2), .int .i64 (0), .str [97], .nils], [.int .i64 (2), .int .i64 (0), .str [33], .nils]]], [.int .i64 (2), .int .i64 (0), .str [98], .nils]]]),
  ([.str [40, 97, 32, 58, 45, 32, 98, 41, 32, 58, 45, 32, 99]], .agg [.int .i64 (2), .int .i64 (0), .str [58, 45], .vals 4 [[.int .i64 (2), .int .i64 (0), .str [58, 45], .vals 4 [[.int .i64 (2), .int .i64 (0), .str [97], .nils], [.int .i64 (2), .int .i64 (0), .str [98], .nils]]], [.int .i64 (2), .int .i64 (0), .str [99], .nils]]]),
  ([.str [40, 97, 32, 59, 32, 98, 44, 32, 33, 41]], .agg [.int .i64 (2), .int .i64 (0), .str [59], .vals 4 [[.int .i64 (2), .int .i64 (0), .str [97], .nils], [.int .i64 (2), .int .i64 (0), .str [44], .vals 4 [[.int .i64 (2), .int .i64 (0), .str [98], .nils], [.int .i64 (2), .int .i64 (0), .str [33], .nils]]]]]),
  ([.str [40, 97, 44, 98, 41, 32, 58, 45, 32, 99]], .agg [.int .i64 (2), .int .i64 (0), .str [58, 45], .vals 4 [[.int .i64 (2), .int .i64 (0), .str [44], .vals 4 [[.int .i64 (2), .int .i64 (0), .str [97], .nils], [.int .i64 (2), .int .i64 (0), .str [98], .nils]]], [.int .i64 (2), .int .i64 (0), .str [99], .nils]]]),
  ([.str [40, 97, 44, 98, 41, 44, 99]], .agg [.int .i64 (2), .int .i64 (0), .str [44], .vals 4 [[.int .i64 (2), .int .i64 (0), .str [44], .vals 4 [[.int .i64 (2), .int .i64 (0), .str [97], .nils], [.int .i64 (2), .int .i64 (0), .str [98], .nils]]], [.int .i64 (2), .int .i64 (0), .str [99], .nils]]]),
  ([.str [40, 97, 59, 98, 41, 45, 62, 99, 59, 100]], .agg [.int .i64 (2), .int .i64 (0), .str [59], .vals 4 [[.int .i64 (2), .int .i64 (0), .str [45, 62], .vals 4 [[.int .i64 (2), .int .i64 (0), .str [59], .vals 4 [[.int .i64 (2), .int .i64 (0), .str [97], .nils], [.int .i64 (2), .int .i64 (0), .str [98], .nils]]], [.int .i64 (2), .int .i64 (0), .str [99], .nils]]], [.int .i64 (2), .int .i64 (0), .str [100], .nils]]])]
set_option maxRecDepth 100000 in
set_option maxHeartbeats 0 in
theorem say_run1 : (sayM1.all fun e => e.1.all flatC && answers (arunK Tryz.prog all (hooksOf hooks2) 10000 100 40 e.1 AH.empty) e.2) = true := by decide +kernel
end Go.Proofs.YtcnnobcncklgfaaGreatDoor
