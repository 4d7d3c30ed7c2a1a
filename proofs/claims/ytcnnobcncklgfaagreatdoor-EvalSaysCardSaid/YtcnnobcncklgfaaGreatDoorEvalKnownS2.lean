/- say of some texts. -/
import Derived.Test.YtcnnobcncklgfaaGreatDoorEvalKnownT
namespace Go.Proofs.YtcnnobcncklgfaaGreatDoor
open Go Go.Abs Go.RowKit
set_option linter.unusedVariables false
def sayM2 : List (List AV × AV) := [([.str [88]], .agg [.int .i64 (0), .int .i64 (0), .str [], .nils]),
  ([.str [91, 49, 93]], .agg [.int .i64 (2), .int .i64 (0), .str [46], .vals 4 [[.int .i64 (1), .int .i64 (1), .str [], .nils], [.int .i64 (2), .int .i64 (0), .str [91, 93], .nils]]]),
  ([.str [97, 32, 43, 32, 88]], .agg [.int .i64 (2), .int .i64 (0), .str [43], .vals 4 [[.int .i64 (2), .int .i64 (0), .str [97], .nils], [.int .i64 (0), .int .i64 (0), .str [], .nils]]]),
  ([.str [97, 98, 115, 40, 45, 52, 41]], .agg [.int .i64 (2), .int .i64 (0), .str [97, 98, 115], .vals 4 [[.int .i64 (1), .int .i64 (-4), .str [], .nils]]]),
  ([.str [97]], .agg [.int .i64 (2), .int .i64 (0), .str [97], .nils])]
set_option maxRecDepth 100000 in
set_option maxHeartbeats 0 in
theorem say_run2 : (sayM2.all fun e => e.1.all flatC && answersV (arunK Tryz.prog all (hooksOf hooks2) 10000 100 32 e.1 AH.empty) e.2) = true := by decide +kernel
end Go.Proofs.YtcnnobcncklgfaaGreatDoor
