/- Kept results. -/
import Derived.Test.YtfbhoomfhjlbiaaGreatDoorMfA
import Derived.Test.YtfbhoomfhjlbiaaGreatDoorMfV1
namespace Go.Proofs.YtfbhoomfhjlbiaaGreatDoor
open Go Go.Abs Go.RowKit
set_option linter.unusedVariables false
set_option maxRecDepth 100000
noncomputable def k1_261_1 : List (List AV × AV) := [([(.agg [w12]),w7,bF],(.tup [(.agg w8),bT])),
  ([(.agg [w12]),(.str [45]),bF],(.tup [(.agg w11),bT])),
  ([(.agg [w12]),(.str [114]),bT],(.tup w117)),
  ([(.agg [w12]),(.str [114]),bF],(.tup w117)),
  ([(.agg [w12]),(.str [120]),bT],(.tup w117)),
  ([(.agg [w12]),(.str [120]),bF],(.tup w117)),
  ([(.agg [w12]),w28,bT],(.tup w117)),
  ([(.agg [w12]),w28,bF],(.tup w117)),
  ([(.agg [w12]),(.str [59]),bF],(.tup [(.agg w3),bT])),
  ([(.agg [w12]),w86,bT],(.tup w117)),
  ([(.agg [w12]),w86,bF],(.tup w117)),
  ([(.agg [w12]),(.str [92,43]),bT],(.tup [(.agg w6),bT]))]
set_option maxHeartbeats 0 in
theorem k1_261_1_ok : AllE Tryz.prog 261 k1_261_1 := keep hk0_ok (by decide +kernel)
noncomputable def k1_32_1 : List (List AV × AV) := [([],w12)]
set_option maxHeartbeats 0 in
theorem k1_32_1_ok : AllE Tryz.prog 32 k1_32_1 := keep hk0_ok (by decide +kernel)
end Go.Proofs.YtfbhoomfhjlbiaaGreatDoor
