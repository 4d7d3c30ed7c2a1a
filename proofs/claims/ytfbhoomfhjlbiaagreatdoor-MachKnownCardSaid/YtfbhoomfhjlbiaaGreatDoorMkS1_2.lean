/- Kept results. -/
import Derived.Test.YtfbhoomfhjlbiaaGreatDoorMkA
import Derived.Test.YtfbhoomfhjlbiaaGreatDoorMkV1
namespace Go.Proofs.YtfbhoomfhjlbiaaGreatDoor
open Go Go.Abs Go.RowKit
set_option linter.unusedVariables false
set_option maxRecDepth 100000
noncomputable def k1_261_2 : List (List AV × AV) := [([(.agg [w24]),(.str [59]),bF],(.tup [(.agg w3),bT])),
  ([(.agg [w24]),(.str [61]),bF],(.tup [(.agg w8),bT])),
  ([(.agg [w24]),w85,bT],(.tup w317)),
  ([(.agg [w24]),w85,bF],(.tup w317)),
  ([(.agg [w24]),(.str [92,43]),bT],(.tup [(.agg w7),bT])),
  ([(.agg [w24]),(.str [60]),bF],(.tup [(.agg w18),bT])),
  ([(.agg [w24]),(.str [97]),bT],(.tup w317)),
  ([(.agg [w24]),(.str [97]),bF],(.tup w317)),
  ([(.agg [w24]),w114,bT],(.tup w317)),
  ([(.agg [w24]),w114,bF],(.tup w317)),
  ([(.agg [w24]),w122,bT],(.tup w317)),
  ([(.agg [w24]),w122,bF],(.tup w317)),
  ([(.agg [w24]),(.str [61,61]),bF],(.tup [(.agg w10),bT])),
  ([(.agg [w24]),(.str [64,60]),bF],(.tup [(.agg w11),bT])),
  ([(.agg [w24]),(.str [98]),bT],(.tup w317)),
  ([(.agg [w24]),(.str [98]),bF],(.tup w317))]
set_option maxHeartbeats 0 in
theorem k1_261_2_ok : AllE Tryz.prog 261 k1_261_2 := keep hk0_ok (by decide +kernel)
end Go.Proofs.YtfbhoomfhjlbiaaGreatDoor
