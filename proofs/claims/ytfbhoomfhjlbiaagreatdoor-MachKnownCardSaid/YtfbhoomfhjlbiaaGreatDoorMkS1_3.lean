/- Kept results. -/
import Derived.Test.YtfbhoomfhjlbiaaGreatDoorMkA
import Derived.Test.YtfbhoomfhjlbiaaGreatDoorMkV1
namespace Go.Proofs.YtfbhoomfhjlbiaaGreatDoor
open Go Go.Abs Go.RowKit
set_option linter.unusedVariables false
set_option maxRecDepth 100000
noncomputable def k1_261_3 : List (List AV × AV) := [([(.agg [w24]),(.str [43]),bF],(.tup [(.agg w21),bT])),
  ([(.agg [w24]),(.str [42]),bF],(.tup [(.agg w23),bT])),
  ([(.agg [w24]),w16,bF],(.tup [(.agg w17),bT])),
  ([(.agg [w24]),(.str [102]),bT],(.tup w317)),
  ([(.agg [w24]),(.str [102]),bF],(.tup w317)),
  ([(.agg [w24]),w12,bF],(.tup [(.agg w13),bT])),
  ([(.agg [w24]),(.str [103]),bT],(.tup w317)),
  ([(.agg [w24]),(.str [103]),bF],(.tup w317)),
  ([(.agg [w24]),w171,bT],(.tup w317)),
  ([(.agg [w24]),w171,bF],(.tup w317)),
  ([(.agg [w24]),w196,bT],(.tup w317)),
  ([(.agg [w24]),w196,bF],(.tup w317)),
  ([(.agg [w24]),(.str [92,61]),bF],(.tup [(.agg w9),bT]))]
set_option maxHeartbeats 0 in
theorem k1_261_3_ok : AllE Tryz.prog 261 k1_261_3 := keep hk0_ok (by decide +kernel)
noncomputable def k1_32_3 : List (List AV × AV) := [([],w24)]
set_option maxHeartbeats 0 in
theorem k1_32_3_ok : AllE Tryz.prog 32 k1_32_3 := keep hk0_ok (by decide +kernel)
end Go.Proofs.YtfbhoomfhjlbiaaGreatDoor
