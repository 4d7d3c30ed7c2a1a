/- Kept results. -/
import Derived.Test.YtfbhoomfhjlbiaaGreatDoorMkA
import Derived.Test.YtfbhoomfhjlbiaaGreatDoorMkV1
namespace Go.Proofs.YtfbhoomfhjlbiaaGreatDoor
open Go Go.Abs Go.RowKit
set_option linter.unusedVariables false
set_option maxRecDepth 100000
noncomputable def k1_65_1 : List (List AV × AV) := [([(.str [112]),(ci 1)],bF),
  ([(.str [113]),(ci 2)],bF),
  ([(.str [114]),(ci 0)],bF),
  ([(.str [115]),(ci 1)],bF),
  ([w35,(ci 3)],bF),
  ([(.str [110]),(ci 2)],bF)]
set_option maxHeartbeats 0 in
theorem k1_65_1_ok : AllE Tryz.prog 65 k1_65_1 := keep hk0_ok (by decide +kernel)
noncomputable def k1_261_1 : List (List AV × AV) := [([(.agg [w24]),(.str [91,93]),bT],(.tup w317)),
  ([(.agg [w24]),(.str [91,93]),bF],(.tup w317)),
  ([(.agg [w24]),(.str [44]),bF],(.tup [(.agg w5),bT])),
  ([(.agg [w24]),(.str [58,45]),bF],(.tup [(.agg w1),bT])),
  ([(.agg [w24]),(.str [122]),bT],(.tup w317)),
  ([(.agg [w24]),(.str [122]),bF],(.tup w317)),
  ([(.agg [w24]),(.str [62]),bF],(.tup [(.agg w19),bT])),
  ([(.agg [w24]),w14,bF],(.tup [(.agg w15),bT])),
  ([(.agg [w24]),(.str [45]),bF],(.tup [(.agg w22),bT])),
  ([(.agg [w24]),(.str [33]),bT],(.tup w317)),
  ([(.agg [w24]),(.str [33]),bF],(.tup w317)),
  ([(.agg [w24]),(.str [45,62]),bF],(.tup [(.agg w4),bT])),
  ([(.agg [w24]),w42,bT],(.tup w317)),
  ([(.agg [w24]),w42,bF],(.tup w317))]
set_option maxHeartbeats 0 in
theorem k1_261_1_ok : AllE Tryz.prog 261 k1_261_1 := keep hk0_ok (by decide +kernel)
end Go.Proofs.YtfbhoomfhjlbiaaGreatDoor
