/- Kept results. -/
import Derived.Test.YtjnagmdbkkccpaaGreatDoorTkH1
import Derived.Test.YtjnagmdbkkccpaaGreatDoorTkV2
namespace Go.Proofs.YtjnagmdbkkccpaaGreatDoor
open Go Go.Abs Go.RowKit
set_option linter.unusedVariables false
set_option maxRecDepth 100000
noncomputable def k2_73_0 : List (List AV × AV) := [([w3,w23],(.tup w24)),
  ([w3,w25],(.tup w26)),
  ([w3,(.str [123,98,125])],(.tup [(.int .u64 (0)),bF])),
  ([w4,(.str [123,97,44,98,125])],(.tup [(.int .u64 (3)),bT])),
  ([w4,w25],(.tup w26)),
  ([w4,w23],(.tup w24))]
set_option maxHeartbeats 0 in
theorem k2_73_0_ok : AllE Tryz.prog 73 k2_73_0 := keep hk2_ok (by decide +kernel)
noncomputable def k2_50_0 : List (List AV × AV) := [([(.agg w5)],bT),
  ([(.agg w7)],bT),
  ([(.agg w8)],bT),
  ([(.agg w9)],bT),
  ([(.agg w6)],bT),
  ([(.agg w11)],bT),
  ([(.agg w12)],bT),
  ([(.agg w14)],bT),
  ([(.agg w15)],bT),
  ([(.agg w13)],bT)]
set_option maxHeartbeats 0 in
theorem k2_50_0_ok : AllE Tryz.prog 50 k2_50_0 := keep hk2_ok (by decide +kernel)
noncomputable def k2_29_0 : List (List AV × AV) := [([w3,(.int .u64 (0))],bT),
  ([w3,(.int .u64 (1))],bT),
  ([w4,(.int .u64 (3))],bT),
  ([w4,(.int .u64 (1))],bT),
  ([w4,(.int .u64 (0))],bT)]
set_option maxHeartbeats 0 in
theorem k2_29_0_ok : AllE Tryz.prog 29 k2_29_0 := keep hk2_ok (by decide +kernel)
end Go.Proofs.YtjnagmdbkkccpaaGreatDoor
