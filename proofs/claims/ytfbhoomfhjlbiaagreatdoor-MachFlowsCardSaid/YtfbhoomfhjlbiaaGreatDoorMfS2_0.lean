/- Kept results. -/
import Derived.Test.YtfbhoomfhjlbiaaGreatDoorMfH1
import Derived.Test.YtfbhoomfhjlbiaaGreatDoorMfV2
namespace Go.Proofs.YtfbhoomfhjlbiaaGreatDoor
open Go Go.Abs Go.RowKit
set_option linter.unusedVariables false
set_option maxRecDepth 100000
noncomputable def k2_51_0 : List (List AV × AV) := [([(.agg w15)],bT),
  ([(.agg w18)],bT),
  ([(.agg w19)],bT),
  ([(.agg w20)],bT),
  ([(.agg w21)],bT),
  ([(.agg w22)],bT),
  ([(.agg w24)],bT),
  ([(.agg w25)],bT),
  ([(.agg w27)],bT),
  ([(.agg w29)],bT),
  ([(.agg w36)],bT),
  ([(.agg w35)],bT),
  ([(.agg w34)],bT),
  ([(.agg w38)],bT),
  ([(.agg w43)],bT),
  ([(.agg w42)],bT),
  ([(.agg w41)],bT),
  ([(.agg w45)],bT),
  ([(.agg w13)],bT),
  ([(.agg w16)],bT),
  ([(.agg w46)],bT),
  ([(.agg w49)],bT),
  ([(.agg w26)],bT),
  ([(.agg w50)],bT),
  ([(.agg w30)],bT),
  ([(.agg w51)],bT),
  ([(.agg w56)],bT),
  ([(.agg w53)],bT),
  ([(.agg w60)],bT),
  ([(.agg w62)],bT),
  ([(.agg w61)],bT),
  ([(.agg w65)],bT),
  ([(.agg w63)],bT),
  ([(.agg w64)],bT),
  ([(.agg w70)],bT),
  ([(.agg w67)],bT),
  ([(.agg w72)],bT),
  ([(.agg w74)],bT),
  ([(.agg w32)],bT),
  ([(.agg w33)],bT),
  ([(.agg w68)],bT),
  ([(.agg w77)],bT),
  ([(.agg w75)],bT),
  ([(.agg w76)],bT),
  ([(.agg w83)],bT),
  ([(.agg w58)],bT),
  ([(.agg w81)],bT),
  ([(.agg w79)],bT),
  ([(.agg w84)],bT),
  ([(.agg w89)],bT),
  ([(.agg w85)],bT),
  ([(.agg w90)],bT),
  ([(.agg w88)],bT),
  ([(.agg w91)],bT),
  ([(.agg w92)],bT),
  ([(.agg w95)],bT),
  ([(.agg w40)],bT),
  ([(.agg w97)],bT),
  ([(.agg w96)],bT),
  ([(.agg w98)],bT),
  ([(.agg w99)],bT),
  ([(.agg w82)],bT),
  ([(.agg w100)],bT),
  ([(.agg w101)],bT),
  ([(.agg w102)],bT)]
set_option maxHeartbeats 0 in
theorem k2_51_0_ok : AllE Tryz.prog 51 k2_51_0 := keep hk2_ok (by decide +kernel)
noncomputable def k2_33_0 : List (List AV × AV) := [([w103,(.int .u64 (3))],bT),
  ([w103,(.int .u64 (1))],bT),
  ([w103,(.int .u64 (0))],bT),
  ([w103,(.int .u64 (2))],bT)]
set_option maxHeartbeats 0 in
theorem k2_33_0_ok : AllE Tryz.prog 33 k2_33_0 := keep hk2_ok (by decide +kernel)
noncomputable def k2_61_0 : List (List AV × AV) := [([w103],bT)]
set_option maxHeartbeats 0 in
theorem k2_61_0_ok : AllE Tryz.prog 61 k2_61_0 := keep hk2_ok (by decide +kernel)
noncomputable def k2_62_0 : List (List AV × AV) := [([(.agg w19)],bT),
  ([(.agg w20)],bT),
  ([(.agg w21)],bT),
  ([(.agg w22)],bT),
  ([(.agg w24)],bT),
  ([(.agg w25)],bT),
  ([(.agg w27)],bT),
  ([(.agg w104)],bT),
  ([(.agg w36)],bT),
  ([(.agg w34)],bT),
  ([(.agg w38)],bT),
  ([(.agg w105)],bT),
  ([(.agg w43)],bT),
  ([(.agg w41)],bT),
  ([(.agg w15)],bT),
  ([(.agg w106)],bT),
  ([(.agg w18)],bT),
  ([(.agg w107)],bT),
  ([(.agg w26)],bT),
  ([(.agg w46)],bT),
  ([(.agg w108)],bT),
  ([(.agg w111)],bT),
  ([(.agg w60)],bT),
  ([(.agg w112)],bT),
  ([(.agg w113)],bT),
  ([(.agg w114)],bT),
  ([(.agg w115)],bT),
  ([(.agg w116)],bT),
  ([(.agg w99)],bT),
  ([(.agg w100)],bT),
  ([(.agg w102)],bT)]
set_option maxHeartbeats 0 in
theorem k2_62_0_ok : AllE Tryz.prog 62 k2_62_0 := keep hk2_ok (by decide +kernel)
noncomputable def k2_64_0 : List (List AV × AV) := [([w103,(.int .u64 (3))],bT),
  ([w103,(.int .u64 (1))],bT),
  ([w103,(.int .u64 (0))],bT),
  ([w103,(.int .u64 (2))],bT)]
set_option maxHeartbeats 0 in
theorem k2_64_0_ok : AllE Tryz.prog 64 k2_64_0 := keep hk2_ok (by decide +kernel)
noncomputable def k2_81_0 : List (List AV × AV) := [([w12],bT)]
set_option maxHeartbeats 0 in
theorem k2_81_0_ok : AllE Tryz.prog 81 k2_81_0 := keep hk2_ok (by decide +kernel)
end Go.Proofs.YtfbhoomfhjlbiaaGreatDoor
