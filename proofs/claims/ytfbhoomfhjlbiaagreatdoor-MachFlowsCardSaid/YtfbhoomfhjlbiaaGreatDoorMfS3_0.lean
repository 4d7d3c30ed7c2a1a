/- Kept results. -/
import Derived.Test.YtfbhoomfhjlbiaaGreatDoorMfH2
import Derived.Test.YtfbhoomfhjlbiaaGreatDoorMfV3
namespace Go.Proofs.YtfbhoomfhjlbiaaGreatDoor
open Go Go.Abs Go.RowKit
set_option linter.unusedVariables false
set_option maxRecDepth 100000
noncomputable def k3_39_0 : List (List AV × AV) := [([(.agg w27)],w118),
  ([(.agg w36)],w119),
  ([(.agg w38)],.nils),
  ([(.agg w43)],w120),
  ([(.agg w15)],.nils),
  ([(.agg w18)],.nils),
  ([(.agg w45)],w118),
  ([(.agg w29)],.nils),
  ([(.agg w13)],.nils),
  ([(.agg w16)],.nils),
  ([(.agg w46)],.nils),
  ([(.agg w49)],w121),
  ([(.agg w26)],w118),
  ([(.agg w50)],.nils),
  ([(.agg w30)],w122),
  ([(.agg w51)],.nils),
  ([(.agg w56)],.nils),
  ([(.agg w53)],.nils),
  ([(.agg w60)],.nils),
  ([(.agg w62)],w118),
  ([(.agg w61)],w118),
  ([(.agg w65)],w121),
  ([(.agg w63)],.nils),
  ([(.agg w64)],w121),
  ([(.agg w21)],.nils),
  ([(.agg w70)],w119),
  ([(.agg w67)],.nils),
  ([(.agg w74)],.nils),
  ([(.agg w32)],(.vals 1 [[(ci 2)]])),
  ([(.agg w72)],.nils),
  ([(.agg w33)],(.vals 1 [[(ci 3)]])),
  ([(.agg w68)],w118),
  ([(.agg w77)],w118),
  ([(.agg w75)],.nils),
  ([(.agg w76)],.nils),
  ([(.agg w83)],w121),
  ([(.agg w58)],.nils),
  ([(.agg w81)],.nils),
  ([(.agg w79)],.nils),
  ([(.agg w84)],.nils),
  ([(.agg w89)],w120),
  ([(.agg w85)],.nils),
  ([(.agg w88)],.nils),
  ([(.agg w92)],.nils),
  ([(.agg w91)],.nils),
  ([(.agg w95)],w121),
  ([(.agg w40)],w122),
  ([(.agg w97)],w118),
  ([(.agg w96)],w118),
  ([(.agg w98)],w118),
  ([(.agg w99)],.nils),
  ([(.agg w82)],w121),
  ([(.agg w100)],.nils),
  ([(.agg w101)],.nils),
  ([(.agg w102)],.nils)]
set_option maxHeartbeats 0 in
theorem k3_39_0_ok : AllE Tryz.prog 39 k3_39_0 := keep hk3_ok (by decide +kernel)
noncomputable def k3_83_0 : List (List AV × AV) := [([(.agg w104)],w118),
  ([(.agg w36)],w119),
  ([(.agg w105)],.nils),
  ([(.agg w43)],w120),
  ([(.agg w106)],.nils),
  ([(.agg w107)],.nils),
  ([(.agg w108)],.nils)]
set_option maxHeartbeats 0 in
theorem k3_83_0_ok : AllE Tryz.prog 83 k3_83_0 := keep hk3_ok (by decide +kernel)
noncomputable def k3_31_0 : List (List AV × AV) := [([w12,(.agg w15)],(.tup [(.str [112,40,49,41]),(ci 0)])),
  ([w12,(.agg w18)],(.tup [(.str [112,40,50,41]),(ci 0)])),
  ([w12,(.agg w26)],(.tup [(.str [95,48]),(ci 0)])),
  ([w12,(.agg w111)],(.tup [(.str [108,97,98,101,108,40,123,125,41,44,112,40,51,41,44,108,97,98,101,108,40,39,123,97,44,98,125,39,41]),(ci 0)])),
  ([w12,(.agg w60)],(.tup [(.str [101,114,114,111,114,40,57,41]),(ci 0)])),
  ([w12,(.agg w112)],(.tup [(.str [97,115,115,101,114,116,122,40,115,40,49,41,41,44,115,40,49,41]),(ci 0)])),
  ([w12,(.agg w113)],(.tup [(.str [116,111,95,108,97,98,101,108,101,100,40,39,123,97,44,98,125,39,44,50,48,44,112,40,51,41,44,39,36,98,111,120,39,40,49,41,41,44,108,97,98,101,108,40,123,125,41,44,117,110,108,97,98,101,108,40,39,36,98,111,120,39,40,49,41,44,121,101,115,40,112,40,51,41,41,41,44,108,97,98,101,108,40,39,123,97,44,98,125,39,41]),(ci 0)])),
  ([w12,(.agg w114)],(.tup [(.str [116,111,95,108,97,98,101,108,101,100,40,123,125,44,57,44,116,104,114,111,119,40,120,41,44,39,36,98,111,120,39,40,49,41,41,44,117,110,108,97,98,101,108,40,39,36,98,111,120,39,40,49,41,44,98,97,108,108,40,120,41,41]),(ci 0)])),
  ([w12,(.agg w115)],(.tup [(.str [116,111,95,108,97,98,101,108,101,100,40,123,125,44,50,44,40,116,114,117,101,32,59,32,112,40,57,41,41,44,39,36,98,111,120,39,40,49,41,41,44,116,111,95,108,97,98,101,108,101,100,40,123,125,44,49,44,40,102,97,105,108,44,102,97,105,108,41,44,39,36,98,111,120,39,40,50,41,41,44,117,110,108,97,98,101,108,40,39,36,98,111,120,39,40,50,41,44,110,111,41]),(ci 0)])),
  ([w12,(.agg w116)],(.tup [(.str [114,101,116,114,97,99,116,40,115,40,49,41,41,44,92,43,32,115,40,95,48,41]),(ci 0)])),
  ([w12,(.agg w99)],(.tup [(.str [101,114,114,111,114,40,53,41]),(ci 0)])),
  ([w12,(.agg w100)],(.tup [(.str [101,114,114,111,114,40,54,41]),(ci 0)])),
  ([w12,(.agg w102)],(.tup [(.str [101,114,114,111,114,40,56,41]),(ci 0)]))]
set_option maxHeartbeats 0 in
theorem k3_31_0_ok : AllE Tryz.prog 31 k3_31_0 := keep hk3_ok (by decide +kernel)
end Go.Proofs.YtfbhoomfhjlbiaaGreatDoor
