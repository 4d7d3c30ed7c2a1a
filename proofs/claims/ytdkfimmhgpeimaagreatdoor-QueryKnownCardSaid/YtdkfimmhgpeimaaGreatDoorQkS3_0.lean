/- Kept results. -/
import Derived.Test.YtdkfimmhgpeimaaGreatDoorQkH2
import Derived.Test.YtdkfimmhgpeimaaGreatDoorQkV3
namespace Go.Proofs.YtdkfimmhgpeimaaGreatDoor
open Go Go.Abs
set_option linter.unusedVariables false
set_option maxRecDepth 100000
noncomputable def k3_63_0 : List (List AV × AV) := [([(.agg w23)],w109),
  ([(.agg w32)],w110),
  ([(.agg w34)],.nils),
  ([(.agg w39)],w111),
  ([(.agg w40)],w109),
  ([(.agg w22)],w109),
  ([(.agg w36)],.nils),
  ([(.agg w41)],w112),
  ([(.agg w42)],w109),
  ([(.agg w25)],.nils),
  ([(.agg w44)],w113),
  ([(.agg w43)],w113),
  ([(.agg w47)],w110),
  ([(.agg w45)],w113),
  ([(.agg w26)],(.vals 1 [[(ci 1)]])),
  ([(.agg w46)],w114),
  ([(.agg w48)],(.vals 1 [[(ci 3)],[(ci 2)]])),
  ([(.agg w28)],w115),
  ([(.agg w50)],w109),
  ([(.agg w49)],.nils),
  ([(.agg w52)],.nils),
  ([(.agg w55)],.nils),
  ([(.agg w54)],.nils),
  ([(.agg w56)],w112),
  ([(.agg w58)],w112),
  ([(.agg w59)],w115),
  ([(.agg w21)],.nils),
  ([(.agg w57)],.nils),
  ([(.agg w30)],w110),
  ([(.agg w31)],(.vals 1 [[(ci 1)],[(ci 2)],[(ci 3)]])),
  ([(.agg w65)],(.vals 1 [[(ci 3)],[(ci 4)],[(ci 5)],[(ci 6)]])),
  ([(.agg w61)],(.vals 1 [[(ci 3)],[(ci 4)]])),
  ([(.agg w64)],(.vals 1 [[(ci 3)],[(ci 6)]])),
  ([(.agg w66)],(.vals 1 [[(ci 4)],[(ci 5)],[(ci 6)]])),
  ([(.agg w69)],(.vals 1 [[(ci 7)]])),
  ([(.agg w67)],(.vals 1 [[(ci 4)],[(ci 6)]])),
  ([(.agg w70)],w114),
  ([(.agg w71)],w114),
  ([(.agg w78)],(.vals 1 [[(ci 8)],[(ci 9)],[(ci 10)],[(ci 11)]])),
  ([(.agg w74)],(.vals 1 [[(ci 8)],[(ci 9)]])),
  ([(.agg w77)],(.vals 1 [[(ci 8)],[(ci 11)]])),
  ([(.agg w79)],(.vals 1 [[(ci 9)],[(ci 10)],[(ci 11)]])),
  ([(.agg w82)],(.vals 1 [[(ci 12)]])),
  ([(.agg w80)],(.vals 1 [[(ci 9)],[(ci 11)]])),
  ([(.agg w83)],w116),
  ([(.agg w84)],w116),
  ([(.agg w91)],(.vals 1 [[(ci 13)],[(ci 14)],[(ci 15)],[(ci 16)]])),
  ([(.agg w87)],(.vals 1 [[(ci 13)],[(ci 14)]])),
  ([(.agg w90)],(.vals 1 [[(ci 13)],[(ci 16)]])),
  ([(.agg w92)],(.vals 1 [[(ci 14)],[(ci 15)],[(ci 16)]])),
  ([(.agg w95)],(.vals 1 [[(ci 17)]])),
  ([(.agg w93)],(.vals 1 [[(ci 14)],[(ci 16)]])),
  ([(.agg w96)],w117),
  ([(.agg w97)],w117),
  ([(.agg w104)],(.vals 1 [[(ci 18)],[(ci 19)],[(ci 20)],[(ci 21)]])),
  ([(.agg w100)],(.vals 1 [[(ci 18)],[(ci 19)]])),
  ([(.agg w103)],(.vals 1 [[(ci 18)],[(ci 21)]]))]
set_option maxHeartbeats 0 in
theorem k3_63_0_ok : AllE Tryz.prog 63 k3_63_0 := keep hk3_ok (by decide +kernel)
noncomputable def k3_128_0 : List (List AV × AV) := [([(.agg w105)],w109),
  ([(.agg w32)],w110),
  ([(.agg w106)],.nils),
  ([(.agg w39)],w111),
  ([(.agg w107)],w112)]
set_option maxHeartbeats 0 in
theorem k3_128_0_ok : AllE Tryz.prog 128 k3_128_0 := keep hk3_ok (by decide +kernel)
end Go.Proofs.YtdkfimmhgpeimaaGreatDoor
