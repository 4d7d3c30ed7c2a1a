/- Kept results as hooks. -/
import Derived.Test.YtdkfimmhgpeimaaGreatDoorQkS1_0
namespace Go.Proofs.YtdkfimmhgpeimaaGreatDoor
open Go Go.Abs
set_option linter.unusedVariables false
set_option maxRecDepth 100000
/-- sizar/label.Good -/
noncomputable def M1_103 : ML := mkM [184262195] (k1_103_0)
theorem M1_103_ok : HookOne Tryz.prog 103 (memoF (mkF M1_103)) := HookOne.memoM (by decide +kernel) (k1_103_0_ok)
/-- sizar/sizarref14.PlainPred -/
noncomputable def M1_111 : ML := mkM [137461,138453,139352,140344,121655012,135570] (k1_111_0)
theorem M1_111_ok : HookOne Tryz.prog 111 (memoF (mkF M1_111)) := HookOne.memoM (by decide +kernel) (k1_111_0_ok)
/-- sizar/op.Plain -/
noncomputable def M1_30 : ML := mkM [38] (k1_30_0)
theorem M1_30_ok : HookOne Tryz.prog 30 (memoF (mkF M1_30)) := HookOne.memoM (by decide +kernel) (k1_30_0_ok)
/-- sizar/op.Good -/
noncomputable def M1_187 : ML := mkM [7631002] (k1_187_0)
theorem M1_187_ok : HookOne Tryz.prog 187 (memoF (mkF M1_187)) := HookOne.memoM (by decide +kernel) (k1_187_0_ok)
noncomputable def hk2 : HL := (103, memoF (mkF M1_103)) :: (111, memoF (mkF M1_111)) :: (30, memoF (mkF M1_30)) :: (187, memoF (mkF M1_187)) :: hk0
theorem hk2_ok : AllH Tryz.prog hk2 := .c M1_103_ok <| .c M1_111_ok <| .c M1_30_ok <| .c M1_187_ok <| hk0_ok
end Go.Proofs.YtdkfimmhgpeimaaGreatDoor
