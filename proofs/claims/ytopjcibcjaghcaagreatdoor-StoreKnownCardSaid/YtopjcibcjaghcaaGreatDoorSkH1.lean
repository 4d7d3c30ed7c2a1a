/- Kept results as hooks. -/
import Derived.Test.YtopjcibcjaghcaaGreatDoorSkS1_0
namespace Go.Proofs.YtopjcibcjaghcaaGreatDoor
open Go Go.Abs Go.RowKit
set_option linter.unusedVariables false
set_option maxRecDepth 100000
/-- sizar/label.Good -/
noncomputable def M1_75 : ML := mkM [184262195] (k1_75_0)
theorem M1_75_ok : HookOne Tryz.prog 75 (memoF (mkF M1_75)) := HookOne.memoM (by decide +kernel) (k1_75_0_ok)
/-- sizar/sizarref14.PlainPred -/
noncomputable def M1_82 : ML := mkM [137461,138453,139352] (k1_82_0)
theorem M1_82_ok : HookOne Tryz.prog 82 (memoF (mkF M1_82)) := HookOne.memoM (by decide +kernel) (k1_82_0_ok)
/-- sizar/op.Plain -/
noncomputable def M1_61 : ML := mkM [38] (k1_61_0)
theorem M1_61_ok : HookOne Tryz.prog 61 (memoF (mkF M1_61)) := HookOne.memoM (by decide +kernel) (k1_61_0_ok)
/-- sizar/op.Good -/
noncomputable def M1_134 : ML := mkM [7631002] (k1_134_0)
theorem M1_134_ok : HookOne Tryz.prog 134 (memoF (mkF M1_134)) := HookOne.memoM (by decide +kernel) (k1_134_0_ok)
noncomputable def hk2 : HL := (75, memoF (mkF M1_75)) :: (82, memoF (mkF M1_82)) :: (61, memoF (mkF M1_61)) :: (134, memoF (mkF M1_134)) :: hk0
theorem hk2_ok : AllH Tryz.prog hk2 := .c M1_75_ok <| .c M1_82_ok <| .c M1_61_ok <| .c M1_134_ok <| hk0_ok
end Go.Proofs.YtopjcibcjaghcaaGreatDoor
