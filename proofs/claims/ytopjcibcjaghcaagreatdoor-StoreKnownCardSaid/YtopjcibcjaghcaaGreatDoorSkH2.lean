/- Kept results as hooks. -/
import Derived.Test.YtopjcibcjaghcaaGreatDoorSkS2_0
namespace Go.Proofs.YtopjcibcjaghcaaGreatDoor
open Go Go.Abs Go.RowKit
set_option linter.unusedVariables false
set_option maxRecDepth 100000
/-- sizar/term.Good -/
noncomputable def M2_42 : ML := mkM [142795485,142825276,142855067,30985563,245881963,59614714,28632258,10842698,16392318,209909697,108762361,188594327,256198566,202760469] (k2_42_0)
theorem M2_42_ok : HookOne Tryz.prog 42 (memoF (mkF M2_42)) := HookOne.memoM (by decide +kernel) (k2_42_0_ok)
/-- sizar/label.Fits -/
noncomputable def M2_37 : ML := mkM [74984549,74984487,74984456,74984518,74984580] (k2_37_0)
theorem M2_37_ok : HookOne Tryz.prog 37 (memoF (mkF M2_37)) := HookOne.memoM (by decide +kernel) (k2_37_0_ok)
/-- sizar/sig.Plain -/
noncomputable def M2_74 : ML := mkM [137461,138453,139352,147071] (k2_74_0)
theorem M2_74_ok : HookOne Tryz.prog 74 (memoF (mkF M2_74)) := HookOne.memoM (by decide +kernel) (k2_74_0_ok)
/-- sizar/sizarref1.Good -/
noncomputable def M2_80 : ML := mkM [142795485,142825276,142855067] (k2_80_0)
theorem M2_80_ok : HookOne Tryz.prog 80 (memoF (mkF M2_80)) := HookOne.memoM (by decide +kernel) (k2_80_0_ok)
/-- sizar/sizarref1.Fits -/
noncomputable def M2_46 : ML := mkM [74984549,74984487,74984456] (k2_46_0)
theorem M2_46_ok : HookOne Tryz.prog 46 (memoF (mkF M2_46)) := HookOne.memoM (by decide +kernel) (k2_46_0_ok)
/-- sizar/op.find -/
noncomputable def M2_222 : ML := mkM [85672775,240395683,85740014,85740045] (k2_222_0)
theorem M2_222_ok : HookOne Tryz.prog 222 (memoF (mkF M2_222)) := HookOne.memoM (by decide +kernel) (k2_222_0_ok)
noncomputable def hk3 : HL := (42, memoF (mkF M2_42)) :: (37, memoF (mkF M2_37)) :: (74, memoF (mkF M2_74)) :: (80, memoF (mkF M2_80)) :: (46, memoF (mkF M2_46)) :: (222, memoF (mkF M2_222)) :: hk2
theorem hk3_ok : AllH Tryz.prog hk3 := .c M2_42_ok <| .c M2_37_ok <| .c M2_74_ok <| .c M2_80_ok <| .c M2_46_ok <| .c M2_222_ok <| hk2_ok
end Go.Proofs.YtopjcibcjaghcaaGreatDoor
