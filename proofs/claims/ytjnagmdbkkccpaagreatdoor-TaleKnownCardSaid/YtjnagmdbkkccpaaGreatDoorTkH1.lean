/- Kept results as hooks. -/
import Derived.Test.YtjnagmdbkkccpaaGreatDoorTkS1_0
namespace Go.Proofs.YtjnagmdbkkccpaaGreatDoor
open Go Go.Abs Go.RowKit
set_option linter.unusedVariables false
set_option maxRecDepth 100000
/-- strings.Trim -/
noncomputable def M1_74 : ML := mkM [159911295,62934324,254539102,4261292,245640509,153644477,205210149,206122031,47125899,241164924] (k1_74_0)
theorem M1_74_ok : HookOne Tryz.prog 74 (memoF (mkF M1_74)) := HookOne.memoM (by decide +kernel) (k1_74_0_ok)
/-- sizar/label.Good -/
noncomputable def M1_24 : ML := mkM [3820137,184262195] (k1_24_0)
theorem M1_24_ok : HookOne Tryz.prog 24 (memoF (mkF M1_24)) := HookOne.memoM (by decide +kernel) (k1_24_0_ok)
/-- sizar/term.Size -/
noncomputable def M1_77 : ML := mkM [142795485,30985563,245881963,188594327,29585570,128561759,142825276,59614714,16392318,29615361] (k1_77_0)
theorem M1_77_ok : HookOne Tryz.prog 77 (memoF (mkF M1_77)) := HookOne.memoM (by decide +kernel) (k1_77_0_ok)
/-- sizar/term.Depth -/
noncomputable def M1_78 : ML := mkM [142795485,30985563,245881963,188594327,29585570,128561759,142825276,59614714,16392318,29615361] (k1_78_0)
theorem M1_78_ok : HookOne Tryz.prog 78 (memoF (mkF M1_78)) := HookOne.memoM (by decide +kernel) (k1_78_0_ok)
/-- sizar/sig.Plain -/
noncomputable def M1_23 : ML := mkM [137461,4162160,138453] (k1_23_0)
theorem M1_23_ok : HookOne Tryz.prog 23 (memoF (mkF M1_23)) := HookOne.memoM (by decide +kernel) (k1_23_0_ok)
/-- sizar/op.Plain -/
noncomputable def M1_32 : ML := mkM [38] (k1_32_0)
theorem M1_32_ok : HookOne Tryz.prog 32 (memoF (mkF M1_32)) := HookOne.memoM (by decide +kernel) (k1_32_0_ok)
/-- sizar/op.Good -/
noncomputable def M1_159 : ML := mkM [7631002] (k1_159_0)
theorem M1_159_ok : HookOne Tryz.prog 159 (memoF (mkF M1_159)) := HookOne.memoM (by decide +kernel) (k1_159_0_ok)
/-- sizar/op.find -/
noncomputable def M1_268 : ML := mkM [85672775,85738092,85739084] (k1_268_0)
theorem M1_268_ok : HookOne Tryz.prog 268 (memoF (mkF M1_268)) := HookOne.memoM (by decide +kernel) (k1_268_0_ok)
noncomputable def hk2 : HL := (74, memoF (mkF M1_74)) :: (24, memoF (mkF M1_24)) :: (77, memoF (mkF M1_77)) :: (78, memoF (mkF M1_78)) :: (23, memoF (mkF M1_23)) :: (32, memoF (mkF M1_32)) :: (159, memoF (mkF M1_159)) :: (268, memoF (mkF M1_268)) :: hk0
theorem hk2_ok : AllH Tryz.prog hk2 := .c M1_74_ok <| .c M1_24_ok <| .c M1_77_ok <| .c M1_78_ok <| .c M1_23_ok <| .c M1_32_ok <| .c M1_159_ok <| .c M1_268_ok <| hk0_ok
end Go.Proofs.YtjnagmdbkkccpaaGreatDoor
