/- Kept results as hooks. -/
import Derived.Test.YtjnagmdbkkccpaaGreatDoorTkS2_0
namespace Go.Proofs.YtjnagmdbkkccpaaGreatDoor
open Go Go.Abs Go.RowKit
set_option linter.unusedVariables false
set_option maxRecDepth 100000
/-- sizar/label.Parse -/
noncomputable def M2_73 : ML := mkM [181606828,261080445,261081406,213983691,123129949,177156812] (k2_73_0)
theorem M2_73_ok : HookOne Tryz.prog 73 (memoF (mkF M2_73)) := HookOne.memoM (by decide +kernel) (k2_73_0_ok)
/-- sizar/term.Good -/
noncomputable def M2_50 : ML := mkM [142795485,30985563,245881963,188594327,29585570,128561759,142825276,59614714,16392318,29615361] (k2_50_0)
theorem M2_50_ok : HookOne Tryz.prog 50 (memoF (mkF M2_50)) := HookOne.memoM (by decide +kernel) (k2_50_0_ok)
/-- sizar/label.Fits -/
noncomputable def M2_29 : ML := mkM [118424037,118424068,74984549,74984487,74984456] (k2_29_0)
theorem M2_29_ok : HookOne Tryz.prog 29 (memoF (mkF M2_29)) := HookOne.memoM (by decide +kernel) (k2_29_0_ok)
noncomputable def hk3 : HL := (73, memoF (mkF M2_73)) :: (50, memoF (mkF M2_50)) :: (29, memoF (mkF M2_29)) :: hk2
theorem hk3_ok : AllH Tryz.prog hk3 := .c M2_73_ok <| .c M2_50_ok <| .c M2_29_ok <| hk2_ok
end Go.Proofs.YtjnagmdbkkccpaaGreatDoor
