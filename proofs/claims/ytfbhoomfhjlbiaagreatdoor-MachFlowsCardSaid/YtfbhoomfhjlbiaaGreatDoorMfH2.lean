/- Kept results as hooks. -/
import Derived.Test.YtfbhoomfhjlbiaaGreatDoorMfS2_0
namespace Go.Proofs.YtfbhoomfhjlbiaaGreatDoor
open Go Go.Abs Go.RowKit
set_option linter.unusedVariables false
set_option maxRecDepth 100000
/-- sizar/term.Good -/
noncomputable def M2_51 : ML := mkM [30985563,59614714,142795485,142825276,142855067,142884858,267193953,142735903,83650209,245881963,94720271,233399082,229121396,153465981,145438556,50278971,195127879,188594327,29585570,29615361,88243865,9368527,28632258,145483047,28662049,229502413,195519289,159160403,238006649,145480668,48333768,235166768,16392318,108762361,56593153,30151599,41639711,10316548,28691840,28721631,222125484,267058078,193703671,35513979,206660642,29823898,228741383,143033813,204891529,8026564,171156912,63726418,61202551,133060200,38945699,49925114,76962919,205329692,145371931,70864275,123490045,56901669,152119196,137233188,209377498] (k2_51_0)
theorem M2_51_ok : HookOne Tryz.prog 51 (memoF (mkF M2_51)) := HookOne.memoM (by decide +kernel) (k2_51_0_ok)
/-- sizar/label.Fits -/
noncomputable def M2_33 : ML := mkM [74984549,74984487,74984456,74984518] (k2_33_0)
theorem M2_33_ok : HookOne Tryz.prog 33 (memoF (mkF M2_33)) := HookOne.memoM (by decide +kernel) (k2_33_0_ok)
/-- sizar/sizarref1.GoodNames -/
noncomputable def M2_61 : ML := mkM [184262195] (k2_61_0)
theorem M2_61_ok : HookOne Tryz.prog 61 (memoF (mkF M2_61)) := HookOne.memoM (by decide +kernel) (k2_61_0_ok)
/-- sizar/sizarref1.Good -/
noncomputable def M2_62 : ML := mkM [142795485,142825276,142855067,142884858,267193953,142735903,83650209,221436984,94720271,229121396,153465981,68269425,145438556,195127879,30985563,164400060,59614714,128397719,28632258,88243865,92395378,92855157,238006649,81023500,171912331,201479678,157683180,29010488,123490045,152119196,209377498] (k2_62_0)
theorem M2_62_ok : HookOne Tryz.prog 62 (memoF (mkF M2_62)) := HookOne.memoM (by decide +kernel) (k2_62_0_ok)
/-- sizar/sizarref1.Fits -/
noncomputable def M2_64 : ML := mkM [74984549,74984487,74984456,74984518] (k2_64_0)
theorem M2_64_ok : HookOne Tryz.prog 64 (memoF (mkF M2_64)) := HookOne.memoM (by decide +kernel) (k2_64_0_ok)
/-- sizar/sizarref1.GoodOps -/
noncomputable def M2_81 : ML := mkM [121475051] (k2_81_0)
theorem M2_81_ok : HookOne Tryz.prog 81 (memoF (mkF M2_81)) := HookOne.memoM (by decide +kernel) (k2_81_0_ok)
noncomputable def hk3 : HL := (51, memoF (mkF M2_51)) :: (33, memoF (mkF M2_33)) :: (61, memoF (mkF M2_61)) :: (62, memoF (mkF M2_62)) :: (64, memoF (mkF M2_64)) :: (81, memoF (mkF M2_81)) :: hk2
theorem hk3_ok : AllH Tryz.prog hk3 := .c M2_51_ok <| .c M2_33_ok <| .c M2_61_ok <| .c M2_62_ok <| .c M2_64_ok <| .c M2_81_ok <| hk2_ok
end Go.Proofs.YtfbhoomfhjlbiaaGreatDoor
