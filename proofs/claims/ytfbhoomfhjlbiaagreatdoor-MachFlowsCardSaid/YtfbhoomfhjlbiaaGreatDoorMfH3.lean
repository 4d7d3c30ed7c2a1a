/- Kept results as hooks. -/
import Derived.Test.YtfbhoomfhjlbiaaGreatDoorMfS3_0
namespace Go.Proofs.YtfbhoomfhjlbiaaGreatDoor
open Go Go.Abs Go.RowKit
set_option linter.unusedVariables false
set_option maxRecDepth 100000
/-- sizar/term.Vars -/
noncomputable def M3_39 : ML := mkM [83650209,94720271,153465981,145438556,30985563,59614714,188594327,245881963,29585570,29615361,88243865,9368527,28632258,145483047,28662049,229502413,195519289,159160403,238006649,145480668,48333768,235166768,16392318,108762361,142855067,56593153,30151599,10316548,28691840,41639711,28721631,222125484,267058078,193703671,35513979,206660642,29823898,228741383,143033813,204891529,8026564,171156912,61202551,38945699,133060200,49925114,76962919,205329692,145371931,70864275,123490045,56901669,152119196,137233188,209377498] (k3_39_0)
theorem M3_39_ok : HookOne Tryz.prog 39 (memoF (mkF M3_39)) := HookOne.memoM (by decide +kernel) (k3_39_0_ok)
/-- sizar/sizarref1.Vars -/
noncomputable def M3_83 : ML := mkM [221436984,94720271,68269425,145438556,164400060,128397719,92395378] (k3_83_0)
theorem M3_83_ok : HookOne Tryz.prog 83 (memoF (mkF M3_83)) := HookOne.memoM (by decide +kernel) (k3_83_0_ok)
/-- sizar/sizarref8.Write -/
noncomputable def M3_31 : ML := mkM [142483545,171112696,232162951,154043287,220526467,148574614,236118010,133264191,198477491,173714060,106009863,134639014,191897316] (k3_31_0)
theorem M3_31_ok : HookOne Tryz.prog 31 (memoF (mkF M3_31)) := HookOne.memoM (by decide +kernel) (k3_31_0_ok)
noncomputable def hk4 : HL := (39, memoF (mkF M3_39)) :: (83, memoF (mkF M3_83)) :: (31, memoF (mkF M3_31)) :: hk3
theorem hk4_ok : AllH Tryz.prog hk4 := .c M3_39_ok <| .c M3_83_ok <| .c M3_31_ok <| hk3_ok
end Go.Proofs.YtfbhoomfhjlbiaaGreatDoor
