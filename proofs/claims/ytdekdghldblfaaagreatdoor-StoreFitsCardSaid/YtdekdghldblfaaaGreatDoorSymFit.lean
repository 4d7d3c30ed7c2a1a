import Derived.Test.YtdekdghldblfaaaGreatDoorDrawsA
import Derived.Test.YtdekdghldblfaaaGreatDoorAbsV
import Derived.Test.YtdekdghldblfaaaGreatDoorAbsSB
namespace Go.Proofs.YtdekdghldblfaaaGreatDoor
open Go Go.Abs Go.RowKit
set_option linter.unusedVariables false
theorem run0 : CallOK Tryz.prog (arun Tryz.prog all (hooksOf []) 1000 50):=arun_ok mixed draws (hooksOf_ok (P:=Tryz.prog) (l:=[]) (by simp)).1 (hooksOf_ok (P:=Tryz.prog) (l:=[]) (by simp)).2 50
def namesV : AV:=.vals 1 [[.str [97]],[.str [98]]]
theorem fit_run {l : Int} (h : answers (arunK Tryz.prog all (hooksOf []) 1000 50 37 [namesV,.int .u64 l] AH.empty) (.bool true) = true) (H : AH) : ACalls Tryz.prog 37 [namesV,.int .u64 l] H fun y H'=>y = .bool true ∧ H' = H:=by
 obtain ⟨x,H1,h2,h3⟩:=answers_ok h
 rw [arunK_eq] at h2
 exact ACalls.memoF 100 (run0 _ _ _ _ _ h2).2 h3 (m:=3) (ks:=[namesV,.int .u64 l]) rfl
set_option maxRecDepth 100000 in
theorem fit0 : answers (arunK Tryz.prog all (hooksOf []) 1000 50 37 [namesV,.int .u64 0] AH.empty) (.bool true) = true:=by decide +kernel
set_option maxRecDepth 100000 in
theorem fit1 : answers (arunK Tryz.prog all (hooksOf []) 1000 50 37 [namesV,.int .u64 1] AH.empty) (.bool true) = true:=by decide +kernel
set_option maxRecDepth 100000 in
theorem fit2 : answers (arunK Tryz.prog all (hooksOf []) 1000 50 37 [namesV,.int .u64 2] AH.empty) (.bool true) = true:=by decide +kernel
set_option maxRecDepth 100000 in
theorem fit3 : answers (arunK Tryz.prog all (hooksOf []) 1000 50 37 [namesV,.int .u64 3] AH.empty) (.bool true) = true:=by decide +kernel
noncomputable def fitS : List AV → Option AV
 | [.vals 1 [[.str [97]],[.str [98]]],.int .u64 l]=>if 0 ≤ l ∧ l < 4 then some (.bool true) else none
 | _=>none
theorem fit_eq {l : Int} (h : 0 ≤ l ∧ l < 4) : fitS [.vals 1 [[.str [97]],[.str [98]]],.int .u64 l] = some (.bool true):=if_pos h
theorem fit_one : HookOne Tryz.prog 37 (pureF fitS):=by
 refine HookOne.ofPureF (by decide +kernel) fun args y h H=>?_
 unfold fitS at h; split at h
 ·rename_i l
  split at h
  ·rename_i hc
   cases h
   have : l = 0 ∨ l = 1 ∨ l = 2 ∨ l = 3:=by omega
   rcases this with rfl | rfl | rfl | rfl
   ·exact fit_run fit0 H
   ·exact fit_run fit1 H
   ·exact fit_run fit2 H
   ·exact fit_run fit3 H
  ·cases h
 ·cases h
end Go.Proofs.YtdekdghldblfaaaGreatDoor
