/- 'sizarlaw20.EvalKnown' returns true: carried out. -/
import Derived.Test.YtcnnobcncklgfaaGreatDoorEvalKnownS0
import Derived.Test.YtcnnobcncklgfaaGreatDoorEvalKnownS1
import Derived.Test.YtcnnobcncklgfaaGreatDoorEvalKnownS2
namespace Go.Proofs.YtcnnobcncklgfaaGreatDoor
open Go Go.Abs Go.RowKit
set_option linter.unusedVariables false
def sayM : List (List AV × AV) := sayM0 ++ sayM1 ++ sayM2
theorem say_run : (sayM.all fun e => e.1.all flatC && answersV (arunK Tryz.prog all (hooksOf hooks2) 10000 100 32 e.1 AH.empty) e.2) = true := by
  simp only [sayM, List.all_append, Bool.and_eq_true]
  exact ⟨⟨say_run0, say_run1⟩, say_run2⟩
theorem say_one : HookOne Tryz.prog 32 (memoH sayM) := HookOne.memo (by decide +kernel) (memoV_of (run_ok hooks2_ok) say_run)
def hooks3 : List (FuncId × (List AV → AH → Option (AV × AH))) := (32, memoH sayM) :: hooks2
theorem hooks3_ok : ∀ e ∈ hooks3, HookOne Tryz.prog e.1 e.2 := by
  intro e he
  rcases List.mem_cons.1 he with rfl | he
  · exact say_one
  · exact hooks2_ok e he
set_option maxRecDepth 100000 in
set_option maxHeartbeats 0 in
theorem main_run : answers (arunK Tryz.prog all (hooksOf hooks3) 10000 100 7 [] AH.empty) (.bool true) = true := by decide +kernel
theorem known_any (w : World) : Calls Tryz.prog 7 #[] w fun e w' => e = .returned (.bool true) ∧ Below w.heap.size w w' := calls_closed (run_ok hooks3_ok) main_run w
end Go.Proofs.YtcnnobcncklgfaaGreatDoor
