/- Numbers written: whole.Text. -/
import Derived.Test.YtnnfmfiaecaahaaDoorVars
import Derived.Lib.AppendIntMem
namespace Go.Proofs.YtnnfmfiaecaahaaDoor
open Go Go.ChangeShapes Go.WideShapes Go.ChangeAt Go.RowKit
set_option linter.unusedVariables false
theorem text_any (n : Int) (hn : i64 n) (w : World) (ht : Tab w) : Calls Tryd.prog 13 #[.int .i64 n] w fun e w' => e = .returned (.string ⟨(Lib.itoa n).toArray⟩) ∧ Below w.heap.size w w' := by
  have T := Lib.hid ht; clear ht
  have N := Lib.hid hn; clear hn
  go_enter Tryd.func13, Tryd.ntmps13
  go_wp2_with (go_at_call 27; refine (Tryd.strconv_FormatInt_10 n N.out.1 N.out.2 _ T.out).mono ?_; rintro e w' ⟨rfl, k, os, rfl⟩)
  go_ret
  exact ⟨rfl, Lib.below_grow _ _ (Nat.le_refl _) k os⟩
theorem text_b (n : Int) (hn : i64 n) (w : World) (ht : Tab w) (l : List UInt8) (hl : Lib.itoa n = l) : Calls Tryd.prog 13 #[.int .i64 n] w fun e w' => e = .returned (.string ⟨l.toArray⟩) ∧ Below w.heap.size w w' := by
  have := text_any n hn w ht; rw [hl] at this; exact this
end Go.Proofs.YtnnfmfiaecaahaaDoor
