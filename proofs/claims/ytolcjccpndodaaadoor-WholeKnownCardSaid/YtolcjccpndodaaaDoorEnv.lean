/- What the library's variables hold, kept over every call that leaves old memory alone; numbers written: whole.Text. -/
import Derived.Test.YtolcjccpndodaaaDoorBase
import Derived.Test.YtolcjccpndodaaaDoorShelf
import Derived.Test.YtolcjccpndodaaaDoorWholePlain
import Derived.Lib.LaidTab
import Derived.Lib.AppendIntMem
import Derived.WalkSmall
import Derived.WalkLawsBesides
namespace Go.Proofs.YtolcjccpndodaaaDoor
open Go Go.ChangeShapes Go.WideShapes Go.ChangeAt Go.RowKit
set_option linter.unusedVariables false
theorem ball {a w : World} (h : Below a.heap.size a w) (o : Obj) : Below a.heap.size a (w.alloc o) := h.alloc h.size o
theorem bcall {a w w' : World} (h : Below a.heap.size a w) (k : Below w.heap.size w w') : Below a.heap.size a w' := h.trans (k.mono h.size)
theorem var_keep {P : Program} {W W' : World} {n : String} {cs : Array Value} (hv : W.var? P n = some cs) (h : Below W.heap.size W W') : W'.var? P n = some cs := by
  unfold World.var? at hv ⊢
  cases hg : P.globalNamed n with
  | none => rw [hg] at hv; cases hv
  | some g =>
    simp only [hg, Option.bind_some] at hv ⊢
    have hlt : g < W.heap.size := by
      rcases Nat.lt_or_ge g W.heap.size with h' | h'
      · exact h'
      · rw [Array.getElem?_eq_none h'] at hv; cases hv
    rw [h.block g hlt]; exact hv
/-- The library's table of powers of ten reads as its text lays it. -/
def Tab (w : World) : Prop := Lib.TabIs Tryd.prog w "internal/strconv.uint64pow10" .u64 Lib.pow10Tab
theorem Tab.keep {w w' : World} (h : Tab w) (hb : Below w.heap.size w w') : Tab w' := var_keep h hb
theorem text_any (n : Int) (hn : i64 n) (w : World) (ht : Tab w) : Calls Tryd.prog 14 #[.int .i64 n] w fun e w' => e = .returned (.string ⟨(Lib.itoa n).toArray⟩) ∧ Below w.heap.size w w' := by
  have T := Lib.hid ht; clear ht
  have N := Lib.hid hn; clear hn
  go_enter Tryd.func14, Tryd.ntmps14
  go_wp2_with (go_at_call 29; refine (Tryd.strconv_FormatInt_10 n N.out.1 N.out.2 _ T.out).mono ?_; rintro e w' ⟨rfl, k, os, rfl⟩)
  go_ret
  exact ⟨rfl, Lib.below_grow _ _ (Nat.le_refl _) k os⟩
theorem text_b (n : Int) (hn : i64 n) (w : World) (ht : Tab w) (l : List UInt8) (hl : Lib.itoa n = l) : Calls Tryd.prog 14 #[.int .i64 n] w fun e w' => e = .returned (.string ⟨l.toArray⟩) ∧ Below w.heap.size w w' := by
  have := text_any n hn w ht; rw [hl] at this; exact this
end Go.Proofs.YtolcjccpndodaaaDoor
