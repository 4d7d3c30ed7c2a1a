/- What the library's variables hold, kept over every call that leaves old memory alone; two numbers as a call's results. -/
import Derived.Test.YtfbhoomfhjlbiaaGreatDoorBase
import Derived.Test.YtfbhoomfhjlbiaaGreatDoorShelf
import Derived.Test.YtfbhoomfhjlbiaaGreatDoorWholePlain
import Derived.Lib.LaidTab
import Derived.Lib.AppendIntMem
import Derived.WalkSmall
import Derived.WalkLawsBesides
namespace Go.Proofs.YtfbhoomfhjlbiaaGreatDoor
open Go Go.ChangeShapes Go.WideShapes Go.ChangeAt Go.RowKit
set_option linter.unusedVariables false
theorem ball {a w : World} (h : Below a.heap.size a w) (o : Obj) : Below a.heap.size a (w.alloc o) := h.alloc h.size o
theorem bcall {a w w' : World} (h : Below a.heap.size a w) (k : Below w.heap.size w w') : Below a.heap.size a w' := h.trans (k.mono h.size)
theorem var_keep {P : Program} {W W' : World} {n : String} {cs : Array Value} (hv : W.var? P n = some cs) (h : Below W.heap.size W W') : W'.var? P n = some cs := by
  unfold World.var? at hv ⊢
  cases hg : P.globalNamed n with
  | none => rw [hg] at hv; cases hv
  | some g =>
    simp only [hg, Option.bind_some] at hv ⊢
    have hlt : g < W.heap.size := by
      rcases Nat.lt_or_ge g W.heap.size with h' | h'
      · exact h'
      · rw [Array.getElem?_eq_none h'] at hv; cases hv
    rw [h.block g hlt]; exact hv
/-- The library's table of powers of ten reads as its text lays it. -/
def Tab (w : World) : Prop := Lib.TabIs Tryz.prog w "internal/strconv.uint64pow10" .u64 Lib.pow10Tab
theorem Tab.keep {w w' : World} (h : Tab w) (hb : Below w.heap.size w w') : Tab w' := var_keep h hb
/-- Two numbers as a call's results. -/
def two64 (p : Int × Int) : Value := .tuple #[.int .i64 p.1, .int .i64 p.2]
theorem ret2 {p : Int × Int} {x y : Int} (h : p = (x, y)) : Ending.returned (.tuple #[.int .i64 x, .int .i64 y]) = .returned (two64 p) := by rw [h]; rfl
theorem not_beq {x y : Bool} (h : x ≠ y) : (!(x == y)) = true := by cases x <;> cases y <;> simp_all
theorem not_beq' {x y : Bool} (h : x = y) : (!(x == y)) = false := by cases x <;> cases y <;> simp_all
end Go.Proofs.YtfbhoomfhjlbiaaGreatDoor
