/- Small words on memory: a block of cells known whole, kept over a call that leaves old memory alone, over a new block, over a store into another block.   PLAIN: numbers that do not overflow: what chapter 2's Two, One, Cmp come to, on integers; and the facts by which Go's own tests tell it.   What the library's variables hold, kept over every call that leaves old memory alone; two numbers as a call's results. -/
import Derived.Test.YtjnagmdbkkccpaaGreatDoorRows
import Derived.WalkKit
import Derived.ProofKit
import Derived.OpenShut
import Derived.Lib.Hide
import Derived.WalkSpells
import Derived.IntWalk
import Derived.Test.YtjnagmdbkkccpaaGreatDoorShelf
import Derived.Lib.LaidTab
import Derived.Lib.AppendIntMem
import Derived.WalkSmall
import Derived.WalkLawsBesides
namespace Go.Proofs.YtjnagmdbkkccpaaGreatDoor
open Go Go.ChangeShapes Go.WideShapes Go.ChangeAt Go.RowKit
set_option linter.unusedVariables false
/-- Block b holds just these cells, none of them frozen. -/
def Blk (w : World) (b : Nat) (cs : Array Value) (t : TypeId) : Prop := w.heap[b]? = some (.cells cs t (0, 0))
theorem Blk.lt {w : World} {b : Nat} {cs : Array Value} {t : TypeId} (h : Blk w b cs t) : b < w.heap.size := by
  unfold Blk at h
  rcases Nat.lt_or_ge b w.heap.size with h' | h'
  · exact h'
  · rw [Array.getElem?_eq_none h'] at h; cases h
theorem Blk.cell {w : World} {b : Nat} {cs : Array Value} {t : TypeId} (h : Blk w b cs t) {i : Nat} {v : Value} (hv : cs[i]? = some v) : w.cell? ⟨b, i, none⟩ = some v := by
  unfold Blk at h; simp [World.cell?, h, hv]
theorem Blk.free {w : World} {b : Nat} {cs : Array Value} {t : TypeId} (h : Blk w b cs t) (i : Nat) : w.frozen? ⟨b, i, none⟩ = false := by
  unfold Blk at h; simp [World.frozen?, h]
theorem Blk.new (w : World) (cs : Array Value) (t : TypeId) : Blk (w.alloc (.cells cs t)) w.heap.size cs t := by
  show (w.heap.push _)[w.heap.size]? = _
  simp
theorem Blk.alloc {w : World} {b : Nat} {cs : Array Value} {t : TypeId} (h : Blk w b cs t) (o : Obj) : Blk (w.alloc o) b cs t := by
  have := h.lt
  show (w.heap.push _)[b]? = _
  rw [Array.getElem?_push, if_neg (by omega)]; exact h
theorem Blk.drew {w : World} {b : Nat} {cs : Array Value} {t : TypeId} (h : Blk w b cs t) : Blk w.drew b cs t := h
theorem Blk.keep {w w' : World} {b : Nat} {cs : Array Value} {t : TypeId} (h : Blk w b cs t) (hb : Below w.heap.size w w') : Blk w' b cs t := by
  unfold Blk; rw [hb.block b h.lt]; exact h
theorem Blk.below {w w' : World} {B b : Nat} {cs : Array Value} {t : TypeId} (h : Blk w b cs t) (hb : Below B w w') (hlt : b < B) : Blk w' b cs t := by
  unfold Blk; rw [hb.block b hlt]; exact h
theorem Blk.store {w : World} {b : Nat} {cs : Array Value} {t : TypeId} (h : Blk w b cs t) (i : Nat) (v : Value) : Blk (w.setCell ⟨b, i, none⟩ v) b (cs.setIfInBounds i v) t := by
  unfold Blk at *
  simp [World.setCell, Array.getElem?_modify, h]
/-- The facts that the walk wants of a struct of one to four cells. -/
theorem Blk.one {w : World} {b : Nat} {x : Value} {t : TypeId} (h : Blk w b #[x] t) : w.cell? ⟨b, 0, none⟩ = some x ∧ w.frozen? ⟨b, 0, none⟩ = false ∧ b < w.heap.size :=
  ⟨h.cell rfl, h.free 0, h.lt⟩
theorem Blk.two {w : World} {b : Nat} {x y : Value} {t : TypeId} (h : Blk w b #[x, y] t) : w.cell? ⟨b, 0, none⟩ = some x ∧ w.cell? ⟨b, 1, none⟩ = some y ∧ w.frozen? ⟨b, 0, none⟩ = false ∧ w.frozen? ⟨b, 1, none⟩ = false ∧ b < w.heap.size :=
  ⟨h.cell rfl, h.cell rfl, h.free 0, h.free 1, h.lt⟩
end Go.Proofs.YtjnagmdbkkccpaaGreatDoor
namespace Go.Proofs.YtjnagmdbkkccpaaGreatDoor
open Go Go.RowKit
set_option linter.unusedVariables false
def i64 (a : Int) : Prop := -9223372036854775808 ≤ a ∧ a ≤ 9223372036854775807
instance (a : Int) : Decidable (i64 a) := by unfold i64; exact inferInstance
end Go.Proofs.YtjnagmdbkkccpaaGreatDoor
namespace Go.Proofs.YtjnagmdbkkccpaaGreatDoor
open Go Go.ChangeShapes Go.WideShapes Go.ChangeAt Go.RowKit
set_option linter.unusedVariables false
theorem var_keep {P : Program} {W W' : World} {n : String} {cs : Array Value} (hv : W.var? P n = some cs) (h : Below W.heap.size W W') : W'.var? P n = some cs := by
  unfold World.var? at hv ⊢
  cases hg : P.globalNamed n with
  | none => rw [hg] at hv; cases hv
  | some g =>
    simp only [hg, Option.bind_some] at hv ⊢
    have hlt : g < W.heap.size := by
      rcases Nat.lt_or_ge g W.heap.size with h' | h'
      · exact h'
      · rw [Array.getElem?_eq_none h'] at hv; cases hv
    rw [h.block g hlt]; exact hv
/-- The library's table of powers of ten reads as its text lays it. -/
def Tab (w : World) : Prop := Lib.TabIs Tryz.prog w "internal/strconv.uint64pow10" .u64 Lib.pow10Tab
theorem Tab.keep {w w' : World} (h : Tab w) (hb : Below w.heap.size w w') : Tab w' := var_keep h hb
end Go.Proofs.YtjnagmdbkkccpaaGreatDoor
