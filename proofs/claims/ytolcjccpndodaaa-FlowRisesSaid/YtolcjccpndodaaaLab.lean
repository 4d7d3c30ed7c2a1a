/- Labels: the plain words of the order, the join and the meet; and the contracts of label.Leq, Meet, Join. -/
import Derived.Test.YtolcjccpndodaaaRows
import Derived.WalkKit
import Derived.ProofKit
import Derived.OpenShut
import Derived.Lib.Hide
import Derived.WalkSpells
import Derived.RegionTactic
import Derived.Deep.RegionWith
import Derived.ChangeAlike
import Derived.BigRegion
import Derived.Test.YtolcjccpndodaaaLabPlain
namespace Go.Proofs.Ytolcjccpndodaaa
open Go.ChangeShapes Go.WideShapes Go.ChangeAt Go.RowKit
set_option linter.unusedVariables false
theorem bcell {W w1 : World} (hb : Below W.heap.size W w1) : (∀ b o, b < W.heap.size → w1.cell? ⟨b, o, none⟩ = W.cell? ⟨b, o, none⟩) ∧ (∀ b o, b < W.heap.size → w1.frozen? ⟨b, o, none⟩ = W.frozen? ⟨b, o, none⟩) :=
  ⟨fun b o h => hb.cell (p := ⟨b, o, none⟩) h, fun b o h => hb.frozen (p := ⟨b, o, none⟩) h⟩
theorem cell_lt {W : World} {a : Addr} {v : Value} (h : W.cell? a = some v) : a.block < W.heap.size := by
  unfold World.cell? at h
  rcases Nat.lt_or_ge a.block W.heap.size with h' | h'
  · exact h'
  · rw [Array.getElem?_eq_none h'] at h; cases h
theorem keep {W w1 : World} {a : Addr} {v : Value} (hb : Below W.heap.size W w1) (h : W.cell? a = some v) : w1.cell? a = some v := by
  rw [hb.cell (cell_lt h)]; exact h
theorem keepf {W w1 : World} {a : Addr} {v : Value} (hb : Below W.heap.size W w1) (h : W.cell? a = some v) (hf : W.frozen? a = false) : w1.frozen? a = false := by
  rw [hb.frozen (cell_lt h)]; exact hf
theorem ball {a w : World} (h : Below a.heap.size a w) (o : Obj) : Below a.heap.size a (w.alloc o) := h.alloc h.size o
theorem bcall {a w w' : World} (h : Below a.heap.size a w) (k : Below w.heap.size w w') : Below a.heap.size a w' := h.trans (k.mono h.size)
theorem leq_any (a b : Int) (w : World) : Calls Try.prog 11 #[.int .u64 a, .int .u64 b] w fun e w' => e = .returned (.bool (lq a b)) ∧ w = w' := by
  go_enter Try.func11, Try.ntmps11
  go_wp2
  go_ret
  exact ⟨rfl, rfl⟩
theorem leq_b (a b : Int) (t : Bool) (h : lq a b = t) (w : World) : Calls Try.prog 11 #[.int .u64 a, .int .u64 b] w fun e w' => e = .returned (.bool t) ∧ w = w' := by
  have := leq_any a b w; rw [h] at this; exact this
theorem meet_any (a b : Int) (w : World) : Calls Try.prog 17 #[.int .u64 a, .int .u64 b] w fun e w' => e = .returned (.int .u64 (mt a b)) ∧ w = w' := by
  go_enter Try.func17, Try.ntmps17
  go_wp2
  go_ret
  exact ⟨rfl, rfl⟩
theorem join_any (a b : Int) (B : Nat) (cap : Nat) (w : World) (h0 : w.cell? ⟨B, 0, none⟩ = some (.int .u64 a)) (h1 : w.cell? ⟨B, 1, none⟩ = some (.int .u64 b)) (hz : bits .or .u64 0 a = a) :
   Calls Try.prog 16 #[.slice (some ⟨B, 0, none⟩) 2 cap] w fun e w' => e = .returned (.int .u64 (jn a b)) ∧ w = w' := by
  go_enter Try.func16, Try.ntmps16
  go_wp2
  refine wp_loop_rounds 3 ?_
  rw [rounds_succ]
  go_wp2
  rw [rounds_succ]
  go_wp2
  rw [rounds_succ]
  go_wp2
  go_ret
  exact ⟨rfl, rfl⟩
end Go.Proofs.Ytolcjccpndodaaa
