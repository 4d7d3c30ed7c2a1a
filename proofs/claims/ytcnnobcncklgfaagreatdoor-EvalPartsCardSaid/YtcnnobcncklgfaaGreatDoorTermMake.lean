/- The contracts of term.Atom, Int, Var. -/
import Derived.Test.YtcnnobcncklgfaaGreatDoorTermRep
import Derived.Laws.Rows
namespace Go.Proofs.YtcnnobcncklgfaaGreatDoor
open Go Go.ChangeShapes Go.WideShapes Go.ChangeAt Go.RowKit
set_option linter.unusedVariables false
theorem info_term : (Tryz.prog.info? 24).map (·.size) = some 4 := by kernel_rfl
theorem res_row {fn : Func} {p : Tmp} (h : fn.results = #[.cell p 24]) (tmps : Array Value) (B : Nat) (hB : tmps.getD p undef = .pointer (some ⟨B, 0, none⟩)) (x y z u : Value)
    (w : World) (hw : Blk w B #[x, y, z, u] 24) : (results fn tmps).run Tryz.prog w = .ok (.agg #[x, y, z, u]) w := by
  exact results_cell_row h tmps w B 24 #[x, y, z, u] (0, 0) _ hB hw Tryz.underlying24 rfl info_term
theorem atom_any (s : ByteArray) (w : World) : Calls Tryz.prog 42 #[.string s] w fun e w' => e = .returned (.agg #[.int .i64 2, .int .i64 0, .string s, .slice none 0 0]) ∧ Below w.heap.size w w' := by
  go_enter Tryz.func42, Tryz.ntmps42
  go_wp2
  (try simp only [Exit.inBlock, Exit.then]); refine bodyPost_ret (res_row rfl _ w.heap.size rfl _ _ _ _ _ (Blk.new _ _ _)) rfl ?_
  exact ⟨rfl, Below.alloc (Below.refl _ _) (Nat.le_refl _) _⟩
theorem int_any (n : Int) (w : World) : Calls Tryz.prog 30 #[.int .i64 n] w fun e w' => e = .returned (.agg #[.int .i64 1, .int .i64 n, .string ⟨#[]⟩, .slice none 0 0]) ∧ Below w.heap.size w w' := by
  go_enter Tryz.func30, Tryz.ntmps30
  go_wp2
  (try simp only [Exit.inBlock, Exit.then]); refine bodyPost_ret (res_row rfl _ w.heap.size rfl _ _ _ _ _ (Blk.new _ _ _)) rfl ?_
  exact ⟨rfl, Below.alloc (Below.refl _ _) (Nat.le_refl _) _⟩
theorem var_any (n : Int) (w : World) : Calls Tryz.prog 34 #[.int .i64 n] w fun e w' => e = .returned (.agg #[.int .i64 0, .int .i64 n, .string ⟨#[]⟩, .slice none 0 0]) ∧ Below w.heap.size w w' := by
  go_enter Tryz.func34, Tryz.ntmps34
  go_wp2
  (try simp only [Exit.inBlock, Exit.then]); refine bodyPost_ret (res_row rfl _ w.heap.size rfl _ _ _ _ _ (Blk.new _ _ _)) rfl ?_
  exact ⟨rfl, Below.alloc (Below.refl _ _) (Nat.le_refl _) _⟩
theorem holds_atom (w : World) (X : Nat → Prop) (s : List UInt8) : Holds w X (.mk 2 0 s []) (tmV 2 0 s (.slice none 0 0)) := .leaf _ _ _ _ _
end Go.Proofs.YtcnnobcncklgfaaGreatDoor
