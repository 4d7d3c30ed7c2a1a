/- The contract of slices.Clone at terms. -/
import Derived.Test.YtcnnobcncklgfaaGreatDoorTermMake
import Derived.OwnWalk
import Derived.Laws.AppendOwn
import Derived.Laws.Cover3
namespace Go.Proofs.YtcnnobcncklgfaaGreatDoor
open Go Go.ChangeShapes Go.WideShapes Go.ChangeAt Go.RowKit
set_option linter.unusedVariables false
theorem info_termz : (Tryz.prog.info? 24).map (fun i => (i.zero, i.size, i.bytes)) = some (some (.agg #[.int .i64 0, .int .i64 0, .string ⟨#[]⟩, .slice none 0 0]), 4, 56) := by kernel_rfl
theorem below_grownT {B : Nat} {a w w' : World} {row : Option Nat} (h : Below B a w) (hg : w.grownBy w' row) (hr : ∀ g, row = some g → B ≤ g) (hB : B ≤ w.heap.size) : Below B a w' :=
  ⟨hg.os.trans h.os, hg.tape.trans h.tape, hg.output.trans h.output, Nat.le_trans h.size hg.size, fun k hk => (hg.block k (by omega) (fun e => by have := hr k e.symm; omega)).trans (h.block k hk)⟩
set_option maxRecDepth 100000 in
/-- slices.Clone of a slice that is not nil: a new row with the same cells. -/
theorem clone_some (a : Addr) (n c : Nat) (news : List Value) (w : World) (hl : news.length = n * 4) (hc : ∀ j u, news[j]? = some u → w.cell? (a.add j) = some u) (h1 : ∀ u ∈ news, u.oneCell' = true) (hn : n ≤ 1000000000) :
    Calls Tryz.prog 44 #[.slice (some a) n c] w fun e w' => ∃ sl, e = .returned sl ∧ w'.ownsRow w.heap.size 24 4 sl n news ∧ Below w.heap.size w w' := by
  obtain ⟨i0, hi0, hz0, hz1, hz2⟩ := info_parts info_termz
  have hnil : ∀ wx : World, Sem.run Tryz.prog (binOp BinOp.eql 22 (.slice (some a) n c) (.slice none 0 0)) wx = .ok (.bool false) wx := by
    intro wx
    simp only [binOp]
    simp [run_equal_slice_nil wx 22 24 (some a) n c Tryz.underlying22]
  have hk : ∀ j u, news[j]? = some u → (w.alloc (.cells #[] 24)).cell? (a.add j) = some u := fun j u hu => (World.cell?_alloc_lt _ _ _ (World.block_lt_of_cell? w _ (hc j u hu))).trans (hc j u hu)
  have HK := Lib.hid hk; have HL := Lib.hid hl; have H1 := Lib.hid h1
  clear hk hc hl h1
  go_enter Tryz.func44, Tryz.ntmps44
  go_wp2_with (at_builtin; refine wpList_append_own _ rfl _ _ 22 rfl w.heap.size 24 i0 _ 4 56 Tryz.underlying22 hi0 hz0 hz1 hz2 rfl (by decide) _ _ _ rfl (World.ownsRow_made w #[] 0 (Nat.le_refl _) (by decide) rfl) a n c news rfl HL.out HK.out H1.out (by unfold maxLen; omega) (by omega) (by simp) ?_; intro v' w2 hown' hgrow hnil2)
  go_ret
  refine ⟨_, rfl, by simpa using hown', ?_⟩
  exact below_grownT (Below.alloc (Below.refl _ _) (Nat.le_refl _) _) hgrow (fun g e => by have h : some w.heap.size = some g := e; cases h; exact Nat.le_refl _) (by simp)
end Go.Proofs.YtcnnobcncklgfaaGreatDoor
