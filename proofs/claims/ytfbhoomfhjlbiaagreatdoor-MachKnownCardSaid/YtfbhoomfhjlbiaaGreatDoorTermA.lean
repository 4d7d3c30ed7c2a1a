/- What the texts on terms stand on.   Terms as trees, and how a world holds them.   The contracts of term.Atom, Int, Var.   The contract of slices.Clone at terms.   From a row of cells to a term that is held; term.Comp.   The contract of term.Comp. -/
import Derived.Test.YtfbhoomfhjlbiaaGreatDoorBaseG
import Derived.Deep.LoopGhost
import Derived.Deep.QuietTactic
import Derived.LoopTactic
import Derived.BigQuiet
import Derived.Lib.SmallJoins
import Derived.Laws.Rows
import Derived.OwnWalk
import Derived.Laws.AppendOwn
import Derived.Laws.Cover3

namespace Go.Proofs.YtfbhoomfhjlbiaaGreatDoor
open Go Go.ChangeShapes Go.WideShapes Go.ChangeAt Go.RowKit
set_option linter.unusedVariables false
/-- A term: its kind, its number, its name, its Args. -/
inductive Tm where
  | mk (kind n : Int) (name : List UInt8) (args : List Tm)
def Tm.kind : Tm → Int | .mk k _ _ _ => k
def Tm.num : Tm → Int | .mk _ n _ _ => n
def Tm.name : Tm → List UInt8 | .mk _ _ s _ => s
def Tm.args : Tm → List Tm | .mk _ _ _ l => l
theorem add_block (a : Addr) (n : Nat) : (a.add n).block = a.block := by unfold Addr.add; split <;> rfl
/-- The value of a term whose Args are the slice sl. -/
def tmV (k n : Int) (s : List UInt8) (sl : Value) : Value := .agg #[.int .i64 k, .int .i64 n, .string ⟨s.toArray⟩, sl]
/-- The world holds the term t as the value v; the blocks that its Args lie in are of X. -/
inductive Holds (w : World) (X : Nat → Prop) : Tm → Value → Prop
  | leaf (k n : Int) (s : List UInt8) (a : Option Addr) (c : Nat) : Holds w X (.mk k n s []) (tmV k n s (.slice a 0 c))
  | node (k n : Int) (s : List UInt8) (ts : List Tm) (a : Addr) (cap : Nat) (L : Nat → Value) (hx : X a.block) (hn : ts.length ≤ maxLen)
      (h : ∀ i (hi : i < ts.length), Holds w X ts[i] (tmV ts[i].kind ts[i].num ts[i].name (L i)))
      (c0 : ∀ i (hi : i < ts.length), w.cell? (a.add (i * 4 + 0)) = some (.int .i64 ts[i].kind))
      (c1 : ∀ i (hi : i < ts.length), w.cell? (a.add (i * 4 + 1)) = some (.int .i64 ts[i].num))
      (c2 : ∀ i (hi : i < ts.length), w.cell? (a.add (i * 4 + 2)) = some (.string ⟨ts[i].name.toArray⟩))
      (c3 : ∀ i (hi : i < ts.length), w.cell? (a.add (i * 4 + 3)) = some (L i)) :
      Holds w X (.mk k n s ts) (tmV k n s (.slice (some a) ts.length cap))
/-- What is held is held on where the blocks of X are as they were. -/
theorem Holds.keep {w w' : World} {X : Nat → Prop} {t : Tm} {v : Value} (h : Holds w X t v) (hw : ∀ b, X b → w'.heap[b]? = w.heap[b]?) : Holds w' X t v := by
  induction h with
  | leaf k n s a c => exact .leaf k n s a c
  | node k n s ts b cap L hx hn h c0 c1 c2 c3 ih =>
    have hk : ∀ (o : Nat) (u : Value), w.cell? (b.add o) = some u → w'.cell? (b.add o) = some u := fun o u hu => (World.cell?_of_block (by rw [add_block]; exact hw _ hx)).trans hu
    exact .node k n s ts b cap L hx hn ih (fun i hi => hk _ _ (c0 i hi)) (fun i hi => hk _ _ (c1 i hi)) (fun i hi => hk _ _ (c2 i hi)) (fun i hi => hk _ _ (c3 i hi))
theorem Holds.mono {w : World} {X Y : Nat → Prop} {t : Tm} {v : Value} (h : Holds w X t v) (hxy : ∀ b, X b → Y b) : Holds w Y t v := by
  induction h with
  | leaf k n s a c => exact .leaf k n s a c
  | node k n s ts b cap L hx hn h c0 c1 c2 c3 ih => exact .node k n s ts b cap L (hxy _ hx) hn ih c0 c1 c2 c3
/-- The form of a held value's Args. -/
theorem Holds.args {w : World} {X : Nat → Prop} {t : Tm} {k n : Int} {s : List UInt8} {sl : Value} (h : Holds w X t (tmV k n s sl)) : ∃ a c, sl = .slice a t.args.length c := by
  generalize hv : tmV k n s sl = v at h
  cases h with
  | leaf k' n' s' a c => unfold tmV at hv; simp at hv; exact ⟨a, c, hv.2.2.2⟩
  | node k' n' s' ts b cap L hx hn h c0 c1 c2 c3 => unfold tmV at hv; simp at hv; exact ⟨_, _, hv.2.2.2⟩
theorem Holds.len {w : World} {X : Nat → Prop} {t : Tm} {v : Value} (h : Holds w X t v) : t.args.length ≤ maxLen := by
  cases h with
  | leaf k n s a c => exact Nat.zero_le _
  | node k n s ts b cap L hx hn h c0 c1 c2 c3 => exact hn
end Go.Proofs.YtfbhoomfhjlbiaaGreatDoor
namespace Go.Proofs.YtfbhoomfhjlbiaaGreatDoor
open Go Go.ChangeShapes Go.WideShapes Go.ChangeAt Go.RowKit
set_option linter.unusedVariables false
theorem info_term : (Tryz.prog.info? 29).map (·.size) = some 4 := by kernel_rfl
theorem res_row {fn : Func} {p : Tmp} (h : fn.results = #[.cell p 29]) (tmps : Array Value) (B : Nat) (hB : tmps.getD p undef = .pointer (some ⟨B, 0, none⟩)) (x y z u : Value)
    (w : World) (hw : Blk w B #[x, y, z, u] 29) : (results fn tmps).run Tryz.prog w = .ok (.agg #[x, y, z, u]) w := by
  exact results_cell_row h tmps w B 29 #[x, y, z, u] (0, 0) _ hB hw Tryz.underlying29 rfl info_term
end Go.Proofs.YtfbhoomfhjlbiaaGreatDoor
namespace Go.Proofs.YtfbhoomfhjlbiaaGreatDoor
open Go Go.ChangeShapes Go.WideShapes Go.ChangeAt Go.RowKit
set_option linter.unusedVariables false
theorem info_termz : (Tryz.prog.info? 29).map (fun i => (i.zero, i.size, i.bytes)) = some (some (.agg #[.int .i64 0, .int .i64 0, .string ⟨#[]⟩, .slice none 0 0]), 4, 56) := by kernel_rfl
theorem below_grownT {B : Nat} {a w w' : World} {row : Option Nat} (h : Below B a w) (hg : w.grownBy w' row) (hr : ∀ g, row = some g → B ≤ g) (hB : B ≤ w.heap.size) : Below B a w' :=
  ⟨hg.os.trans h.os, hg.tape.trans h.tape, hg.output.trans h.output, Nat.le_trans h.size hg.size, fun k hk => (hg.block k (by omega) (fun e => by have := hr k e.symm; omega)).trans (h.block k hk)⟩
set_option maxRecDepth 100000 in
/-- slices.Clone of a slice that is not nil: a new row with the same cells. -/
theorem clone_some (a : Addr) (n c : Nat) (news : List Value) (w : World) (hl : news.length = n * 4) (hc : ∀ j u, news[j]? = some u → w.cell? (a.add j) = some u) (h1 : ∀ u ∈ news, u.oneCell' = true) (hn : n ≤ 1000000000) :
    Calls Tryz.prog 41 #[.slice (some a) n c] w fun e w' => ∃ sl, e = .returned sl ∧ w'.ownsRow w.heap.size 29 4 sl n news ∧ Below w.heap.size w w' := by
  obtain ⟨i0, hi0, hz0, hz1, hz2⟩ := info_parts info_termz
  have hnil : ∀ wx : World, Sem.run Tryz.prog (binOp BinOp.eql 27 (.slice (some a) n c) (.slice none 0 0)) wx = .ok (.bool false) wx := by
    intro wx
    simp only [binOp]
    simp [run_equal_slice_nil wx 27 29 (some a) n c Tryz.underlying27]
  have hk : ∀ j u, news[j]? = some u → (w.alloc (.cells #[] 29)).cell? (a.add j) = some u := fun j u hu => (World.cell?_alloc_lt _ _ _ (World.block_lt_of_cell? w _ (hc j u hu))).trans (hc j u hu)
  have HK := Lib.hid hk; have HL := Lib.hid hl; have H1 := Lib.hid h1
  clear hk hc hl h1
  go_enter Tryz.func41, Tryz.ntmps41
  go_wp2_with (at_builtin; refine wpList_append_own _ rfl _ _ 27 rfl w.heap.size 29 i0 _ 4 56 Tryz.underlying27 hi0 hz0 hz1 hz2 rfl (by decide) _ _ _ rfl (World.ownsRow_made w #[] 0 (Nat.le_refl _) (by decide) rfl) a n c news rfl HL.out HK.out H1.out (by unfold maxLen; omega) (by omega) (by simp) ?_; intro v' w2 hown' hgrow hnil2)
  go_ret
  refine ⟨_, rfl, by simpa using hown', ?_⟩
  exact below_grownT (Below.alloc (Below.refl _ _) (Nat.le_refl _) _) hgrow (fun g e => by have h : some w.heap.size = some g := e; cases h; exact Nat.le_refl _) (by simp)
end Go.Proofs.YtfbhoomfhjlbiaaGreatDoor
namespace Go.Proofs.YtfbhoomfhjlbiaaGreatDoor
open Go Go.ChangeShapes Go.WideShapes Go.ChangeAt Go.RowKit
set_option linter.unusedVariables false
end Go.Proofs.YtfbhoomfhjlbiaaGreatDoor
namespace Go.Proofs.YtfbhoomfhjlbiaaGreatDoor
open Go Go.ChangeShapes Go.WideShapes Go.ChangeAt Go.RowKit
set_option linter.unusedVariables false
theorem own_shapeT {w : World} {base : Nat} {e : TypeId} {size : Nat} {v : Value} {n : Nat} {xs : List Value} (h : w.ownsRow base e size v n xs) : ∃ a c, v = .slice a n c := by
  rcases h.2 with ⟨rfl, rfl⟩ | ⟨g, cap, cur, rfl, _⟩
  · exact ⟨_, _, rfl⟩
  · exact ⟨_, _, rfl⟩
theorem Blk.fourT {w : World} {b : Nat} {x y z u : Value} {t : TypeId} (h : Blk w b #[x, y, z, u] t) : w.cell? ⟨b, 0, none⟩ = some x ∧ w.cell? ⟨b, 1, none⟩ = some y ∧ w.cell? ⟨b, 2, none⟩ = some z ∧ w.cell? ⟨b, 3, none⟩ = some u ∧
    w.frozen? ⟨b, 0, none⟩ = false ∧ w.frozen? ⟨b, 1, none⟩ = false ∧ w.frozen? ⟨b, 2, none⟩ = false ∧ w.frozen? ⟨b, 3, none⟩ = false ∧ b < w.heap.size :=
  ⟨h.cell rfl, h.cell rfl, h.cell rfl, h.cell rfl, h.free 0, h.free 1, h.free 2, h.free 3, h.lt⟩
end Go.Proofs.YtfbhoomfhjlbiaaGreatDoor
