/- What the texts on terms stand on.   Terms as trees, and how a world holds them.   The contracts of term.Atom, Int, Var.   The contract of slices.Clone at terms.   From a row of cells to a term that is held; term.Comp.   The contract of term.Comp. -/
import Derived.Test.YtfbhoomfhjlbiaaGreatDoorVars
import Derived.Deep.LoopGhost
import Derived.Deep.QuietTactic
import Derived.LoopTactic
import Derived.BigQuiet
import Derived.Lib.SmallJoins
import Derived.Laws.Rows
import Derived.OwnWalk
import Derived.Laws.AppendOwn
import Derived.Laws.Cover3

namespace Go.Proofs.YtfbhoomfhjlbiaaGreatDoor
open Go Go.ChangeShapes Go.WideShapes Go.ChangeAt Go.RowKit
set_option linter.unusedVariables false
/-- A term: its kind, its number, its name, its Args. -/
inductive Tm where
  | mk (kind n : Int) (name : List UInt8) (args : List Tm)
def Tm.kind : Tm → Int | .mk k _ _ _ => k
def Tm.num : Tm → Int | .mk _ n _ _ => n
def Tm.name : Tm → List UInt8 | .mk _ _ s _ => s
def Tm.args : Tm → List Tm | .mk _ _ _ l => l
theorem add_block (a : Addr) (n : Nat) : (a.add n).block = a.block := by unfold Addr.add; split <;> rfl
/-- The value of a term whose Args are the slice sl. -/
def tmV (k n : Int) (s : List UInt8) (sl : Value) : Value := .agg #[.int .i64 k, .int .i64 n, .string ⟨s.toArray⟩, sl]
/-- The world holds the term t as the value v; the blocks that its Args lie in are of X. -/
inductive Holds (w : World) (X : Nat → Prop) : Tm → Value → Prop
  | leaf (k n : Int) (s : List UInt8) (a : Option Addr) (c : Nat) : Holds w X (.mk k n s []) (tmV k n s (.slice a 0 c))
  | node (k n : Int) (s : List UInt8) (ts : List Tm) (a : Addr) (cap : Nat) (L : Nat → Value) (hx : X a.block) (hn : ts.length ≤ maxLen)
      (h : ∀ i (hi : i < ts.length), Holds w X ts[i] (tmV ts[i].kind ts[i].num ts[i].name (L i)))
      (c0 : ∀ i (hi : i < ts.length), w.cell? (a.add (i * 4 + 0)) = some (.int .i64 ts[i].kind))
      (c1 : ∀ i (hi : i < ts.length), w.cell? (a.add (i * 4 + 1)) = some (.int .i64 ts[i].num))
      (c2 : ∀ i (hi : i < ts.length), w.cell? (a.add (i * 4 + 2)) = some (.string ⟨ts[i].name.toArray⟩))
      (c3 : ∀ i (hi : i < ts.length), w.cell? (a.add (i * 4 + 3)) = some (L i)) :
      Holds w X (.mk k n s ts) (tmV k n s (.slice (some a) ts.length cap))
/-- What is held is held on where the blocks of X are as they were. -/
theorem Holds.keep {w w' : World} {X : Nat → Prop} {t : Tm} {v : Value} (h : Holds w X t v) (hw : ∀ b, X b → w'.heap[b]? = w.heap[b]?) : Holds w' X t v := by
  induction h with
  | leaf k n s a c => exact .leaf k n s a c
  | node k n s ts b cap L hx hn h c0 c1 c2 c3 ih =>
    have hk : ∀ (o : Nat) (u : Value), w.cell? (b.add o) = some u → w'.cell? (b.add o) = some u := fun o u hu => (World.cell?_of_block (by rw [add_block]; exact hw _ hx)).trans hu
    exact .node k n s ts b cap L hx hn ih (fun i hi => hk _ _ (c0 i hi)) (fun i hi => hk _ _ (c1 i hi)) (fun i hi => hk _ _ (c2 i hi)) (fun i hi => hk _ _ (c3 i hi))
theorem Holds.mono {w : World} {X Y : Nat → Prop} {t : Tm} {v : Value} (h : Holds w X t v) (hxy : ∀ b, X b → Y b) : Holds w Y t v := by
  induction h with
  | leaf k n s a c => exact .leaf k n s a c
  | node k n s ts b cap L hx hn h c0 c1 c2 c3 ih => exact .node k n s ts b cap L (hxy _ hx) hn ih c0 c1 c2 c3
/-- All that is held lies in the world. -/
theorem Holds.there {w : World} {X : Nat → Prop} {t : Tm} {v : Value} (h : Holds w X t v) : Holds w (fun b => X b ∧ b < w.heap.size) t v := by
  induction h with
  | leaf k n s a c => exact .leaf k n s a c
  | node k n s ts b cap L hx hn h c0 c1 c2 c3 ih =>
    cases ts with
    | nil => exact .leaf k n s _ _
    | cons t0 tr =>
      exact .node k n s _ b cap L ⟨hx, by have := World.block_lt_of_cell? w _ (c0 0 (by simp)); rwa [add_block] at this⟩ hn ih c0 c1 c2 c3
theorem Holds.bel {w w' : World} {X : Nat → Prop} {t : Tm} {v : Value} (h : Holds w X t v) (hb : Below w.heap.size w w') : Holds w' X t v :=
  (h.there.keep fun b hx => hb.block b hx.2).mono fun b hx => hx.1
/-- A row of the run's own grows: what does not lie in it is held on. -/
theorem Holds.grown {w w' : World} {X : Nat → Prop} {t : Tm} {v : Value} {row : Option Nat} (h : Holds w X t v) (hg : w.grownBy w' row) (hr : ∀ b, X b → some b ≠ row) : Holds w' X t v :=
  (h.there.keep fun b hx => hg.block b hx.2 (hr b hx.1)).mono fun b hx => hx.1
/-- The form of a held value. -/
theorem Holds.form {w : World} {X : Nat → Prop} {t : Tm} {v : Value} (h : Holds w X t v) : ∃ sl, v = tmV t.kind t.num t.name sl := by
  cases h with
  | leaf k n s a c => exact ⟨_, rfl⟩
  | node k n s ts b cap L hx hn h c0 c1 c2 c3 => exact ⟨_, rfl⟩
/-- The form of a held value's Args. -/
theorem Holds.args {w : World} {X : Nat → Prop} {t : Tm} {k n : Int} {s : List UInt8} {sl : Value} (h : Holds w X t (tmV k n s sl)) : ∃ a c, sl = .slice a t.args.length c := by
  generalize hv : tmV k n s sl = v at h
  cases h with
  | leaf k' n' s' a c => unfold tmV at hv; simp at hv; exact ⟨a, c, hv.2.2.2⟩
  | node k' n' s' ts b cap L hx hn h c0 c1 c2 c3 => unfold tmV at hv; simp at hv; exact ⟨_, _, hv.2.2.2⟩
theorem Holds.len {w : World} {X : Nat → Prop} {t : Tm} {v : Value} (h : Holds w X t v) : t.args.length ≤ maxLen := by
  cases h with
  | leaf k n s a c => exact Nat.zero_le _
  | node k n s ts b cap L hx hn h c0 c1 c2 c3 => exact hn
end Go.Proofs.YtfbhoomfhjlbiaaGreatDoor
namespace Go.Proofs.YtfbhoomfhjlbiaaGreatDoor
open Go Go.ChangeShapes Go.WideShapes Go.ChangeAt Go.RowKit
set_option linter.unusedVariables false
theorem info_term : (Tryz.prog.info? 29).map (·.size) = some 4 := by kernel_rfl
theorem res_row {fn : Func} {p : Tmp} (h : fn.results = #[.cell p 29]) (tmps : Array Value) (B : Nat) (hB : tmps.getD p undef = .pointer (some ⟨B, 0, none⟩)) (x y z u : Value)
    (w : World) (hw : Blk w B #[x, y, z, u] 29) : (results fn tmps).run Tryz.prog w = .ok (.agg #[x, y, z, u]) w := by
  exact results_cell_row h tmps w B 29 #[x, y, z, u] (0, 0) _ hB hw Tryz.underlying29 rfl info_term
theorem atom_any (s : ByteArray) (w : World) : Calls Tryz.prog 44 #[.string s] w fun e w' => e = .returned (.agg #[.int .i64 2, .int .i64 0, .string s, .slice none 0 0]) ∧ Below w.heap.size w w' := by
  go_enter Tryz.func44, Tryz.ntmps44
  go_wp2
  (try simp only [Exit.inBlock, Exit.then]); refine bodyPost_ret (res_row rfl _ w.heap.size rfl _ _ _ _ _ (Blk.new _ _ _)) rfl ?_
  exact ⟨rfl, Below.alloc (Below.refl _ _) (Nat.le_refl _) _⟩
theorem int_any (n : Int) (w : World) : Calls Tryz.prog 42 #[.int .i64 n] w fun e w' => e = .returned (.agg #[.int .i64 1, .int .i64 n, .string ⟨#[]⟩, .slice none 0 0]) ∧ Below w.heap.size w w' := by
  go_enter Tryz.func42, Tryz.ntmps42
  go_wp2
  (try simp only [Exit.inBlock, Exit.then]); refine bodyPost_ret (res_row rfl _ w.heap.size rfl _ _ _ _ _ (Blk.new _ _ _)) rfl ?_
  exact ⟨rfl, Below.alloc (Below.refl _ _) (Nat.le_refl _) _⟩
theorem var_any (n : Int) (w : World) : Calls Tryz.prog 13 #[.int .i64 n] w fun e w' => e = .returned (.agg #[.int .i64 0, .int .i64 n, .string ⟨#[]⟩, .slice none 0 0]) ∧ Below w.heap.size w w' := by
  go_enter Tryz.func13, Tryz.ntmps13
  go_wp2
  (try simp only [Exit.inBlock, Exit.then]); refine bodyPost_ret (res_row rfl _ w.heap.size rfl _ _ _ _ _ (Blk.new _ _ _)) rfl ?_
  exact ⟨rfl, Below.alloc (Below.refl _ _) (Nat.le_refl _) _⟩
theorem holds_atom (w : World) (X : Nat → Prop) (s : List UInt8) : Holds w X (.mk 2 0 s []) (tmV 2 0 s (.slice none 0 0)) := .leaf _ _ _ _ _
end Go.Proofs.YtfbhoomfhjlbiaaGreatDoor
namespace Go.Proofs.YtfbhoomfhjlbiaaGreatDoor
open Go Go.ChangeShapes Go.WideShapes Go.ChangeAt Go.RowKit
set_option linter.unusedVariables false
theorem info_termz : (Tryz.prog.info? 29).map (fun i => (i.zero, i.size, i.bytes)) = some (some (.agg #[.int .i64 0, .int .i64 0, .string ⟨#[]⟩, .slice none 0 0]), 4, 56) := by kernel_rfl
theorem below_grownT {B : Nat} {a w w' : World} {row : Option Nat} (h : Below B a w) (hg : w.grownBy w' row) (hr : ∀ g, row = some g → B ≤ g) (hB : B ≤ w.heap.size) : Below B a w' :=
  ⟨hg.os.trans h.os, hg.tape.trans h.tape, hg.output.trans h.output, Nat.le_trans h.size hg.size, fun k hk => (hg.block k (by omega) (fun e => by have := hr k e.symm; omega)).trans (h.block k hk)⟩
set_option maxRecDepth 100000 in
/-- slices.Clone of a slice that is not nil: a new row with the same cells. -/
theorem clone_some (a : Addr) (n c : Nat) (news : List Value) (w : World) (hl : news.length = n * 4) (hc : ∀ j u, news[j]? = some u → w.cell? (a.add j) = some u) (h1 : ∀ u ∈ news, u.oneCell' = true) (hn : n ≤ 1000000000) :
    Calls Tryz.prog 41 #[.slice (some a) n c] w fun e w' => ∃ sl, e = .returned sl ∧ w'.ownsRow w.heap.size 29 4 sl n news ∧ Below w.heap.size w w' := by
  obtain ⟨i0, hi0, hz0, hz1, hz2⟩ := info_parts info_termz
  have hnil : ∀ wx : World, Sem.run Tryz.prog (binOp BinOp.eql 27 (.slice (some a) n c) (.slice none 0 0)) wx = .ok (.bool false) wx := by
    intro wx
    simp only [binOp]
    simp [run_equal_slice_nil wx 27 29 (some a) n c Tryz.underlying27]
  have hk : ∀ j u, news[j]? = some u → (w.alloc (.cells #[] 29)).cell? (a.add j) = some u := fun j u hu => (World.cell?_alloc_lt _ _ _ (World.block_lt_of_cell? w _ (hc j u hu))).trans (hc j u hu)
  have HK := Lib.hid hk; have HL := Lib.hid hl; have H1 := Lib.hid h1
  clear hk hc hl h1
  go_enter Tryz.func41, Tryz.ntmps41
  go_wp2_with (at_builtin; refine wpList_append_own _ rfl _ _ 27 rfl w.heap.size 29 i0 _ 4 56 Tryz.underlying27 hi0 hz0 hz1 hz2 rfl (by decide) _ _ _ rfl (World.ownsRow_made w #[] 0 (Nat.le_refl _) (by decide) rfl) a n c news rfl HL.out HK.out H1.out (by unfold maxLen; omega) (by omega) (by simp) ?_; intro v' w2 hown' hgrow hnil2)
  go_ret
  refine ⟨_, rfl, by simpa using hown', ?_⟩
  exact below_grownT (Below.alloc (Below.refl _ _) (Nat.le_refl _) _) hgrow (fun g e => by have h : some w.heap.size = some g := e; cases h; exact Nat.le_refl _) (by simp)
end Go.Proofs.YtfbhoomfhjlbiaaGreatDoor
namespace Go.Proofs.YtfbhoomfhjlbiaaGreatDoor
open Go Go.ChangeShapes Go.WideShapes Go.ChangeAt Go.RowKit
set_option linter.unusedVariables false
/-- The cells of terms whose Args slices are L. -/
def tmRow (ts : List Tm) (L : Nat → Value) : List Value := (List.range ts.length).flatMap fun i => match ts[i]? with | some t => [.int .i64 t.kind, .int .i64 t.num, .string ⟨t.name.toArray⟩, L i] | none => []
theorem flat_four {f : Nat → List Value} : ∀ (n : Nat), (∀ i, i < n → (f i).length = 4) → ((List.range n).flatMap f).length = n * 4 ∧ ∀ i, i < n → ∀ c, c < 4 → ((List.range n).flatMap f)[i * 4 + c]? = (f i)[c]? := by
  intro n
  induction n with
  | zero => intro _; exact ⟨rfl, fun i h => by omega⟩
  | succ n ih =>
    intro hf
    obtain ⟨h1, h2⟩ := ih fun i hi => hf i (by omega)
    rw [List.range_succ, List.flatMap_append]
    have e : (List.flatMap f [n]) = f n := by simp
    rw [e]
    refine ⟨by rw [List.length_append, h1, hf n (by omega)]; omega, fun i hi c hc => ?_⟩
    by_cases hin : i < n
    · rw [List.getElem?_append_left (by rw [h1]; omega)]
      exact h2 i hin c hc
    · have : i = n := by omega
      subst this
      rw [List.getElem?_append_right (by rw [h1]; omega), h1]
      congr 1; omega
theorem tmRow_spec (ts : List Tm) (L : Nat → Value) : (tmRow ts L).length = ts.length * 4 ∧ ∀ i (hi : i < ts.length), (tmRow ts L)[i * 4 + 0]? = some (.int .i64 ts[i].kind) ∧ (tmRow ts L)[i * 4 + 1]? = some (.int .i64 ts[i].num) ∧ (tmRow ts L)[i * 4 + 2]? = some (.string ⟨ts[i].name.toArray⟩) ∧ (tmRow ts L)[i * 4 + 3]? = some (L i) := by
  obtain ⟨h1, h2⟩ := flat_four (f := fun i => match ts[i]? with | some t => [.int .i64 t.kind, .int .i64 t.num, .string ⟨t.name.toArray⟩, L i] | none => []) ts.length (fun i hi => by simp [List.getElem?_eq_getElem hi])
  refine ⟨h1, fun i hi => ?_⟩
  have k0 := h2 i hi 0 (by omega)
  have k1 := h2 i hi 1 (by omega)
  have k2 := h2 i hi 2 (by omega)
  have k3 := h2 i hi 3 (by omega)
  simp only [List.getElem?_eq_getElem hi] at k0 k1 k2 k3
  exact ⟨k0, k1, k2, k3⟩
/-- A row of the run's own that holds the cells of held terms is held as Args. -/
theorem holds_own {w : World} {X : Nat → Prop} {ts : List Tm} {L : Nat → Value} {sl : Value} {base : Nat} (hown : w.ownsRow base 29 4 sl ts.length (tmRow ts L)) (hx : ∀ b, base ≤ b → X b)
    (h : ∀ i (hi : i < ts.length), Holds w X ts[i] (tmV ts[i].kind ts[i].num ts[i].name (L i))) (k n : Int) (s : List UInt8) : Holds w X (.mk k n s ts) (tmV k n s sl) := by
  obtain ⟨-, hsp⟩ := tmRow_spec ts L
  have hc := hown
  rcases hown.2 with ⟨rfl, h0⟩ | ⟨g, cap, cur, rfl, hb, hg, hnc, hcm, _⟩
  · have : ts = [] := List.eq_nil_of_length_eq_zero h0
    subst this
    exact .leaf _ _ _ _ _
  · have hk := hc.cells (g := g) rfl
    exact .node k n s ts ⟨g, 0, none⟩ cap L (hx g hb) (by omega) h (fun i hi => hk _ _ (hsp i hi).1) (fun i hi => hk _ _ (hsp i hi).2.1) (fun i hi => hk _ _ (hsp i hi).2.2.1) (fun i hi => hk _ _ (hsp i hi).2.2.2)
/-- The cells that a held term's Args lie in. -/
theorem holds_cells {w : World} {X : Nat → Prop} {t : Tm} {k n : Int} {s : List UInt8} {a : Addr} {len c : Nat} (h : Holds w X t (tmV k n s (.slice (some a) len c))) :
    ∃ L : Nat → Value, (∀ i (hi : i < t.args.length), Holds w X t.args[i] (tmV t.args[i].kind t.args[i].num t.args[i].name (L i))) ∧ ∀ j u, (tmRow t.args L)[j]? = some u → w.cell? (a.add j) = some u := by
  generalize hv : tmV k n s (.slice (some a) len c) = v at h
  cases h with
  | leaf k' n' s' a' c' => exact ⟨fun _ => .nilFunc, fun i hi => by simp [Tm.args] at hi, fun j u hu => by simp [Tm.args, tmRow] at hu⟩
  | node k' n' s' ts b cap L hx hn h c0 c1 c2 c3 =>
    unfold tmV at hv
    simp at hv
    obtain ⟨-, -, -, rfl, -, -⟩ := hv
    obtain ⟨hl, hsp⟩ := tmRow_spec ts L
    refine ⟨L, h, fun j u hu => ?_⟩
    have hj : j < ts.length * 4 := by
      rw [← hl]; exact (List.getElem?_eq_some_iff.1 hu).1
    have hi : j / 4 < ts.length := by omega
    have hs := hsp (j / 4) hi
    have hcase : j % 4 = 0 ∨ j % 4 = 1 ∨ j % 4 = 2 ∨ j % 4 = 3 := by omega
    replace hu : (tmRow ts L)[j]? = some u := hu
    rcases hcase with e | e | e | e
    · have e2 : j = j / 4 * 4 + 0 := by omega
      rw [e2] at hu ⊢
      rw [hs.1] at hu; cases hu; exact c0 _ hi
    · have e2 : j = j / 4 * 4 + 1 := by omega
      rw [e2] at hu ⊢
      rw [hs.2.1] at hu; cases hu; exact c1 _ hi
    · have e2 : j = j / 4 * 4 + 2 := by omega
      rw [e2] at hu ⊢
      rw [hs.2.2.1] at hu; cases hu; exact c2 _ hi
    · have e2 : j = j / 4 * 4 + 3 := by omega
      rw [e2] at hu ⊢
      rw [hs.2.2.2] at hu; cases hu; exact c3 _ hi
theorem tmRow_one {ts : List Tm} {L : Nat → Value} (h : ∀ i, i < ts.length → ∃ a n c, L i = .slice a n c) : ∀ u ∈ tmRow ts L, u.oneCell' = true := by
  intro u hu
  unfold tmRow at hu
  rw [List.mem_flatMap] at hu
  obtain ⟨i, hi, hu⟩ := hu
  rw [List.mem_range] at hi
  obtain ⟨a, n, c, hL⟩ := h i hi
  rw [List.getElem?_eq_getElem hi] at hu
  simp only [hL, List.mem_cons, List.not_mem_nil, or_false] at hu
  rcases hu with rfl | rfl | rfl | rfl <;> rfl
end Go.Proofs.YtfbhoomfhjlbiaaGreatDoor
namespace Go.Proofs.YtfbhoomfhjlbiaaGreatDoor
open Go Go.ChangeShapes Go.WideShapes Go.ChangeAt Go.RowKit
set_option linter.unusedVariables false
theorem own_shapeT {w : World} {base : Nat} {e : TypeId} {size : Nat} {v : Value} {n : Nat} {xs : List Value} (h : w.ownsRow base e size v n xs) : ∃ a c, v = .slice a n c := by
  rcases h.2 with ⟨rfl, rfl⟩ | ⟨g, cap, cur, rfl, _⟩
  · exact ⟨_, _, rfl⟩
  · exact ⟨_, _, rfl⟩
theorem Blk.fourT {w : World} {b : Nat} {x y z u : Value} {t : TypeId} (h : Blk w b #[x, y, z, u] t) : w.cell? ⟨b, 0, none⟩ = some x ∧ w.cell? ⟨b, 1, none⟩ = some y ∧ w.cell? ⟨b, 2, none⟩ = some z ∧ w.cell? ⟨b, 3, none⟩ = some u ∧
    w.frozen? ⟨b, 0, none⟩ = false ∧ w.frozen? ⟨b, 1, none⟩ = false ∧ w.frozen? ⟨b, 2, none⟩ = false ∧ w.frozen? ⟨b, 3, none⟩ = false ∧ b < w.heap.size :=
  ⟨h.cell rfl, h.cell rfl, h.cell rfl, h.cell rfl, h.free 0, h.free 1, h.free 2, h.free 3, h.lt⟩
set_option maxRecDepth 100000 in
theorem comp_some {X : Nat → Prop} (name : List UInt8) (t : Tm) (a : Addr) (c : Nat) (k n : Int) (s : List UInt8) (w : World) (h : Holds w X t (tmV k n s (.slice (some a) t.args.length c))) (hlen : t.args.length ≤ 1000000000) (hone : ∀ (L : Nat → Value) u, u ∈ tmRow t.args L → u.oneCell' = true) :
    Calls Tryz.prog 12 #[.string ⟨name.toArray⟩, .slice (some a) t.args.length c] w fun e w' => ∃ sl, e = .returned (tmV 2 0 name sl) ∧ Below w.heap.size w w' ∧ Holds w' (fun b => X b ∨ w.heap.size < b) (.mk 2 0 name t.args) (tmV 2 0 name sl) := by
  obtain ⟨L, hL, hc⟩ := holds_cells (h.there.bel (Below.alloc (Below.refl _ w) (Nat.le_refl _) (.cells #[.int .i64 0, .int .i64 0, .string ⟨#[]⟩, .slice none 0 0] 29)))
  have HC := Lib.hid hc; have HL := Lib.hid hL; clear hc hL
  have htok : Blk (w.alloc (.cells #[.int .i64 0, .int .i64 0, .string ⟨#[]⟩, .slice none 0 0] 29)) w.heap.size #[.int .i64 0, .int .i64 0, .string ⟨#[]⟩, .slice none 0 0] 29 := Blk.new _ _ _
  go_enter Tryz.func12, Tryz.ntmps12
  go_wp2_with fail
  refine (clone_some a t.args.length c (tmRow t.args L) _ (tmRow_spec _ _).1 HC.out (hone L) hlen).mono ?_; rintro e w1 ⟨sl, rfl, hown, hb⟩
  obtain ⟨oa, oc, rfl⟩ := own_shapeT hown
  have HO := Lib.hid hown; clear hown
  have hblk := htok.keep hb
  obtain ⟨t0, t1, t2, t3, z0, z1, z2, z3, ltt⟩ := hblk.fourT
  go_wp2
  (try simp only [Exit.inBlock, Exit.then]); refine bodyPost_ret (res_row rfl _ w.heap.size rfl _ _ _ _ _ ((((hblk.store 0 _).store 1 _).store 2 _).store 3 _)) rfl ?_
  refine ⟨_, rfl, ?_, ?_⟩
  · exact Below.setCell (Below.setCell (Below.setCell (Below.setCell (bcall (Below.alloc (Below.refl _ _) (Nat.le_refl _) _) hb) (Nat.le_refl _) _) (Nat.le_refl _) _) (Nat.le_refl _) _) (Nat.le_refl _) _
  · refine holds_own (base := w.heap.size + 1) (L := L) ?_ (fun b hb => .inr hb) (fun i hi => ?_) 2 0 name
    · have h0 : (w.alloc (.cells #[.int .i64 0, .int .i64 0, .string ⟨#[]⟩, .slice none 0 0] 29)).heap.size = w.heap.size + 1 := by simp
      rw [← h0]
      exact ownsRow_setCell_below (ownsRow_setCell_below (ownsRow_setCell_below (ownsRow_setCell_below HO.out (by rw [h0]; exact Nat.lt_succ_self _) _) (by rw [h0]; exact Nat.lt_succ_self _) _) (by rw [h0]; exact Nat.lt_succ_self _) _) (by rw [h0]; exact Nat.lt_succ_self _) _
    · refine (((HL.out i hi).bel hb).keep (fun b hx => ?_)).mono (fun b hx => .inl hx.1)
      have hne : b ≠ w.heap.size := Nat.ne_of_lt hx.2
      exact (Below.heap_setCell _ _ _ _ hne).trans ((Below.heap_setCell _ _ _ _ hne).trans ((Below.heap_setCell _ _ _ _ hne).trans (Below.heap_setCell _ _ _ _ hne)))
end Go.Proofs.YtfbhoomfhjlbiaaGreatDoor
