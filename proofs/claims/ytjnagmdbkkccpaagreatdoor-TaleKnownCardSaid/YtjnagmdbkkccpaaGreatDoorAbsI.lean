/- An abstract reading of the program: values as trees, memory of the run's own as numbered groups of cells.   What more is known of the library's variables: the powers of ten. (For a seat without that variable: GlobV := True, as in wip/abs/AbsGlobV.lean.)   What is known of the library's variables, and stays so.   How a world bears the groups.   The operations, read abstractly: those that touch no memory.   The operations, read abstractly: those that touch memory.   More operations on memory, read abstractly.   Slices, read abstractly: an element's place, a part, the length, append.   append and len, read abstractly.   Strings of bytes, bytes of strings, read abstractly.   More operations, read abstractly: interfaces, empty slices, made slices. -/
import Derived.ArgAppend
import Derived.Orders
import Derived.Below
import Derived.Laws.IdiomCopy
import Derived.Lib.ItoaNum
import Derived.Laws.Entries
import Derived.WalkLawsBesides
import Derived.WalkSpells
import Derived.Laws.Tables
import Derived.Laws.Cells
import Derived.Laws.Append
import Derived.Great.BuildSlice
import Derived.Laws.AppendOwn
import Derived.Laws.IdiomStrings
import Derived.Laws.MakeOwn
namespace Go.Abs
open Go Go.RowKit
set_option linter.unusedVariables false
/-- A way down a tree. -/
inductive Q4 where
  | q0 | q1 | q2 | q3
  deriving DecidableEq
abbrev Pth := List Q4
/-- A tree of numbered things. -/
inductive Tr (α : Type) where
  | nil : Tr α
  | node (a b c d : Tr α) (v : Option α) : Tr α
namespace Tr
variable {α : Type}
def qOf (m : Nat) : Q4 := bif Nat.beq m 0 then .q0 else bif Nat.beq m 1 then .q1 else bif Nat.beq m 2 then .q2 else .q3
theorem qOf_inj {m n : Nat} (hm : m < 4) (hn : n < 4) (h : qOf m = qOf n) : m = n := by
  match m, n, hm, hn with
  | 0, 0, _, _ => rfl
  | 0, 1, _, _ => cases h
  | 0, 2, _, _ => cases h
  | 0, 3, _, _ => cases h
  | 1, 0, _, _ => cases h
  | 1, 1, _, _ => rfl
  | 1, 2, _, _ => cases h
  | 1, 3, _, _ => cases h
  | 2, 0, _, _ => cases h
  | 2, 1, _, _ => cases h
  | 2, 2, _, _ => rfl
  | 2, 3, _, _ => cases h
  | 3, 0, _, _ => cases h
  | 3, 1, _, _ => cases h
  | 3, 2, _, _ => cases h
  | 3, 3, _, _ => rfl
def pathF : Nat → Nat → Pth
  | 0, _ => []
  | d + 1, n => bif Nat.beq n 0 then [] else qOf ((n - 1) % 4) :: pathF d ((n - 1) / 4)
def path (n : Nat) : Pth := pathF (n + 1) n
def getP : Tr α → Pth → Option α
  | .nil, _ => none
  | .node _ _ _ _ v, [] => v
  | .node a _ _ _ _, .q0 :: p => a.getP p
  | .node _ b _ _ _, .q1 :: p => b.getP p
  | .node _ _ c _ _, .q2 :: p => c.getP p
  | .node _ _ _ d _, .q3 :: p => d.getP p
def setP : Pth → Tr α → α → Tr α
  | [], .nil, x => .node .nil .nil .nil .nil (some x)
  | [], .node a b c d _, x => .node a b c d (some x)
  | .q0 :: p, .nil, x => .node (setP p .nil x) .nil .nil .nil none
  | .q0 :: p, .node a b c d v, x => .node (setP p a x) b c d v
  | .q1 :: p, .nil, x => .node .nil (setP p .nil x) .nil .nil none
  | .q1 :: p, .node a b c d v, x => .node a (setP p b x) c d v
  | .q2 :: p, .nil, x => .node .nil .nil (setP p .nil x) .nil none
  | .q2 :: p, .node a b c d v, x => .node a b (setP p c x) d v
  | .q3 :: p, .nil, x => .node .nil .nil .nil (setP p .nil x) none
  | .q3 :: p, .node a b c d v, x => .node a b c (setP p d x) v
def get (t : Tr α) (n : Nat) : Option α := t.getP (path n)
def set (t : Tr α) (n : Nat) (x : α) : Tr α := setP (path n) t x
theorem beq_f {n m : Nat} (h : n ≠ m) : Nat.beq n m = false := by
  cases hb : Nat.beq n m
  · rfl
  · exact absurd (Nat.eq_of_beq_eq_true hb) h
theorem getP_setP : ∀ (p : Pth) (t : Tr α) (x : α) (q : Pth), (setP p t x).getP q = if q = p then some x else t.getP q := by
  intro p
  induction p with
  | nil =>
    intro t x q
    cases t <;> cases q <;> simp [setP, getP]
    all_goals (rename_i b _; cases b <;> simp [getP])
  | cons b p ih =>
    intro t x q
    cases t <;> cases q <;> cases b <;> simp only [setP]
    all_goals first
      | (simp [getP]; done)
      | (rename_i b' _; cases b' <;> simp [getP, ih])
theorem pathF_inj : ∀ (d : Nat) (n m : Nat), n < d → m < d → pathF d n = pathF d m → n = m := by
  intro d
  induction d with
  | zero => intro n m h; omega
  | succ d ih =>
    intro n m hn hm h
    unfold pathF at h
    by_cases n0 : n = 0 <;> by_cases m0 : m = 0
    · omega
    · subst n0
      rw [beq_f m0] at h
      simp at h
    · subst m0
      rw [beq_f n0] at h
      simp at h
    · rw [beq_f n0, beq_f m0] at h
      simp only [cond_false, List.cons.injEq] at h
      have h1 := qOf_inj (Nat.mod_lt _ (by omega)) (Nat.mod_lt _ (by omega)) h.1
      have h2 := ih _ _ (by omega) (by omega) h.2
      omega
theorem pathF_fuel : ∀ (d e : Nat) (n : Nat), n < d → n < e → pathF d n = pathF e n := by
  intro d
  induction d with
  | zero => intro e n h; omega
  | succ d ih =>
    intro e n h1 h2
    cases e with
    | zero => omega
    | succ e =>
      unfold pathF
      by_cases h0 : n = 0
      · subst h0; rfl
      · rw [ih e ((n - 1) / 4) (by omega) (by omega)]
theorem path_inj {n m : Nat} (h : path n = path m) : n = m := by
  unfold path at h
  rw [pathF_fuel (n + 1) (n + m + 1) n (by omega) (by omega), pathF_fuel (m + 1) (n + m + 1) m (by omega) (by omega)] at h
  exact pathF_inj _ _ _ (by omega) (by omega) h
theorem get_set (t : Tr α) (n : Nat) (x : α) (k : Nat) : (t.set n x).get k = if k = n then some x else t.get k := by
  unfold get set
  rw [getP_setP]
  by_cases h : k = n
  · subst h; simp
  · rw [if_neg h, if_neg fun e => h (path_inj e)]
theorem get_set_same (t : Tr α) (n : Nat) (x : α) : (t.set n x).get n = some x := by rw [get_set, if_pos rfl]
theorem get_set_ne (t : Tr α) {n k : Nat} (x : α) (h : k ≠ n) : (t.set n x).get k = t.get k := by rw [get_set, if_neg h]
theorem getP_eq (t : Tr α) (n : Nat) : t.getP (path n) = t.get n := rfl
theorem get_setP (t : Tr α) (n : Nat) (x : α) (k : Nat) : (setP (path n) t x).get k = if k = n then some x else t.get k := get_set t n x k
theorem get_nil (k : Nat) : (nil : Tr α).get k = none := by unfold get; simp [getP]
end Tr
/-- An abstract value. -/
inductive AV where
  | bool (b : Bool)
  | int (k : IntKind) (n : Int)
  | str (s : List UInt8)
  | nilp
  | ptr (g e i : Nat)
  | vptr (row : List AV) (i : Nat)
  | nils
  | zslc
  | slc (g e i len z : Nat)
  | vals (z : Nat) (rows : List (List AV))
  | fn (f : Fn) (cap : List AV)
  | nilf
  | nili
  | nilm
  | mapp (g : Nat)
  | iface (t : TypeId) (v : AV)
  | agg (cs : List AV)
  | tup (cs : List AV)
  | und
/-- What is known of memory and of the groups: cells that stand for good; where a group of an age lies (block, first cell, the block's size). -/
structure Gh where
  M : Nat → Nat → Option Value
  mu : Nat → Nat → Option (Nat × Nat × Nat)
  mm : Nat → Option Nat
mutual
def VR (G : Gh) : AV → Value → Prop
  | .bool b, v => v = .bool b
  | .int k n, v => v = .int k n
  | .str s, v => v = .string ⟨s.toArray⟩
  | .nilp, v => v = .pointer none
  | .ptr g e i, v => ∃ b o n, G.mu g e = some (b, o, n) ∧ v = .pointer (some ⟨b, o + i, none⟩)
  | .vptr row i, v => ∃ b o, v = .pointer (some ⟨b, o + i, none⟩) ∧ VRow G row b o
  | .nils, v => v = .slice none 0 0
  | .zslc, v => ∃ a, v = .slice a 0 0
  | .slc g e i len z, v => ∃ b o n cap, G.mu g e = some (b, o, n) ∧ v = .slice (some ⟨b, o + i, none⟩) len cap ∧ len ≤ cap ∧ o + i + cap * z ≤ n
  | .vals z rows, v => ∃ a cap, v = .slice a rows.length cap ∧ rows.length ≤ cap ∧ (rows = [] ∨ ∃ b o, a = some ⟨b, o, none⟩ ∧ VRows G z rows b o)
  | .fn f cap, v => ∃ cs : Array Value, v = .func f #[] cs ∧ VRs G cap cs.toList
  | .nilf, v => v = .nilFunc
  | .nili, v => v = .nilIface
  | .nilm, v => v = .map none
  | .mapp g, v => ∃ b, G.mm g = some b ∧ v = .map (some b)
  | .iface t x, v => ∃ u, v = .iface t u ∧ VR G x u
  | .agg cs, v => ∃ us : Array Value, v = .agg us ∧ VRs G cs us.toList
  | .tup cs, v => ∃ us : Array Value, v = .tuple us ∧ VRs G cs us.toList
  | .und, v => v = undef
def VRs (G : Gh) : List AV → List Value → Prop
  | [], vs => vs = []
  | x :: xs, vs => ∃ u us, vs = u :: us ∧ VR G x u ∧ VRs G xs us
def VRow (G : Gh) : List AV → Nat → Nat → Prop
  | [], _, _ => True
  | x :: xs, b, o => (∃ u, G.M b o = some u ∧ VR G x u) ∧ VRow G xs b (o + 1)
def VRows (G : Gh) (z : Nat) : List (List AV) → Nat → Nat → Prop
  | [], _, _ => True
  | r :: rs, b, o => r.length = z ∧ VRow G r b o ∧ VRows G z rs b (o + z)
end
/-- More is known. -/
structure Gh.le (G G' : Gh) : Prop where
  M : ∀ b o v, G.M b o = some v → G'.M b o = some v
  mu : ∀ g e x, G.mu g e = some x → G'.mu g e = some x
  mm : ∀ g x, G.mm g = some x → G'.mm g = some x
theorem Gh.le.refl (G : Gh) : G.le G := ⟨fun _ _ _ h => h, fun _ _ _ h => h, fun _ _ h => h⟩
theorem Gh.le.trans {A B C : Gh} (h : A.le B) (k : B.le C) : A.le C := ⟨fun b o v x => k.M b o v (h.M b o v x), fun g e v x => k.mu g e v (h.mu g e v x), fun g v x => k.mm g v (h.mm g v x)⟩
mutual
theorem VR.mono {G G' : Gh} (h : G.le G') : ∀ (x : AV) (v : Value), VR G x v → VR G' x v
  | .bool b, v, hv => hv
  | .int k n, v, hv => hv
  | .str s, v, hv => hv
  | .nilp, v, hv => hv
  | .ptr g e i, v, hv => by
    simp only [VR] at hv ⊢
    obtain ⟨b, o, n, h1, h2⟩ := hv
    exact ⟨b, o, n, h.mu _ _ _ h1, h2⟩
  | .vptr row i, v, hv => by
    simp only [VR] at hv ⊢
    obtain ⟨b, o, h1, h2⟩ := hv
    exact ⟨b, o, h1, VRow.mono h row b o h2⟩
  | .nils, v, hv => hv
  | .zslc, v, hv => hv
  | .slc g e i len z, v, hv => by
    simp only [VR] at hv ⊢
    obtain ⟨b, o, n, c, h1, h2⟩ := hv
    exact ⟨b, o, n, c, h.mu _ _ _ h1, h2⟩
  | .vals z rows, v, hv => by
    simp only [VR] at hv ⊢
    obtain ⟨a, cap, h1, h0, h2⟩ := hv
    refine ⟨a, cap, h1, h0, ?_⟩
    rcases h2 with h2 | ⟨b, o, h2, h3⟩
    · exact .inl h2
    · exact .inr ⟨b, o, h2, VRows.mono h z rows b o h3⟩
  | .fn f cap, v, hv => by
    simp only [VR] at hv ⊢
    obtain ⟨cs, h1, h2⟩ := hv
    exact ⟨cs, h1, VRs.mono h cap _ h2⟩
  | .nilf, v, hv => hv
  | .nili, v, hv => hv
  | .nilm, v, hv => hv
  | .mapp g, v, hv => by
    simp only [VR] at hv ⊢
    obtain ⟨b, h1, h2⟩ := hv
    exact ⟨b, h.mm _ _ h1, h2⟩
  | .iface t x, v, hv => by
    simp only [VR] at hv ⊢
    obtain ⟨u, h1, h2⟩ := hv
    exact ⟨u, h1, VR.mono h x u h2⟩
  | .agg cs, v, hv => by
    simp only [VR] at hv ⊢
    obtain ⟨us, h1, h2⟩ := hv
    exact ⟨us, h1, VRs.mono h cs _ h2⟩
  | .tup cs, v, hv => by
    simp only [VR] at hv ⊢
    obtain ⟨us, h1, h2⟩ := hv
    exact ⟨us, h1, VRs.mono h cs _ h2⟩
  | .und, v, hv => hv
theorem VRs.mono {G G' : Gh} (h : G.le G') : ∀ (xs : List AV) (vs : List Value), VRs G xs vs → VRs G' xs vs
  | [], vs, hv => hv
  | x :: xs, vs, hv => by
    simp only [VRs] at hv ⊢
    obtain ⟨u, us, h1, h2, h3⟩ := hv
    exact ⟨u, us, h1, VR.mono h x u h2, VRs.mono h xs us h3⟩
theorem VRow.mono {G G' : Gh} (h : G.le G') : ∀ (xs : List AV) (b o : Nat), VRow G xs b o → VRow G' xs b o
  | [], b, o, hv => hv
  | x :: xs, b, o, hv => by
    simp only [VRow] at hv ⊢
    obtain ⟨⟨u, h1, h2⟩, h3⟩ := hv
    exact ⟨⟨u, h.M _ _ _ h1, VR.mono h x u h2⟩, VRow.mono h xs b (o + 1) h3⟩
theorem VRows.mono {G G' : Gh} (h : G.le G') (z : Nat) : ∀ (rs : List (List AV)) (b o : Nat), VRows G z rs b o → VRows G' z rs b o
  | [], b, o, hv => by simp only [VRows]
  | r :: rs, b, o, hv => by
    simp only [VRows] at hv ⊢
    exact ⟨hv.1, VRow.mono h r b o hv.2.1, VRows.mono h z rs b _ hv.2.2⟩
end
end Go.Abs
namespace Go.Abs
open Go Go.RowKit
set_option linter.unusedVariables false
def powG : Nat := 1
def powCs : Array Value := (Go.Lib.pow10Tab.map fun z => Value.int .u64 z).toArray
def GlobV (w : World) (B : Nat) : Prop := powG < B ∧ ∃ t f, w.heap[powG]? = some (.cells powCs t f)
theorem GlobV.keep {w w' : World} {B : Nat} (h : GlobV w B) (hb : Below B w w') : GlobV w' B := by
  obtain ⟨h0, t, f, h1⟩ := h
  exact ⟨h0, t, f, by rw [hb.block _ h0]; exact h1⟩
theorem GlobV.mono {w : World} {B B' : Nat} (h : GlobV w B) (hB : B ≤ B') : GlobV w B' := ⟨Nat.lt_of_lt_of_le h.1 hB, h.2⟩
end Go.Abs
namespace Go.Abs
open Go Go.RowKit
set_option linter.unusedVariables false
/-- The first variable holds a number. -/
def Glob (w : World) (B : Nat) : Prop := (0 < B ∧ GlobV w B) ∧ ∃ m, w.cell? ⟨0, 0, none⟩ = some (.int .i64 m)
theorem Glob.keep {w w' : World} {B : Nat} (h : Glob w B) (hb : Below B w w') : Glob w' B := by
  obtain ⟨⟨h0, hv⟩, m, hm⟩ := h
  exact ⟨⟨h0, hv.keep hb⟩, m, by rw [hb.cell (p := ⟨0, 0, none⟩) h0]; exact hm⟩
theorem Glob.mono {w : World} {B B' : Nat} (h : Glob w B) (hB : B ≤ B') : Glob w B' := ⟨⟨Nat.lt_of_lt_of_le h.1.1 hB, h.1.2.mono hB⟩, h.2⟩
end Go.Abs
namespace Go.Abs
open Go Go.RowKit
set_option linter.unusedVariables false
/-- A group: its age, how many of its first cells stand for good, its cells. -/
structure Grp where
  e : Nat
  fz : Nat
  cells : List AV
/-- A map: its clock, its entries (when each was put in, its key, its value). -/
abbrev MapA := Nat × List (Nat × AV × AV)
structure AH where
  next : Nat
  gs : Tr Grp
  ms : Tr MapA
def AH.empty : AH := ⟨0, .nil, .nil⟩
/-- What does not change: below which block all is as it was, the first world, what stood for good at first. -/
structure Kx where
  B : Nat
  w0 : World
  M0 : Nat → Nat → Option Value
  gl : Glob w0 B
/-- A tag tells a block's type: a block as long as its cells, or of any length. -/
def TagOk (fz t n len : Nat) : Prop := fz = 1000000000 + 2 * t ∧ n = len ∨ fz = 1000000001 + 2 * t
structure GrpAt (K : Kx) (G : Gh) (w : World) (g : Nat) (r : Grp) (b o n : Nat) (cs : Array Value) (t : TypeId) : Prop where
  mu : G.mu g r.e = some (b, o, n)
  low : K.B ≤ b
  heap : w.heap[b]? = some (.cells cs t (0, 0))
  size : cs.size = n
  cell : ∀ (i : Nat) (x : AV), r.cells[i]? = some x → ∃ u, cs[o + i]? = some u ∧ VR G x u ∧ u.oneCell' = true
  free : ∀ j, o + r.fz ≤ j → G.M b j = none
  kind : r.cells.length < r.fz → TagOk r.fz t n r.cells.length ∧ o = 0 ∧ ∀ j, G.M b j = none
/-- A map's entries. -/
def ERel (G : Gh) : List (Nat × AV × AV) → List MapEntry → Prop
  | [], l => l = []
  | (n, k, x) :: es, l => ∃ e l', l = e :: l' ∧ e.born = n ∧ VR G k e.key ∧ VR G x e.val ∧ ERel G es l'
theorem ERel.mono {G G' : Gh} (h : G.le G') : ∀ {es : List (Nat × AV × AV)} {l : List MapEntry}, ERel G es l → ERel G' es l
  | [], l, hr => hr
  | (n, k, x) :: es, l, hr => by
    simp only [ERel] at hr ⊢
    obtain ⟨e, l', h1, h0, h2, h3, h4⟩ := hr
    exact ⟨e, l', h1, h0, VR.mono h _ _ h2, VR.mono h _ _ h3, ERel.mono h h4⟩
structure MapAt (K : Kx) (G : Gh) (w : World) (g : Nat) (es : MapA) (b : Nat) (l : Array MapEntry) (c : Nat) : Prop where
  mm : G.mm g = some b
  low : K.B ≤ b
  heap : w.heap[b]? = some (.map l c)
  ents : ERel G es.2 l.toList
  clock : c = es.1
structure HRel (K : Kx) (G : Gh) (H : AH) (w : World) : Prop where
  below : Below K.B K.w0 w
  hB : K.B ≤ w.heap.size
  mem : ∀ b o v, G.M b o = some v → w.cell? ⟨b, o, none⟩ = some v
  ones : ∀ b o v, G.M b o = some v → v.oneCell' = true
  old : ∀ b o, b < K.B → G.M b o = K.M0 b o
  grp : ∀ g r, H.gs.get g = some r → ∃ b o n cs t, GrpAt K G w g r b o n cs t
  apart : ∀ g g' r r' b o n b' o' n', H.gs.get g = some r → H.gs.get g' = some r' → g ≠ g' → G.mu g r.e = some (b, o, n) → G.mu g' r'.e = some (b', o', n') → b ≠ b'
  fresh : ∀ g, H.gs.get g = none → ∀ e, G.mu g e = none
  maps : ∀ g es, H.ms.get g = some es → ∃ b l c, MapAt K G w g es b l c
  mapart : ∀ g g' es es' b b', H.ms.get g = some es → H.ms.get g' = some es' → g ≠ g' → G.mm g = some b → G.mm g' = some b' → b ≠ b'
  mfresh : ∀ g, H.ms.get g = none → G.mm g = none
  ages : ∀ g r e, H.gs.get g = some r → r.e < e → G.mu g e = none
theorem HRel.glob {K : Kx} {G : Gh} {H : AH} {w : World} (h : HRel K G H w) : Glob w w.heap.size := (K.gl.keep h.below).mono h.hB
theorem cell_lt {w : World} {b o : Nat} {v : Value} (h : w.cell? ⟨b, o, none⟩ = some v) : b < w.heap.size := by
  have := World.block_lt_of_cell? w _ h
  exact this
theorem get_lt {w : World} {b : Nat} {x : Obj} (h : w.heap[b]? = some x) : b < w.heap.size := by
  rcases Nat.lt_or_ge b w.heap.size with h' | h'
  · exact h'
  · rw [Array.getElem?_eq_none h'] at h; cases h
theorem cell_of {w : World} {b : Nat} {cs : Array Value} {t : TypeId} {f : Nat × Nat} (h : w.heap[b]? = some (.cells cs t f)) (o : Nat) : w.cell? ⟨b, o, none⟩ = cs[o]? := by
  simp [World.cell?, h]
theorem VRs.len {G : Gh} : ∀ {xs : List AV} {vs : List Value}, VRs G xs vs → vs.length = xs.length
  | [], vs, h => by simp only [VRs] at h; subst h; rfl
  | x :: xs, vs, h => by
    simp only [VRs] at h
    obtain ⟨u, us, rfl, -, h⟩ := h
    simp [h.len]
theorem VRs.get {G : Gh} : ∀ {xs : List AV} {vs : List Value}, VRs G xs vs → ∀ (i : Nat) (x : AV), xs[i]? = some x → ∃ u, vs[i]? = some u ∧ VR G x u
  | [], vs, h, i, x, hi => by simp at hi
  | y :: xs, vs, h, i, x, hi => by
    simp only [VRs] at h
    obtain ⟨u, us, rfl, h1, h2⟩ := h
    cases i with
    | zero => simp at hi; subst hi; exact ⟨u, rfl, h1⟩
    | succ i => simp at hi; simpa using h2.get i x hi
theorem VRs.of_get {G : Gh} : ∀ {xs : List AV} {vs : List Value}, vs.length = xs.length → (∀ (i : Nat) (x : AV), xs[i]? = some x → ∃ u, vs[i]? = some u ∧ VR G x u) → VRs G xs vs
  | [], vs, hl, h => by simp only [VRs]; exact List.eq_nil_of_length_eq_zero hl
  | x :: xs, vs, hl, h => by
    obtain ⟨u, hu, hx⟩ := h 0 x rfl
    cases vs with
    | nil => simp at hu
    | cons v vs =>
      simp at hu; subst hu
      simp only [VRs]
      exact ⟨v, vs, rfl, hx, VRs.of_get (by simpa using hl) fun i y hy => by have := h (i + 1) y (by simpa using hy); simpa using this⟩
theorem VRow.get {G : Gh} : ∀ {xs : List AV} {b o : Nat}, VRow G xs b o → ∀ (i : Nat) (x : AV), xs[i]? = some x → ∃ u, G.M b (o + i) = some u ∧ VR G x u
  | [], b, o, h, i, x, hi => by simp at hi
  | y :: xs, b, o, h, i, x, hi => by
    simp only [VRow] at h
    obtain ⟨⟨u, h1, h2⟩, h3⟩ := h
    cases i with
    | zero => simp at hi; subst hi; exact ⟨u, h1, h2⟩
    | succ i =>
      simp at hi
      obtain ⟨u', h4, h5⟩ := h3.get i x hi
      exact ⟨u', by rw [← h4]; congr 1; omega, h5⟩
theorem VRow.of_get {G : Gh} : ∀ {xs : List AV} {b o : Nat}, (∀ (i : Nat) (x : AV), xs[i]? = some x → ∃ u, G.M b (o + i) = some u ∧ VR G x u) → VRow G xs b o
  | [], b, o, h => by simp only [VRow]
  | x :: xs, b, o, h => by
    simp only [VRow]
    refine ⟨by simpa using h 0 x rfl, VRow.of_get fun i y hy => ?_⟩
    obtain ⟨u, h1, h2⟩ := h (i + 1) y (by simpa using hy)
    exact ⟨u, by rw [← h1]; congr 1; omega, h2⟩
theorem heap_set (w : World) (b o : Nat) (v : Value) (cs : Array Value) (t : TypeId) (f : Nat × Nat) (h : w.heap[b]? = some (.cells cs t f)) : (w.setCell ⟨b, o, none⟩ v).heap[b]? = some (.cells (cs.setIfInBounds o v) t f) := by
  simp [World.setCell, Array.getElem?_modify, h]
theorem heap_sets_ne (b k : Nat) (hk : k ≠ b) : ∀ (vs : List Value) (o : Nat) (w : World), (w.setCells b o vs).heap[k]? = w.heap[k]?
  | [], o, w => rfl
  | v :: vs, o, w => by
    rw [World.setCells, heap_sets_ne b k hk vs]
    exact Below.heap_setCell _ _ _ _ hk
theorem heap_sets_size (b : Nat) : ∀ (vs : List Value) (o : Nat) (w : World), (w.setCells b o vs).heap.size = w.heap.size
  | [], o, w => rfl
  | v :: vs, o, w => by
    rw [World.setCells, heap_sets_size b vs]
    simp [World.setCell]
theorem heap_sets (b : Nat) (t : TypeId) (f : Nat × Nat) : ∀ (vs : List Value) (o : Nat) (w : World) (cs : Array Value), w.heap[b]? = some (.cells cs t f) → o + vs.length ≤ cs.size →
    ∃ cs', (w.setCells b o vs).heap[b]? = some (.cells cs' t f) ∧ cs'.size = cs.size ∧ ∀ j, cs'[j]? = if o ≤ j ∧ j < o + vs.length then vs[j - o]? else cs[j]?
  | [], o, w, cs, h, hl => ⟨cs, h, rfl, fun j => by rw [if_neg (by simp)]⟩
  | v :: vs, o, w, cs, h, hl => by
    simp at hl
    obtain ⟨cs', h1, h2, h3⟩ := heap_sets b t f vs (o + 1) (w.setCell ⟨b, o, none⟩ v) (cs.setIfInBounds o v) (heap_set w b o v cs t f h) (by simp; omega)
    refine ⟨cs', h1, by simpa using h2, fun j => ?_⟩
    rw [h3]
    by_cases hj : o + 1 ≤ j ∧ j < o + 1 + vs.length
    · rw [if_pos hj, if_pos (by simp; omega)]
      rw [show j - o = (j - (o + 1)) + 1 by omega]
      simp
    · rw [if_neg hj]
      by_cases he : j = o
      · subst he
        rw [if_pos (by simp)]
        simp [Array.getElem?_setIfInBounds]
        omega
      · rw [if_neg (by simp; omega)]
        rw [Array.getElem?_setIfInBounds, if_neg (Ne.symm he)]
theorem below_sets {B b : Nat} {a : World} (hb : B ≤ b) : ∀ (vs : List Value) (o : Nat) (w : World), Below B a w → Below B a (w.setCells b o vs)
  | [], o, w, h => h
  | v :: vs, o, w, h => by
    rw [World.setCells]
    exact below_sets hb vs _ _ (h.setCell (p := ⟨b, o, none⟩) hb v)
/-- A draw changes nothing here. -/
theorem HRel.drawn {K : Kx} {G : Gh} {H : AH} {w : World} (h : HRel K G H w) (d : Nat) : HRel K G H { w with drawn := d } where
  below := h.below.trans ⟨rfl, rfl, rfl, Nat.le_refl _, fun _ _ => rfl⟩
  hB := h.hB
  mem := h.mem
  ones := h.ones
  old := h.old
  grp := fun g r hg => by
    obtain ⟨b, o, n, cs, t, q⟩ := h.grp g r hg
    exact ⟨b, o, n, cs, t, q.mu, q.low, q.heap, q.size, q.cell, q.free, q.kind⟩
  apart := h.apart
  fresh := h.fresh
  maps := fun g es hg => by
    obtain ⟨b, l, c, q⟩ := h.maps g es hg
    exact ⟨b, l, c, q.mm, q.low, q.heap, q.ents, q.clock⟩
  mapart := h.mapart
  mfresh := h.mfresh
  ages := h.ages
/-- What was known, and where a new group lies. -/
def Gh.put (G : Gh) (g e : Nat) (p : Nat × Nat × Nat) : Gh := ⟨G.M, fun g' e' => if g' = g ∧ e' = e then some p else G.mu g' e', G.mm⟩
theorem Gh.put_le {G : Gh} {g e : Nat} {p : Nat × Nat × Nat} (h : G.mu g e = none) : G.le (G.put g e p) :=
  ⟨fun _ _ _ h => h, fun g' e' x hx => by
    simp only [Gh.put]
    by_cases hc : g' = g ∧ e' = e
    · rw [hc.1, hc.2, h] at hx; cases hx
    · rw [if_neg hc]; exact hx, fun _ _ h => h⟩
theorem Gh.put_same (G : Gh) (g e : Nat) (p : Nat × Nat × Nat) : (G.put g e p).mu g e = some p := by simp [Gh.put]
theorem Gh.put_ne (G : Gh) {g e g' e' : Nat} (p : Nat × Nat × Nat) (h : g' ≠ g ∨ e' ≠ e) : (G.put g e p).mu g' e' = G.mu g' e' := by
  simp only [Gh.put]
  rw [if_neg (by rcases h with h | h <;> simp [h])]
/-- A new block becomes a new group. -/
def AH.add (H : AH) (xs : List AV) : AH := ⟨H.next + 1, H.gs.set H.next ⟨0, 0, xs⟩, H.ms⟩
/-- A block behind all that was, in a world that kept what was, becomes a group of an age not met. -/
theorem HRel.newBlock {K : Kx} {G : Gh} {H : AH} {w w' : World} (h : HRel K G H w) {g e fz : Nat} {xs : List AV} {cs : Array Value} {t : TypeId} {nx : Nat}
    (hb : Below w.heap.size w w') (hw : w'.heap[w.heap.size]? = some (.cells cs t (0, 0))) (hx : ∀ (i : Nat) (x : AV), xs[i]? = some x → ∃ u, cs[i]? = some u ∧ VR G x u ∧ u.oneCell' = true)
    (hnew : G.mu g e = none) (hage : ∀ e', e < e' → G.mu g e' = none) (hkd : xs.length < fz → TagOk fz t cs.size xs.length := by intro hk; exact absurd hk (Nat.not_lt_zero _)) :
    HRel K (G.put g e (w.heap.size, 0, cs.size)) ⟨nx, H.gs.set g ⟨e, fz, xs⟩, H.ms⟩ w' := by
  have hle := Gh.put_le (p := (w.heap.size, 0, cs.size)) hnew
  have hMlt : ∀ b o v, G.M b o = some v → b < w.heap.size := fun b o v hv => cell_lt (h.mem b o v hv)
  refine ⟨h.below.trans (hb.mono h.hB), Nat.le_trans h.hB hb.size, ?_, h.ones, h.old, ?_, ?_, ?_, ?_, h.mapart, h.mfresh, ?_⟩
  · intro b o v hv
    have := h.mem b o v hv
    rw [← this]
    exact World.cell?_of_block (hb.block b (hMlt b o v hv))
  · intro g' r hr
    rw [Tr.get_set] at hr
    by_cases hgg : g' = g
    · rw [if_pos hgg] at hr
      cases hr
      subst hgg
      refine ⟨w.heap.size, 0, cs.size, cs, t, Gh.put_same _ _ _ _, h.hB, hw, rfl, fun i x hi => ?_, fun j _ => ?_, fun hk => ⟨hkd hk, rfl, fun j => ?_⟩⟩
      · obtain ⟨u, h1, h2, h3⟩ := hx i x hi
        exact ⟨u, by simpa using h1, VR.mono hle _ _ h2, h3⟩
      all_goals
        cases hM : (G.put g' e (w.heap.size, 0, cs.size)).M w.heap.size j with
        | none => rfl
        | some v => exact absurd (hMlt _ _ _ hM) (Nat.lt_irrefl _)
    · rw [if_neg hgg] at hr
      obtain ⟨b, o, n, c, ty, q⟩ := h.grp g' r hr
      have hbl := get_lt q.heap
      exact ⟨b, o, n, c, ty, by rw [Gh.put_ne _ _ (.inl hgg)]; exact q.mu, q.low, by rw [hb.block b hbl]; exact q.heap, q.size,
        fun i x hi => by obtain ⟨u, h1, h2, h3⟩ := q.cell i x hi; exact ⟨u, h1, VR.mono hle _ _ h2, h3⟩, q.free, q.kind⟩
  · intro g1 g2 r1 r2 b1 o1 n1 b2 o2 n2 h1 h2 hne hm1 hm2
    rw [Tr.get_set] at h1 h2
    by_cases e1 : g1 = g
    · rw [if_pos e1] at h1
      have e2 : ¬ g2 = g := fun e2 => hne (e1.trans e2.symm)
      rw [if_neg e2] at h2
      cases h1
      subst e1
      rw [Gh.put_same] at hm1
      rw [Gh.put_ne _ _ (.inl e2)] at hm2
      cases hm1
      obtain ⟨b, o, n, c, ty, q⟩ := h.grp g2 r2 h2
      have := get_lt q.heap
      rw [q.mu] at hm2; cases hm2
      omega
    · rw [if_neg e1] at h1
      rw [Gh.put_ne _ _ (.inl e1)] at hm1
      by_cases e2 : g2 = g
      · rw [if_pos e2] at h2
        cases h2
        subst e2
        rw [Gh.put_same] at hm2
        cases hm2
        obtain ⟨b, o, n, c, ty, q⟩ := h.grp g1 r1 h1
        have := get_lt q.heap
        rw [q.mu] at hm1; cases hm1
        omega
      · rw [if_neg e2] at h2
        rw [Gh.put_ne _ _ (.inl e2)] at hm2
        exact h.apart g1 g2 r1 r2 _ _ _ _ _ _ h1 h2 hne hm1 hm2
  · intro g' hg' e'
    rw [Tr.get_set] at hg'
    by_cases hgg : g' = g
    · rw [if_pos hgg] at hg'; cases hg'
    · rw [if_neg hgg] at hg'
      rw [Gh.put_ne _ _ (.inl hgg)]; exact h.fresh g' hg' e'
  · intro g' es hg'
    obtain ⟨b, l, c, q⟩ := h.maps g' es hg'
    exact ⟨b, l, c, q.mm, q.low, by rw [hb.block b (get_lt q.heap)]; exact q.heap, q.ents.mono hle, q.clock⟩
  · intro g' r e' hr he'
    rw [Tr.get_set] at hr
    by_cases hgg : g' = g
    · rw [if_pos hgg] at hr
      cases hr
      rw [Gh.put_ne _ _ (.inr (Nat.ne_of_gt he')), hgg]
      exact hage e' he'
    · rw [if_neg hgg] at hr
      rw [Gh.put_ne _ _ (.inl hgg)]
      exact h.ages g' r e' hr he'
/-- Cells of a group's block are set: the group is of an age from there on that may be another. -/
theorem HRel.setsG {K : Kx} {G : Gh} {H : AH} {w : World} (h : HRel K G H w) {g : Nat} {r r' : Grp} {b o n : Nat} {cs : Array Value} {t : TypeId} (q : GrpAt K G w g r b o n cs t) (hr : H.gs.get g = some r)
    {p : Nat} {vs : List Value} (hfit : p + vs.length ≤ n) (hp : ∀ j, p ≤ j → G.M b j = none) {o' : Nat} {G' : Gh}
    (hG' : (G' = G ∧ r'.e = r.e ∧ o' = o) ∨ (G' = G.put g r'.e (b, o', n) ∧ r.e < r'.e)) (hfz : ∀ j, o' + r'.fz ≤ j → G.M b j = none) (hkd : r'.cells.length < r'.fz → TagOk r'.fz t n r'.cells.length ∧ o' = 0 ∧ ∀ j, G.M b j = none)
    (hcell : ∀ (i : Nat) (x : AV), r'.cells[i]? = some x → ∃ u, VR G x u ∧ (if p ≤ o' + i ∧ o' + i < p + vs.length then vs[o' + i - p]? else cs[o' + i]?) = some u ∧ u.oneCell' = true) :
    G.le G' ∧ HRel K G' ⟨H.next, H.gs.set g r', H.ms⟩ (w.setCells b p vs) := by
  have hle : G.le G' := by
    rcases hG' with ⟨rfl, _, _⟩ | ⟨rfl, he⟩
    · exact Gh.le.refl _
    · exact Gh.put_le (h.ages g r _ hr he)
  have hM : ∀ b' j, G'.M b' j = G.M b' j := by
    rcases hG' with ⟨rfl, _, _⟩ | ⟨rfl, _⟩ <;> intro b' j <;> rfl
  have hmu : G'.mu g r'.e = some (b, o', n) := by
    rcases hG' with ⟨rfl, he, ho⟩ | ⟨rfl, _⟩
    · rw [he, ho]; exact q.mu
    · exact Gh.put_same _ _ _ _
  have hmune : ∀ g' e', g' ≠ g → G'.mu g' e' = G.mu g' e' := by
    rcases hG' with ⟨rfl, _, _⟩ | ⟨rfl, _⟩
    · intro g' e' _; rfl
    · intro g' e' hne; exact Gh.put_ne _ _ (.inl hne)
  obtain ⟨cs', hw', hs', hc'⟩ := heap_sets b t (0, 0) vs p w cs q.heap (by rw [q.size]; exact hfit)
  have hmm : G'.mm = G.mm := by
    rcases hG' with ⟨rfl, _, _⟩ | ⟨rfl, _⟩ <;> rfl
  refine ⟨hle, below_sets q.low vs p w h.below, by rw [heap_sets_size]; exact h.hB, ?_, fun b' j v hv => h.ones b' j v (by rw [← hM]; exact hv), fun b' j hb' => by rw [hM]; exact h.old b' j hb', ?_, ?_, ?_, ?_, fun g1 g2 e1 e2 b1 b2 k1 k2 k3 k4 k5 => h.mapart g1 g2 e1 e2 b1 b2 k1 k2 k3 (by rw [← hmm]; exact k4) (by rw [← hmm]; exact k5), fun g1 k1 => by rw [hmm]; exact h.mfresh g1 k1, ?_⟩
  · intro b' j v hv
    rw [hM] at hv
    have hm := h.mem b' j v hv
    by_cases hb : b' = b
    · subst hb
      have hj : j < p := by
        rcases Nat.lt_or_ge j p with h' | h'
        · exact h'
        · rw [hp j h'] at hv; cases hv
      rw [cell_of hw', hc', if_neg (by omega), ← cell_of q.heap]
      exact hm
    · rw [World.cell?_of_block (w := w) (heap_sets_ne b b' hb vs p w)]; exact hm
  · intro g' x hx
    rw [Tr.get_set] at hx
    by_cases hgg : g' = g
    · rw [if_pos hgg] at hx
      cases hx
      subst hgg
      refine ⟨b, o', n, cs', t, hmu, q.low, hw', by rw [hs']; exact q.size, fun i x hi => ?_, fun j hj => by rw [hM]; exact hfz j hj, fun hk => ⟨(hkd hk).1, (hkd hk).2.1, fun j => by rw [hM]; exact (hkd hk).2.2 j⟩⟩
      obtain ⟨u, h1, h2, h3⟩ := hcell i x hi
      exact ⟨u, by rw [hc']; exact h2, VR.mono hle _ _ h1, h3⟩
    · rw [if_neg hgg] at hx
      obtain ⟨b2, o2, n2, c2, t2, q2⟩ := h.grp g' x hx
      have hbb : b2 ≠ b := h.apart g' g x r _ _ _ _ _ _ hx hr hgg q2.mu q.mu
      exact ⟨b2, o2, n2, c2, t2, by rw [hmune _ _ hgg]; exact q2.mu, q2.low, by rw [heap_sets_ne b b2 hbb]; exact q2.heap, q2.size,
        fun i y hi => by obtain ⟨u, h1, h2, h3⟩ := q2.cell i y hi; exact ⟨u, h1, VR.mono hle _ _ h2, h3⟩, fun j hj => by rw [hM]; exact q2.free j hj, fun hk => ⟨(q2.kind hk).1, (q2.kind hk).2.1, fun j => by rw [hM]; exact (q2.kind hk).2.2 j⟩⟩
  · intro g1 g2 r1 r2 b1 o1 n1 b2 o2 n2 h1 h2 hne hm1 hm2
    rw [Tr.get_set] at h1 h2
    by_cases e1 : g1 = g
    · rw [if_pos e1] at h1
      have e2 : ¬ g2 = g := fun e2 => hne (e1.trans e2.symm)
      rw [if_neg e2] at h2
      cases h1
      subst e1
      rw [hmu] at hm1
      rw [hmune _ _ e2] at hm2
      cases hm1
      exact h.apart g1 g2 r r2 _ _ _ _ _ _ hr h2 hne q.mu hm2
    · rw [if_neg e1] at h1
      rw [hmune _ _ e1] at hm1
      by_cases e2 : g2 = g
      · rw [if_pos e2] at h2
        cases h2
        subst e2
        rw [hmu] at hm2
        cases hm2
        exact h.apart g1 g2 r1 r _ _ _ _ _ _ h1 hr hne hm1 q.mu
      · rw [if_neg e2] at h2
        rw [hmune _ _ e2] at hm2
        exact h.apart g1 g2 r1 r2 _ _ _ _ _ _ h1 h2 hne hm1 hm2
  · intro g' hg' e'
    rw [Tr.get_set] at hg'
    by_cases hgg : g' = g
    · rw [if_pos hgg] at hg'; cases hg'
    · rw [if_neg hgg] at hg'
      rw [hmune _ _ hgg]; exact h.fresh g' hg' e'
  · intro g' es hg'
    obtain ⟨b2, l, c, q2⟩ := h.maps g' es hg'
    have hbb : b2 ≠ b := by
      intro e
      have h1 := q2.heap
      rw [e, q.heap] at h1
      cases h1
    exact ⟨b2, l, c, by rw [hmm]; exact q2.mm, q2.low, by rw [heap_sets_ne b b2 hbb]; exact q2.heap, q2.ents.mono hle, q2.clock⟩
  · intro g' x e' hx he'
    rw [Tr.get_set] at hx
    by_cases hgg : g' = g
    · rw [if_pos hgg] at hx
      cases hx
      subst hgg
      rcases hG' with ⟨rfl, he, _⟩ | ⟨rfl, he⟩
      · exact h.ages g' r e' hr (by omega)
      · rw [Gh.put_ne _ _ (.inr (by omega))]; exact h.ages g' r e' hr (by omega)
    · rw [if_neg hgg] at hx
      rw [hmune _ _ hgg]; exact h.ages g' x e' hx he'
theorem HRel.sets {K : Kx} {G : Gh} {H : AH} {w : World} (h : HRel K G H w) {g : Nat} {r r' : Grp} {b o n : Nat} {cs : Array Value} {t : TypeId} (q : GrpAt K G w g r b o n cs t) (hr : H.gs.get g = some r)
    {p : Nat} {vs : List Value} (hfit : p + vs.length ≤ n) (hp : o + r.fz ≤ p) {o' : Nat} {G' : Gh}
    (hG' : (G' = G ∧ r'.e = r.e ∧ o' = o) ∨ (G' = G.put g r'.e (b, o', n) ∧ r.e < r'.e)) (hfz : o + r.fz ≤ o' + r'.fz)
    (hcell : ∀ (i : Nat) (x : AV), r'.cells[i]? = some x → ∃ u, VR G x u ∧ (if p ≤ o' + i ∧ o' + i < p + vs.length then vs[o' + i - p]? else cs[o' + i]?) = some u ∧ u.oneCell' = true)
    (hkd : r'.fz ≤ r'.cells.length := by exact Nat.zero_le _) :
    G.le G' ∧ HRel K G' ⟨H.next, H.gs.set g r', H.ms⟩ (w.setCells b p vs) :=
  h.setsG q hr hfit (fun j hj => q.free j (by omega)) hG' (fun j hj => q.free j (by omega)) (fun hk => absurd hkd (Nat.not_le.2 hk)) hcell
end Go.Abs
namespace Go.Abs
open Go Go.RowKit
set_option linter.unusedVariables false
/-- A value that is written in the text, or is the zero of a type. -/
def AV.ofV0 : Value → Option AV
  | .bool b => some (.bool b)
  | .int k n => some (.int k n)
  | .string s => some (.str s.data.toList)
  | .pointer none => some .nilp
  | .slice none 0 0 => some .nils
  | .nilFunc => some .nilf
  | .nilIface => some .nili
  | .map none => some .nilm
  | .func f first cap => if first.isEmpty && cap.isEmpty then some (.fn f []) else none
  | _ => none
def ofVs : List Value → Option (List AV)
  | [] => some []
  | v :: vs => match AV.ofV0 v, ofVs vs with
    | some x, some xs => some (x :: xs)
    | _, _ => none
def AV.ofV : Value → Option AV
  | .agg cs => (ofVs cs.toList).map .agg
  | v => AV.ofV0 v
theorem ofV0_ok {G : Gh} {v : Value} {x : AV} (h : AV.ofV0 v = some x) : VR G x v := by
  cases v <;> simp only [AV.ofV0] at h <;> try (cases h; done)
  case bool b => cases h; simp [VR]
  case int k n => cases h; simp [VR]
  case string s => cases h; simp [VR]
  case pointer a => cases a <;> simp at h; subst h; simp [VR]
  case slice a n c =>
    cases a <;> cases n <;> cases c <;> simp at h
    subst h; simp [VR]
  case func f a c =>
    split at h
    · rename_i hh
      cases h
      simp only [Bool.and_eq_true, Array.isEmpty_iff] at hh
      obtain ⟨rfl, rfl⟩ := hh
      simp [VR, VRs]
    · cases h
  case nilFunc => cases h; simp [VR]
  case nilIface => cases h; simp [VR]
  case map m =>
    cases m <;> simp at h
    subst h; simp [VR]
theorem ofVs_ok {G : Gh} : ∀ {vs : List Value} {xs : List AV}, ofVs vs = some xs → VRs G xs vs
  | [], xs, h => by simp only [ofVs] at h; cases h; simp [VRs]
  | v :: vs, xs, h => by
    simp only [ofVs] at h
    split at h
    · rename_i x xs' h1 h2
      cases h
      simp only [VRs]
      exact ⟨v, vs, rfl, ofV0_ok h1, ofVs_ok h2⟩
    · cases h
theorem ofV_ok {G : Gh} {v : Value} {x : AV} (h : AV.ofV v = some x) : VR G x v := by
  unfold AV.ofV at h
  split at h
  · rename_i cs
    rw [Option.map_eq_some_iff] at h
    obtain ⟨xs, h1, rfl⟩ := h
    simp only [VR]
    exact ⟨cs, rfl, ofVs_ok h1⟩
  · exact ofV0_ok h
def pureOf : Sem Value → Option Value
  | .pure v => some v
  | _ => none
theorem pureOf_run {P : Program} {s : Sem Value} {v : Value} (h : pureOf s = some v) (w : World) : s.run P w = .ok v w := by
  cases s <;> simp only [pureOf] at h <;> cases h
  rfl
/-- What an operand reads as. -/
def aev (T : Tr AV) : Operand → Option AV
  | .tmp t => T.get t
  | .const v => AV.ofV v
  | .global _ => none
  | .func f => some (.fn (.func f) [])
structure TRel (G : Gh) (nt : Nat) (T : Tr AV) (a : Act) : Prop where
  defers : a.defers = []
  size : a.tmps.size = nt
  at' : ∀ t x, T.get t = some x → VR G x (a.tmps.getD t undef)
theorem aev_ok {G : Gh} {nt : Nat} {T : Tr AV} {a : Act} (h : TRel G nt T a) {o : Operand} {x : AV} (hx : aev T o = some x) : VR G x (a.eval o) := by
  cases o with
  | tmp t => exact h.at' t x hx
  | const v => exact ofV_ok hx
  | global g => cases hx
  | func f => simp only [aev] at hx; cases hx; simp [VR, VRs, Act.eval]
theorem TRel.mono {G G' : Gh} {nt : Nat} {T : Tr AV} {a : Act} (h : TRel G nt T a) (hl : G.le G') : TRel G' nt T a := ⟨h.defers, h.size, fun t x hx => VR.mono hl _ _ (h.at' t x hx)⟩
/-- A slot is filled. -/
def tput (nt : Nat) (T : Tr AV) : Option Tmp → AV → Option (Tr AV)
  | none, _ => some T
  | some d, x => if d < nt then some (T.set d x) else none
theorem TRel.put {G : Gh} {nt : Nat} {T T' : Tr AV} {a : Act} (h : TRel G nt T a) {d : Option Tmp} {x : AV} {v : Value} (hp : tput nt T d x = some T') (hv : VR G x v) : TRel G nt T' (a.put d v) := by
  cases d with
  | none => simp only [tput] at hp; cases hp; exact h
  | some d =>
    simp only [tput] at hp
    split at hp
    · rename_i hd
      cases hp
      refine ⟨h.defers, by simp [Act.put, h.size], fun t y hy => ?_⟩
      have hs := h.size
      rw [Tr.get_set] at hy
      by_cases ht : t = d
      · rw [if_pos ht] at hy
        cases hy
        subst ht
        have : (a.put (some t) v).tmps.getD t undef = v := by simp [Act.put, Array.getD_eq_getD_getElem?, hs, hd]
        rw [this]; exact hv
      · rw [if_neg ht] at hy
        have : (a.put (some d) v).tmps.getD t undef = a.tmps.getD t undef := by simp [Act.put, Array.getD_eq_getD_getElem?, Ne.symm ht]
        rw [this]; exact h.at' t y hy
    · cases hp
/-- Two strings. -/
def astr (op : BinOp) (a b : List UInt8) : Option AV :=
  match op with
  | .add => if a.length + b.length ≤ 9223372036854775807 then some (.str (a ++ b)) else none
  | .eql => some (.bool (a == b))
  | .neq => some (.bool !(a == b))
  | .lss => some (.bool (Op.bytesLess a b))
  | .leq => some (.bool (Op.bytesLess a b || a == b))
  | .gtr => some (.bool !(Op.bytesLess a b || a == b))
  | .geq => some (.bool !(Op.bytesLess a b))
  | _ => none
theorem astr_ok {P : Program} {G : Gh} {op : BinOp} {a b : List UInt8} {x : AV} (h : astr op a b = some x) (w : World) : ∃ u, (Op.stringOp op ⟨a.toArray⟩ ⟨b.toArray⟩).run P w = .ok u w ∧ VR G x u := by
  cases op <;> simp only [astr] at h <;> try (cases h; done)
  case add =>
    split at h
    · rename_i hl
      cases h
      refine ⟨.string ⟨(a ++ b).toArray⟩, ?_, by simp [VR]⟩
      have hs : ¬ (((⟨a.toArray⟩ : ByteArray).size + (⟨b.toArray⟩ : ByteArray).size : Nat) : Int) > IntKind.i64.max := by
        simp only [ByteArray.size, List.size_toArray]
        have : IntKind.i64.max = 9223372036854775807 := by rfl
        omega
      simp only [Op.stringOp]
      rw [if_neg hs]
      simp only [Sem.run_pure]
      congr 2
    · cases h
  all_goals
    cases h
    refine ⟨_, rfl, ?_⟩
    simp [VR]
/-- Equal, or not: nil and not nil. -/
def aeq (d : Option TypeDesc) (x y : AV) : Option Bool :=
  match d, x, y with
  | some (.slice _), .nils, .nils => some true
  | some (.slice _), .nils, .slc .. => some false
  | some (.slice _), .slc .., .nils => some false
  | some (.slice _), .nils, .vals _ (_ :: _) => some false
  | some (.slice _), .vals _ (_ :: _), .nils => some false
  | some (.pointer _), .nilp, .nilp => some true
  | some (.pointer _), .nilp, .ptr .. => some false
  | some (.pointer _), .ptr .., .nilp => some false
  | some (.pointer _), .nilp, .vptr .. => some false
  | some (.pointer _), .vptr .., .nilp => some false
  | some (.map _ _), .nilm, .nilm => some true
  | some (.map _ _), .nilm, .mapp _ => some false
  | some (.map _ _), .mapp _, .nilm => some false
  | some (.func _ _ _), .nilf, .nilf => some true
  | some (.func _ _ _), .nilf, .fn .. => some false
  | some (.func _ _ _), .fn .., .nilf => some false
  | some (.interface _), .nili, .iface .. => some false
  | some (.interface _), .iface .., .nili => some false
  | _, _, _ => none
theorem VR.vals_some {G : Gh} {z : Nat} {r : List AV} {rs : List (List AV)} {v : Value} (h : VR G (.vals z (r :: rs)) v) : ∃ b o c, v = .slice (some ⟨b, o, none⟩) (rs.length + 1) c ∧ VRows G z (r :: rs) b o := by
  simp only [VR] at h
  obtain ⟨a, c, rfl, -, h | ⟨b, o, rfl, h⟩⟩ := h
  · cases h
  · exact ⟨b, o, c, rfl, h⟩
theorem aeq_ok {P : Program} {G : Gh} {t : TypeId} {x y : AV} {b : Bool} {u v : Value} (h : aeq (P.underlying t) x y = some b) (hx : VR G x u) (hy : VR G y v) (w : World) :
    (∀ (op : BinOp) (ox oy : Operand), eqGuard op t ox oy u v = pure ()) ∧ (∀ d, (Op.equalIn (d + 1) t u v).run P w = .ok b w) ∧ (∀ op, op = .eql → binOp op t u v = (do pure (.bool (← Op.equal t u v)))) ∧ (∀ op, op = .neq → binOp op t u v = (do pure (.bool (!(← Op.equal t u v))))) := by
  cases hd : P.underlying t with
  | none => rw [hd] at h; simp [aeq] at h
  | some d =>
    rw [hd] at h
    unfold aeq at h
    split at h <;> (try (cases h; done)) <;> (rename_i hd'; first | (cases hd') | skip) <;> cases h
    all_goals first
      | (obtain ⟨b', o', c', rfl, -⟩ := hx.vals_some; simp only [VR] at hy; subst hy; refine ⟨fun op ox oy => by cases op <;> rfl, ?_, fun op e => by subst e; rfl, fun op e => by subst e; rfl⟩; intro d; simp [Op.equalIn, run_underlying hd])
      | (obtain ⟨b', o', c', rfl, -⟩ := hy.vals_some; simp only [VR] at hx; subst hx; refine ⟨fun op ox oy => by cases op <;> rfl, ?_, fun op e => by subst e; rfl, fun op e => by subst e; rfl⟩; intro d; simp [Op.equalIn, run_underlying hd])
      | (simp only [VR] at hx hy
         first
           | (subst hx; subst hy; refine ⟨fun op ox oy => by cases op <;> rfl, ?_, fun op e => by subst e; rfl, fun op e => by subst e; rfl⟩; intro d; simp [Op.equalIn, run_underlying hd]; done)
           | (subst hx; obtain ⟨b1, o1, n1, c1, -, rfl, -⟩ := hy; refine ⟨fun op ox oy => by cases op <;> rfl, ?_, fun op e => by subst e; rfl, fun op e => by subst e; rfl⟩; intro d; simp [Op.equalIn, run_underlying hd]; done)
           | (subst hy; obtain ⟨b1, o1, n1, c1, -, rfl, -⟩ := hx; refine ⟨fun op ox oy => by cases op <;> rfl, ?_, fun op e => by subst e; rfl, fun op e => by subst e; rfl⟩; intro d; simp [Op.equalIn, run_underlying hd]; done)
           | (subst hx; obtain ⟨b1, o1, n1, -, rfl⟩ := hy; refine ⟨fun op ox oy => by cases op <;> rfl, ?_, fun op e => by subst e; rfl, fun op e => by subst e; rfl⟩; intro d; simp [Op.equalIn, run_underlying hd]; done)
           | (subst hy; obtain ⟨b1, o1, n1, -, rfl⟩ := hx; refine ⟨fun op ox oy => by cases op <;> rfl, ?_, fun op e => by subst e; rfl, fun op e => by subst e; rfl⟩; intro d; simp [Op.equalIn, run_underlying hd]; done)
           | (subst hx; obtain ⟨b1, o1, rfl, -⟩ := hy; refine ⟨fun op ox oy => by cases op <;> rfl, ?_, fun op e => by subst e; rfl, fun op e => by subst e; rfl⟩; intro d; simp [Op.equalIn, run_underlying hd]; done)
           | (subst hy; obtain ⟨b1, o1, rfl, -⟩ := hx; refine ⟨fun op ox oy => by cases op <;> rfl, ?_, fun op e => by subst e; rfl, fun op e => by subst e; rfl⟩; intro d; simp [Op.equalIn, run_underlying hd]; done)
           | (subst hx; obtain ⟨b1, rfl, -⟩ := hy; refine ⟨fun op ox oy => by cases op <;> rfl, ?_, fun op e => by subst e; rfl, fun op e => by subst e; rfl⟩; intro d; simp [Op.equalIn, run_underlying hd]; done)
           | (subst hy; obtain ⟨b1, rfl, -⟩ := hx; refine ⟨fun op ox oy => by cases op <;> rfl, ?_, fun op e => by subst e; rfl, fun op e => by subst e; rfl⟩; intro d; simp [Op.equalIn, run_underlying hd]; done))
/-- Two operands. -/
def abin (P : Program) (op : BinOp) (t : TypeId) (x y : AV) : Option AV :=
  match x, y with
  | .str a, .str b => astr op a b
  | .int k a, .int k' b => (pureOf (binOp op t (.int k a) (.int k' b))).bind AV.ofV0
  | .bool a, .bool b =>
    match op, P.underlying t with
    | .eql, some .bool => some (.bool (a == b))
    | .neq, some .bool => some (.bool !(a == b))
    | _, _ => none
  | x, y =>
    match op with
    | .eql => (aeq (P.underlying t) x y).map .bool
    | .neq => (aeq (P.underlying t) x y).map fun b => .bool !b
    | _ => none
theorem abin_ok {P : Program} {G : Gh} {op : BinOp} {t : TypeId} {x y z : AV} {u v : Value} (h : abin P op t x y = some z) (hx : VR G x u) (hy : VR G y v) (ox oy : Operand) (w : World) :
    ∃ r, (do eqGuard op t ox oy u v; binOp op t u v : Sem Value).run P w = .ok r w ∧ VR G z r := by
  unfold abin at h
  split at h
  · rename_i a b
    simp only [VR] at hx hy
    subst hx; subst hy
    obtain ⟨r, h1, h2⟩ := astr_ok (P := P) (G := G) h w
    refine ⟨r, ?_, h2⟩
    have e1 : eqGuard op t ox oy (.string ⟨a.toArray⟩) (.string ⟨b.toArray⟩) = pure () := by cases op <;> rfl
    have e2 : binOp op t (.string ⟨a.toArray⟩) (.string ⟨b.toArray⟩) = Op.stringOp op ⟨a.toArray⟩ ⟨b.toArray⟩ := by cases op <;> rfl
    rw [e1, e2]
    simpa using h1
  · rename_i k a k' b
    simp only [VR] at hx hy
    subst hx; subst hy
    rw [Option.bind_eq_some_iff] at h
    obtain ⟨r, h1, h2⟩ := h
    refine ⟨r, ?_, ofV0_ok h2⟩
    have e1 : eqGuard op t ox oy (.int k a) (.int k' b) = pure () := by cases op <;> rfl
    rw [e1]
    simpa using pureOf_run h1 w
  · rename_i a b
    simp only [VR] at hx hy
    subst hx; subst hy
    have e1 : eqGuard op t ox oy (.bool a) (.bool b) = pure () := by cases op <;> rfl
    rw [e1]
    split at h
    · rename_i hd
      cases h
      have e3 : ∀ d, (Op.equalIn (d + 1) t (.bool a) (.bool b)).run P w = .ok (a == b) w := fun d => by simp [Op.equalIn, run_underlying hd]
      have e2 : (Op.equal t (.bool a) (.bool b)).run P w = .ok (a == b) w := e3 9999
      have e4 : binOp .eql t (.bool a) (.bool b) = (do pure (.bool (← Op.equal t (.bool a) (.bool b)))) := rfl
      exact ⟨.bool (a == b), by rw [e4]; simp [e2], by simp [VR]⟩
    · rename_i hd
      cases h
      have e3 : ∀ d, (Op.equalIn (d + 1) t (.bool a) (.bool b)).run P w = .ok (a == b) w := fun d => by simp [Op.equalIn, run_underlying hd]
      have e2 : (Op.equal t (.bool a) (.bool b)).run P w = .ok (a == b) w := e3 9999
      have e4 : binOp .neq t (.bool a) (.bool b) = (do pure (.bool (!(← Op.equal t (.bool a) (.bool b))))) := rfl
      exact ⟨.bool !(a == b), by rw [e4]; simp [e2], by simp [VR]⟩
    · cases h
  · split at h
    · rw [Option.map_eq_some_iff] at h
      obtain ⟨b, h1, rfl⟩ := h
      obtain ⟨e1, e2, e3, e4⟩ := aeq_ok h1 hx hy w
      refine ⟨.bool b, ?_, by simp [VR]⟩
      rw [e1, e3 _ rfl]
      have e2' : (Op.equal t u v).run P w = .ok b w := e2 9999
      simp [e2']
    · rw [Option.map_eq_some_iff] at h
      obtain ⟨b, h1, rfl⟩ := h
      obtain ⟨e1, e2, e3, e4⟩ := aeq_ok h1 hx hy w
      refine ⟨.bool !b, ?_, by simp [VR]⟩
      rw [e1, e4 _ rfl]
      have e2' : (Op.equal t u v).run P w = .ok b w := e2 9999
      simp [e2']
    · cases h
/-- One operand. -/
def aun (op : UnOp) (x : AV) : Option AV :=
  match x with
  | .int k n => (pureOf (Op.unary op (.int k n))).bind AV.ofV0
  | .bool b => (pureOf (Op.unary op (.bool b))).bind AV.ofV0
  | _ => none
theorem aun_ok {P : Program} {G : Gh} {op : UnOp} {x z : AV} {u : Value} (h : aun op x = some z) (hx : VR G x u) (w : World) : ∃ r, (Op.unary op u).run P w = .ok r w ∧ VR G z r := by
  unfold aun at h
  split at h
  · simp only [VR] at hx
    subst hx
    rw [Option.bind_eq_some_iff] at h
    obtain ⟨r, h1, h2⟩ := h
    exact ⟨r, pureOf_run h1 w, ofV0_ok h2⟩
  · simp only [VR] at hx
    subst hx
    rw [Option.bind_eq_some_iff] at h
    obtain ⟨r, h1, h2⟩ := h
    exact ⟨r, pureOf_run h1 w, ofV0_ok h2⟩
  · cases h
/-- Turned into another type: whole numbers, strings. -/
def aconv (P : Program) (src dst : TypeId) (x : AV) : Option AV :=
  match P.underlying src, P.underlying dst, x with
  | some _, some (.int k), .int _ n => some (.int k (k.wrap n))
  | some .string, some .string, .str s => some (.str s)
  | _, _, _ => none
theorem aconv_ok {P : Program} {G : Gh} {src dst : TypeId} {x z : AV} {u : Value} (h : aconv P src dst x = some z) (hx : VR G x u) (w : World) : ∃ r, (convert src dst u).run P w = .ok r w ∧ VR G z r := by
  unfold aconv at h
  split at h
  · rename_i d k k' n h1 h2
    cases h
    simp only [VR] at hx
    subst hx
    exact ⟨.int k (k.wrap n), by simp [convert, run_underlying h1, run_underlying h2, Conv.intToInt], by simp [VR]⟩
  · rename_i s h1 h2
    cases h
    simp only [VR] at hx
    subst hx
    exact ⟨.string ⟨s.toArray⟩, by simp [convert, run_underlying h1, run_underlying h2], by simp [VR]⟩
  · cases h
end Go.Abs
namespace Go.Abs
open Go Go.RowKit
set_option linter.unusedVariables false
def AV.cells : AV → List AV
  | .agg cs => cs
  | x => [x]
/-- It takes one cell. -/
def AV.one : AV → Bool
  | .agg _ | .tup _ | .und => false
  | _ => true
/-- It may be stored. -/
def AV.fit : AV → Bool
  | .tup _ | .und => false
  | .agg cs => cs.all AV.one
  | _ => true
theorem one_ok {G : Gh} {x : AV} {u : Value} (h : x.one = true) (hv : VR G x u) : u.oneCell' = true ∧ u.cells = #[u] := by
  cases x <;> simp only [AV.one] at h <;> try (cases h; done)
  all_goals simp only [VR] at hv
  case bool => subst hv; exact ⟨rfl, rfl⟩
  case int => subst hv; exact ⟨rfl, rfl⟩
  case str => subst hv; exact ⟨rfl, rfl⟩
  case nilp => subst hv; exact ⟨rfl, rfl⟩
  case nils => subst hv; exact ⟨rfl, rfl⟩
  case nilf => subst hv; exact ⟨rfl, rfl⟩
  case nili => subst hv; exact ⟨rfl, rfl⟩
  case ptr => obtain ⟨_, _, _, _, rfl⟩ := hv; exact ⟨rfl, rfl⟩
  case vptr => obtain ⟨_, _, rfl, _⟩ := hv; exact ⟨rfl, rfl⟩
  case zslc => obtain ⟨_, rfl⟩ := hv; exact ⟨rfl, rfl⟩
  case slc => obtain ⟨_, _, _, _, _, rfl, _⟩ := hv; exact ⟨rfl, rfl⟩
  case vals => obtain ⟨_, _, rfl, _⟩ := hv; exact ⟨rfl, rfl⟩
  case fn => obtain ⟨_, rfl, _⟩ := hv; exact ⟨rfl, rfl⟩
  case iface => obtain ⟨_, rfl, _⟩ := hv; exact ⟨rfl, rfl⟩
  case nilm => subst hv; exact ⟨rfl, rfl⟩
  case mapp => obtain ⟨b, -, rfl⟩ := hv; exact ⟨rfl, rfl⟩
theorem ones_ok {G : Gh} : ∀ {xs : List AV} {us : List Value}, xs.all AV.one = true → VRs G xs us → ∀ u ∈ us, u.oneCell' = true
  | [], us, h, hv, u, hu => by simp only [VRs] at hv; subst hv; cases hu
  | x :: xs, us, h, hv, u, hu => by
    simp only [VRs] at hv
    obtain ⟨v, vs, rfl, h1, h2⟩ := hv
    simp only [List.all_cons, Bool.and_eq_true] at h
    rcases List.mem_cons.1 hu with rfl | hu
    · exact (one_ok h.1 h1).1
    · exact ones_ok h.2 h2 u hu
theorem fit_ok {G : Gh} {x : AV} {u : Value} (h : x.fit = true) (hv : VR G x u) : VRs G x.cells u.cells.toList ∧ x.cells.all AV.one = true ∧ ∀ c ∈ u.cells.toList, c.oneCell' = true := by
  have key : ∀ y : AV, y.one = true → VR G y u → y.cells = [y] → VRs G y.cells u.cells.toList ∧ y.cells.all AV.one = true ∧ ∀ c ∈ u.cells.toList, c.oneCell' = true := by
    intro y hy hv he
    obtain ⟨h1, h2⟩ := one_ok hy hv
    rw [he, h2]
    refine ⟨by simp only [VRs]; exact ⟨u, [], rfl, hv, rfl⟩, by simp [hy], fun c hc => ?_⟩
    have : c = u := by simpa using hc
    rw [this]; exact h1
  cases x <;> simp only [AV.fit] at h <;> try (cases h; done)
  case agg cs =>
    simp only [VR] at hv
    obtain ⟨us, rfl, hv⟩ := hv
    exact ⟨hv, h, ones_ok h hv⟩
  all_goals exact key _ rfl hv rfl
def isAggD : TypeDesc → Bool
  | .struct _ | .array _ _ => true
  | _ => false
theorem info_of_underlying {P : Program} {t : TypeId} {d : TypeDesc} (h : P.underlying t = some d) : ∃ i, P.info? t = some i := by
  unfold Program.underlying at h
  split at h
  · rename_i hh; exact ⟨_, hh⟩
  · rename_i hh; exact ⟨_, hh⟩
  · cases h
theorem info_of_cells {P : Program} {t : TypeId} (h : P.cellsOf t ≠ 0) : ∃ i, P.info? t = some i ∧ i.size = P.cellsOf t := by
  unfold Program.cellsOf at h ⊢
  cases hi : P.info? t with
  | none => rw [hi] at h; simp at h
  | some i => exact ⟨i, rfl, by simp⟩
theorem run_isAgg {P : Program} {t : TypeId} {d : TypeDesc} (h : P.underlying t = some d) (w : World) : (isAgg t).run P w = .ok (isAggD d) w := by
  cases d <;> simp [isAgg, run_underlying h, isAggD]
theorem run_size {P : Program} {t : TypeId} {i : TypeInfo} (h : P.info? t = some i) (w : World) : (sizeOf t).run P w = .ok i.size w := by
  simp [sizeOf, typeInfo, h]
/-- The cells that a pointer shows. -/
def cellsAt (H : AH) (x : AV) (n : Nat) : Option (List AV) :=
  match x with
  | .ptr g e i =>
    match H.gs.get g with
    | some r => if r.e = e ∧ i + n ≤ r.cells.length then some ((r.cells.drop i).take n) else none
    | none => none
  | .vptr row i => if i + n ≤ row.length then some ((row.drop i).take n) else none
  | _ => none
/-- Cells of memory that are as told. -/
def CellsIn (G : Gh) (w : World) (xs : List AV) (b o : Nat) : Prop := ∀ (j : Nat) (x : AV), xs[j]? = some x → ∃ u, w.cell? ⟨b, o + j, none⟩ = some u ∧ VR G x u ∧ u.oneCell' = true
theorem CellsIn.list {G : Gh} {w : World} : ∀ {xs : List AV} {b o : Nat}, CellsIn G w xs b o → ∃ us : List Value, VRs G xs us ∧ (∀ (j : Nat) u, us[j]? = some u → w.cell? ⟨b, o + j, none⟩ = some u) ∧ ∀ u ∈ us, u.oneCell' = true
  | [], b, o, h => ⟨[], by simp [VRs], fun j u hu => by simp at hu, fun u hu => by cases hu⟩
  | x :: xs, b, o, h => by
    obtain ⟨u, h1, h2, h5⟩ := h 0 x rfl
    obtain ⟨us, h3, h4, h6⟩ := CellsIn.list (xs := xs) (b := b) (o := o + 1) fun j y hy => by
      obtain ⟨v, hv, hr⟩ := h (j + 1) y (by simpa using hy)
      exact ⟨v, by rw [← hv]; congr 2; omega, hr⟩
    refine ⟨u :: us, by simp only [VRs]; exact ⟨u, us, rfl, h2, h3⟩, fun j v hv => ?_, fun v hv => (List.mem_cons.1 hv).elim (fun e => e ▸ h5) (h6 v)⟩
    cases j with
    | zero => simp at hv; subst hv; exact h1
    | succ j => simp at hv; rw [← h4 j v hv]; congr 2; omega
theorem GrpAt.cellsIn {K : Kx} {G : Gh} {w : World} {g : Nat} {r : Grp} {b o n : Nat} {cs : Array Value} {t : TypeId} (q : GrpAt K G w g r b o n cs t) (i m : Nat) : CellsIn G w ((r.cells.drop i).take m) b (o + i) := by
  intro j x hx
  rw [List.getElem?_take] at hx
  split at hx
  · rw [List.getElem?_drop] at hx
    obtain ⟨u, h1, h2, h3⟩ := q.cell (i + j) x hx
    exact ⟨u, by rw [cell_of q.heap, ← h1]; congr 1; omega, h2, h3⟩
  · cases hx
theorem cellsAt_ok {K : Kx} {G : Gh} {H : AH} {w : World} (h : HRel K G H w) {x : AV} {v : Value} {n : Nat} {xs : List AV} (hx : VR G x v) (hc : cellsAt H x n = some xs) :
    xs.length = n ∧ ∃ b o, v = .pointer (some ⟨b, o, none⟩) ∧ CellsIn G w xs b o := by
  unfold cellsAt at hc
  split at hc
  · rename_i g e i
    split at hc
    · rename_i r hr
      split at hc
      · rename_i hh
        cases hc
        obtain ⟨rfl, hl⟩ := hh
        simp only [VR] at hx
        obtain ⟨b, o, m, hm, rfl⟩ := hx
        obtain ⟨b', o', n', cs, t, q⟩ := h.grp g r hr
        rw [q.mu] at hm
        cases hm
        exact ⟨by rw [List.length_take, List.length_drop]; omega, b, o + i, rfl, q.cellsIn i n⟩
      · cases hc
    · cases hc
  · rename_i row i
    split at hc
    · rename_i hl
      cases hc
      simp only [VR] at hx
      obtain ⟨b, o, rfl, hrow⟩ := hx
      refine ⟨by rw [List.length_take, List.length_drop]; omega, b, o + i, rfl, fun j x hx => ?_⟩
      rw [List.getElem?_take] at hx
      split at hx
      · rw [List.getElem?_drop] at hx
        obtain ⟨u, h1, h2⟩ := hrow.get (i + j) x hx
        exact ⟨u, by rw [← h.mem _ _ _ h1]; congr 2; omega, h2, h.ones _ _ _ h1⟩
      · cases hx
    · cases hc
  · cases hc
theorem run_loads {P : Program} {w : World} {b o : Nat} {us : List Value} (h : ∀ (j : Nat) u, us[j]? = some u → w.cell? ⟨b, o + j, none⟩ = some u) : (loadCells ⟨b, o, none⟩ us.length).run P w = .ok us.toArray w :=
  run_loadCells_list w ⟨b, o, none⟩ us fun j v hv => by rw [Addr.add_lit]; exact h j v hv
/-- A load. -/
def aload (P : Program) (H : AH) (t : TypeId) (x : AV) : Option AV :=
  match P.underlying t with
  | some d => if isAggD d then (cellsAt H x (P.cellsOf t)).map .agg else (cellsAt H x 1).bind (·.head?)
  | none => none
theorem aload_ok {P : Program} {K : Kx} {G : Gh} {H : AH} {w : World} (h : HRel K G H w) {t : TypeId} {x y : AV} {v : Value} (hx : VR G x v) (hl : aload P H t x = some y) :
    ∃ u, (Instr.loadAt t v).run P w = .ok u w ∧ VR G y u := by
  unfold aload at hl
  split at hl
  · rename_i d hd
    obtain ⟨i, hi⟩ := info_of_underlying hd
    have hcs : P.cellsOf t = i.size := by simp [Program.cellsOf, hi]
    split at hl
    · rename_i ha
      rw [Option.map_eq_some_iff] at hl
      obtain ⟨xs, h1, rfl⟩ := hl
      obtain ⟨hlen, b, o, rfl, hin⟩ := cellsAt_ok h hx h1
      obtain ⟨us, h2, h3, _⟩ := hin.list
      refine ⟨.agg us.toArray, ?_, by simp only [VR]; exact ⟨us.toArray, rfl, by simpa using h2⟩⟩
      have hn : us.length = i.size := by rw [h2.len, hlen, hcs]
      have := run_loads (P := P) h3
      rw [hn] at this
      simp [Instr.loadAt, Instr.sureAddr, loadVar, run_isAgg hd, ha, run_size hi, this]
    · rename_i ha
      rw [Option.bind_eq_some_iff] at hl
      obtain ⟨xs, h1, h2⟩ := hl
      obtain ⟨hlen, b, o, rfl, hin⟩ := cellsAt_ok h hx h1
      obtain ⟨u, h3, h4, _⟩ := hin 0 y (by rw [← h2]; cases xs <;> rfl)
      refine ⟨u, ?_, h4⟩
      simp only [Nat.add_zero] at h3
      simp [Instr.loadAt, Instr.sureAddr, loadVar, run_isAgg hd, ha, h3]
  · cases hl
/-- A store. -/
def astore (P : Program) (H : AH) (t : TypeId) (x v : AV) : Option AH :=
  match x with
  | .ptr g e i =>
    match H.gs.get g with
    | some r => if r.e = e ∧ r.fz ≤ i ∧ v.cells.length = P.cellsOf t ∧ P.cellsOf t ≠ 0 ∧ i + v.cells.length ≤ r.cells.length ∧ v.fit = true then
        some ⟨H.next, H.gs.set g ⟨r.e, r.fz, r.cells.take i ++ v.cells ++ r.cells.drop (i + v.cells.length)⟩, H.ms⟩ else none
    | none => none
  | _ => none
theorem getElem?_splice {α : Type} (l m : List α) (i : Nat) (hi : i + m.length ≤ l.length) (j : Nat) : (l.take i ++ m ++ l.drop (i + m.length))[j]? = if i ≤ j ∧ j < i + m.length then m[j - i]? else l[j]? := by
  have h1 : (l.take i).length = i := by rw [List.length_take]; omega
  by_cases hj : j < i
  · rw [if_neg (by omega), List.append_assoc, List.getElem?_append_left (by omega), List.getElem?_take, if_pos hj]
  · by_cases hk : j < i + m.length
    · rw [if_pos ⟨by omega, hk⟩, List.getElem?_append_left (by rw [List.length_append]; omega), List.getElem?_append_right (by omega), h1]
    · rw [if_neg (by omega), List.getElem?_append_right (by rw [List.length_append]; omega), List.getElem?_drop, List.length_append, h1]
      congr 1; omega
theorem astore_ok {P : Program} {K : Kx} {G : Gh} {H H' : AH} {w : World} (h : HRel K G H w) {t : TypeId} {x y : AV} {v u : Value} (hx : VR G x v) (hy : VR G y u) (hs : astore P H t x y = some H') :
    ∃ w', (Instr.storeAt t v u).run P w = .ok () w' ∧ HRel K G H' w' := by
  unfold astore at hs
  split at hs
  · rename_i g e i
    split at hs
    · rename_i r hr
      split at hs
      · rename_i hh
        cases hs
        obtain ⟨rfl, hfz, hlen, h0, hfit, hft⟩ := hh
        simp only [VR] at hx
        obtain ⟨b, o, m, hm, rfl⟩ := hx
        obtain ⟨b', o', n', cs, ty, q⟩ := h.grp g r hr
        rw [q.mu] at hm
        cases hm
        obtain ⟨hv, hone, hcell⟩ := fit_ok hft hy
        obtain ⟨inf, hinf, hsz⟩ := info_of_cells h0
        have hul : u.cells.toList.length = y.cells.length := hv.len
        have hlast : o + i + y.cells.length ≤ m := by
          have hpos : 0 < y.cells.length := by omega
          obtain ⟨z, hz⟩ : ∃ z, r.cells[i + y.cells.length - 1]? = some z := ⟨_, List.getElem?_eq_getElem (by omega)⟩
          obtain ⟨w1, hw1, _⟩ := q.cell _ z hz
          have := (Array.getElem?_eq_some_iff.1 hw1).1
          rw [← q.size]; omega
        obtain ⟨hle, hrel⟩ := h.sets q hr (r' := ⟨r.e, r.fz, r.cells.take i ++ y.cells ++ r.cells.drop (i + y.cells.length)⟩) (p := o + i) (vs := u.cells.toList) (by rw [hul]; exact hlast) (by omega) (o' := o) (G' := G) (.inl ⟨rfl, rfl, rfl⟩) (Nat.le_refl _) (by
          intro j z hz
          rw [getElem?_splice _ _ _ hfit] at hz
          by_cases hj : i ≤ j ∧ j < i + y.cells.length
          · rw [if_pos hj] at hz
            obtain ⟨c, h1, h2⟩ := hv.get _ z hz
            exact ⟨c, h2, by rw [if_pos (by rw [hul]; omega), ← h1]; congr 1; omega, hcell c (List.mem_of_getElem? h1)⟩
          · rw [if_neg hj] at hz
            obtain ⟨c, h1, h2, h3⟩ := q.cell j z hz
            exact ⟨c, h2, by rw [if_neg (by rw [hul]; omega)]; exact h1, h3⟩) (by show r.fz ≤ (r.cells.take i ++ y.cells ++ r.cells.drop (i + y.cells.length)).length; rw [List.length_append, List.length_append, List.length_take, List.length_drop]; omega)
        refine ⟨_, ?_, hrel⟩
        have hst := run_storeCells_cells (P := P) b (o + i) u.cells.toList 0 w (fun j hj => by
            rw [cell_of q.heap]
            rw [Array.getElem?_eq_getElem (by rw [q.size]; omega)]; rfl) (fun j hj => by simp [World.frozen?, q.heap]) hcell
        simp only [Nat.add_zero] at hst
        have hus : u.cells.size = inf.size := by rw [← Array.length_toList, hul, hlen, hsz]
        simp [Instr.storeAt, Instr.sureAddr, storeVar, run_size hinf, hus, hst]
      · cases hs
    · cases hs
  · cases hs
/-- The next number is not in use. -/
def AH.free (H : AH) : Bool := match H.gs.get H.next with | none => true | some _ => false
theorem AH.free_ok {H : AH} (h : H.free = true) : H.gs.get H.next = none := by
  unfold AH.free at h
  split at h
  · assumption
  · cases h
def abox (H : AH) (x : AV) : Option (AV × AH) := if x.fit = true ∧ x.cells ≠ [] ∧ H.free = true then some (.ptr H.next 0 0, H.add x.cells) else none
theorem add_ok {K : Kx} {G : Gh} {H : AH} {w : World} (h : HRel K G H w) {xs : List AV} {cs : Array Value} (hv : VRs G xs cs.toList) (h1 : ∀ c ∈ cs.toList, c.oneCell' = true) (t : TypeId) (hfree : H.free = true) :
    G.le (G.put H.next 0 (w.heap.size, 0, cs.size)) ∧ HRel K (G.put H.next 0 (w.heap.size, 0, cs.size)) (H.add xs) (w.alloc (.cells cs t)) := by
  have hf := h.fresh H.next (AH.free_ok hfree)
  have hw : (w.alloc (.cells cs t)).heap[w.heap.size]? = some (.cells cs t (0, 0)) := by show (w.heap.push _)[w.heap.size]? = _; simp
  refine ⟨Gh.put_le (hf 0), ?_⟩
  exact h.newBlock (g := H.next) (e := 0) (fz := 0) (nx := H.next + 1) (Below.alloc (Below.refl _ _) (Nat.le_refl _) _) hw
    (fun i x hi => by obtain ⟨u, h2, h3⟩ := hv.get i x hi; exact ⟨u, by simpa using h2, h3, h1 u (List.mem_of_getElem? h2)⟩) (hf 0) (fun e' _ => hf e')
theorem abox_ok {P : Program} {K : Kx} {G : Gh} {H H' : AH} {w : World} (h : HRel K G H w) {t : TypeId} {x y : AV} {v : Value} (hx : VR G x v) (hb : abox H x = some (y, H')) :
    ∃ u w' G', (newVar t v).run P w = .ok u w' ∧ G.le G' ∧ HRel K G' H' w' ∧ VR G' y (.pointer (some u)) := by
  unfold abox at hb
  split at hb
  · rename_i hf
    cases hb
    obtain ⟨hv, _, hc⟩ := fit_ok hf.1 hx
    obtain ⟨h1, h2⟩ := add_ok h hv hc t hf.2.2
    refine ⟨_, _, _, rfl, h1, h2, ?_⟩
    simp only [VR]
    exact ⟨_, _, _, Gh.put_same _ _ _ _, rfl⟩
  · cases hb
/-- Parts are put in their places. -/
def afill (place : Nat → Option (Nat × Nat)) (cells : List AV) : List (Nat × AV) → Option (List AV)
  | [] => some cells
  | (i, v) :: rest =>
    match place i with
    | none => none
    | some (off, size) => if v.cells.length = size ∧ off + v.cells.length ≤ cells.length ∧ v.fit = true then afill place (cells.take off ++ v.cells ++ cells.drop (off + v.cells.length)) rest else none
theorem foldl_at : ∀ (vs : List Value) (k off : Nat) (cs : Array Value), off + k + vs.length ≤ cs.size →
    ((vs.zipIdx k).foldl (fun cs (c : Value × Nat) => cs.setIfInBounds (off + c.2) c.1) cs).size = cs.size ∧
    ∀ j : Nat, ((vs.zipIdx k).foldl (fun cs (c : Value × Nat) => cs.setIfInBounds (off + c.2) c.1) cs)[j]? = if off + k ≤ j ∧ j < off + k + vs.length then vs[j - (off + k)]? else cs[j]?
  | [], k, off, cs, h => ⟨rfl, fun j => by rw [if_neg (by simp)]; rfl⟩
  | v :: vs, k, off, cs, h => by
    simp at h
    obtain ⟨h1, h2⟩ := foldl_at vs (k + 1) off (cs.setIfInBounds (off + k) v) (by simp; omega)
    simp only [List.zipIdx_cons, List.foldl_cons]
    refine ⟨by rw [h1]; simp, fun j => ?_⟩
    rw [h2]
    by_cases hj : off + (k + 1) ≤ j ∧ j < off + (k + 1) + vs.length
    · rw [if_pos hj, if_pos (by simp; omega), show j - (off + k) = (j - (off + (k + 1))) + 1 by omega]
      simp
    · rw [if_neg hj]
      by_cases he : j = off + k
      · subst he
        rw [if_pos (by simp)]
        simp [Array.getElem?_setIfInBounds]
        omega
      · rw [if_neg (by simp; omega), Array.getElem?_setIfInBounds, if_neg (Ne.symm he)]
theorem afill_ok {G : Gh} {place : Nat → Option (Nat × Nat)} : ∀ {parts : List (Nat × AV)} {ps : List (Nat × Value)} {xs ys : List AV} {cs : Array Value}, parts.length = ps.length →
    (∀ (j : Nat) p, parts[j]? = some p → ∃ v, ps[j]? = some (p.1, v) ∧ VR G p.2 v) → VRs G xs cs.toList → (∀ c ∈ cs.toList, c.oneCell' = true) → afill place xs parts = some ys → ∃ cs', Instr.fill place cs ps = some cs' ∧ VRs G ys cs'.toList ∧ (∀ c ∈ cs'.toList, c.oneCell' = true) ∧ cs'.size = cs.size
  | [], ps, xs, ys, cs, hl, hp, hv, ho, hf => by
    simp only [afill] at hf
    cases hf
    cases ps with
    | nil => exact ⟨cs, rfl, hv, ho, rfl⟩
    | cons p ps => simp at hl
  | (i, x) :: parts, ps, xs, ys, cs, hl, hp, hv, ho, hf => by
    obtain ⟨v, hv1, hv2⟩ := hp 0 (i, x) rfl
    cases ps with
    | nil => simp at hv1
    | cons p ps =>
      simp at hv1
      subst hv1
      simp only [afill] at hf
      split at hf
      · cases hf
      · rename_i off size hpl
        split at hf
        · rename_i hh
          obtain ⟨h1, h2, h3⟩ := hh
          obtain ⟨q1, q2, q3⟩ := fit_ok h3 hv2
          have hul : v.cells.toList.length = x.cells.length := q1.len
          have hus : v.cells.size = x.cells.length := by rw [← Array.length_toList]; exact hul
          have hcl : cs.size = xs.length := by rw [← Array.length_toList]; exact hv.len
          have e1 : v.cells.zipIdx.foldl (fun cs (c, j) => cs.setIfInBounds (off + j) c) cs = ((v.cells.toList.zipIdx 0).foldl (fun cs (c : Value × Nat) => cs.setIfInBounds (off + c.2) c.1) cs) := by
            rw [← Array.foldl_toList, Array.toList_zipIdx]
          obtain ⟨k1, k2⟩ := foldl_at v.cells.toList 0 off cs (by omega)
          obtain ⟨cs', g1, g2, g3, g4⟩ := afill_ok (parts := parts) (ps := ps) (xs := xs.take off ++ x.cells ++ xs.drop (off + x.cells.length)) (ys := ys) (cs := (v.cells.toList.zipIdx 0).foldl (fun cs (c : Value × Nat) => cs.setIfInBounds (off + c.2) c.1) cs)
            (by simpa using hl) (fun j p hj => by simpa using hp (j + 1) p (by simpa using hj)) (VRs.of_get (by
              rw [Array.length_toList, k1, hcl]; simp; omega) fun j y hy => by
              rw [getElem?_splice _ _ _ h2] at hy
              rw [Array.getElem?_toList, k2]
              by_cases hj : off ≤ j ∧ j < off + x.cells.length
              · rw [if_pos hj] at hy
                obtain ⟨c, c1, c2⟩ := q1.get _ y hy
                exact ⟨c, by rw [if_pos (by omega), ← c1]; congr 1, c2⟩
              · rw [if_neg hj] at hy
                obtain ⟨c, c1, c2⟩ := hv.get _ y hy
                exact ⟨c, by rw [if_neg (by omega)]; simpa using c1, c2⟩) (fun c hc => by
              obtain ⟨j, hj⟩ := List.mem_iff_getElem?.1 hc
              rw [Array.getElem?_toList, k2] at hj
              split at hj
              · exact q3 c (List.mem_of_getElem? hj)
              · exact ho c (by rw [← Array.getElem?_toList] at hj; exact List.mem_of_getElem? hj)) hf
          refine ⟨cs', ?_, g2, g3, by rw [g4, k1]⟩
          simp only [Instr.fill, hpl]
          rw [if_neg (by simp; omega), e1]
          exact g1
        · cases hf
end Go.Abs
namespace Go.Abs
open Go Go.RowKit
set_option linter.unusedVariables false
/-- A type's zero, abstractly. -/
def zeroA (P : Program) (t : TypeId) : Option AV := ((P.info? t).bind (·.zero)).bind AV.ofV
theorem zeroA_ok {P : Program} {G : Gh} {t : TypeId} {x : AV} (h : zeroA P t = some x) (w : World) : ∃ v i, P.info? t = some i ∧ i.zero = some v ∧ (zeroValue t).run P w = .ok v w ∧ VR G x v := by
  unfold zeroA at h
  rw [Option.bind_eq_some_iff] at h
  obtain ⟨v, h1, h2⟩ := h
  rw [Option.bind_eq_some_iff] at h1
  obtain ⟨i, h3, h4⟩ := h1
  exact ⟨v, i, h3, h4, by simp [zeroValue, typeInfo, h3, h4], ofV_ok h2⟩
/-- A struct's fields: where each lies, its size, whether it is made of parts. -/
def structA (P : Program) (t : TypeId) : Option (List (Nat × Nat × Bool)) :=
  match P.underlying t with
  | some (.struct fs) => fs.toList.mapM fun f => (P.info? f.type).bind fun i => (P.underlying f.type).map fun d => (f.offset, i.size, isAggD d)
  | _ => none
theorem structA_ok {P : Program} {t : TypeId} {l : List (Nat × Nat × Bool)} (h : structA P t = some l) : ∃ fs : Array Field, P.underlying t = some (.struct fs) ∧
    fs.toList.mapM (fun f => (P.info? f.type).map fun i => (f.offset, i.size)) = some (l.map fun x => (x.1, x.2.1)) ∧
    ∀ (j : Nat) x, l[j]? = some x → ∃ f i d, fs[j]? = some f ∧ P.info? f.type = some i ∧ P.underlying f.type = some d ∧ x = (f.offset, i.size, isAggD d) := by
  unfold structA at h
  split at h
  · rename_i fs hu
    refine ⟨fs, hu, ?_⟩
    have key : ∀ (L : List Field) (l : List (Nat × Nat × Bool)), (L.mapM fun f => (P.info? f.type).bind fun i => (P.underlying f.type).map fun d => (f.offset, i.size, isAggD d)) = some l →
        L.mapM (fun f => (P.info? f.type).map fun i => (f.offset, i.size)) = some (l.map fun x => (x.1, x.2.1)) ∧
        ∀ (j : Nat) x, l[j]? = some x → ∃ f i d, L[j]? = some f ∧ P.info? f.type = some i ∧ P.underlying f.type = some d ∧ x = (f.offset, i.size, isAggD d) := by
      intro L
      induction L with
      | nil => intro l h; simp at h; subst h; exact ⟨by simp, fun j x hx => by simp at hx⟩
      | cons f L ih =>
        intro l h
        simp only [List.mapM_cons, Option.bind_eq_bind, Option.pure_def] at h
        rw [Option.bind_eq_some_iff] at h
        obtain ⟨a, h1, h2⟩ := h
        rw [Option.bind_eq_some_iff] at h2
        obtain ⟨r, h3, h4⟩ := h2
        cases h4
        rw [Option.bind_eq_some_iff] at h1
        obtain ⟨i, hi, h5⟩ := h1
        rw [Option.map_eq_some_iff] at h5
        obtain ⟨d, hd, rfl⟩ := h5
        obtain ⟨k1, k2⟩ := ih r h3
        refine ⟨by simp [List.mapM_cons, hi, k1], fun j x hx => ?_⟩
        cases j with
        | zero => simp at hx; subst hx; exact ⟨f, i, d, rfl, hi, hd, rfl⟩
        | succ j => simp at hx; simpa using k2 j x hx
    obtain ⟨k1, k2⟩ := key fs.toList l h
    exact ⟨k1, fun j x hx => by obtain ⟨f, i, d, q1, q2, q3, q4⟩ := k2 j x hx; exact ⟨f, i, d, by simpa using q1, q2, q3, q4⟩⟩
  · cases h
/-- A struct or an array out of its parts. -/
def abuild (P : Program) (t : TypeId) (parts : List (Nat × AV)) : Option AV :=
  match structA P t, zeroA P t with
  | some l, some (.agg zs) => if zs.all AV.one = true then (afill (fun i => (l[i]?).map fun x => (x.1, x.2.1)) zs parts).map .agg else none
  | _, _ => none
theorem abuild_ok {P : Program} {G : Gh} {t : TypeId} {parts : List (Nat × AV)} {ps : Array (Nat × Value)} {x : AV} (hl : parts.length = ps.size)
    (hp : ∀ (j : Nat) p, parts[j]? = some p → ∃ v, ps[j]? = some (p.1, v) ∧ VR G p.2 v) (h : abuild P t parts = some x) (w : World) :
    ∃ u, (Instr.build t ps).run P w = .ok u w ∧ VR G x u := by
  unfold abuild at h
  split at h
  · rename_i l zs hs hz
    split at h
    · rename_i ho
      rw [Option.map_eq_some_iff] at h
      obtain ⟨ys, h1, rfl⟩ := h
      obtain ⟨fs, hu, hm, _⟩ := structA_ok hs
      obtain ⟨v, i, hi, hzv, _, hv⟩ := zeroA_ok (G := G) hz w
      simp only [VR] at hv
      obtain ⟨us, rfl, hv⟩ := hv
      obtain ⟨cs', g1, g2, _, _⟩ := afill_ok (ps := ps.toList) (by simpa using hl) (fun j p hj => by simpa using hp j p hj) hv (ones_ok ho hv) h1
      refine ⟨.agg cs', run_build w t ps cs' ?_, by simp only [VR]; exact ⟨cs', rfl, g2⟩⟩
      unfold Program.built
      rw [hi, hu]
      simp only [hzv, hm, Value.cells]
      rw [← g1]
      congr 1
      funext j
      simp
    · cases h
  · cases h
/-- A slice out of its parts: a new group. -/
def abuildSlice (P : Program) (t : TypeId) (len : Nat) (parts : List (Nat × AV)) (H : AH) : Option (AV × AH) :=
  match P.underlying t with
  | some (.slice e) =>
    let z := P.cellsOf e
    match zeroA P e with
    | some zv =>
      if zv.fit = true ∧ zv.cells.length = z ∧ len * z ≤ 16777216 ∧ len * z ≠ 0 ∧ H.free = true then
        match afill (fun i => some (i * z, z)) ((List.replicate len zv.cells).flatten) parts with
        | some ys => some (.slc H.next 0 0 len z, H.add ys)
        | none => none
      else none
    | none => none
  | _ => none
theorem repeat_cells {α : Type} [Inhabited α] (z : Array α) (n : Nat) : ((Array.range (n * z.size)).map fun i => z[i % z.size]!).toList = (List.replicate n z.toList).flatten := by
  apply List.ext_getElem?
  intro j
  induction n generalizing j with
  | zero => simp
  | succ n ih =>
    rw [List.replicate_succ, List.flatten_cons]
    by_cases hj : j < z.size
    · rw [List.getElem?_append_left (by simpa using hj)]
      have h1 : j < (n + 1) * z.size := by rw [Nat.add_mul]; omega
      simp [h1, Nat.mod_eq_of_lt hj, hj]
    · rw [List.getElem?_append_right (by simpa using hj), ← ih]
      simp only [Array.length_toList, Array.getElem?_toList, Array.getElem?_map, Array.getElem?_range]
      by_cases h1 : j < (n + 1) * z.size
      · have h2 : j - z.size < n * z.size := by rw [Nat.add_mul] at h1; omega
        rw [if_pos h1, if_pos h2]
        simp only [Option.map_some]
        congr 2
        conv => lhs; rw [show j = (j - z.size) + z.size by omega]
        rw [Nat.add_mod_right]
      · have h2 : ¬ j - z.size < n * z.size := by rw [Nat.add_mul] at h1; omega
        rw [if_neg h1, if_neg h2]
theorem VRs.append {G : Gh} : ∀ {xs ys : List AV} {us vs : List Value}, VRs G xs us → VRs G ys vs → VRs G (xs ++ ys) (us ++ vs)
  | [], ys, us, vs, h1, h2 => by simp only [VRs] at h1; subst h1; exact h2
  | x :: xs, ys, us, vs, h1, h2 => by
    simp only [VRs] at h1
    obtain ⟨u, us', rfl, h3, h4⟩ := h1
    show VRs G (x :: (xs ++ ys)) (u :: (us' ++ vs))
    simp only [VRs]
    exact ⟨u, us' ++ vs, rfl, h3, VRs.append h4 h2⟩
theorem VRs.repeat {G : Gh} {xs : List AV} {us : List Value} (h : VRs G xs us) : ∀ n, VRs G (List.replicate n xs).flatten (List.replicate n us).flatten
  | 0 => by simp [VRs]
  | n + 1 => by rw [List.replicate_succ, List.replicate_succ, List.flatten_cons, List.flatten_cons]; exact h.append (VRs.repeat h n)
theorem abuildSlice_ok {P : Program} {K : Kx} {G : Gh} {H H' : AH} {w : World} (h : HRel K G H w) {t : TypeId} {len : Nat} {parts : List (Nat × AV)} {ps : Array (Nat × Value)} {x : AV} (hl : parts.length = ps.size)
    (hp : ∀ (j : Nat) p, parts[j]? = some p → ∃ v, ps[j]? = some (p.1, v) ∧ VR G p.2 v) (hb : abuildSlice P t len parts H = some (x, H')) :
    ∃ u w' G', (Instr.buildSlice t len ps).run P w = .ok u w' ∧ G.le G' ∧ HRel K G' H' w' ∧ VR G' x u := by
  unfold abuildSlice at hb
  split at hb
  · rename_i e hu
    simp only at hb
    split at hb
    · rename_i zv hz
      split at hb
      · rename_i hh
        obtain ⟨hfit, hzl, hsm, hpos, hfree⟩ := hh
        split at hb
        · rename_i ys hys
          cases hb
          obtain ⟨v, i, hi, hzv, _, hv⟩ := zeroA_ok (G := G) hz w
          obtain ⟨q1, q2, q3⟩ := fit_ok hfit hv
          have hcs : P.cellsOf e = i.size := by simp [Program.cellsOf, hi]
          have hsz : v.cells.size = i.size := by rw [← Array.length_toList, q1.len, hzl, hcs]
          have hrep : ((Array.range (len * i.size)).map (v.cells[· % v.cells.size]!)).toList = (List.replicate len v.cells.toList).flatten := by
            rw [← hsz]; exact repeat_cells v.cells len
          have hones : ∀ c ∈ ((Array.range (len * i.size)).map (v.cells[· % v.cells.size]!)).toList, c.oneCell' = true := by
            rw [hrep]
            intro c hc
            rw [List.mem_flatten] at hc
            obtain ⟨l, h1, h2⟩ := hc
            rw [List.mem_replicate] at h1
            rw [h1.2] at h2
            exact q3 c h2
          obtain ⟨cs', g1, g2, g3, g4⟩ := afill_ok (ps := ps.toList) (place := fun j => some (j * P.cellsOf e, P.cellsOf e)) (cs := (Array.range (len * i.size)).map (v.cells[· % v.cells.size]!)) (by simpa using hl) (fun j p hj => by simpa using hp j p hj)
            (by rw [hrep]; exact q1.repeat len) hones hys
          rw [hcs] at g1 hsm hpos
          have hrun := run_buildSlice w t e len ps cs' i v hu hi hzv (by omega) hpos g1
          obtain ⟨k1, k2⟩ := add_ok h g2 g3 e hfree
          refine ⟨_, _, _, hrun, k1, k2, ?_⟩
          simp only [VR]
          refine ⟨_, _, _, len, Gh.put_same _ _ _ _, rfl, Nat.le_refl _, ?_⟩
          rw [g4]
          simp [hcs]
        · cases hb
      · cases hb
    · cases hb
  · cases hb
/-- A field's address. -/
def afieldAddr (P : Program) (t : TypeId) (x : AV) (f : Nat) : Option AV :=
  match structA P t with
  | some l =>
    match l[f]? with
    | some (off, size, _) => if size = 0 then none else
      match x with
      | .ptr g e i => some (.ptr g e (i + off))
      | .vptr row i => some (.vptr row (i + off))
      | _ => none
    | none => none
  | none => none
theorem afieldAddr_ok {P : Program} {G : Gh} {t : TypeId} {x y : AV} {f : Nat} {v : Value} (hx : VR G x v) (h : afieldAddr P t x f = some y) (w : World) : ∃ u, (Instr.fieldAt t v f).run P w = .ok u w ∧ VR G y u := by
  unfold afieldAddr at h
  split at h
  · rename_i l hs
    split at h
    · rename_i off size ag hf
      split at h
      · cases h
      · rename_i hsz
        obtain ⟨fs, hu, _, hk⟩ := structA_ok hs
        obtain ⟨fl, i, d, h1, h2, h3, h4⟩ := hk f _ hf
        cases h4
        split at h
        · rename_i g e j
          cases h
          simp only [VR] at hx
          obtain ⟨b, o, n, hm, rfl⟩ := hx
          refine ⟨.pointer (some ⟨b, o + (j + fl.offset), none⟩), ?_, by simp only [VR]; exact ⟨b, o, n, hm, rfl⟩⟩
          simp [Instr.fieldAt, run_underlying hu, h1, Instr.sureAddr, fieldPlace, run_size h2, hsz, Addr.add_lit, Nat.add_assoc]
        · rename_i row j
          cases h
          simp only [VR] at hx
          obtain ⟨b, o, rfl, hr⟩ := hx
          refine ⟨.pointer (some ⟨b, o + (j + fl.offset), none⟩), ?_, by simp only [VR]; exact ⟨b, o, rfl, hr⟩⟩
          simp [Instr.fieldAt, run_underlying hu, h1, Instr.sureAddr, fieldPlace, run_size h2, hsz, Addr.add_lit, Nat.add_assoc]
        · cases h
    · cases h
  · cases h
/-- A field of a value. -/
def afield (P : Program) (t : TypeId) (x : AV) (f : Nat) : Option AV :=
  match structA P t, x with
  | some l, .agg cs =>
    match l[f]? with
    | some (off, size, true) => some (.agg ((cs.drop off).take size))
    | some (off, _, false) => cs[off]?
    | none => none
  | _, _ => none
theorem VRs.drop {G : Gh} : ∀ {xs : List AV} {us : List Value} (n : Nat), VRs G xs us → VRs G (xs.drop n) (us.drop n)
  | xs, us, 0, h => by simpa using h
  | [], us, n + 1, h => by simp only [VRs] at h; subst h; simp [VRs]
  | x :: xs, us, n + 1, h => by
    simp only [VRs] at h
    obtain ⟨u, us', rfl, _, h⟩ := h
    simpa using VRs.drop n h
theorem VRs.take {G : Gh} : ∀ {xs : List AV} {us : List Value} (n : Nat), VRs G xs us → VRs G (xs.take n) (us.take n)
  | xs, us, 0, h => by simp [VRs]
  | [], us, n + 1, h => by simp only [VRs] at h; subst h; simp [VRs]
  | x :: xs, us, n + 1, h => by
    simp only [VRs] at h
    obtain ⟨u, us', rfl, h1, h⟩ := h
    simp only [List.take_succ_cons, VRs]
    exact ⟨u, us'.take n, rfl, h1, VRs.take n h⟩
theorem part_ok {P : Program} {G : Gh} {t : TypeId} {i : TypeInfo} {d : TypeDesc} {cs : List AV} {us : Array Value} {off : Nat} {y : AV} (hi : P.info? t = some i) (hd : P.underlying t = some d) (hv : VRs G cs us.toList)
    (h : (if isAggD d then some (.agg ((cs.drop off).take i.size)) else cs[off]?) = some y) (w : World) : ∃ u, (part t us off).run P w = .ok u w ∧ VR G y u := by
  split at h
  · rename_i ha
    cases h
    refine ⟨.agg (us.extract off (off + i.size)), by simp [part, run_isAgg hd, ha, run_size hi], ?_⟩
    simp only [VR]
    refine ⟨_, rfl, ?_⟩
    have : (us.extract off (off + i.size)).toList = (us.toList.drop off).take i.size := by simp [List.extract_eq_take_drop]
    rw [this]
    exact (hv.drop off).take i.size
  · rename_i ha
    obtain ⟨u, h1, h2⟩ := hv.get off y h
    exact ⟨u, by simp at h1; simp [part, run_isAgg hd, ha, h1], h2⟩
theorem afield_ok {P : Program} {G : Gh} {t : TypeId} {x y : AV} {f : Nat} {v : Value} (hx : VR G x v) (h : afield P t x f = some y) (w : World) : ∃ u, (Instr.field t v f).run P w = .ok u w ∧ VR G y u := by
  unfold afield at h
  split at h
  · rename_i l cs hs
    obtain ⟨fs, hu, _, hk⟩ := structA_ok hs
    simp only [VR] at hx
    obtain ⟨us, rfl, hv⟩ := hx
    split at h
    · rename_i off size hf
      obtain ⟨fl, i, d, h1, h2, h3, h4⟩ := hk f _ hf
      simp only [Prod.mk.injEq] at h4
      obtain ⟨rfl, rfl, ha⟩ := h4
      obtain ⟨u, q1, q2⟩ := part_ok (y := y) (off := fl.offset) h2 h3 hv (by rw [← ha]; exact h) w
      exact ⟨u, by simp [Instr.field, run_underlying hu, h1, asAgg, q1], q2⟩
    · rename_i off size hf
      obtain ⟨fl, i, d, h1, h2, h3, h4⟩ := hk f _ hf
      simp only [Prod.mk.injEq] at h4
      obtain ⟨rfl, rfl, ha⟩ := h4
      obtain ⟨u, q1, q2⟩ := part_ok (y := y) (off := fl.offset) h2 h3 hv (by rw [← ha]; exact h) w
      exact ⟨u, by simp [Instr.field, run_underlying hu, h1, asAgg, q1], q2⟩
    · cases h
  · cases h
end Go.Abs
namespace Go.Abs
open Go Go.RowKit
set_option linter.unusedVariables false
theorem VRows.get {G : Gh} {z : Nat} : ∀ {rs : List (List AV)} {b o : Nat}, VRows G z rs b o → ∀ (i : Nat) r, rs[i]? = some r → r.length = z ∧ VRow G r b (o + i * z)
  | [], b, o, h, i, r, hi => by simp at hi
  | s :: rs, b, o, h, i, r, hi => by
    simp only [VRows] at h
    obtain ⟨h1, h2, h3⟩ := h
    cases i with
    | zero => simp at hi; subst hi; exact ⟨h1, by simpa using h2⟩
    | succ i =>
      simp at hi
      obtain ⟨q1, q2⟩ := h3.get i r hi
      exact ⟨q1, by rw [show o + (i + 1) * z = o + z + i * z by rw [Nat.add_mul]; omega]; exact q2⟩
theorem VRows.of_get {G : Gh} {z : Nat} : ∀ {rs : List (List AV)} {b o : Nat}, (∀ (i : Nat) r, rs[i]? = some r → r.length = z ∧ VRow G r b (o + i * z)) → VRows G z rs b o
  | [], b, o, h => by simp only [VRows]
  | s :: rs, b, o, h => by
    simp only [VRows]
    obtain ⟨h1, h2⟩ := h 0 s rfl
    refine ⟨h1, by simpa using h2, VRows.of_get fun i r hi => ?_⟩
    obtain ⟨q1, q2⟩ := h (i + 1) r (by simpa using hi)
    exact ⟨q1, by rw [show o + z + i * z = o + (i + 1) * z by rw [Nat.add_mul]; omega]; exact q2⟩
/-- An element's address. -/
def aindexAddr (P : Program) (t : TypeId) (x ix : AV) : Option AV :=
  match ix with
  | .int _ i =>
    match P.underlying t, x with
    | some (.slice e), .slc g a s len z => if 0 ≤ i ∧ i < len ∧ z = P.cellsOf e ∧ z ≠ 0 then some (.ptr g a (s + i.toNat * z)) else none
    | some (.slice e), .vals z rows => if 0 ≤ i ∧ z = P.cellsOf e ∧ z ≠ 0 then (rows[i.toNat]?).map fun r => .vptr r 0 else none
    | some (.array n e), .ptr g a s => if 0 ≤ i ∧ i < n ∧ P.cellsOf e ≠ 0 then some (.ptr g a (s + i.toNat * P.cellsOf e)) else none
    | some (.array n e), .vptr row s => if 0 ≤ i ∧ i < n ∧ P.cellsOf e ≠ 0 then some (.vptr row (s + i.toNat * P.cellsOf e)) else none
    | _, _ => none
  | _ => none
theorem aindexAddr_ok {P : Program} {G : Gh} {t : TypeId} {x ix y : AV} {v u : Value} (hx : VR G x v) (hi : VR G ix u) (h : aindexAddr P t x ix = some y) (w : World) : ∃ r, (Instr.indexAt t v u).run P w = .ok r w ∧ VR G y r := by
  unfold aindexAddr at h
  split at h
  · rename_i k i
    simp only [VR] at hi
    subst hi
    split at h
    · rename_i e g a s len z hu
      split at h
      · rename_i hh
        cases h
        obtain ⟨h0, h1, rfl, hz⟩ := hh
        obtain ⟨inf, hinf, hsz⟩ := info_of_cells hz
        simp only [VR] at hx
        obtain ⟨b, o, n, c, hm, rfl, -⟩ := hx
        refine ⟨.pointer (some ⟨b, o + (s + i.toNat * P.cellsOf e), none⟩), ?_, by simp only [VR]; exact ⟨b, o, n, hm, rfl⟩⟩
        simp [Instr.indexAt, asIntOf, run_underlying hu, h0, h1, run_size hinf, hsz, Addr.add_lit, Nat.add_assoc]
      · cases h
    · rename_i e z rows hu
      split at h
      · rename_i hh
        obtain ⟨h0, rfl, hz⟩ := hh
        rw [Option.map_eq_some_iff] at h
        obtain ⟨r, hr, rfl⟩ := h
        obtain ⟨inf, hinf, hsz⟩ := info_of_cells hz
        simp only [VR] at hx
        obtain ⟨a, c, rfl, -, hx⟩ := hx
        have hlt : i.toNat < rows.length := (List.getElem?_eq_some_iff.1 hr).1
        rcases hx with rfl | ⟨b, o, rfl, hx⟩
        · simp at hr
        · obtain ⟨q1, q2⟩ := hx.get _ r hr
          refine ⟨.pointer (some ⟨b, o + i.toNat * P.cellsOf e, none⟩), ?_, by simp only [VR]; exact ⟨b, o + i.toNat * P.cellsOf e, rfl, q2⟩⟩
          have h1 : i < (rows.length : Int) := by omega
          simp [Instr.indexAt, asIntOf, run_underlying hu, h0, h1, run_size hinf, hsz, Addr.add_lit]
      · cases h
    · rename_i n e g a s hu
      split at h
      · rename_i hh
        cases h
        obtain ⟨h0, h1, hz⟩ := hh
        obtain ⟨inf, hinf, hsz⟩ := info_of_cells hz
        simp only [VR] at hx
        obtain ⟨b, o, m, hm, rfl⟩ := hx
        refine ⟨.pointer (some ⟨b, o + (s + i.toNat * P.cellsOf e), none⟩), ?_, by simp only [VR]; exact ⟨b, o, m, hm, rfl⟩⟩
        simp [Instr.indexAt, asIntOf, run_underlying hu, Instr.sureAddr, h0, h1, run_size hinf, hsz, Addr.add_lit, Nat.add_assoc]
      · cases h
    · rename_i n e row s hu
      split at h
      · rename_i hh
        cases h
        obtain ⟨h0, h1, hz⟩ := hh
        obtain ⟨inf, hinf, hsz⟩ := info_of_cells hz
        simp only [VR] at hx
        obtain ⟨b, o, rfl, hr⟩ := hx
        refine ⟨.pointer (some ⟨b, o + (s + i.toNat * P.cellsOf e), none⟩), ?_, by simp only [VR]; exact ⟨b, o, rfl, hr⟩⟩
        simp [Instr.indexAt, asIntOf, run_underlying hu, Instr.sureAddr, h0, h1, run_size hinf, hsz, Addr.add_lit, Nat.add_assoc]
      · cases h
    · cases h
  · cases h
/-- A byte of a string. -/
def aindex (P : Program) (t : TypeId) (x ix : AV) : Option AV :=
  match P.underlying t, x, ix with
  | some .string, .str s, .int _ i => if 0 ≤ i then (s[i.toNat]?).map fun c => .int .u8 c.toNat else none
  | _, _, _ => none
theorem aindex_ok {P : Program} {G : Gh} {t : TypeId} {x ix y : AV} {v u : Value} (hx : VR G x v) (hi : VR G ix u) (h : aindex P t x ix = some y) (w : World) : ∃ r, (Instr.index t v u).run P w = .ok r w ∧ VR G y r := by
  unfold aindex at h
  split at h
  · rename_i s k i hu
    simp only [VR] at hx hi
    subst hx; subst hi
    split at h
    · rename_i h0
      rw [Option.map_eq_some_iff] at h
      obtain ⟨c, hc, rfl⟩ := h
      have hlt : i.toNat < s.length := (List.getElem?_eq_some_iff.1 hc).1
      have hc' : s[i.toNat] = c := (List.getElem?_eq_some_iff.1 hc).2
      refine ⟨.int .u8 c.toNat, ?_, by simp [VR]⟩
      have hb : (⟨s.toArray⟩ : ByteArray)[i.toNat]? = some c := by
        rw [getElem?_pos (⟨s.toArray⟩ : ByteArray) i.toNat (by simpa [ByteArray.size] using hlt)]
        exact congrArg some hc'
      simp [Instr.index, asIntOf, run_underlying hu, h0, hb]
    · cases h
  · cases h
def natOf : Option AV → Nat → Option Nat
  | none, d => some d
  | some (.int _ n), _ => if 0 ≤ n then some n.toNat else none
  | some _, _ => none
/-- A part of a string or of a slice. -/
def aslice (P : Program) (t : TypeId) (x : AV) (lo hi mx : Option AV) : Option AV :=
  match P.underlying t, x, mx with
  | some .string, .str s, none =>
    match natOf hi s.length, natOf lo 0 with
    | some h, some l => if l ≤ h ∧ h ≤ s.length then some (.str ((s.drop l).take (h - l))) else none
    | _, _ => none
  | some (.slice e), .slc g a i len z, none =>
    match natOf hi len, natOf lo 0 with
    | some h, some l => if l ≤ h ∧ h ≤ len ∧ z = P.cellsOf e ∧ z ≠ 0 then (if l = 0 ∨ l < h then some (.slc g a (i + l * z) (h - l) z) else some (.vals z [])) else none
    | _, _ => none
  | some (.slice e), .vals z rows, none =>
    match natOf hi rows.length, natOf lo 0 with
    | some h, some l => if l ≤ h ∧ h ≤ rows.length ∧ z = P.cellsOf e ∧ z ≠ 0 then some (.vals z ((rows.drop l).take (h - l))) else none
    | _, _ => none
  | some (.slice e), .nils, none =>
    match natOf hi 0, natOf lo 0 with
    | some 0, some 0 => if P.cellsOf e ≠ 0 then some .nils else none
    | _, _ => none
  | some (.slice e), .slc g a i len z, some m =>
    match natOf (some m) 0, natOf hi 1, natOf lo 0 with
    | some 0, some 0, some 0 => if P.cellsOf e ≠ 0 then some .zslc else none
    | _, _, _ => none
  | some (.slice e), .vals z rows, some m =>
    match natOf (some m) 0, natOf hi 1, natOf lo 0 with
    | some 0, some 0, some 0 => if P.cellsOf e ≠ 0 then some .zslc else none
    | _, _, _ => none
  | some (.slice e), .nils, some m =>
    match natOf (some m) 0, natOf hi 1, natOf lo 0 with
    | some 0, some 0, some 0 => if P.cellsOf e ≠ 0 then some .zslc else none
    | _, _, _ => none
  | _, _, _ => none
/-- What an operand of a slice expression is. -/
def VRo (G : Gh) : Option AV → Option Value → Prop
  | none, v => v = none
  | some x, v => ∃ u, v = some u ∧ VR G x u
theorem run_bound {P : Program} {G : Gh} {x : AV} {u : Value} {n y d : Nat} (hx : VR G x u) (h : natOf (some x) d = some n) (hn : n ≤ y) (c : BoundsCode) (w : World) : (Instr.sliceBound u y c).run P w = .ok n w := by
  cases x <;> simp only [natOf] at h <;> try (cases h; done)
  rename_i k m
  split at h
  · rename_i h0
    cases h
    simp only [VR] at hx
    subst hx
    have h1 : m ≤ (y : Int) := by omega
    simp [Instr.sliceBound, asIntOf, h0, h1]
  · cases h
theorem run_bounds {P : Program} {G : Gh} {lo hi : Option AV} {vl vh : Option Value} (hl : VRo G lo vl) (hh : VRo G hi vh) {len cap l h : Nat} (isS : Bool) (e1 : natOf hi len = some h) (e2 : natOf lo 0 = some l) (h1 : l ≤ h) (h2 : h ≤ cap) (w : World) :
    (Instr.sliceBounds isS len cap vl vh none).run P w = .ok (l, h, cap) w := by
  cases hi with
  | none =>
    simp only [VRo] at hh; subst hh
    simp only [natOf] at e1; cases e1
    cases lo with
    | none =>
      simp only [VRo] at hl; subst hl
      simp only [natOf] at e2; cases e2
      simp [Instr.sliceBounds]
    | some x =>
      simp only [VRo] at hl
      obtain ⟨u, rfl, hu⟩ := hl
      simp [Instr.sliceBounds, run_bound hu e2 h1]
  | some y =>
    simp only [VRo] at hh
    obtain ⟨v, rfl, hv⟩ := hh
    cases lo with
    | none =>
      simp only [VRo] at hl; subst hl
      simp only [natOf] at e2; cases e2
      simp [Instr.sliceBounds, run_bound hv e1 h2]
    | some x =>
      simp only [VRo] at hl
      obtain ⟨u, rfl, hu⟩ := hl
      simp [Instr.sliceBounds, run_bound hv e1 h2, run_bound hu e2 h1]
theorem run_bounds0 {P : Program} {G : Gh} {lo hi mx : Option AV} {vl vh vm : Option Value} (hl : VRo G lo vl) (hh : VRo G hi vh) {m : AV} {vm : Value} (hm : VR G m vm) {len cap : Nat} (isS : Bool) (e0 : natOf (some m) 0 = some 0) (e1 : natOf hi 1 = some 0) (e2 : natOf lo 0 = some 0) (w : World) :
    (Instr.sliceBounds isS len cap vl vh (some vm)).run P w = .ok (0, 0, 0) w := by
  cases hi with
  | none => simp [natOf] at e1
  | some y =>
    simp only [VRo] at hh
    obtain ⟨v, rfl, hv⟩ := hh
    cases lo with
    | none =>
      simp only [VRo] at hl; subst hl
      simp [Instr.sliceBounds, run_bound hm e0 (Nat.zero_le _), run_bound hv e1 (Nat.le_refl _)]
    | some x =>
      simp only [VRo] at hl
      obtain ⟨u, rfl, hu⟩ := hl
      simp [Instr.sliceBounds, run_bound hm e0 (Nat.zero_le _), run_bound hv e1 (Nat.le_refl _), run_bound hu e2 (Nat.le_refl _)]
theorem sliceAt_plain {P : Program} {t : TypeId} {d : TypeDesc} (h : P.underlying t = some d) (hd : (∃ e, d = .slice e) ∨ d = .string) (v : Value) (lo hi mx : Option Value) (w : World) : (Instr.sliceAt t v lo hi mx).run P w = (Instr.slice t v lo hi mx).run P w := by
  rcases hd with ⟨e, rfl⟩ | rfl <;> simp [Instr.sliceAt, run_underlying h]
theorem VR.vals_nil (G : Gh) (z : Nat) (a : Option Addr) (c : Nat) : VR G (.vals z []) (.slice a 0 c) := by
  simp only [VR]
  exact ⟨a, c, rfl, Nat.zero_le _, .inl (by trivial)⟩
set_option maxHeartbeats 1000000 in
theorem aslice_ok {P : Program} {G : Gh} {t : TypeId} {x y : AV} {lo hi mx : Option AV} {v : Value} {vl vh vm : Option Value} (hx : VR G x v) (hl : VRo G lo vl) (hh : VRo G hi vh) (hm : VRo G mx vm) (h : aslice P t x lo hi mx = some y) (w : World) :
    ∃ r, (Instr.sliceAt t v vl vh vm).run P w = .ok r w ∧ VR G y r := by
  unfold aslice at h
  split at h
  · rename_i s hu
    simp only [VRo] at hm; subst hm
    simp only [VR] at hx; subst hx
    split at h
    · rename_i b a e1 e2
      split at h
      · rename_i hc
        cases h
        have hsz : (⟨s.toArray⟩ : ByteArray).size = s.length := by simp [ByteArray.size]
        refine ⟨.string ⟨((s.drop a).take (b - a)).toArray⟩, ?_, by simp [VR]⟩
        rw [sliceAt_plain hu (.inr rfl)]
        simp [Instr.slice, run_underlying hu, hsz, run_bounds hl hh false e1 e2 hc.1 hc.2]
        apply WideShapes.bytes_inj
        simp [ByteArray.data_extract, List.extract_eq_take_drop]
      · cases h
    · cases h
  · rename_i e g a i len z hu
    simp only [VRo] at hm; subst hm
    simp only [VR] at hx
    obtain ⟨b, o, n, c, hmu, rfl, hlc, hfit⟩ := hx
    split at h
    · rename_i hi' lo' e1 e2
      split at h
      · rename_i hc
        obtain ⟨hc1, hc2, rfl, hz⟩ := hc
        obtain ⟨inf, hinf, hsz⟩ := info_of_cells hz
        have hb := run_bounds (P := P) hl hh true (len := len) (cap := c) e1 e2 hc1 (Nat.le_trans hc2 hlc) w
        have hrun : (Instr.sliceAt t (.slice (some ⟨b, o + i, none⟩) len c) vl vh none).run P w = .ok (.slice (if c = lo' then some ⟨b, o + i, none⟩ else some ⟨b, o + i + lo' * P.cellsOf e, none⟩) (hi' - lo') (c - lo')) w := by
          rw [sliceAt_plain hu (.inl ⟨_, rfl⟩)]
          simp [Instr.slice, run_underlying hu, hb, run_size hinf, hsz, Addr.add_lit]
        refine ⟨_, hrun, ?_⟩
        split at h
        · rename_i hlow
          cases h
          simp only [VR]
          refine ⟨b, o, n, c - lo', hmu, ?_, by omega, ?_⟩
          · by_cases hcl : c = lo'
            · have : lo' = 0 := by omega
              subst this
              simp
            · rw [if_neg hcl, Nat.add_assoc]
          · have : lo' ≤ c := by omega
            have h3 : (c - lo') * P.cellsOf e + lo' * P.cellsOf e = c * P.cellsOf e := by rw [← Nat.add_mul, Nat.sub_add_cancel this]
            omega
        · rename_i hlow
          cases h
          have : hi' - lo' = 0 := by omega
          rw [this]
          exact VR.vals_nil _ _ _ _
      · cases h
    · cases h
  · rename_i e z rows hu
    simp only [VRo] at hm; subst hm
    simp only [VR] at hx
    obtain ⟨a, c, rfl, hlc, hx⟩ := hx
    split at h
    · rename_i hi' lo' e1 e2
      split at h
      · rename_i hc
        cases h
        obtain ⟨hc1, hc2, rfl, hz⟩ := hc
        obtain ⟨inf, hinf, hsz⟩ := info_of_cells hz
        have hb := run_bounds (P := P) hl hh true (len := rows.length) (cap := c) e1 e2 hc1 (Nat.le_trans hc2 hlc) w
        have hrun : (Instr.sliceAt t (.slice a rows.length c) vl vh none).run P w = .ok (.slice (if c = lo' then a else a.map (·.add (lo' * P.cellsOf e))) (hi' - lo') (c - lo')) w := by
          rw [sliceAt_plain hu (.inl ⟨_, rfl⟩)]
          simp [Instr.slice, run_underlying hu, hb, run_size hinf, hsz]
        refine ⟨_, hrun, ?_⟩
        have hlen : ((rows.drop lo').take (hi' - lo')).length = hi' - lo' := by rw [List.length_take, List.length_drop]; omega
        simp only [VR]
        refine ⟨_, c - lo', by rw [hlen], by rw [hlen]; omega, ?_⟩
        by_cases hemp : hi' = lo'
        · left; rw [hemp]; simp
        · right
          rcases hx with rfl | ⟨b, o, rfl, hx⟩
          · simp at hc2; omega
          · refine ⟨b, o + lo' * P.cellsOf e, by rw [if_neg (by omega)]; simp [Addr.add_lit], VRows.of_get fun i r hr => ?_⟩
            rw [List.getElem?_take] at hr
            split at hr
            · rw [List.getElem?_drop] at hr
              obtain ⟨q1, q2⟩ := hx.get _ r hr
              exact ⟨q1, by rw [Nat.add_assoc, ← Nat.add_mul]; exact q2⟩
            · cases hr
      · cases h
    · cases h
  · rename_i e hu
    simp only [VRo] at hm; subst hm
    simp only [VR] at hx; subst hx
    split at h
    · rename_i e1 e2
      split at h
      · rename_i hz
        cases h
        obtain ⟨inf, hinf, hsz⟩ := info_of_cells hz
        refine ⟨.slice none 0 0, ?_, by simp [VR]⟩
        rw [sliceAt_plain hu (.inl ⟨_, rfl⟩)]
        simp [Instr.slice, run_underlying hu, run_bounds hl hh true e1 e2 (Nat.le_refl _) (Nat.le_refl _), run_size hinf]
      · cases h
    · cases h
  all_goals first
    | (cases h; done)
    | (rename_i m hu
       simp only [VRo] at hm
       obtain ⟨vm, rfl, hm⟩ := hm
       split at h
       · rename_i e0 e1 e2
         split at h
         · rename_i hz
           cases h
           obtain ⟨inf, hinf, hsz⟩ := info_of_cells hz
           have hb := fun len cap => run_bounds0 (P := P) (mx := none) (vm := none) hl hh hm (len := len) (cap := cap) true e0 e1 e2 w
           have hrun : ∀ a len c, (Instr.sliceAt t (.slice a len c) vl vh (some vm)).run P w = .ok (.slice a 0 0) w := by
             intro a len c
             rw [sliceAt_plain hu (.inl ⟨_, rfl⟩)]
             simp [Instr.slice, run_underlying hu, hb, run_size hinf]
           simp only [VR] at hx
           first
             | (obtain ⟨b, o, n, c, hmu, rfl, hlc, hfit⟩ := hx
                exact ⟨_, hrun _ _ _, by simp only [VR]; exact ⟨_, rfl⟩⟩)
             | (obtain ⟨a, c, rfl, hlc, hx⟩ := hx
                exact ⟨_, hrun _ _ _, by simp only [VR]; exact ⟨_, rfl⟩⟩)
             | (subst hx
                exact ⟨_, hrun _ _ _, by simp only [VR]; exact ⟨_, rfl⟩⟩)
         · cases h
       · cases h)
end Go.Abs
namespace Go.Abs
open Go Go.RowKit
set_option linter.unusedVariables false
/-- The elements of a slice: how many, and their cells. -/
def listCells (H : AH) (z : Nat) (x : AV) : Option (Nat × List AV) :=
  match x with
  | .nils => some (0, [])
  | .zslc => some (0, [])
  | .vals z' rows => if z' = z then some (rows.length, rows.flatten) else none
  | .slc g e i len z' =>
    match H.gs.get g with
    | some r => if r.e = e ∧ z' = z ∧ i + len * z ≤ r.cells.length then some (len, (r.cells.drop i).take (len * z)) else none
    | none => none
  | _ => none
theorem CellsIn.append {G : Gh} {w : World} {xs ys : List AV} {b o : Nat} (h1 : CellsIn G w xs b o) (h2 : CellsIn G w ys b (o + xs.length)) : CellsIn G w (xs ++ ys) b o := by
  intro j x hx
  by_cases hj : j < xs.length
  · rw [List.getElem?_append_left hj] at hx; exact h1 j x hx
  · rw [List.getElem?_append_right (by omega)] at hx
    obtain ⟨u, q1, q2⟩ := h2 _ x hx
    exact ⟨u, by rw [← q1]; congr 2; omega, q2⟩
theorem VRow.cellsIn {K : Kx} {G : Gh} {H : AH} {w : World} (h : HRel K G H w) {r : List AV} {b o : Nat} (hr : VRow G r b o) : CellsIn G w r b o := fun j x hx => by
  obtain ⟨u, h1, h2⟩ := hr.get j x hx
  exact ⟨u, h.mem _ _ _ h1, h2, h.ones _ _ _ h1⟩
theorem VRows.cellsIn {K : Kx} {G : Gh} {H : AH} {w : World} (h : HRel K G H w) {z : Nat} : ∀ {rs : List (List AV)} {b o : Nat}, VRows G z rs b o → rs.flatten.length = rs.length * z ∧ CellsIn G w rs.flatten b o
  | [], b, o, hr => ⟨by simp, fun j x hx => by simp at hx⟩
  | r :: rs, b, o, hr => by
    simp only [VRows] at hr
    obtain ⟨h1, h2, h3⟩ := hr
    obtain ⟨q1, q2⟩ := VRows.cellsIn h h3
    rw [List.flatten_cons]
    exact ⟨by rw [List.length_append, q1, h1, List.length_cons, Nat.add_mul]; omega, (h2.cellsIn h).append (by rw [h1]; exact q2)⟩
theorem listCells_ok {K : Kx} {G : Gh} {H : AH} {w : World} (h : HRel K G H w) {z m : Nat} {x : AV} {xs : List AV} {v : Value} (hx : VR G x v) (hl : listCells H z x = some (m, xs)) :
    ∃ a c, v = .slice a m c ∧ m ≤ c ∧ xs.length = m * z ∧ (m = 0 ∨ ∃ b o, a = some ⟨b, o, none⟩ ∧ CellsIn G w xs b o) := by
  unfold listCells at hl
  split at hl
  · cases hl
    simp only [VR] at hx
    exact ⟨none, 0, hx, Nat.le_refl _, by simp, .inl rfl⟩
  · cases hl
    simp only [VR] at hx
    obtain ⟨a, rfl⟩ := hx
    exact ⟨a, 0, rfl, Nat.le_refl _, by simp, .inl rfl⟩
  · split at hl
    · rename_i z' rows hz
      subst hz
      cases hl
      simp only [VR] at hx
      obtain ⟨a, c, rfl, hlc, rfl | ⟨b, o, rfl, hr⟩⟩ := hx
      · exact ⟨a, c, rfl, hlc, by simp, .inl rfl⟩
      · obtain ⟨q1, q2⟩ := hr.cellsIn h
        exact ⟨_, c, rfl, hlc, q1, .inr ⟨b, o, rfl, q2⟩⟩
    · cases hl
  · rename_i g e i len z'
    split at hl
    · rename_i r hr
      split at hl
      · rename_i hh
        obtain ⟨rfl, rfl, hfit⟩ := hh
        cases hl
        simp only [VR] at hx
        obtain ⟨b, o, n, c, hmu, rfl, hlc, _⟩ := hx
        obtain ⟨b', o', n', cs, t, q⟩ := h.grp g r hr
        rw [q.mu] at hmu
        cases hmu
        exact ⟨_, c, rfl, hlc, by rw [List.length_take, List.length_drop]; omega, .inr ⟨b, o + i, rfl, q.cellsIn i _⟩⟩
      · cases hl
    · cases hl
  · cases hl
def anySlice : AV → Bool
  | .slc .. | .nils | .zslc | .vals .. => true
  | _ => false
theorem anySlice_ok {G : Gh} {x : AV} {v : Value} (h : anySlice x = true) (hx : VR G x v) : ∃ a n c, v = .slice a n c ∧ n ≤ c := by
  cases x <;> simp only [anySlice] at h <;> try (cases h; done)
  all_goals simp only [VR] at hx
  · exact ⟨_, _, _, hx, Nat.le_refl _⟩
  · obtain ⟨a, rfl⟩ := hx; exact ⟨_, _, _, rfl, Nat.le_refl _⟩
  · obtain ⟨b, o, n, c, _, rfl, h, _⟩ := hx; exact ⟨_, _, _, rfl, h⟩
  · obtain ⟨a, c, rfl, h, _⟩ := hx; exact ⟨_, _, _, rfl, h⟩
/-- append. -/
def aappend (P : Program) (t : TypeId) (s x : AV) (H : AH) : Option (AV × AH) :=
  match P.underlying t with
  | some (.slice e) =>
    match zeroA P e, listCells H (P.cellsOf e) x with
    | some zv, some (m, xs) =>
      if zv.fit = true ∧ zv.cells.length = P.cellsOf e ∧ P.cellsOf e ≠ 0 then
        if m = 0 then (if anySlice s = true then some (s, H) else none) else
        match s with
        | .slc g a i len z =>
          match H.gs.get g with
          | some r =>
            if r.e = a ∧ z = P.cellsOf e ∧ r.fz ≤ i + len * z ∧ i + len * z ≤ r.cells.length ∧ (len + m) * P.bytesOf e ≤ 140737488355328 ∧ len + m ≤ 9223372036854775807 then
              some (.slc g (a + 1) 0 (len + m) z, ⟨H.next, H.gs.set g ⟨a + 1, r.fz - i, (r.cells.drop i).take (len * z) ++ xs⟩, H.ms⟩)
            else none
          | none => none
        | .nils => if m * P.bytesOf e ≤ 140737488355328 ∧ m ≤ 9223372036854775807 ∧ H.free = true then some (.slc H.next 0 0 m (P.cellsOf e), H.add xs) else none
        | .zslc => if m * P.bytesOf e ≤ 140737488355328 ∧ m ≤ 9223372036854775807 ∧ H.free = true then some (.slc H.next 0 0 m (P.cellsOf e), H.add xs) else none
        | _ => none
      else none
    | _, _ => none
  | _ => none
theorem run_append_none {P : Program} {t ty e : TypeId} {i : TypeInfo} (ht : P.underlying t = some (.slice e)) (hi : P.info? e = some i) (a xa : Option Addr) (n c cx : Nat) (hn : n ≤ c) (w : World) :
    (Builtin.append_ #[t, t] ty #[.slice a n c, .slice xa 0 cx]).run P w = .ok (.slice a n c) w := by
  cases a <;> cases xa <;> simp [Builtin.append_, run_underlying ht, run_size hi, Builtin.lenOf, hn, Builtin.firstCells, loadCells, loadCellsFrom, storeCells]
theorem add_new {K : Kx} {G : Gh} {H : AH} {w w' : World} (h : HRel K G H w) {xs : List AV} {cs : Array Value} {t : TypeId} (hb : Below w.heap.size w w') (hw : w'.heap[w.heap.size]? = some (.cells cs t (0, 0)))
    (hx : ∀ (i : Nat) (x : AV), xs[i]? = some x → ∃ u, cs[i]? = some u ∧ VR G x u ∧ u.oneCell' = true) (hfree : H.free = true) :
    G.le (G.put H.next 0 (w.heap.size, 0, cs.size)) ∧ HRel K (G.put H.next 0 (w.heap.size, 0, cs.size)) (H.add xs) w' := by
  have hf := h.fresh H.next (AH.free_ok hfree)
  exact ⟨Gh.put_le (hf 0), h.newBlock (g := H.next) (e := 0) (fz := 0) (nx := H.next + 1) hb hw hx (hf 0) (fun e' _ => hf e')⟩
theorem grown_size {z v : Value} {zs n m need cap : Nat} {olds news : List Value} (hz : z.cells.size = zs) (ho : olds.length = n * zs) (hn : news.length = m * zs) (hc : n + m ≤ cap) :
    (olds.toArray ++ news.toArray ++ Builtin.zeroCells z.cells (cap - (n + m))).size = cap * zs := by
  simp only [Array.size_append, List.size_toArray, size_zeroCells, hz, ho, hn, ← Nat.add_mul]
  congr 1; omega
set_option maxHeartbeats 1000000 in
theorem aappend_ok {P : Program} {K : Kx} {G : Gh} {H H' : AH} {w : World} (h : HRel K G H w) {t ty : TypeId} {s x y : AV} {v u : Value} (hs : VR G s v) (hx : VR G x u) (ha : aappend P t s x H = some (y, H')) :
    ∃ r w' G', (Builtin.append_ #[t, t] ty #[v, u]).run P w = .ok r w' ∧ G.le G' ∧ HRel K G' H' w' ∧ VR G' y r := by
  unfold aappend at ha
  split at ha
  · rename_i e hu
    split at ha
    · rename_i zv m xs hz hlc
      split at ha
      · rename_i hh
        obtain ⟨hfit, hzl, hz0⟩ := hh
        obtain ⟨zz, inf, hi, hzz, _, hvz⟩ := zeroA_ok (G := G) hz w
        obtain ⟨q1, _, _⟩ := fit_ok hfit hvz
        have hcs : P.cellsOf e = inf.size := by simp [Program.cellsOf, hi]
        have hby : P.bytesOf e = inf.bytes := by simp [Program.bytesOf, hi]
        have hzsz : zz.cells.size = inf.size := by rw [← Array.length_toList, q1.len, hzl, hcs]
        obtain ⟨xa, xc, rfl, hmc, hxl, hxin⟩ := listCells_ok h hx hlc
        by_cases hm : m = 0
        · rw [if_pos hm] at ha
          split at ha
          · rename_i hany
            cases ha
            subst hm
            obtain ⟨a, n, c, rfl, hnc⟩ := anySlice_ok hany hs
            exact ⟨_, w, G, run_append_none hu hi a xa n c xc hnc w, Gh.le.refl _, h, hs⟩
          · cases ha
        · rw [if_neg hm] at ha
          obtain ⟨xb, xo, rfl, hxi⟩ := hxin.resolve_left hm
          obtain ⟨news, hnv, hnc, hn1⟩ := hxi.list
          have hnl : news.length = m * inf.size := by rw [hnv.len, hxl, hcs]
          have hnews : ∀ j v, news[j]? = some v → w.cell? ((⟨xb, xo, none⟩ : Addr).add j) = some v := fun j v hj => by rw [Addr.add_lit]; exact hnc j v hj
          -- a new row out of nothing
          have fresh : H.free = true → ∀ (cap : Nat), m ≤ cap → ∀ w', w' = w.drew.alloc (.cells (([] : List Value).toArray ++ news.toArray ++ Builtin.zeroCells zz.cells (cap - (0 + m))) e) →
              ∃ G', G.le G' ∧ HRel K G' (H.add xs) w' ∧ VR G' (.slc H.next 0 0 m (P.cellsOf e)) (.slice (some ⟨w.heap.size, 0, none⟩) m cap) := by
            intro hfree cap hcap w' hw'
            have hsz := grown_size (v := zz) (need := 0) (n := 0) (olds := []) hzsz (by simp) hnl (by omega : 0 + m ≤ cap)
            obtain ⟨k1, k2⟩ := add_new h (xs := xs) (t := e) (w' := w') (cs := ([] : List Value).toArray ++ news.toArray ++ Builtin.zeroCells zz.cells (cap - (0 + m)))
              (by rw [hw']; exact Below.alloc (Below.drew (Below.refl _ _)) (Nat.le_refl _) _) (by rw [hw']; show (w.heap.push _)[w.heap.size]? = _; simp)
              (fun j z hj => by
                obtain ⟨u', g1, g2⟩ := hnv.get j z hj
                have hjl : j < news.length := (List.getElem?_eq_some_iff.1 g1).1
                refine ⟨u', ?_, g2, hn1 u' (List.mem_of_getElem? g1)⟩
                simp only [Array.empty_append]
                rw [Array.getElem?_append_left (by simpa using hjl)]
                simpa using g1) hfree
            refine ⟨_, k1, k2, ?_⟩
            simp only [VR]
            refine ⟨_, _, _, cap, Gh.put_same _ _ _ _, rfl, hcap, ?_⟩
            rw [hsz, hcs]; simp
          split at ha
          · rename_i g a i len z
            split at ha
            · rename_i r hr
              split at ha
              · rename_i hh
                cases ha
                obtain ⟨rfl, rfl, hfz, hwin, hbytes, h63⟩ := hh
                simp only [VR] at hs
                obtain ⟨b, o, n, cap, hmu, rfl, hlcap, hroomn⟩ := hs
                obtain ⟨b', o', n', cs, ty', q⟩ := h.grp g r hr
                rw [q.mu] at hmu
                cases hmu
                rw [hcs] at hfz hwin hroomn
                have hwl : ((r.cells.drop i).take (len * inf.size)).length = len * inf.size := by rw [List.length_take, List.length_drop]; omega
                by_cases hroom : len + m ≤ cap
                · have hmul : (len + m) * inf.size ≤ cap * inf.size := Nat.mul_le_mul_right _ hroom
                  have hsplit : (len + m) * inf.size = len * inf.size + m * inf.size := Nat.add_mul _ _ _
                  have hrun := run_append_room_cells (P := P) w t ty e inf hu hi b (o + i) len cap ⟨xb, xo, none⟩ m xc news hnl hnews hn1 hroom
                    (fun j hj => by rw [cell_of q.heap, Array.getElem?_eq_getElem (by rw [q.size]; omega)]; rfl) (fun j hj => by simp [World.frozen?, q.heap])
                  obtain ⟨k1, k2⟩ := h.sets q hr (r' := ⟨r.e + 1, r.fz - i, (r.cells.drop i).take (len * P.cellsOf e) ++ xs⟩) (p := o + i + len * inf.size) (vs := news) (by omega) (by omega) (o' := o + i)
                    (G' := G.put g (r.e + 1) (b, o + i, n)) (.inr ⟨rfl, Nat.lt_succ_self _⟩) (by show o + r.fz ≤ o + i + (r.fz - i); omega) (by
                      intro j z hz
                      rw [hcs] at hz
                      by_cases hj : j < len * inf.size
                      · rw [List.getElem?_append_left (by omega), List.getElem?_take, if_pos hj, List.getElem?_drop] at hz
                        obtain ⟨u', g1, g2, g3⟩ := q.cell _ z hz
                        refine ⟨u', g2, ?_, g3⟩
                        rw [if_neg (by omega), ← g1]
                        congr 1; omega
                      · rw [List.getElem?_append_right (by omega), hwl] at hz
                        obtain ⟨u', g1, g2⟩ := hnv.get _ z hz
                        have hjl : j - len * inf.size < news.length := (List.getElem?_eq_some_iff.1 g1).1
                        refine ⟨u', g2, ?_, hn1 u' (List.mem_of_getElem? g1)⟩
                        rw [if_pos (by omega), ← g1]
                        congr 1; omega) (by show r.fz - i ≤ ((r.cells.drop i).take (len * P.cellsOf e) ++ xs).length; rw [List.length_append, hcs, hwl]; omega)
                  refine ⟨_, _, _, hrun, k1, k2, ?_⟩
                  simp only [VR]
                  refine ⟨b, o + i, n, cap, Gh.put_same _ _ _ _, rfl, hroom, ?_⟩
                  rw [hcs]; omega
                · obtain ⟨olds, hov, hoc, ho1⟩ := (q.cellsIn i (len * inf.size)).list
                  have hol : olds.length = len * inf.size := by rw [hov.len, hwl]
                  have hrun := run_append_grow (P := P) w t ty e inf zz hu hi hzz ⟨b, o + i, none⟩ len cap olds hol (fun j v hj => by rw [Addr.add_lit]; exact hoc j v hj) ⟨xb, xo, none⟩ m xc news hnl hnews (by omega) (by omega)
                    (growslice_fits (by omega) (by rw [← hby]; exact hbytes))
                  have hge := grownCap_ge w (len + m) cap e
                  have hsz := grown_size (v := zz) (need := 0) hzsz hol hnl hge
                  have key := h.newBlock (g := g) (e := r.e + 1) (fz := r.fz - i) (nx := H.next) (xs := (r.cells.drop i).take (len * P.cellsOf e) ++ xs) (t := e)
                    (w' := w.drew.alloc (.cells (olds.toArray ++ news.toArray ++ Builtin.zeroCells zz.cells (grownCap w (len + m) cap e - (len + m))) e))
                    (cs := olds.toArray ++ news.toArray ++ Builtin.zeroCells zz.cells (grownCap w (len + m) cap e - (len + m)))
                    (Below.alloc (Below.drew (Below.refl _ _)) (Nat.le_refl _) _) (by show (w.heap.push _)[w.heap.size]? = _; simp) (fun j z hz => by
                      have hz' : (olds ++ news)[j]? = none → False := by
                        intro hno
                        rw [List.getElem?_eq_none_iff] at hno
                        have := (List.getElem?_eq_some_iff.1 hz).1
                        rw [hcs, List.length_append, hwl, hxl] at this
                        rw [List.length_append, hol, hnl] at hno
                        rw [hcs] at this
                        omega
                      obtain ⟨u', g1, g2⟩ := (hov.append hnv).get j z (by rw [hcs] at hz; exact hz)
                      have hjl : j < (olds ++ news).length := (List.getElem?_eq_some_iff.1 g1).1
                      refine ⟨u', ?_, g2, ?_⟩
                      · rw [Array.getElem?_append_left (by simpa using hjl)]
                        rw [← Array.getElem?_toList]
                        simpa using g1
                      · rcases List.mem_append.1 (List.mem_of_getElem? g1) with hm' | hm'
                        · exact ho1 u' hm'
                        · exact hn1 u' hm')
                    (h.ages g r _ hr (Nat.lt_succ_self _)) (fun e' he' => h.ages g r _ hr (by omega)) (fun hk => by exfalso; rw [List.length_append, hcs, hwl] at hk; omega)
                  refine ⟨_, _, _, hrun, Gh.put_le (h.ages g r _ hr (Nat.lt_succ_self _)), key, ?_⟩
                  simp only [VR]
                  refine ⟨_, _, _, grownCap w (len + m) cap e, Gh.put_same _ _ _ _, rfl, hge, ?_⟩
                  rw [hsz, hcs]; simp
              · cases ha
            · cases ha
          · split at ha
            · rename_i hb
              cases ha
              simp only [VR] at hs
              subst hs
              have hrun := run_append_nil (P := P) w t ty e inf zz hu hi hzz ⟨xb, xo, none⟩ m xc news hnl hnews (by omega) (by omega) (by rw [← hby]; omega)
              obtain ⟨G', k1, k2, k3⟩ := fresh hb.2.2 (grownCap w m 0 e) (grownCap_ge w m 0 e) _ rfl
              simp only [Array.empty_append, Nat.zero_add] at k2
              exact ⟨_, _, G', hrun, k1, k2, k3⟩
            · cases ha
          · split at ha
            · rename_i hb
              cases ha
              simp only [VR] at hs
              obtain ⟨a, rfl⟩ := hs
              cases a with
              | none =>
                have hrun := run_append_nil (P := P) w t ty e inf zz hu hi hzz ⟨xb, xo, none⟩ m xc news hnl hnews (by omega) (by omega) (by rw [← hby]; omega)
                obtain ⟨G', k1, k2, k3⟩ := fresh hb.2.2 (grownCap w m 0 e) (grownCap_ge w m 0 e) _ rfl
                simp only [Array.empty_append, Nat.zero_add] at k2
                exact ⟨_, _, G', hrun, k1, k2, k3⟩
              | some a =>
                have hrun := run_append_grow (P := P) w t ty e inf zz hu hi hzz a 0 0 [] (by simp) (fun j v hj => by simp at hj) ⟨xb, xo, none⟩ m xc news hnl hnews (by omega) (by omega)
                  (growslice_fits (by omega) (by rw [← hby]; simpa using hb.1))
                obtain ⟨G', k1, k2, k3⟩ := fresh hb.2.2 (grownCap w (0 + m) 0 e) (by have := grownCap_ge w (0 + m) 0 e; omega) _ rfl
                refine ⟨_, _, G', hrun, k1, k2, ?_⟩
                simpa using k3
            · cases ha
          · cases ha
      · cases ha
    · cases ha
  · cases ha
/-- len. -/
def alen (P : Program) (t : TypeId) (x : AV) : Option AV :=
  match P.underlying t, x with
  | some .string, .str s => some (.int .i64 s.length)
  | some (.slice _), .slc _ _ _ len _ => some (.int .i64 len)
  | some (.slice _), .vals _ rows => some (.int .i64 rows.length)
  | some (.slice _), .nils => some (.int .i64 0)
  | some (.slice _), .zslc => some (.int .i64 0)
  | _, _ => none
theorem alen_ok {P : Program} {G : Gh} {t ty : TypeId} {x y : AV} {v : Value} (hx : VR G x v) (h : alen P t x = some y) (w : World) : ∃ u, (Builtin.len_ #[t] ty #[v]).run P w = .ok u w ∧ VR G y u := by
  unfold alen at h
  split at h
  · rename_i s hu
    cases h
    simp only [VR] at hx
    subst hx
    have hsz : (⟨s.toArray⟩ : ByteArray).size = s.length := by simp [ByteArray.size]
    exact ⟨.int .i64 s.length, by simp [Builtin.len_, run_underlying hu, goInt, hsz], by simp [VR]⟩
  · rename_i hu
    cases h
    simp only [VR] at hx
    obtain ⟨b, o, n, c, _, rfl, _⟩ := hx
    exact ⟨_, by simp [Builtin.len_, run_underlying hu, goInt]; rfl, by simp [VR]⟩
  · rename_i hu
    cases h
    simp only [VR] at hx
    obtain ⟨a, c, rfl, _⟩ := hx
    exact ⟨_, by simp [Builtin.len_, run_underlying hu, goInt]; rfl, by simp [VR]⟩
  · rename_i hu
    cases h
    simp only [VR] at hx
    subst hx
    exact ⟨_, by simp [Builtin.len_, run_underlying hu, goInt]; rfl, by simp [VR]⟩
  · rename_i hu
    cases h
    simp only [VR] at hx
    obtain ⟨a, rfl⟩ := hx
    exact ⟨_, by simp [Builtin.len_, run_underlying hu, goInt]; rfl, by simp [VR]⟩
  · cases h
end Go.Abs
namespace Go.Abs
open Go Go.RowKit
set_option linter.unusedVariables false
/-- More cells stand for good: those of a block. -/
def Gh.good (G : Gh) (b : Nat) (cs : Array Value) : Gh := ⟨fun b' o => if b' = b then cs[o]? else G.M b' o, G.mu, G.mm⟩
theorem Gh.good_le {G : Gh} {b : Nat} {cs : Array Value} (h : ∀ o, G.M b o = none) : G.le (G.good b cs) :=
  ⟨fun b' o v hv => by
    simp only [Gh.good]
    by_cases hb : b' = b
    · subst hb; rw [h] at hv; cases hv
    · rw [if_neg hb]; exact hv, fun _ _ _ h => h, fun _ _ h => h⟩
/-- A new block whose cells stand for good. -/
theorem HRel.newGood {K : Kx} {G : Gh} {H : AH} {w w' : World} (h : HRel K G H w) {cs : Array Value} {t : TypeId} {f : Nat × Nat} (hb : Below w.heap.size w w') (hw : w'.heap[w.heap.size]? = some (.cells cs t f)) (ho : ∀ c ∈ cs.toList, c.oneCell' = true) :
    G.le (G.good w.heap.size cs) ∧ HRel K (G.good w.heap.size cs) H w' := by
  have hMlt : ∀ b o v, G.M b o = some v → b < w.heap.size := fun b o v hv => cell_lt (h.mem b o v hv)
  have hnone : ∀ o, G.M w.heap.size o = none := fun o => by
    cases hM : G.M w.heap.size o with
    | none => rfl
    | some v => exact absurd (hMlt _ _ _ hM) (Nat.lt_irrefl _)
  have hle := Gh.good_le (cs := cs) hnone
  refine ⟨hle, h.below.trans (hb.mono h.hB), Nat.le_trans h.hB hb.size, ?_, ?_, ?_, ?_, h.apart, h.fresh, ?_, h.mapart, h.mfresh, h.ages⟩
  · intro b o v hv
    simp only [Gh.good] at hv
    by_cases hbb : b = w.heap.size
    · subst hbb
      rw [if_pos rfl] at hv
      rw [cell_of hw]; exact hv
    · rw [if_neg hbb] at hv
      rw [← h.mem b o v hv]
      exact World.cell?_of_block (hb.block b (hMlt b o v hv))
  · intro b o v hv
    simp only [Gh.good] at hv
    by_cases hbb : b = w.heap.size
    · rw [if_pos hbb] at hv
      exact ho v (by rw [Array.mem_toList_iff]; exact Array.mem_of_getElem? hv)
    · rw [if_neg hbb] at hv; exact h.ones b o v hv
  · intro b o hbB
    simp only [Gh.good]
    rw [if_neg (by have := h.hB; omega)]
    exact h.old b o hbB
  · intro g r hr
    obtain ⟨b, o, n, c, ty, q⟩ := h.grp g r hr
    have hbl := get_lt q.heap
    exact ⟨b, o, n, c, ty, q.mu, q.low, by rw [hb.block b hbl]; exact q.heap, q.size, fun i x hi => by obtain ⟨u, h1, h2, h3⟩ := q.cell i x hi; exact ⟨u, h1, VR.mono hle _ _ h2, h3⟩,
      fun j hj => by simp only [Gh.good]; rw [if_neg (by omega)]; exact q.free j hj, fun hk => ⟨(q.kind hk).1, (q.kind hk).2.1, fun j => by simp only [Gh.good]; rw [if_neg (by omega)]; exact (q.kind hk).2.2 j⟩⟩
  · intro g es hg
    obtain ⟨b, l, c, q⟩ := h.maps g es hg
    exact ⟨b, l, c, q.mm, q.low, by rw [hb.block b (get_lt q.heap)]; exact q.heap, q.ents.mono hle, q.clock⟩
def byteRows (s : List UInt8) : List (List AV) := s.map fun c => [.int .u8 c.toNat]
theorem VRows.bytes {G : Gh} {b : Nat} : ∀ {s : List UInt8} {o : Nat}, (∀ j c, s[j]? = some c → G.M b (o + j) = some (.int .u8 c.toNat)) → VRows G 1 (byteRows s) b o
  | [], o, h => by simp [byteRows, VRows]
  | c :: s, o, h => by
    show VRows G 1 ([.int .u8 c.toNat] :: byteRows s) b o
    simp only [VRows, VRow]
    refine ⟨rfl, ⟨⟨_, by simpa using h 0 c rfl, by simp [VR]⟩, trivial⟩, VRows.bytes fun j d hj => ?_⟩
    have := h (j + 1) d (by simpa using hj)
    rw [← this]; congr 1; omega
def bytesA : List AV → Option (List UInt8)
  | [] => some []
  | .int .u8 n :: xs => if 0 ≤ n ∧ n < 256 then (match bytesA xs with | some l => some (UInt8.ofNat n.toNat :: l) | none => none) else none
  | _ => none
theorem bytesA_ok {G : Gh} : ∀ {xs : List AV} {l : List UInt8}, bytesA xs = some l → xs.length = l.length ∧ ∀ (j : Nat) c, l[j]? = some c → ∃ x, xs[j]? = some x ∧ ∀ u, VR G x u → u = .int .u8 (c.toNat : Int)
  | [], l, h => by simp only [bytesA] at h; cases h; exact ⟨rfl, fun j c hj => by simp at hj⟩
  | x :: xs, l, h => by
    unfold bytesA at h
    split at h
    · rename_i h1; cases h1
    · rename_i n ys h1
      cases h1
      split at h
      · rename_i hn
        split at h
        · rename_i l' h2
          cases h
          obtain ⟨q1, q2⟩ := bytesA_ok h2
          refine ⟨by simp [q1], fun j c hj => ?_⟩
          cases j with
          | zero =>
            simp at hj; subst hj
            refine ⟨_, rfl, fun u hu => ?_⟩
            simp only [VR] at hu
            subst hu
            congr 1
            simp only [UInt8.toNat_ofNat']
            omega
          | succ j => simpa using q2 j c (by simpa using hj)
        · cases h
      · cases h
    · cases h
/-- Turned into another type. -/
def aconvH (P : Program) (src dst : TypeId) (x : AV) (H : AH) : Option (AV × AH) :=
  match P.underlying src, P.underlying dst with
  | some .string, some (.slice e) => match P.underlying e, x with
    | some (.int .u8), .str s => some (.vals 1 (byteRows s), H)
    | _, _ => none
  | some (.slice e), some .string => match P.underlying e with
    | some (.int .u8) => match listCells H 1 x with
      | some (m, xs) => (bytesA xs).map fun l => (.str l, H)
      | none => none
    | _ => none
  | some (.int _), some .string => match x with
    | .int _ n => some (.str (Utf8.encode n).data.toList, H)
    | _ => none
  | _, _ => (aconv P src dst x).map (·, H)
theorem aconvH_ok {P : Program} {K : Kx} {G : Gh} {H H' : AH} {w : World} (h : HRel K G H w) {src dst : TypeId} {x z : AV} {u : Value} (hx : VR G x u) (ha : aconvH P src dst x H = some (z, H')) :
    ∃ r w' G', (convert src dst u).run P w = .ok r w' ∧ G.le G' ∧ HRel K G' H' w' ∧ VR G' z r := by
  unfold aconvH at ha
  split at ha
  · rename_i e hs hd
    split at ha
    · rename_i s he
      cases ha
      simp only [VR] at hx
      subst hx
      have hrun := run_bytes_of_string w src dst e ⟨s.toArray⟩ hs hd he
      generalize hcap : grownCap w (⟨s.toArray⟩ : ByteArray).size 0 e = cap at hrun
      have hge : (⟨s.toArray⟩ : ByteArray).size ≤ cap := by rw [← hcap]; exact grownCap_ge w _ 0 e
      obtain ⟨k1, k2⟩ := h.newGood (cs := bytesRow ⟨s.toArray⟩ cap) (t := e) (f := ((bytesRow ⟨s.toArray⟩ cap).size, (bytesRow ⟨s.toArray⟩ cap).size + 1))
        (w' := w.drew.alloc (.cells (bytesRow ⟨s.toArray⟩ cap) e ((bytesRow ⟨s.toArray⟩ cap).size, (bytesRow ⟨s.toArray⟩ cap).size + 1)))
        (Below.alloc (Below.drew (Below.refl _ _)) (Nat.le_refl _) _) (by show (w.heap.push _)[w.heap.size]? = _; simp) (fun c hc => by
          simp only [bytesRow, Array.toList_append, List.mem_append, Array.toList_map, List.mem_map, Array.toList_replicate, List.mem_replicate] at hc
          rcases hc with ⟨_, _, rfl⟩ | ⟨_, rfl⟩ <;> rfl)
      refine ⟨_, _, _, hrun, k1, k2, ?_⟩
      simp only [VR]
      refine ⟨_, cap, ?_, ?_, .inr ⟨w.heap.size, 0, rfl, VRows.bytes fun j c hj => ?_⟩⟩
      · simp [byteRows, ByteArray.size]
      · simpa [byteRows, ByteArray.size] using hge
      · simp only [Gh.good, if_true, bytesRow, Nat.zero_add]
        have hjl : j < s.length := (List.getElem?_eq_some_iff.1 hj).1
        rw [Array.getElem?_append_left (by simpa using hjl)]
        simp [hj]
    · cases ha
  · rename_i e hs hd
    split at ha
    · rename_i he
      split at ha
      · rename_i m xs hl
        rw [Option.map_eq_some_iff] at ha
        obtain ⟨l, h1, h2⟩ := ha
        cases h2
        obtain ⟨a, c, rfl, hmc, hlen, hin⟩ := listCells_ok h hx hl
        obtain ⟨q1, q2⟩ := bytesA_ok (G := G) h1
        have hml : m = l.length := by omega
        subst hml
        refine ⟨_, w, G, ?_, Gh.le.refl _, h, by simp only [VR]; rfl⟩
        rcases hin with h0 | ⟨b, o, rfl, hin⟩
        · have hl0 : l = [] := List.eq_nil_of_length_eq_zero h0
          subst hl0
          rw [run_convert_bytes_string w src dst e a _ c hs he hd]
          cases a with
          | none => simp [Conv.bytesToString]; rfl
          | some a => simp [Conv.bytesToString, loadCells, loadCellsFrom]; rfl
        · refine run_convert_bytes_back w src dst e _ c l hs he hd fun j hj => ?_
          obtain ⟨x', k1, k2⟩ := q2 j l[j] (List.getElem?_eq_getElem hj)
          obtain ⟨u, k3, k4, _⟩ := hin j x' k1
          rw [Addr.add_lit, k3, k2 u k4]
      · cases ha
    · cases ha
  · rename_i k hs hd
    split at ha
    · rename_i k' n
      cases ha
      simp only [VR] at hx
      subst hx
      exact ⟨.string (Utf8.encode n), w, G, by simp [convert, run_underlying hs, run_underlying hd, Conv.intToString], Gh.le.refl _, h, by simp [VR]⟩
    · cases ha
  · rw [Option.map_eq_some_iff] at ha
    obtain ⟨y, h1, h2⟩ := ha
    cases h2
    obtain ⟨r, k1, k2⟩ := aconv_ok (P := P) h1 hx w
    exact ⟨r, w, G, k1, Gh.le.refl _, h, k2⟩
end Go.Abs
namespace Go.Abs
open Go Go.RowKit
set_option linter.unusedVariables false
def amkiface (P : Program) (t : TypeId) (x : AV) : Option AV :=
  match P.underlying t with
  | some (.interface _) => none
  | some _ => some (.iface t x)
  | none => none
theorem amkiface_ok {P : Program} {G : Gh} {t : TypeId} {x y : AV} {u : Value} (hx : VR G x u) (h : amkiface P t x = some y) (w : World) : ∃ r, (Instr.makeInterface t u).run P w = .ok r w ∧ VR G y r := by
  unfold amkiface at h
  split at h
  · cases h
  · rename_i d hd hne
    cases h
    refine ⟨.iface t u, ?_, by simp only [VR]; exact ⟨u, rfl, hx⟩⟩
    cases d <;> simp [Instr.makeInterface, run_underlying hne] at hd ⊢
  · cases h
/-- A slice of no elements. -/
def abuildSliceE (P : Program) (t : TypeId) (len : Nat) (parts : List (Nat × AV)) (H : AH) : Option (AV × AH) :=
  match len, parts, P.underlying t with
  | 0, [], some (.slice e) => (P.info? e).map fun _ => (.zslc, H)
  | len, parts, _ => abuildSlice P t len parts H
theorem abuildSliceE_ok {P : Program} {K : Kx} {G : Gh} {H H' : AH} {w : World} (h : HRel K G H w) {t : TypeId} {len : Nat} {parts : List (Nat × AV)} {ps : Array (Nat × Value)} {x : AV} (hl : parts.length = ps.size)
    (hp : ∀ (j : Nat) p, parts[j]? = some p → ∃ v, ps[j]? = some (p.1, v) ∧ VR G p.2 v) (hb : abuildSliceE P t len parts H = some (x, H')) :
    ∃ u w' G', (Instr.buildSlice t len ps).run P w = .ok u w' ∧ G.le G' ∧ HRel K G' H' w' ∧ VR G' x u := by
  unfold abuildSliceE at hb
  split at hb
  · rename_i e hu
    rw [Option.map_eq_some_iff] at hb
    obtain ⟨i, hi, hx⟩ := hb
    cases hx
    have hps : ps = #[] := by apply Array.eq_empty_of_size_eq_zero; simpa using hl.symm
    subst hps
    obtain ⟨k1, k2⟩ := h.newGood (cs := #[]) (t := e) (f := (0, 0)) (w' := w.alloc (.cells #[] e)) (Below.alloc (Below.refl _ _) (Nat.le_refl _) _) (by show (w.heap.push _)[w.heap.size]? = _; simp) (fun c hc => by simp at hc)
    refine ⟨.slice (some ⟨w.heap.size, 0, none⟩) 0 0, _, _, ?_, k1, k2, by simp only [VR]; exact ⟨_, rfl⟩⟩
    have e0 : ∀ f : Nat → Value, Array.map f (Array.range 0) = #[] := fun f => Array.eq_empty_of_size_eq_zero (by simp)
    simp [Instr.buildSlice, run_underlying hu, run_size hi, Instr.fill, newRow]
    rw [e0]
  · exact abuildSlice_ok h hl hp hb
/-- A slice that is made. -/
def amkslice (P : Program) (t : TypeId) (l c : AV) (H : AH) : Option (AV × AH) :=
  match P.underlying t, l, c with
  | some (.slice e), .int _ l, .int _ c =>
    match zeroA P e with
    | some zv => if zv.fit = true ∧ zv.cells.length = P.cellsOf e ∧ P.cellsOf e ≠ 0 ∧ 0 ≤ l ∧ l ≤ c ∧ c.toNat * P.cellsOf e ≤ 16777216 ∧ P.bytesOf e * c ≤ 281474976710656 ∧ c ≤ 9223372036854775807 ∧ H.free = true then
        some (.slc H.next 0 0 l.toNat (P.cellsOf e), H.add ((List.replicate l.toNat zv.cells).flatten)) else none
    | none => none
  | _, _, _ => none
theorem flatten_replicate_get {α : Type} (z : List α) : ∀ (n m : Nat), n ≤ m → ∀ (j : Nat) x, ((List.replicate n z).flatten)[j]? = some x → ((List.replicate m z).flatten)[j]? = some x := by
  intro n m h j x hx
  obtain ⟨k, rfl⟩ := Nat.exists_eq_add_of_le h
  rw [← List.replicate_append_replicate, List.flatten_append, List.getElem?_append_left (List.getElem?_eq_some_iff.1 hx).1]
  exact hx
theorem amkslice_ok {P : Program} {K : Kx} {G : Gh} {H H' : AH} {w : World} (h : HRel K G H w) {t : TypeId} {l c x : AV} {vl vc : Value} (hl : VR G l vl) (hc : VR G c vc) (hb : amkslice P t l c H = some (x, H')) :
    ∃ u w' G', (Instr.makeSlice t vl vc).run P w = .ok u w' ∧ G.le G' ∧ HRel K G' H' w' ∧ VR G' x u := by
  unfold amkslice at hb
  split at hb
  · rename_i e kl l kc c hu
    split at hb
    · rename_i zv hz
      split at hb
      · rename_i hh
        obtain ⟨hfit, hzl, hzne, h0, hlc, hsm, hby, h63, hfree⟩ := hh
        cases hb
        simp only [VR] at hl hc
        subst hl; subst hc
        obtain ⟨v, i, hi, hzv, _, hv⟩ := zeroA_ok (G := G) hz w
        obtain ⟨q1, q2, q3⟩ := fit_ok hfit hv
        have hcs : P.cellsOf e = i.size := by simp [Program.cellsOf, hi]
        have hbs : P.bytesOf e = i.bytes := by simp [Program.bytesOf, hi]
        have hsz : v.cells.size = i.size := by rw [← Array.length_toList, q1.len, hzl, hcs]
        have hrun := run_makeSlice (P := P) w t e i v hu hi hzv kl kc l c h0 hlc (by rw [← hcs]; exact hsm) (by rw [← hbs]; exact hby) h63
        have hrep : (madeCells v.cells (c.toNat * i.size)).toList = (List.replicate c.toNat v.cells.toList).flatten := by
          rw [← hsz]; exact repeat_cells v.cells c.toNat
        have hvs := q1.repeat c.toNat
        have hf := h.fresh H.next (AH.free_ok hfree)
        have hlen : ((List.replicate c.toNat v.cells.toList).flatten).length = c.toNat * i.size := by simp [← hsz]
        have hle : l.toNat ≤ c.toNat := by omega
        have key := h.newBlock (g := H.next) (e := 0) (fz := 0) (nx := H.next + 1) (xs := (List.replicate l.toNat zv.cells).flatten) (t := e) (cs := madeCells v.cells (c.toNat * i.size))
          (w' := w.alloc (.cells (madeCells v.cells (c.toNat * i.size)) e)) (Below.alloc (Below.refl _ _) (Nat.le_refl _) _) (by show (w.heap.push _)[w.heap.size]? = _; simp) (fun j y hj => by
            have hj' := flatten_replicate_get zv.cells _ _ hle j y hj
            obtain ⟨u, g1, g2⟩ := hvs.get j y hj'
            refine ⟨u, ?_, g2, ?_⟩
            · rw [← Array.getElem?_toList, hrep]; exact g1
            · have hm := List.mem_of_getElem? g1
              rw [List.mem_flatten] at hm
              obtain ⟨l', h1, h2⟩ := hm
              rw [List.mem_replicate] at h1
              rw [h1.2] at h2
              exact q3 u h2) (hf 0) (fun e' _ => hf e')
        refine ⟨_, _, _, hrun, Gh.put_le (hf 0), key, ?_⟩
        simp only [VR]
        refine ⟨_, _, _, c.toNat, Gh.put_same _ _ _ _, rfl, hle, ?_⟩
        rw [← Array.length_toList, hrep, hlen, hcs]
        simp
      · cases hb
    · cases hb
  · cases hb
def isC : Operand → Bool
  | .const _ => true
  | _ => false
/-- nil and the literal nil, of an interface. -/
def anilc (op : BinOp) (d : Option TypeDesc) : Option AV :=
  match op, d with
  | .eql, some (.interface _) => some (.bool true)
  | .neq, some (.interface _) => some (.bool false)
  | _, _ => none
/-- Two operands, of which one may be written in the text. -/
def abinC (P : Program) (op : BinOp) (t : TypeId) (ox oy : Operand) (x y : AV) : Option AV :=
  match x, y with
  | .nili, .nili => bif isC ox || isC oy then anilc op (P.underlying t) else none
  | x, y => abin P op t x y
theorem abinC_ok {P : Program} {G : Gh} {op : BinOp} {t : TypeId} {ox oy : Operand} {x y z : AV} {u v : Value} (h : abinC P op t ox oy x y = some z) (hx : VR G x u) (hy : VR G y v) (w : World) :
    ∃ r, (do eqGuard op t ox oy u v; binOp op t u v : Sem Value).run P w = .ok r w ∧ VR G z r := by
  unfold abinC at h
  split at h
  · cases hc : (isC ox || isC oy) with
    | false => rw [hc] at h; cases h
    | true =>
      rw [hc] at h
      simp only [cond_true] at h
      simp only [VR] at hx hy
      subst hx; subst hy
      have hg : ∀ o, eqGuard o t ox oy .nilIface .nilIface = pure () := by
        intro o
        cases ox <;> cases oy <;> simp [isC] at hc <;> cases o <;> simp [eqGuard]
      rw [hg]
      unfold anilc at h
      split at h
      · rename_i ms hd
        cases h
        refine ⟨.bool true, ?_, by simp [VR]⟩
        have e : binOp .eql t .nilIface .nilIface = (do pure (.bool (← Op.equal t .nilIface .nilIface))) := rfl
        have e2 : (Op.equal t .nilIface .nilIface).run P w = .ok true w := by
          have e3 : ∀ d, (Op.equalIn (d + 1) t .nilIface .nilIface).run P w = .ok true w := fun d => by simp [Op.equalIn, run_underlying hd]
          exact e3 9999
        rw [e]; simp [e2]
      · rename_i ms hd
        cases h
        refine ⟨.bool false, ?_, by simp [VR]⟩
        have e : binOp .neq t .nilIface .nilIface = (do pure (.bool (!(← Op.equal t .nilIface .nilIface)))) := rfl
        have e2 : (Op.equal t .nilIface .nilIface).run P w = .ok true w := by
          have e3 : ∀ d, (Op.equalIn (d + 1) t .nilIface .nilIface).run P w = .ok true w := fun d => by simp [Op.equalIn, run_underlying hd]
          exact e3 9999
        rw [e]; simp [e2]
      · cases h
  · exact abin_ok h hx hy ox oy w
/-- What there is room for: of nil, nothing. -/
def acap (P : Program) (t : TypeId) (x : AV) : Option AV :=
  match P.underlying t, x with
  | some (.slice _), .nils => some (.int .i64 0)
  | _, _ => none
theorem acap_ok {P : Program} {G : Gh} {t ty : TypeId} {x y : AV} {v : Value} (hx : VR G x v) (h : acap P t x = some y) (w : World) : ∃ u, (Builtin.cap_ #[t] ty #[v]).run P w = .ok u w ∧ VR G y u := by
  unfold acap at h
  split at h
  · rename_i e hu
    cases h
    simp only [VR] at hx
    subst hx
    exact ⟨.int .i64 0, by simp [Builtin.cap_, run_underlying hu]; rfl, by simp [VR]⟩
  · cases h
theorem run_append_nil_zeros {P : Program} (w : World) (t u ty e : TypeId) (i : TypeInfo) (z : Value) (k k' : IntKind) (ht : P.underlying t = some (.slice e)) (hu : P.underlying u = some (.int k')) (hi : P.info? e = some i) (hz : i.zero = some z)
    (n : Nat) (h0 : 0 < n) (hsz : 0 < i.size) (h63 : (n : Int) ≤ 9223372036854775807) (h48 : n * i.bytes ≤ 281474976710656) :
    (Builtin.append_ #[t, u] ty #[.slice none 0 0, .int k (n : Int)]).run P w =
      .ok (.slice (some ⟨w.heap.size, 0, none⟩) n (grownCap w n 0 e)) (w.drew.alloc (.cells (Builtin.zeroCells z.cells n ++ Builtin.zeroCells z.cells (grownCap w n 0 e - n)) e)) := by
  have hn : n ≠ 0 := by omega
  have h63' : ¬ (9223372036854775807 < (n : Int)) := by omega
  have h48' : ¬ (281474976710656 < Builtin.nextslicecap n 0 * i.bytes) := by rw [nextslicecap_zero h0]; omega
  have hw : IntKind.i64.wrap (n : Int) = (n : Int) := by
    show (if _ then _ else _) = _
    have e1 : (IntKind.i64.bits) = 64 := rfl
    have e2 : IntKind.i64.signed = true := rfl
    simp only [e1, e2]
    have : (n : Int) % (2 ^ 64 : Int) = n := Int.emod_eq_of_lt (by omega) (by omega)
    rw [this]
    rw [if_neg (by simp; omega)]
  have h48'' : ¬ (281474976710656 < (n : Int) * (i.bytes : Int)) := by
    have : ((n * i.bytes : Nat) : Int) = (n : Int) * (i.bytes : Int) := by simp
    omega
  have hneg : ¬ ((n : Int) < 0) := by omega
  have hns : ¬ (n * i.size = 0) := by
    intro e
    rcases Nat.mul_eq_zero.1 e with h | h <;> omega
  simp [Builtin.append_, run_underlying ht, run_underlying hu, sizeOf, typeInfo, zeroValue, hi, hz, Builtin.lenOf, hn, h63', h48', h48'', hw, hneg, hns, Question.forced, run_firstCells_none, newRow, grownCap, asInt, asIntOf]
/-- append of so many zeros, to nil. -/
def aappendZ (P : Program) (t u : TypeId) (s x : AV) (H : AH) : Option (AV × AH) :=
  match P.underlying t, P.underlying u, s, x with
  | some (.slice e), some (.int _), .nils, .int _ n =>
    match zeroA P e with
    | some zv => if zv.fit = true ∧ zv.cells.length = P.cellsOf e ∧ P.cellsOf e ≠ 0 ∧ 0 < n ∧ n ≤ 9223372036854775807 ∧ n.toNat * P.bytesOf e ≤ 281474976710656 ∧ H.free = true then
        some (.slc H.next 0 0 n.toNat (P.cellsOf e), H.add ((List.replicate n.toNat zv.cells).flatten)) else none
    | none => none
  | _, _, _, _ => none
theorem aappendZ_ok {P : Program} {K : Kx} {G : Gh} {H H' : AH} {w : World} (h : HRel K G H w) {t u ty : TypeId} {s x y : AV} {vs vx : Value} (hs : VR G s vs) (hx : VR G x vx) (ha : aappendZ P t u s x H = some (y, H')) :
    ∃ r w' G', (Builtin.append_ #[t, u] ty #[vs, vx]).run P w = .ok r w' ∧ G.le G' ∧ HRel K G' H' w' ∧ VR G' y r := by
  unfold aappendZ at ha
  split at ha
  · rename_i e k' k n ht hu
    split at ha
    · rename_i zv hz
      split at ha
      · rename_i hh
        obtain ⟨hfit, hzl, hzne, h0, h63, hby, hfree⟩ := hh
        cases ha
        simp only [VR] at hs hx
        subst hs; subst hx
        obtain ⟨v, i, hi, hzv, _, hv⟩ := zeroA_ok (G := G) hz w
        obtain ⟨q1, q2, q3⟩ := fit_ok hfit hv
        have hcs : P.cellsOf e = i.size := by simp [Program.cellsOf, hi]
        have hbs : P.bytesOf e = i.bytes := by simp [Program.bytesOf, hi]
        have hsz : v.cells.size = i.size := by rw [← Array.length_toList, q1.len, hzl, hcs]
        obtain ⟨m, rfl⟩ : ∃ m : Nat, n = (m : Int) := ⟨n.toNat, by omega⟩
        simp only [Int.toNat_natCast] at hby ⊢
        have hrun := run_append_nil_zeros (P := P) w t u ty e i v k k' ht hu hi hzv m (by omega) (by rw [← hcs]; omega) h63 (by rw [← hbs]; exact hby)
        have hge := grownCap_ge w m 0 e
        generalize hcap : grownCap w m 0 e = cap at hrun hge
        have hz1 : (Builtin.zeroCells v.cells m).toList = (List.replicate m v.cells.toList).flatten := repeat_cells v.cells m
        have hz2 : (Builtin.zeroCells v.cells (cap - m)).toList = (List.replicate (cap - m) v.cells.toList).flatten := repeat_cells v.cells (cap - m)
        have hl1 : (Builtin.zeroCells v.cells m).size = m * i.size := by rw [← Array.length_toList, hz1]; simp [hsz]
        have hl2 : (Builtin.zeroCells v.cells (cap - m)).size = (cap - m) * i.size := by rw [← Array.length_toList, hz2]; simp [hsz]
        have hvs := q1.repeat m
        have hf := h.fresh H.next (AH.free_ok hfree)
        have key := h.newBlock (g := H.next) (e := 0) (fz := 0) (nx := H.next + 1) (xs := (List.replicate m zv.cells).flatten) (t := e) (cs := Builtin.zeroCells v.cells m ++ Builtin.zeroCells v.cells (cap - m))
          (w' := w.drew.alloc (.cells (Builtin.zeroCells v.cells m ++ Builtin.zeroCells v.cells (cap - m)) e)) (Below.alloc (Below.drew (Below.refl _ _)) (Nat.le_refl _) _) (by show (w.heap.push _)[w.heap.size]? = _; simp) (fun j y hj => by
            obtain ⟨u, g1, g2⟩ := hvs.get j y hj
            have hjl : j < (Builtin.zeroCells v.cells m).size := by
              rw [← Array.length_toList, hz1]; exact (List.getElem?_eq_some_iff.1 g1).1
            refine ⟨u, ?_, g2, ?_⟩
            · rw [Array.getElem?_append_left hjl, ← Array.getElem?_toList, hz1]; exact g1
            · have hm := List.mem_of_getElem? g1
              rw [List.mem_flatten] at hm
              obtain ⟨l', h1, h2⟩ := hm
              rw [List.mem_replicate] at h1
              rw [h1.2] at h2
              exact q3 u h2) (hf 0) (fun e' _ => hf e')
        refine ⟨_, _, _, hrun, Gh.put_le (hf 0), key, ?_⟩
        simp only [VR]
        refine ⟨_, _, _, cap, Gh.put_same _ _ _ _, rfl, hge, ?_⟩
        rw [Array.size_append, hl1, hl2, hcs]
        have : cap * i.size = m * i.size + (cap - m) * i.size := by rw [← Nat.add_mul]; congr 1; omega
        omega
      · cases ha
    · cases ha
  · cases ha
end Go.Abs
