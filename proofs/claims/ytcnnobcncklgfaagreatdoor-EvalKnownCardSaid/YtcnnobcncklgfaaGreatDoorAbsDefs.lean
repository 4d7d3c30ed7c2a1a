/- An abstract reading of the program: values as trees, memory of the run's own as numbered groups of cells. -/
import Derived.ArgAppend
import Derived.Orders
import Derived.Below
namespace Go.Abs
open Go Go.RowKit
set_option linter.unusedVariables false
/-- A way down a tree. -/
inductive Q4 where
  | q0 | q1 | q2 | q3
  deriving DecidableEq
abbrev Pth := List Q4
/-- A tree of numbered things. -/
inductive Tr (α : Type) where
  | nil : Tr α
  | node (a b c d : Tr α) (v : Option α) : Tr α
namespace Tr
variable {α : Type}
def qOf (m : Nat) : Q4 := bif Nat.beq m 0 then .q0 else bif Nat.beq m 1 then .q1 else bif Nat.beq m 2 then .q2 else .q3
theorem qOf_inj {m n : Nat} (hm : m < 4) (hn : n < 4) (h : qOf m = qOf n) : m = n := by
  match m, n, hm, hn with
  | 0, 0, _, _ => rfl
  | 0, 1, _, _ => cases h
  | 0, 2, _, _ => cases h
  | 0, 3, _, _ => cases h
  | 1, 0, _, _ => cases h
  | 1, 1, _, _ => rfl
  | 1, 2, _, _ => cases h
  | 1, 3, _, _ => cases h
  | 2, 0, _, _ => cases h
  | 2, 1, _, _ => cases h
  | 2, 2, _, _ => rfl
  | 2, 3, _, _ => cases h
  | 3, 0, _, _ => cases h
  | 3, 1, _, _ => cases h
  | 3, 2, _, _ => cases h
  | 3, 3, _, _ => rfl
def pathF : Nat → Nat → Pth
  | 0, _ => []
  | d + 1, n => bif Nat.beq n 0 then [] else qOf ((n - 1) % 4) :: pathF d ((n - 1) / 4)
def path (n : Nat) : Pth := pathF (n + 1) n
def getP : Tr α → Pth → Option α
  | .nil, _ => none
  | .node _ _ _ _ v, [] => v
  | .node a _ _ _ _, .q0 :: p => a.getP p
  | .node _ b _ _ _, .q1 :: p => b.getP p
  | .node _ _ c _ _, .q2 :: p => c.getP p
  | .node _ _ _ d _, .q3 :: p => d.getP p
def setP : Pth → Tr α → α → Tr α
  | [], .nil, x => .node .nil .nil .nil .nil (some x)
  | [], .node a b c d _, x => .node a b c d (some x)
  | .q0 :: p, .nil, x => .node (setP p .nil x) .nil .nil .nil none
  | .q0 :: p, .node a b c d v, x => .node (setP p a x) b c d v
  | .q1 :: p, .nil, x => .node .nil (setP p .nil x) .nil .nil none
  | .q1 :: p, .node a b c d v, x => .node a (setP p b x) c d v
  | .q2 :: p, .nil, x => .node .nil .nil (setP p .nil x) .nil none
  | .q2 :: p, .node a b c d v, x => .node a b (setP p c x) d v
  | .q3 :: p, .nil, x => .node .nil .nil .nil (setP p .nil x) none
  | .q3 :: p, .node a b c d v, x => .node a b c (setP p d x) v
def get (t : Tr α) (n : Nat) : Option α := t.getP (path n)
def set (t : Tr α) (n : Nat) (x : α) : Tr α := setP (path n) t x
theorem beq_f {n m : Nat} (h : n ≠ m) : Nat.beq n m = false := by
  cases hb : Nat.beq n m
  · rfl
  · exact absurd (Nat.eq_of_beq_eq_true hb) h
theorem beq_t {n m : Nat} (h : n = m) : Nat.beq n m = true := h ▸ Nat.beq_refl n
theorem getP_setP : ∀ (p : Pth) (t : Tr α) (x : α) (q : Pth), (setP p t x).getP q = if q = p then some x else t.getP q := by
  intro p
  induction p with
  | nil =>
    intro t x q
    cases t <;> cases q <;> simp [setP, getP]
    all_goals (rename_i b _; cases b <;> simp [getP])
  | cons b p ih =>
    intro t x q
    cases t <;> cases q <;> cases b <;> simp only [setP]
    all_goals first
      | (simp [getP]; done)
      | (rename_i b' _; cases b' <;> simp [getP, ih])
theorem pathF_inj : ∀ (d : Nat) (n m : Nat), n < d → m < d → pathF d n = pathF d m → n = m := by
  intro d
  induction d with
  | zero => intro n m h; omega
  | succ d ih =>
    intro n m hn hm h
    unfold pathF at h
    by_cases n0 : n = 0 <;> by_cases m0 : m = 0
    · omega
    · subst n0
      rw [beq_f m0] at h
      simp at h
    · subst m0
      rw [beq_f n0] at h
      simp at h
    · rw [beq_f n0, beq_f m0] at h
      simp only [cond_false, List.cons.injEq] at h
      have h1 := qOf_inj (Nat.mod_lt _ (by omega)) (Nat.mod_lt _ (by omega)) h.1
      have h2 := ih _ _ (by omega) (by omega) h.2
      omega
theorem pathF_fuel : ∀ (d e : Nat) (n : Nat), n < d → n < e → pathF d n = pathF e n := by
  intro d
  induction d with
  | zero => intro e n h; omega
  | succ d ih =>
    intro e n h1 h2
    cases e with
    | zero => omega
    | succ e =>
      unfold pathF
      by_cases h0 : n = 0
      · subst h0; rfl
      · rw [ih e ((n - 1) / 4) (by omega) (by omega)]
theorem path_inj {n m : Nat} (h : path n = path m) : n = m := by
  unfold path at h
  rw [pathF_fuel (n + 1) (n + m + 1) n (by omega) (by omega), pathF_fuel (m + 1) (n + m + 1) m (by omega) (by omega)] at h
  exact pathF_inj _ _ _ (by omega) (by omega) h
theorem get_set (t : Tr α) (n : Nat) (x : α) (k : Nat) : (t.set n x).get k = if k = n then some x else t.get k := by
  unfold get set
  rw [getP_setP]
  by_cases h : k = n
  · subst h; simp
  · rw [if_neg h, if_neg fun e => h (path_inj e)]
theorem get_set_same (t : Tr α) (n : Nat) (x : α) : (t.set n x).get n = some x := by rw [get_set, if_pos rfl]
theorem get_set_ne (t : Tr α) {n k : Nat} (x : α) (h : k ≠ n) : (t.set n x).get k = t.get k := by rw [get_set, if_neg h]
theorem getP_eq (t : Tr α) (n : Nat) : t.getP (path n) = t.get n := rfl
theorem get_setP (t : Tr α) (n : Nat) (x : α) (k : Nat) : (setP (path n) t x).get k = if k = n then some x else t.get k := get_set t n x k
theorem get_nil (k : Nat) : (nil : Tr α).get k = none := by unfold get; simp [getP]
end Tr
/-- An abstract value. -/
inductive AV where
  | bool (b : Bool)
  | int (k : IntKind) (n : Int)
  | str (s : List UInt8)
  | nilp
  | ptr (g e i : Nat)
  | vptr (row : List AV) (i : Nat)
  | nils
  | zslc
  | slc (g e i len z : Nat)
  | vals (z : Nat) (rows : List (List AV))
  | fn (f : Fn) (cap : List AV)
  | nilf
  | nili
  | nilm
  | mapp (g : Nat)
  | iface (t : TypeId) (v : AV)
  | agg (cs : List AV)
  | tup (cs : List AV)
  | und
/-- What is known of memory and of the groups: cells that stand for good; where a group of an age lies (block, first cell, the block's size). -/
structure Gh where
  M : Nat → Nat → Option Value
  mu : Nat → Nat → Option (Nat × Nat × Nat)
  mm : Nat → Option Nat
mutual
def VR (G : Gh) : AV → Value → Prop
  | .bool b, v => v = .bool b
  | .int k n, v => v = .int k n
  | .str s, v => v = .string ⟨s.toArray⟩
  | .nilp, v => v = .pointer none
  | .ptr g e i, v => ∃ b o n, G.mu g e = some (b, o, n) ∧ v = .pointer (some ⟨b, o + i, none⟩)
  | .vptr row i, v => ∃ b o, v = .pointer (some ⟨b, o + i, none⟩) ∧ VRow G row b o
  | .nils, v => v = .slice none 0 0
  | .zslc, v => ∃ a, v = .slice a 0 0
  | .slc g e i len z, v => ∃ b o n cap, G.mu g e = some (b, o, n) ∧ v = .slice (some ⟨b, o + i, none⟩) len cap ∧ len ≤ cap ∧ o + i + cap * z ≤ n
  | .vals z rows, v => ∃ a cap, v = .slice a rows.length cap ∧ rows.length ≤ cap ∧ (rows = [] ∨ ∃ b o, a = some ⟨b, o, none⟩ ∧ VRows G z rows b o)
  | .fn f cap, v => ∃ cs : Array Value, v = .func f #[] cs ∧ VRs G cap cs.toList
  | .nilf, v => v = .nilFunc
  | .nili, v => v = .nilIface
  | .nilm, v => v = .map none
  | .mapp g, v => ∃ b, G.mm g = some b ∧ v = .map (some b)
  | .iface t x, v => ∃ u, v = .iface t u ∧ VR G x u
  | .agg cs, v => ∃ us : Array Value, v = .agg us ∧ VRs G cs us.toList
  | .tup cs, v => ∃ us : Array Value, v = .tuple us ∧ VRs G cs us.toList
  | .und, v => v = undef
def VRs (G : Gh) : List AV → List Value → Prop
  | [], vs => vs = []
  | x :: xs, vs => ∃ u us, vs = u :: us ∧ VR G x u ∧ VRs G xs us
def VRow (G : Gh) : List AV → Nat → Nat → Prop
  | [], _, _ => True
  | x :: xs, b, o => (∃ u, G.M b o = some u ∧ VR G x u) ∧ VRow G xs b (o + 1)
def VRows (G : Gh) (z : Nat) : List (List AV) → Nat → Nat → Prop
  | [], _, _ => True
  | r :: rs, b, o => r.length = z ∧ VRow G r b o ∧ VRows G z rs b (o + z)
end
/-- More is known. -/
structure Gh.le (G G' : Gh) : Prop where
  M : ∀ b o v, G.M b o = some v → G'.M b o = some v
  mu : ∀ g e x, G.mu g e = some x → G'.mu g e = some x
  mm : ∀ g x, G.mm g = some x → G'.mm g = some x
theorem Gh.le.refl (G : Gh) : G.le G := ⟨fun _ _ _ h => h, fun _ _ _ h => h, fun _ _ h => h⟩
theorem Gh.le.trans {A B C : Gh} (h : A.le B) (k : B.le C) : A.le C := ⟨fun b o v x => k.M b o v (h.M b o v x), fun g e v x => k.mu g e v (h.mu g e v x), fun g v x => k.mm g v (h.mm g v x)⟩
mutual
theorem VR.mono {G G' : Gh} (h : G.le G') : ∀ (x : AV) (v : Value), VR G x v → VR G' x v
  | .bool b, v, hv => hv
  | .int k n, v, hv => hv
  | .str s, v, hv => hv
  | .nilp, v, hv => hv
  | .ptr g e i, v, hv => by
    simp only [VR] at hv ⊢
    obtain ⟨b, o, n, h1, h2⟩ := hv
    exact ⟨b, o, n, h.mu _ _ _ h1, h2⟩
  | .vptr row i, v, hv => by
    simp only [VR] at hv ⊢
    obtain ⟨b, o, h1, h2⟩ := hv
    exact ⟨b, o, h1, VRow.mono h row b o h2⟩
  | .nils, v, hv => hv
  | .zslc, v, hv => hv
  | .slc g e i len z, v, hv => by
    simp only [VR] at hv ⊢
    obtain ⟨b, o, n, c, h1, h2⟩ := hv
    exact ⟨b, o, n, c, h.mu _ _ _ h1, h2⟩
  | .vals z rows, v, hv => by
    simp only [VR] at hv ⊢
    obtain ⟨a, cap, h1, h0, h2⟩ := hv
    refine ⟨a, cap, h1, h0, ?_⟩
    rcases h2 with h2 | ⟨b, o, h2, h3⟩
    · exact .inl h2
    · exact .inr ⟨b, o, h2, VRows.mono h z rows b o h3⟩
  | .fn f cap, v, hv => by
    simp only [VR] at hv ⊢
    obtain ⟨cs, h1, h2⟩ := hv
    exact ⟨cs, h1, VRs.mono h cap _ h2⟩
  | .nilf, v, hv => hv
  | .nili, v, hv => hv
  | .nilm, v, hv => hv
  | .mapp g, v, hv => by
    simp only [VR] at hv ⊢
    obtain ⟨b, h1, h2⟩ := hv
    exact ⟨b, h.mm _ _ h1, h2⟩
  | .iface t x, v, hv => by
    simp only [VR] at hv ⊢
    obtain ⟨u, h1, h2⟩ := hv
    exact ⟨u, h1, VR.mono h x u h2⟩
  | .agg cs, v, hv => by
    simp only [VR] at hv ⊢
    obtain ⟨us, h1, h2⟩ := hv
    exact ⟨us, h1, VRs.mono h cs _ h2⟩
  | .tup cs, v, hv => by
    simp only [VR] at hv ⊢
    obtain ⟨us, h1, h2⟩ := hv
    exact ⟨us, h1, VRs.mono h cs _ h2⟩
  | .und, v, hv => hv
theorem VRs.mono {G G' : Gh} (h : G.le G') : ∀ (xs : List AV) (vs : List Value), VRs G xs vs → VRs G' xs vs
  | [], vs, hv => hv
  | x :: xs, vs, hv => by
    simp only [VRs] at hv ⊢
    obtain ⟨u, us, h1, h2, h3⟩ := hv
    exact ⟨u, us, h1, VR.mono h x u h2, VRs.mono h xs us h3⟩
theorem VRow.mono {G G' : Gh} (h : G.le G') : ∀ (xs : List AV) (b o : Nat), VRow G xs b o → VRow G' xs b o
  | [], b, o, hv => hv
  | x :: xs, b, o, hv => by
    simp only [VRow] at hv ⊢
    obtain ⟨⟨u, h1, h2⟩, h3⟩ := hv
    exact ⟨⟨u, h.M _ _ _ h1, VR.mono h x u h2⟩, VRow.mono h xs b (o + 1) h3⟩
theorem VRows.mono {G G' : Gh} (h : G.le G') (z : Nat) : ∀ (rs : List (List AV)) (b o : Nat), VRows G z rs b o → VRows G' z rs b o
  | [], b, o, hv => by simp only [VRows]
  | r :: rs, b, o, hv => by
    simp only [VRows] at hv ⊢
    exact ⟨hv.1, VRow.mono h r b o hv.2.1, VRows.mono h z rs b _ hv.2.2⟩
end
end Go.Abs
