/- How a world bears the groups. -/
import Derived.Test.YtcnnobcncklgfaaGreatDoorAbsDefs
import Derived.Laws.IdiomCopy
namespace Go.Abs
open Go Go.RowKit
set_option linter.unusedVariables false
/-- A group: its age, how many of its first cells stand for good, its cells. -/
structure Grp where
  e : Nat
  fz : Nat
  cells : List AV
structure AH where
  next : Nat
  gs : Tr Grp
  ms : Tr (List (AV × AV))
def AH.empty : AH := ⟨0, .nil, .nil⟩
/-- What does not change: below which block all is as it was, the first world, what stood for good at first. -/
structure Kx where
  B : Nat
  w0 : World
  M0 : Nat → Nat → Option Value
structure GrpAt (K : Kx) (G : Gh) (w : World) (g : Nat) (r : Grp) (b o n : Nat) (cs : Array Value) (t : TypeId) : Prop where
  mu : G.mu g r.e = some (b, o, n)
  low : K.B ≤ b
  heap : w.heap[b]? = some (.cells cs t (0, 0))
  size : cs.size = n
  cell : ∀ (i : Nat) (x : AV), r.cells[i]? = some x → ∃ u, cs[o + i]? = some u ∧ VR G x u ∧ u.oneCell' = true
  free : ∀ j, o + r.fz ≤ j → G.M b j = none
/-- A map's entries. -/
def ERel (G : Gh) : List (AV × AV) → List MapEntry → Prop
  | [], l => l = []
  | (k, x) :: es, l => ∃ e l', l = e :: l' ∧ VR G k e.key ∧ VR G x e.val ∧ ERel G es l'
theorem ERel.mono {G G' : Gh} (h : G.le G') : ∀ {es : List (AV × AV)} {l : List MapEntry}, ERel G es l → ERel G' es l
  | [], l, hr => hr
  | (k, x) :: es, l, hr => by
    simp only [ERel] at hr ⊢
    obtain ⟨e, l', h1, h2, h3, h4⟩ := hr
    exact ⟨e, l', h1, VR.mono h _ _ h2, VR.mono h _ _ h3, ERel.mono h h4⟩
structure MapAt (K : Kx) (G : Gh) (w : World) (g : Nat) (es : List (AV × AV)) (b : Nat) (l : Array MapEntry) (c : Nat) : Prop where
  mm : G.mm g = some b
  low : K.B ≤ b
  heap : w.heap[b]? = some (.map l c)
  ents : ERel G es l.toList
structure HRel (K : Kx) (G : Gh) (H : AH) (w : World) : Prop where
  below : Below K.B K.w0 w
  hB : K.B ≤ w.heap.size
  mem : ∀ b o v, G.M b o = some v → w.cell? ⟨b, o, none⟩ = some v
  ones : ∀ b o v, G.M b o = some v → v.oneCell' = true
  old : ∀ b o, b < K.B → G.M b o = K.M0 b o
  grp : ∀ g r, H.gs.get g = some r → ∃ b o n cs t, GrpAt K G w g r b o n cs t
  apart : ∀ g g' r r' b o n b' o' n', H.gs.get g = some r → H.gs.get g' = some r' → g ≠ g' → G.mu g r.e = some (b, o, n) → G.mu g' r'.e = some (b', o', n') → b ≠ b'
  fresh : ∀ g, H.gs.get g = none → ∀ e, G.mu g e = none
  maps : ∀ g es, H.ms.get g = some es → ∃ b l c, MapAt K G w g es b l c
  mapart : ∀ g g' es es' b b', H.ms.get g = some es → H.ms.get g' = some es' → g ≠ g' → G.mm g = some b → G.mm g' = some b' → b ≠ b'
  mfresh : ∀ g, H.ms.get g = none → G.mm g = none
  ages : ∀ g r e, H.gs.get g = some r → r.e < e → G.mu g e = none
theorem cell_lt {w : World} {b o : Nat} {v : Value} (h : w.cell? ⟨b, o, none⟩ = some v) : b < w.heap.size := by
  have := World.block_lt_of_cell? w _ h
  exact this
theorem get_lt {w : World} {b : Nat} {x : Obj} (h : w.heap[b]? = some x) : b < w.heap.size := by
  rcases Nat.lt_or_ge b w.heap.size with h' | h'
  · exact h'
  · rw [Array.getElem?_eq_none h'] at h; cases h
theorem cell_of {w : World} {b : Nat} {cs : Array Value} {t : TypeId} {f : Nat × Nat} (h : w.heap[b]? = some (.cells cs t f)) (o : Nat) : w.cell? ⟨b, o, none⟩ = cs[o]? := by
  simp [World.cell?, h]
theorem VRs.len {G : Gh} : ∀ {xs : List AV} {vs : List Value}, VRs G xs vs → vs.length = xs.length
  | [], vs, h => by simp only [VRs] at h; subst h; rfl
  | x :: xs, vs, h => by
    simp only [VRs] at h
    obtain ⟨u, us, rfl, -, h⟩ := h
    simp [h.len]
theorem VRs.get {G : Gh} : ∀ {xs : List AV} {vs : List Value}, VRs G xs vs → ∀ (i : Nat) (x : AV), xs[i]? = some x → ∃ u, vs[i]? = some u ∧ VR G x u
  | [], vs, h, i, x, hi => by simp at hi
  | y :: xs, vs, h, i, x, hi => by
    simp only [VRs] at h
    obtain ⟨u, us, rfl, h1, h2⟩ := h
    cases i with
    | zero => simp at hi; subst hi; exact ⟨u, rfl, h1⟩
    | succ i => simp at hi; simpa using h2.get i x hi
theorem VRs.of_get {G : Gh} : ∀ {xs : List AV} {vs : List Value}, vs.length = xs.length → (∀ (i : Nat) (x : AV), xs[i]? = some x → ∃ u, vs[i]? = some u ∧ VR G x u) → VRs G xs vs
  | [], vs, hl, h => by simp only [VRs]; exact List.eq_nil_of_length_eq_zero hl
  | x :: xs, vs, hl, h => by
    obtain ⟨u, hu, hx⟩ := h 0 x rfl
    cases vs with
    | nil => simp at hu
    | cons v vs =>
      simp at hu; subst hu
      simp only [VRs]
      exact ⟨v, vs, rfl, hx, VRs.of_get (by simpa using hl) fun i y hy => by have := h (i + 1) y (by simpa using hy); simpa using this⟩
theorem VRow.get {G : Gh} : ∀ {xs : List AV} {b o : Nat}, VRow G xs b o → ∀ (i : Nat) (x : AV), xs[i]? = some x → ∃ u, G.M b (o + i) = some u ∧ VR G x u
  | [], b, o, h, i, x, hi => by simp at hi
  | y :: xs, b, o, h, i, x, hi => by
    simp only [VRow] at h
    obtain ⟨⟨u, h1, h2⟩, h3⟩ := h
    cases i with
    | zero => simp at hi; subst hi; exact ⟨u, h1, h2⟩
    | succ i =>
      simp at hi
      obtain ⟨u', h4, h5⟩ := h3.get i x hi
      exact ⟨u', by rw [← h4]; congr 1; omega, h5⟩
theorem VRow.of_get {G : Gh} : ∀ {xs : List AV} {b o : Nat}, (∀ (i : Nat) (x : AV), xs[i]? = some x → ∃ u, G.M b (o + i) = some u ∧ VR G x u) → VRow G xs b o
  | [], b, o, h => by simp only [VRow]
  | x :: xs, b, o, h => by
    simp only [VRow]
    refine ⟨by simpa using h 0 x rfl, VRow.of_get fun i y hy => ?_⟩
    obtain ⟨u, h1, h2⟩ := h (i + 1) y (by simpa using hy)
    exact ⟨u, by rw [← h1]; congr 1; omega, h2⟩
theorem heap_set (w : World) (b o : Nat) (v : Value) (cs : Array Value) (t : TypeId) (f : Nat × Nat) (h : w.heap[b]? = some (.cells cs t f)) : (w.setCell ⟨b, o, none⟩ v).heap[b]? = some (.cells (cs.setIfInBounds o v) t f) := by
  simp [World.setCell, Array.getElem?_modify, h]
theorem heap_sets_ne (b k : Nat) (hk : k ≠ b) : ∀ (vs : List Value) (o : Nat) (w : World), (w.setCells b o vs).heap[k]? = w.heap[k]?
  | [], o, w => rfl
  | v :: vs, o, w => by
    rw [World.setCells, heap_sets_ne b k hk vs]
    exact Below.heap_setCell _ _ _ _ hk
theorem heap_sets_size (b : Nat) : ∀ (vs : List Value) (o : Nat) (w : World), (w.setCells b o vs).heap.size = w.heap.size
  | [], o, w => rfl
  | v :: vs, o, w => by
    rw [World.setCells, heap_sets_size b vs]
    simp [World.setCell]
theorem heap_sets (b : Nat) (t : TypeId) (f : Nat × Nat) : ∀ (vs : List Value) (o : Nat) (w : World) (cs : Array Value), w.heap[b]? = some (.cells cs t f) → o + vs.length ≤ cs.size →
    ∃ cs', (w.setCells b o vs).heap[b]? = some (.cells cs' t f) ∧ cs'.size = cs.size ∧ ∀ j, cs'[j]? = if o ≤ j ∧ j < o + vs.length then vs[j - o]? else cs[j]?
  | [], o, w, cs, h, hl => ⟨cs, h, rfl, fun j => by rw [if_neg (by simp)]⟩
  | v :: vs, o, w, cs, h, hl => by
    simp at hl
    obtain ⟨cs', h1, h2, h3⟩ := heap_sets b t f vs (o + 1) (w.setCell ⟨b, o, none⟩ v) (cs.setIfInBounds o v) (heap_set w b o v cs t f h) (by simp; omega)
    refine ⟨cs', h1, by simpa using h2, fun j => ?_⟩
    rw [h3]
    by_cases hj : o + 1 ≤ j ∧ j < o + 1 + vs.length
    · rw [if_pos hj, if_pos (by simp; omega)]
      rw [show j - o = (j - (o + 1)) + 1 by omega]
      simp
    · rw [if_neg hj]
      by_cases he : j = o
      · subst he
        rw [if_pos (by simp)]
        simp [Array.getElem?_setIfInBounds]
        omega
      · rw [if_neg (by simp; omega)]
        rw [Array.getElem?_setIfInBounds, if_neg (Ne.symm he)]
theorem below_sets {B b : Nat} {a : World} (hb : B ≤ b) : ∀ (vs : List Value) (o : Nat) (w : World), Below B a w → Below B a (w.setCells b o vs)
  | [], o, w, h => h
  | v :: vs, o, w, h => by
    rw [World.setCells]
    exact below_sets hb vs _ _ (h.setCell (p := ⟨b, o, none⟩) hb v)
/-- A draw changes nothing here. -/
theorem HRel.drawn {K : Kx} {G : Gh} {H : AH} {w : World} (h : HRel K G H w) (d : Nat) : HRel K G H { w with drawn := d } where
  below := h.below.trans ⟨rfl, rfl, rfl, Nat.le_refl _, fun _ _ => rfl⟩
  hB := h.hB
  mem := h.mem
  ones := h.ones
  old := h.old
  grp := fun g r hg => by
    obtain ⟨b, o, n, cs, t, q⟩ := h.grp g r hg
    exact ⟨b, o, n, cs, t, q.mu, q.low, q.heap, q.size, q.cell, q.free⟩
  apart := h.apart
  fresh := h.fresh
  maps := fun g es hg => by
    obtain ⟨b, l, c, q⟩ := h.maps g es hg
    exact ⟨b, l, c, q.mm, q.low, q.heap, q.ents⟩
  mapart := h.mapart
  mfresh := h.mfresh
  ages := h.ages
/-- What was known, and where a new group lies. -/
def Gh.put (G : Gh) (g e : Nat) (p : Nat × Nat × Nat) : Gh := ⟨G.M, fun g' e' => if g' = g ∧ e' = e then some p else G.mu g' e', G.mm⟩
theorem Gh.put_le {G : Gh} {g e : Nat} {p : Nat × Nat × Nat} (h : G.mu g e = none) : G.le (G.put g e p) :=
  ⟨fun _ _ _ h => h, fun g' e' x hx => by
    simp only [Gh.put]
    by_cases hc : g' = g ∧ e' = e
    · rw [hc.1, hc.2, h] at hx; cases hx
    · rw [if_neg hc]; exact hx, fun _ _ h => h⟩
theorem Gh.put_same (G : Gh) (g e : Nat) (p : Nat × Nat × Nat) : (G.put g e p).mu g e = some p := by simp [Gh.put]
theorem Gh.put_ne (G : Gh) {g e g' e' : Nat} (p : Nat × Nat × Nat) (h : g' ≠ g ∨ e' ≠ e) : (G.put g e p).mu g' e' = G.mu g' e' := by
  simp only [Gh.put]
  rw [if_neg (by rcases h with h | h <;> simp [h])]
/-- A new block becomes a new group. -/
def AH.add (H : AH) (xs : List AV) : AH := ⟨H.next + 1, H.gs.set H.next ⟨0, 0, xs⟩, H.ms⟩
/-- A block behind all that was, in a world that kept what was, becomes a group of an age not met. -/
theorem HRel.newBlock {K : Kx} {G : Gh} {H : AH} {w w' : World} (h : HRel K G H w) {g e fz : Nat} {xs : List AV} {cs : Array Value} {t : TypeId} {nx : Nat}
    (hb : Below w.heap.size w w') (hw : w'.heap[w.heap.size]? = some (.cells cs t (0, 0))) (hx : ∀ (i : Nat) (x : AV), xs[i]? = some x → ∃ u, cs[i]? = some u ∧ VR G x u ∧ u.oneCell' = true)
    (hnew : G.mu g e = none) (hage : ∀ e', e < e' → G.mu g e' = none) :
    HRel K (G.put g e (w.heap.size, 0, cs.size)) ⟨nx, H.gs.set g ⟨e, fz, xs⟩, H.ms⟩ w' := by
  have hle := Gh.put_le (p := (w.heap.size, 0, cs.size)) hnew
  have hMlt : ∀ b o v, G.M b o = some v → b < w.heap.size := fun b o v hv => cell_lt (h.mem b o v hv)
  refine ⟨h.below.trans (hb.mono h.hB), Nat.le_trans h.hB hb.size, ?_, h.ones, h.old, ?_, ?_, ?_, ?_, h.mapart, h.mfresh, ?_⟩
  · intro b o v hv
    have := h.mem b o v hv
    rw [← this]
    exact World.cell?_of_block (hb.block b (hMlt b o v hv))
  · intro g' r hr
    rw [Tr.get_set] at hr
    by_cases hgg : g' = g
    · rw [if_pos hgg] at hr
      cases hr
      subst hgg
      refine ⟨w.heap.size, 0, cs.size, cs, t, Gh.put_same _ _ _ _, h.hB, hw, rfl, fun i x hi => ?_, fun j _ => ?_⟩
      · obtain ⟨u, h1, h2, h3⟩ := hx i x hi
        exact ⟨u, by simpa using h1, VR.mono hle _ _ h2, h3⟩
      · cases hM : (G.put g' e (w.heap.size, 0, cs.size)).M w.heap.size j with
        | none => rfl
        | some v => exact absurd (hMlt _ _ _ hM) (Nat.lt_irrefl _)
    · rw [if_neg hgg] at hr
      obtain ⟨b, o, n, c, ty, q⟩ := h.grp g' r hr
      have hbl := get_lt q.heap
      exact ⟨b, o, n, c, ty, by rw [Gh.put_ne _ _ (.inl hgg)]; exact q.mu, q.low, by rw [hb.block b hbl]; exact q.heap, q.size,
        fun i x hi => by obtain ⟨u, h1, h2, h3⟩ := q.cell i x hi; exact ⟨u, h1, VR.mono hle _ _ h2, h3⟩, q.free⟩
  · intro g1 g2 r1 r2 b1 o1 n1 b2 o2 n2 h1 h2 hne hm1 hm2
    rw [Tr.get_set] at h1 h2
    by_cases e1 : g1 = g
    · rw [if_pos e1] at h1
      have e2 : ¬ g2 = g := fun e2 => hne (e1.trans e2.symm)
      rw [if_neg e2] at h2
      cases h1
      subst e1
      rw [Gh.put_same] at hm1
      rw [Gh.put_ne _ _ (.inl e2)] at hm2
      cases hm1
      obtain ⟨b, o, n, c, ty, q⟩ := h.grp g2 r2 h2
      have := get_lt q.heap
      rw [q.mu] at hm2; cases hm2
      omega
    · rw [if_neg e1] at h1
      rw [Gh.put_ne _ _ (.inl e1)] at hm1
      by_cases e2 : g2 = g
      · rw [if_pos e2] at h2
        cases h2
        subst e2
        rw [Gh.put_same] at hm2
        cases hm2
        obtain ⟨b, o, n, c, ty, q⟩ := h.grp g1 r1 h1
        have := get_lt q.heap
        rw [q.mu] at hm1; cases hm1
        omega
      · rw [if_neg e2] at h2
        rw [Gh.put_ne _ _ (.inl e2)] at hm2
        exact h.apart g1 g2 r1 r2 _ _ _ _ _ _ h1 h2 hne hm1 hm2
  · intro g' hg' e'
    rw [Tr.get_set] at hg'
    by_cases hgg : g' = g
    · rw [if_pos hgg] at hg'; cases hg'
    · rw [if_neg hgg] at hg'
      rw [Gh.put_ne _ _ (.inl hgg)]; exact h.fresh g' hg' e'
  · intro g' es hg'
    obtain ⟨b, l, c, q⟩ := h.maps g' es hg'
    exact ⟨b, l, c, q.mm, q.low, by rw [hb.block b (get_lt q.heap)]; exact q.heap, q.ents.mono hle⟩
  · intro g' r e' hr he'
    rw [Tr.get_set] at hr
    by_cases hgg : g' = g
    · rw [if_pos hgg] at hr
      cases hr
      rw [Gh.put_ne _ _ (.inr (Nat.ne_of_gt he')), hgg]
      exact hage e' he'
    · rw [if_neg hgg] at hr
      rw [Gh.put_ne _ _ (.inl hgg)]
      exact h.ages g' r e' hr he'
/-- Cells of a group's block are set: the group is of an age from there on that may be another. -/
theorem HRel.sets {K : Kx} {G : Gh} {H : AH} {w : World} (h : HRel K G H w) {g : Nat} {r r' : Grp} {b o n : Nat} {cs : Array Value} {t : TypeId} (q : GrpAt K G w g r b o n cs t) (hr : H.gs.get g = some r)
    {p : Nat} {vs : List Value} (hfit : p + vs.length ≤ n) (hp : o + r.fz ≤ p) {o' : Nat} {G' : Gh}
    (hG' : (G' = G ∧ r'.e = r.e ∧ o' = o) ∨ (G' = G.put g r'.e (b, o', n) ∧ r.e < r'.e)) (hfz : o + r.fz ≤ o' + r'.fz)
    (hcell : ∀ (i : Nat) (x : AV), r'.cells[i]? = some x → ∃ u, VR G x u ∧ (if p ≤ o' + i ∧ o' + i < p + vs.length then vs[o' + i - p]? else cs[o' + i]?) = some u ∧ u.oneCell' = true) :
    G.le G' ∧ HRel K G' ⟨H.next, H.gs.set g r', H.ms⟩ (w.setCells b p vs) := by
  have hle : G.le G' := by
    rcases hG' with ⟨rfl, _, _⟩ | ⟨rfl, he⟩
    · exact Gh.le.refl _
    · exact Gh.put_le (h.ages g r _ hr he)
  have hM : ∀ b' j, G'.M b' j = G.M b' j := by
    rcases hG' with ⟨rfl, _, _⟩ | ⟨rfl, _⟩ <;> intro b' j <;> rfl
  have hmu : G'.mu g r'.e = some (b, o', n) := by
    rcases hG' with ⟨rfl, he, ho⟩ | ⟨rfl, _⟩
    · rw [he, ho]; exact q.mu
    · exact Gh.put_same _ _ _ _
  have hmune : ∀ g' e', g' ≠ g → G'.mu g' e' = G.mu g' e' := by
    rcases hG' with ⟨rfl, _, _⟩ | ⟨rfl, _⟩
    · intro g' e' _; rfl
    · intro g' e' hne; exact Gh.put_ne _ _ (.inl hne)
  obtain ⟨cs', hw', hs', hc'⟩ := heap_sets b t (0, 0) vs p w cs q.heap (by rw [q.size]; exact hfit)
  have hmm : G'.mm = G.mm := by
    rcases hG' with ⟨rfl, _, _⟩ | ⟨rfl, _⟩ <;> rfl
  refine ⟨hle, below_sets q.low vs p w h.below, by rw [heap_sets_size]; exact h.hB, ?_, fun b' j v hv => h.ones b' j v (by rw [← hM]; exact hv), fun b' j hb' => by rw [hM]; exact h.old b' j hb', ?_, ?_, ?_, ?_, fun g1 g2 e1 e2 b1 b2 k1 k2 k3 k4 k5 => h.mapart g1 g2 e1 e2 b1 b2 k1 k2 k3 (by rw [← hmm]; exact k4) (by rw [← hmm]; exact k5), fun g1 k1 => by rw [hmm]; exact h.mfresh g1 k1, ?_⟩
  · intro b' j v hv
    rw [hM] at hv
    have hm := h.mem b' j v hv
    by_cases hb : b' = b
    · subst hb
      have hj : j < p := by
        rcases Nat.lt_or_ge j p with h' | h'
        · exact h'
        · rw [q.free j (by omega)] at hv; cases hv
      rw [cell_of hw', hc', if_neg (by omega), ← cell_of q.heap]
      exact hm
    · rw [World.cell?_of_block (w := w) (heap_sets_ne b b' hb vs p w)]; exact hm
  · intro g' x hx
    rw [Tr.get_set] at hx
    by_cases hgg : g' = g
    · rw [if_pos hgg] at hx
      cases hx
      subst hgg
      refine ⟨b, o', n, cs', t, hmu, q.low, hw', by rw [hs']; exact q.size, fun i x hi => ?_, fun j hj => by rw [hM]; exact q.free j (by omega)⟩
      obtain ⟨u, h1, h2, h3⟩ := hcell i x hi
      exact ⟨u, by rw [hc']; exact h2, VR.mono hle _ _ h1, h3⟩
    · rw [if_neg hgg] at hx
      obtain ⟨b2, o2, n2, c2, t2, q2⟩ := h.grp g' x hx
      have hbb : b2 ≠ b := h.apart g' g x r _ _ _ _ _ _ hx hr hgg q2.mu q.mu
      exact ⟨b2, o2, n2, c2, t2, by rw [hmune _ _ hgg]; exact q2.mu, q2.low, by rw [heap_sets_ne b b2 hbb]; exact q2.heap, q2.size,
        fun i y hi => by obtain ⟨u, h1, h2, h3⟩ := q2.cell i y hi; exact ⟨u, h1, VR.mono hle _ _ h2, h3⟩, fun j hj => by rw [hM]; exact q2.free j hj⟩
  · intro g1 g2 r1 r2 b1 o1 n1 b2 o2 n2 h1 h2 hne hm1 hm2
    rw [Tr.get_set] at h1 h2
    by_cases e1 : g1 = g
    · rw [if_pos e1] at h1
      have e2 : ¬ g2 = g := fun e2 => hne (e1.trans e2.symm)
      rw [if_neg e2] at h2
      cases h1
      subst e1
      rw [hmu] at hm1
      rw [hmune _ _ e2] at hm2
      cases hm1
      exact h.apart g1 g2 r r2 _ _ _ _ _ _ hr h2 hne q.mu hm2
    · rw [if_neg e1] at h1
      rw [hmune _ _ e1] at hm1
      by_cases e2 : g2 = g
      · rw [if_pos e2] at h2
        cases h2
        subst e2
        rw [hmu] at hm2
        cases hm2
        exact h.apart g1 g2 r1 r _ _ _ _ _ _ h1 hr hne hm1 q.mu
      · rw [if_neg e2] at h2
        rw [hmune _ _ e2] at hm2
        exact h.apart g1 g2 r1 r2 _ _ _ _ _ _ h1 h2 hne hm1 hm2
  · intro g' hg' e'
    rw [Tr.get_set] at hg'
    by_cases hgg : g' = g
    · rw [if_pos hgg] at hg'; cases hg'
    · rw [if_neg hgg] at hg'
      rw [hmune _ _ hgg]; exact h.fresh g' hg' e'
  · intro g' es hg'
    obtain ⟨b2, l, c, q2⟩ := h.maps g' es hg'
    have hbb : b2 ≠ b := by
      intro e
      have h1 := q2.heap
      rw [e, q.heap] at h1
      cases h1
    exact ⟨b2, l, c, by rw [hmm]; exact q2.mm, q2.low, by rw [heap_sets_ne b b2 hbb]; exact q2.heap, q2.ents.mono hle⟩
  · intro g' x e' hx he'
    rw [Tr.get_set] at hx
    by_cases hgg : g' = g
    · rw [if_pos hgg] at hx
      cases hx
      subst hgg
      rcases hG' with ⟨rfl, he, _⟩ | ⟨rfl, he⟩
      · exact h.ages g' r e' hr (by omega)
      · rw [Gh.put_ne _ _ (.inr (by omega))]; exact h.ages g' r e' hr (by omega)
    · rw [if_neg hgg] at hx
      rw [hmune _ _ hgg]; exact h.ages g' x e' hx he'
end Go.Abs
