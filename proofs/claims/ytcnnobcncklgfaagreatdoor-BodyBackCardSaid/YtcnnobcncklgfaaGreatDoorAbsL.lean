/- Contracts that stand in for what is not carried out.   What a call answers, kept for good.   What a call answers, kept for good: values whose rows stand for good too. -/
import Derived.Test.YtcnnobcncklgfaaGreatDoorAbsK
namespace Go.Abs
open Go Go.RowKit
set_option linter.unusedVariables false
/-- What is there stays as it is. -/
theorem HRel.stay {K : Kx} {G : Gh} {H : AH} {w w' : World} (h : HRel K G H w) (hb : Below w.heap.size w w') : HRel K G H w' :=
  ⟨h.below.trans (hb.mono h.hB), Nat.le_trans h.hB hb.size, fun b o v hv => by
    rw [← h.mem b o v hv]
    exact World.cell?_of_block (hb.block b (cell_lt (h.mem b o v hv))), h.ones, h.old, fun g r hr => by
      obtain ⟨b, o, n, cs, t, q⟩ := h.grp g r hr
      exact ⟨b, o, n, cs, t, q.mu, q.low, by rw [hb.block b (get_lt q.heap)]; exact q.heap, q.size, q.cell, q.free⟩, h.apart, h.fresh, fun g es hg => by
      obtain ⟨b, l, c, q⟩ := h.maps g es hg
      exact ⟨b, l, c, q.mm, q.low, by rw [hb.block b (get_lt q.heap)]; exact q.heap, q.ents⟩, h.mapart, h.mfresh, h.ages⟩
/-- A contract of the walks. -/
theorem ACalls.of_calls {P : Program} {f : FuncId} {args : List AV} {H : AH} {x : AV} (h : ∀ (G : Gh) (vs : Array Value) (w : World), VRs G args vs.toList → Calls P f vs w fun e w' => ∃ u, e = .returned u ∧ (∀ G : Gh, VR G x u) ∧ Below w.heap.size w w') :
    ACalls P f args H fun y H' => y = x ∧ H' = H := fun K G vs w hr hv =>
  (h G vs w hv).mono fun e w' ⟨u, h1, h2, h3⟩ => ⟨u, x, G, H, h1, Gh.le.refl _, hr.stay h3, h2 G, rfl, rfl⟩
/-- All that is there, as it is. -/
def allG (w : World) : Gh := ⟨fun b o => match w.cell? ⟨b, o, none⟩ with | some v => if v.oneCell' = true then some v else none | none => none, fun _ _ => none, fun _ => none⟩
theorem allG_rel (w : World) : HRel ⟨w.heap.size, w, (allG w).M⟩ (allG w) AH.empty w := by
  refine ⟨Below.refl _ _, Nat.le_refl _, ?_, ?_, fun _ _ _ => rfl, ?_, ?_, fun _ _ _ => rfl, ?_, ?_, fun _ _ => rfl, ?_⟩
  · intro b o v hv
    simp only [allG] at hv
    split at hv
    · rename_i u hu
      split at hv
      · cases hv; exact hu
      · cases hv
    · cases hv
  · intro b o v hv
    simp only [allG] at hv
    split at hv
    · split at hv
      · rename_i ho; cases hv; exact ho
      · cases hv
    · cases hv
  · intro g r hg; rw [show AH.empty.gs.get g = none from Tr.get_nil g] at hg; cases hg
  · intro g g' r r' b o n b' o' n' hg; rw [show AH.empty.gs.get g = none from Tr.get_nil g] at hg; cases hg
  · intro g es hg; rw [show AH.empty.ms.get g = none from Tr.get_nil g] at hg; cases hg
  · intro g g' es es' b b' hg; rw [show AH.empty.ms.get g = none from Tr.get_nil g] at hg; cases hg
  · intro g r e hg; rw [show AH.empty.gs.get g = none from Tr.get_nil g] at hg; cases hg
/-- Hangs on no memory. -/
def flatC : AV → Bool
  | .bool _ | .int .. | .str _ | .nilp | .nils | .nilf | .nili | .nilm => true
  | _ => false
theorem flatC_ok {G G' : Gh} {x : AV} {u : Value} (h : flatC x = true) (hv : VR G x u) : VR G' x u := by
  cases x <;> simp only [flatC] at h <;> (try (cases h; done)) <;> simp only [VR] at hv ⊢ <;> exact hv
theorem allG_cell {w : World} {b o : Nat} {v : Value} (h : w.cell? ⟨b, o, none⟩ = some v) (ho : v.oneCell' = true) : (allG w).M b o = some v := by simp [allG, h, ho]
theorem allG_row {G : Gh} {w : World} : ∀ {xs : List AV} {b o : Nat}, CellsIn G w xs b o → xs.all flatC = true → VRow (allG w) xs b o
  | [], b, o, h, hf => by simp only [VRow]
  | x :: xs, b, o, h, hf => by
    simp only [List.all_cons, Bool.and_eq_true] at hf
    obtain ⟨u, h1, h2, h3⟩ := h 0 x rfl
    simp only [VRow]
    refine ⟨⟨u, allG_cell h1 h3, flatC_ok hf.1 h2⟩, allG_row (G := G) (fun j y hj => ?_) hf.2⟩
    obtain ⟨v, q1, q2⟩ := h (j + 1) y (by simpa using hj)
    exact ⟨v, by rw [← q1]; congr 2; omega, q2⟩
theorem allG_rows {G : Gh} {w : World} {z : Nat} : ∀ {rs : List (List AV)} {b o : Nat}, CellsIn G w rs.flatten b o → (rs.all fun r => decide (r.length = z) && r.all flatC) = true → VRows (allG w) z rs b o
  | [], b, o, h, hf => by simp only [VRows]
  | r :: rs, b, o, h, hf => by
    simp only [List.all_cons, Bool.and_eq_true, decide_eq_true_eq] at hf
    obtain ⟨⟨h1, h2⟩, h3⟩ := hf
    simp only [VRows]
    rw [List.flatten_cons] at h
    refine ⟨h1, allG_row (G := G) (fun j x hj => ?_) h2, allG_rows (G := G) (fun j x hj => ?_) h3⟩
    · exact h j x (by rw [List.getElem?_append_left (List.getElem?_eq_some_iff.1 hj).1]; exact hj)
    · obtain ⟨v, q1, q2⟩ := h (r.length + j) x (by rw [List.getElem?_append_right (by omega)]; simpa using hj)
      exact ⟨v, by rw [← q1, h1]; congr 2; omega, q2⟩
/-- A call that answers at rows that stand for good answers at the same rows wherever they lie: a struct of one slice. -/
theorem ACalls.rows {P : Program} {f : FuncId} {z : Nat} {rows : List (List AV)} {x : AV} (hx : flatC x = true) (hrows : (rows.all fun r => decide (r.length = z) && r.all flatC) = true) (hne : rows ≠ [])
    (h : ACalls P f [.agg [.vals z rows]] AH.empty fun y _ => y = x) {s : AV} {H : AH} (hs : listCells H z s = some (rows.length, rows.flatten)) :
    ACalls P f [.agg [s]] H fun y H' => y = x ∧ H' = H := by
  intro K G vs w hr hv
  have hv' : VRs (allG w) [.agg [.vals z rows]] vs.toList := by
    obtain ⟨u, hu, hv⟩ := hv.one
    rw [hu]
    simp only [VR] at hv
    obtain ⟨us, rfl, hus⟩ := hv
    obtain ⟨v, hvs, hvv⟩ := hus.one
    obtain ⟨a, c, rfl, hc, hlen, hin⟩ := listCells_ok hr hvv hs
    rcases hin with h0 | ⟨b, o, rfl, hin⟩
    · exact absurd (List.eq_nil_of_length_eq_zero h0) hne
    · have hz : ∀ r ∈ rows, r.length = z := fun r hr => by
        have := List.all_eq_true.1 hrows r hr
        simp only [Bool.and_eq_true, decide_eq_true_eq] at this
        exact this.1
      simp only [VRs, VR]
      refine ⟨_, [], rfl, ⟨us, rfl, _, [], hvs, ⟨_, c, rfl, hc, .inr ⟨b, o, rfl, allG_rows hin hrows⟩⟩, rfl⟩, rfl⟩
  refine (h _ _ vs w (allG_rel w) hv').mono fun e w' ⟨u, y, G', H', h1, h2, h3, h4, h5⟩ => ?_
  subst h5
  exact ⟨u, y, G, H, h1, Gh.le.refl _, hr.stay h3.below, flatC_ok hx h4, rfl, rfl⟩
end Go.Abs
namespace Go.Abs
open Go Go.RowKit
set_option linter.unusedVariables false
def frzs (f : AV → Option AV) : List AV → Option (List AV)
  | [] => some []
  | x :: xs => match f x with
    | some y => match frzs f xs with
      | some ys => some (y :: ys)
      | none => none
    | none => none
def chunk (z : Nat) : Nat → List AV → List (List AV)
  | 0, _ => []
  | m + 1, l => l.take z :: chunk z m (l.drop z)
/-- A value whose parts stand for good. -/
def frz : Nat → AH → AV → Option AV
  | 0, _, _ => none
  | n + 1, H, x => match x with
    | .agg cs => match frzs (frz n H) cs with
      | some ys => some (.agg ys)
      | none => none
    | .tup cs => match frzs (frz n H) cs with
      | some ys => some (.tup ys)
      | none => none
    | .slc g e i len z => match H.gs.get g with
      | some r => if r.e = e ∧ i + len * z ≤ r.cells.length then (match frzs (frz n H) ((r.cells.drop i).take (len * z)) with
        | some ys => some (.vals z (chunk z len ys))
        | none => none) else none
      | none => none
    | x => if flatC x = true then some x else none
theorem frzs_get {f : AV → Option AV} : ∀ {xs ys : List AV}, frzs f xs = some ys → ys.length = xs.length ∧ ∀ (j : Nat) y, ys[j]? = some y → ∃ x, xs[j]? = some x ∧ f x = some y
  | [], ys, h => by simp only [frzs] at h; cases h; exact ⟨rfl, fun j y hj => by simp at hj⟩
  | x :: xs, ys, h => by
    simp only [frzs] at h
    split at h
    · rename_i y hy
      split at h
      · rename_i ys' hys
        cases h
        obtain ⟨q1, q2⟩ := frzs_get hys
        refine ⟨by simp [q1], fun j z hj => ?_⟩
        cases j with
        | zero => simp at hj; subst hj; exact ⟨x, rfl, hy⟩
        | succ j => simpa using q2 j z (by simpa using hj)
      · cases h
    · cases h
theorem chunk_len (z : Nat) : ∀ (m : Nat) (l : List AV), (chunk z m l).length = m
  | 0, l => rfl
  | m + 1, l => by simp [chunk, chunk_len z m]
theorem chunk_rows {G : Gh} {z b : Nat} : ∀ (m : Nat) (l : List AV) (o : Nat), l.length = m * z → (∀ (j : Nat) y, l[j]? = some y → ∃ u, G.M b (o + j) = some u ∧ VR G y u) → VRows G z (chunk z m l) b o
  | 0, l, o, hl, h => by simp only [chunk, VRows]
  | m + 1, l, o, hl, h => by
    simp only [chunk, VRows]
    rw [Nat.succ_mul] at hl
    refine ⟨by rw [List.length_take]; omega, VRow.of_get fun j y hj => ?_, chunk_rows m (l.drop z) (o + z) (by rw [List.length_drop]; omega) fun j y hj => ?_⟩
    · rw [List.getElem?_take] at hj
      split at hj
      · exact h j y hj
      · cases hj
    · rw [List.getElem?_drop] at hj
      obtain ⟨u, h1, h2⟩ := h (z + j) y hj
      exact ⟨u, by rw [← h1]; congr 1; omega, h2⟩
theorem frz_ok {K : Kx} {G Gf : Gh} {H : AH} {w : World} (h : HRel K G H w) (hM : ∀ b o v, K.B ≤ b → w.cell? ⟨b, o, none⟩ = some v → v.oneCell' = true → Gf.M b o = some v) : ∀ (n : Nat) (x y : AV) (u : Value), frz n H x = some y → VR G x u → VR Gf y u := by
  intro n
  induction n with
  | zero => intro x y u hf hv; cases hf
  | succ n ih =>
    intro x y u hf hv
    have list : ∀ {cs ys : List AV} {us : List Value}, frzs (frz n H) cs = some ys → VRs G cs us → VRs Gf ys us := by
      intro cs ys us h1 h2
      obtain ⟨q1, q2⟩ := frzs_get h1
      refine VRs.of_get (by rw [h2.len, q1]) fun j y hj => ?_
      obtain ⟨x, h3, h4⟩ := q2 j y hj
      obtain ⟨v, h5, h6⟩ := h2.get j x h3
      exact ⟨v, h5, ih x y v h4 h6⟩
    simp only [frz] at hf
    split at hf
    · rename_i cs
      split at hf
      · rename_i ys hys
        cases hf
        simp only [VR] at hv ⊢
        obtain ⟨us, rfl, h2⟩ := hv
        exact ⟨us, rfl, list hys h2⟩
      · cases hf
    · rename_i cs
      split at hf
      · rename_i ys hys
        cases hf
        simp only [VR] at hv ⊢
        obtain ⟨us, rfl, h2⟩ := hv
        exact ⟨us, rfl, list hys h2⟩
      · cases hf
    · rename_i g e i len z
      split at hf
      · rename_i r hr
        split at hf
        · rename_i hc
          obtain ⟨rfl, hfit⟩ := hc
          split at hf
          · rename_i ys hys
            cases hf
            simp only [VR] at hv ⊢
            obtain ⟨b, o, m, cap, hmu, rfl, hcap, _⟩ := hv
            obtain ⟨b', o', m', cs, t, q⟩ := h.grp g r hr
            rw [q.mu] at hmu
            cases hmu
            obtain ⟨q1, q2⟩ := frzs_get hys
            have hlen : ys.length = len * z := by rw [q1, List.length_take, List.length_drop]; omega
            refine ⟨_, cap, by rw [chunk_len], by rw [chunk_len]; exact hcap, .inr ⟨b, o + i, rfl, chunk_rows len ys (o + i) hlen fun j y hj => ?_⟩⟩
            obtain ⟨x, h3, h4⟩ := q2 j y hj
            obtain ⟨v, h5, h6, h7⟩ := q.cellsIn i (len * z) j x h3
            exact ⟨v, hM _ _ _ q.low h5 h7, ih x y v h4 h6⟩
          · cases hf
        · cases hf
      · cases hf
    · split at hf
      · rename_i hfl
        cases hf
        exact flatC_ok hfl hv
      · cases hf
/-- A caller's knowledge, and all that is new. -/
def newG (G : Gh) (n : Nat) (w : World) : Gh := ⟨fun b o => if b < n then G.M b o else (allG w).M b o, G.mu, G.mm⟩
theorem newG_le {K : Kx} {G : Gh} {H : AH} {w w' : World} (h : HRel K G H w) : G.le (newG G w.heap.size w') :=
  ⟨fun b o v hv => by simp only [newG]; rw [if_pos (cell_lt (h.mem b o v hv))]; exact hv, fun _ _ _ h => h, fun _ _ h => h⟩
theorem newG_rel {K : Kx} {G : Gh} {H : AH} {w w' : World} (h : HRel K G H w) (hb : Below w.heap.size w w') : HRel K (newG G w.heap.size w') H w' := by
  have hle := newG_le (w' := w') h
  have hs := h.stay hb
  have hall := allG_rel w'
  refine ⟨hs.below, hs.hB, ?_, ?_, ?_, ?_, hs.apart, hs.fresh, ?_, hs.mapart, hs.mfresh, hs.ages⟩
  · intro b o v hv
    simp only [newG] at hv
    split at hv
    · exact hs.mem b o v hv
    · exact hall.mem b o v hv
  · intro b o v hv
    simp only [newG] at hv
    split at hv
    · exact hs.ones b o v hv
    · exact hall.ones b o v hv
  · intro b o hbB
    simp only [newG]
    rw [if_pos (Nat.lt_of_lt_of_le hbB h.hB)]
    exact h.old b o hbB
  · intro g r hr
    obtain ⟨b, o, n, cs, t, q⟩ := h.grp g r hr
    have hlt := get_lt q.heap
    exact ⟨b, o, n, cs, t, q.mu, q.low, by rw [hb.block b hlt]; exact q.heap, q.size, fun i x hi => by obtain ⟨u, h1, h2, h3⟩ := q.cell i x hi; exact ⟨u, h1, VR.mono hle _ _ h2, h3⟩, fun j hj => by
      simp only [newG]; rw [if_pos hlt]; exact q.free j hj⟩
  · intro g es hg
    obtain ⟨b, l, c, q⟩ := h.maps g es hg
    exact ⟨b, l, c, q.mm, q.low, by rw [hb.block b (get_lt q.heap)]; exact q.heap, q.ents.mono hle⟩
theorem flats_ok {G G' : Gh} : ∀ {xs : List AV} {us : List Value}, xs.all flatC = true → VRs G xs us → VRs G' xs us
  | [], us, h, hv => by simpa [VRs] using hv
  | x :: xs, us, h, hv => by
    simp only [List.all_cons, Bool.and_eq_true] at h
    simp only [VRs] at hv ⊢
    obtain ⟨u, us', rfl, h1, h2⟩ := hv
    exact ⟨u, us', rfl, flatC_ok h.1 h1, flats_ok h.2 h2⟩
/-- What a call answers in an empty memory it answers in any: kept for good. -/
theorem ACalls.memo {P : Program} {f : FuncId} {args : List AV} {x y : AV} {H1 : AH} (n : Nat) (hargs : args.all flatC = true) (h : ACalls P f args AH.empty fun x' H' => x' = x ∧ H' = H1) (hf : frz n H1 x = some y) (H : AH) :
    ACalls P f args H fun y' H' => y' = y ∧ H' = H := by
  intro K G vs w hr hv
  refine (h _ _ vs w (allG_rel w) (flats_ok hargs hv)).mono fun e w' ⟨u, x', G', H', h1, h2, h3, h4, h5, h6⟩ => ?_
  subst h5; subst h6
  refine ⟨u, y, newG G w.heap.size w', H, h1, newG_le hr, newG_rel hr h3.below, ?_, rfl, rfl⟩
  refine frz_ok h3 (fun b o v hB hc ho => ?_) n x' y u hf h4
  simp only [newG]
  rw [if_neg (by show ¬ b < w.heap.size; have : w.heap.size ≤ b := hB; omega)]
  exact allG_cell hc ho
/-- Is that what comes of a run? -/
def answers (r : Option (AV × AH)) (y : AV) : Bool :=
  match r with
  | some (x, H) => match frz 100 H x with
    | some x' => dsame 100 x' y
    | none => false
  | none => false
theorem answers_ok {r : Option (AV × AH)} {y : AV} (h : answers r y = true) : ∃ x H, r = some (x, H) ∧ frz 100 H x = some y := by
  unfold answers at h
  split at h
  · rename_i x H
    split at h
    · rename_i x' hx
      rw [← dsame_ok _ _ _ h]
      exact ⟨x, H, rfl, hx⟩
    · cases h
  · cases h
/-- What is kept. -/
def lookM (l : List (List AV × AV)) (args : List AV) : Option AV :=
  match l with
  | [] => none
  | (k, v) :: l => bif fSames args k then some v else lookM l args
theorem lookM_ok : ∀ {l : List (List AV × AV)} {args : List AV} {v : AV}, lookM l args = some v → (args, v) ∈ l
  | [], args, v, h => by cases h
  | (k, u) :: l, args, v, h => by
    simp only [lookM] at h
    cases hs : fSames args k with
    | true =>
      rw [hs] at h
      cases h
      rw [fSames_ok hs]
      exact List.mem_cons_self ..
    | false =>
      rw [hs] at h
      exact List.mem_cons_of_mem _ (lookM_ok h)
def memoH (l : List (List AV × AV)) (args : List AV) (H : AH) : Option (AV × AH) :=
  match lookM l args with
  | some v => some (v, H)
  | none => none
theorem memoH_frame {l : List (List AV × AV)} {args : List AV} {H H' : AH} {x : AV} (h : memoH l args H = some (x, H')) : FrameR x H H' (memoH l args) := by
  unfold memoH at h
  split at h
  · rename_i v hv
    cases h
    exact FrameR.same fun R H2 _ _ => by simp only [memoH, hv]
  · cases h
theorem memoH_ok {P : Program} {f : FuncId} {l : List (List AV × AV)} (h : ∀ e ∈ l, ∀ H, ACalls P f e.1 H fun y H' => y = e.2 ∧ H' = H) {args : List AV} {H H' : AH} {x : AV} (hm : memoH l args H = some (x, H')) : ACalls P f args H fun y H1 => y = x ∧ H1 = H' := by
  unfold memoH at hm
  split at hm
  · rename_i v hv
    cases hm
    exact h _ (lookM_ok hv) _
  · cases hm
/-- Kept out of runs. -/
theorem memo_of {P : Program} {good : FuncId → Bool} {hook : Hooks} {F n : Nat} (hok : CallOK P (arun P good hook F n)) {f : FuncId} {l : List (List AV × AV)} (h : (l.all fun e => e.1.all flatC && answers (arunK P good hook F n f e.1 AH.empty) e.2) = true) :
    ∀ e ∈ l, ∀ H, ACalls P f e.1 H fun y H' => y = e.2 ∧ H' = H := by
  intro e he H
  have h1 := List.all_eq_true.1 h e he
  simp only [Bool.and_eq_true] at h1
  obtain ⟨x, H1, h2, h3⟩ := answers_ok h1.2
  rw [arunK_eq] at h2
  exact ACalls.memo 100 h1.1 (hok _ _ _ _ _ h2).2 h3 H
/-- The last call: from nothing. -/
theorem calls_closed {P : Program} {good : FuncId → Bool} {hook : Hooks} {F n : Nat} (hok : CallOK P (arun P good hook F n)) {f : FuncId} (h : answers (arunK P good hook F n f [] AH.empty) (.bool true) = true) (w : World) :
    Calls P f #[] w fun e w' => e = .returned (.bool true) ∧ Below w.heap.size w w' := by
  obtain ⟨x, H1, h2, h3⟩ := answers_ok h
  rw [arunK_eq] at h2
  have hA := (hok _ _ _ _ _ h2).2
  refine (ACalls.memo 100 (by rfl) hA h3 AH.empty _ _ #[] w (allG_rel w) (by simp [VRs])).mono fun e w' ⟨u, x', G', H', k1, k2, k3, k4, k5, k6⟩ => ?_
  subst k5
  simp only [VR] at k4
  subst k4
  exact ⟨k1, k3.below⟩
/-- The same where the first argument is a struct of one slice whose rows are flat. -/
theorem ACalls.rowsM {P : Program} {f : FuncId} {z : Nat} {rows : List (List AV)} {rest : List AV} {x y : AV} {H1 : AH} (n : Nat) (hrest : rest.all flatC = true) (hrows : (rows.all fun r => decide (r.length = z) && r.all flatC) = true) (hne : rows ≠ [])
    (h : ACalls P f (.agg [.vals z rows] :: rest) AH.empty fun x' H' => x' = x ∧ H' = H1) (hf : frz n H1 x = some y) {s : AV} {H : AH} (hs : listCells H z s = some (rows.length, rows.flatten)) :
    ACalls P f (.agg [s] :: rest) H fun y' H' => y' = y ∧ H' = H := by
  intro K G vs w hr hv
  have hv' : VRs (allG w) (.agg [.vals z rows] :: rest) vs.toList := by
    simp only [VRs] at hv ⊢
    obtain ⟨u, us, hu, hv, hvr⟩ := hv
    refine ⟨u, us, hu, ?_, flats_ok hrest hvr⟩
    simp only [VR] at hv ⊢
    obtain ⟨us, rfl, hus⟩ := hv
    obtain ⟨v, hvs, hvv⟩ := hus.one
    obtain ⟨a, c, rfl, hc, hlen, hin⟩ := listCells_ok hr hvv hs
    rcases hin with h0 | ⟨b, o, rfl, hin⟩
    · exact absurd (List.eq_nil_of_length_eq_zero h0) hne
    · refine ⟨us, rfl, ?_⟩
      rw [hvs]
      simp only [VRs, VR]
      exact ⟨_, [], rfl, ⟨_, c, rfl, hc, .inr ⟨b, o, rfl, allG_rows hin hrows⟩⟩, rfl⟩
  refine (h _ _ vs w (allG_rel w) hv').mono fun e w' ⟨u, x', G', H', h1, h2, h3, h4, h5, h6⟩ => ?_
  subst h5; subst h6
  refine ⟨u, y, newG G w.heap.size w', H, h1, newG_le hr, newG_rel hr h3.below, ?_, rfl, rfl⟩
  refine frz_ok h3 (fun b o v hB hc ho => ?_) n x' y u hf h4
  simp only [newG]
  rw [if_neg (by show ¬ b < w.heap.size; have : w.heap.size ≤ b := hB; omega)]
  exact allG_cell hc ho
/-- What is kept of calls at one table. -/
def rowsH (z : Nat) (rows : List (List AV)) (flat : List AV) (l : List (List AV × AV)) (args : List AV) (H : AH) : Option (AV × AH) :=
  match args with
  | .agg [s] :: rest => match listCells H z s with
    | some (n, cs) => bif Nat.beq n rows.length && fSames cs flat then memoH l rest H else none
    | none => none
  | _ => none
theorem rowsH_frame {z : Nat} {rows : List (List AV)} {flat : List AV} {l : List (List AV × AV)} {args : List AV} {H H' : AH} {x : AV} (h : rowsH z rows flat l args H = some (x, H')) : FrameR x H H' (rowsH z rows flat l args) := by
  unfold rowsH at h
  split at h
  · rename_i s rest
    split at h
    · rename_i n cs hl
      cases hc : (Nat.beq n rows.length && fSames cs flat) with
      | false => rw [hc] at h; cases h
      | true =>
        rw [hc] at h
        simp only [cond_true] at h
        unfold memoH at h
        split at h
        · rename_i v hv
          cases h
          exact FrameR.same fun R H2 he ha => by simp only [rowsH, listCells_ext he ha hl, hc, cond_true, memoH, hv]
        · cases h
    · cases h
  · cases h
theorem rowsH_ok {P : Program} {f : FuncId} {z : Nat} {rows : List (List AV)} {flat : List AV} {l : List (List AV × AV)} (hflat : flat = rows.flatten)
    (h : ∀ e ∈ l, ∀ s H, listCells H z s = some (rows.length, rows.flatten) → ACalls P f (.agg [s] :: e.1) H fun y H' => y = e.2 ∧ H' = H) {args : List AV} {H H' : AH} {x : AV} (hm : rowsH z rows flat l args H = some (x, H')) : ACalls P f args H fun y H1 => y = x ∧ H1 = H' := by
  unfold rowsH at hm
  split at hm
  · rename_i s rest
    split at hm
    · rename_i n cs hl
      cases hc : (Nat.beq n rows.length && fSames cs flat) with
      | false => rw [hc] at hm; cases hm
      | true =>
        rw [hc] at hm
        simp only [cond_true] at hm
        simp only [Bool.and_eq_true] at hc
        have e1 := Nat.eq_of_beq_eq_true hc.1
        have e2 := fSames_ok hc.2
        unfold memoH at hm
        split at hm
        · rename_i v hv
          cases hm
          exact h _ (lookM_ok hv) s _ (by rw [hl, e1, e2, hflat])
        · cases hm
    · cases hm
  · cases hm
theorem rows_of {P : Program} {good : FuncId → Bool} {hook : Hooks} {F n : Nat} (hok : CallOK P (arun P good hook F n)) {f : FuncId} {z : Nat} {rows : List (List AV)} (hrows : (rows.all fun r => decide (r.length = z) && r.all flatC) = true) (hne : rows ≠ []) {l : List (List AV × AV)}
    (h : (l.all fun e => e.1.all flatC && answers (arunK P good hook F n f (.agg [.vals z rows] :: e.1) AH.empty) e.2) = true) : ∀ e ∈ l, ∀ s H, listCells H z s = some (rows.length, rows.flatten) → ACalls P f (.agg [s] :: e.1) H fun y H' => y = e.2 ∧ H' = H := by
  intro e he s H hs
  have h1 := List.all_eq_true.1 h e he
  simp only [Bool.and_eq_true] at h1
  obtain ⟨x, H1, h2, h3⟩ := answers_ok h1.2
  rw [arunK_eq] at h2
  exact ACalls.rowsM 100 h1.1 hrows hne (hok _ _ _ _ _ h2).2 h3 hs
/-- Some that are not carried out. -/
def hooksOf : List (FuncId × (List AV → AH → Option (AV × AH))) → Hooks
  | [], _ => none
  | (g, h) :: l, f => bif Nat.beq f g then some h else hooksOf l f
structure HookOne (P : Program) (g : FuncId) (h : List AV → AH → Option (AV × AH)) : Prop where
  body : callableB P g = true
  ok : ∀ args H x H', h args H = some (x, H') → ACalls P g args H fun y H1 => y = x ∧ H1 = H'
  frame : ∀ args H x H', h args H = some (x, H') → FrameR x H H' (h args)
theorem hooksOf_mem : ∀ {l : List (FuncId × (List AV → AH → Option (AV × AH)))} {f : FuncId} {h : List AV → AH → Option (AV × AH)}, hooksOf l f = some h → (f, h) ∈ l
  | [], f, h, e => by cases e
  | (g, k) :: l, f, h, e => by
    simp only [hooksOf] at e
    cases hb : Nat.beq f g with
    | true =>
      rw [hb] at e
      have := Nat.eq_of_beq_eq_true hb
      subst this
      cases e
      exact List.mem_cons_self ..
    | false =>
      rw [hb] at e
      exact List.mem_cons_of_mem _ (hooksOf_mem e)
theorem hooksOf_ok {P : Program} {l : List (FuncId × (List AV → AH → Option (AV × AH)))} (h : ∀ e ∈ l, HookOne P e.1 e.2) : HookOK P (hooksOf l) ∧ HookFrame (hooksOf l) :=
  ⟨fun f k hk args H x H' hx => ⟨(h _ (hooksOf_mem hk)).body, (h _ (hooksOf_mem hk)).ok _ _ _ _ hx⟩, fun f k hk args H x H' hx => (h _ (hooksOf_mem hk)).frame _ _ _ _ hx⟩
theorem HookOne.memo {P : Program} {f : FuncId} {l : List (List AV × AV)} (hb : callableB P f = true) (h : ∀ e ∈ l, ∀ H, ACalls P f e.1 H fun y H' => y = e.2 ∧ H' = H) : HookOne P f (memoH l) :=
  ⟨hb, fun _ _ _ _ hm => memoH_ok h hm, fun _ _ _ _ hm => memoH_frame hm⟩
theorem HookOne.rows {P : Program} {f : FuncId} {z : Nat} {rows : List (List AV)} {flat : List AV} {l : List (List AV × AV)} (hb : callableB P f = true) (hflat : flat = rows.flatten)
    (h : ∀ e ∈ l, ∀ s H, listCells H z s = some (rows.length, rows.flatten) → ACalls P f (.agg [s] :: e.1) H fun y H' => y = e.2 ∧ H' = H) : HookOne P f (rowsH z rows flat l) :=
  ⟨hb, fun _ _ _ _ hm => rowsH_ok hflat h hm, fun _ _ _ _ hm => rowsH_frame hm⟩
/-- All functions' rows whose order is open are well. -/
theorem funD_all {P : Program} {n : Nat} (hs : P.funcs.size = n) (h : ((List.range n).all fun f => funD P f) = true) (f : FuncId) : funD P f = true := by
  by_cases hf : f < n
  · exact List.all_eq_true.1 h f (List.mem_range.2 hf)
  · unfold funD
    rw [Array.getElem?_eq_none (by rw [hs]; exact Nat.le_of_not_lt hf)]
end Go.Abs
namespace Go.Abs
open Go Go.RowKit
set_option linter.unusedVariables false
/-- A value whose parts stand for good. -/
def frzV : Nat → AH → AV → Option AV
  | 0, _, _ => none
  | n + 1, H, x => match x with
    | .agg cs => match frzs (frzV n H) cs with
      | some ys => some (.agg ys)
      | none => none
    | .tup cs => match frzs (frzV n H) cs with
      | some ys => some (.tup ys)
      | none => none
    | .slc g e i len z => match H.gs.get g with
      | some r => if r.e = e ∧ i + len * z ≤ r.cells.length then (match frzs (frzV n H) ((r.cells.drop i).take (len * z)) with
        | some ys => some (.vals z (chunk z len ys))
        | none => none) else none
      | none => none
    | .vals z rows => if rows.all (fun r => decide (r.length = z)) = true then (match frzs (frzV n H) rows.flatten with
        | some ys => some (.vals z (chunk z rows.length ys))
        | none => none) else none
    | .iface t y => match frzV n H y with
      | some y' => some (.iface t y')
      | none => none
    | x => if flatC x = true then some x else none
theorem VRow.cells {G : Gh} : ∀ {xs : List AV} {b o : Nat}, VRow G xs b o → ∀ (j : Nat) x, xs[j]? = some x → ∃ u, G.M b (o + j) = some u ∧ VR G x u
  | [], b, o, h, j, x, hj => by simp at hj
  | y :: ys, b, o, h, j, x, hj => by
    simp only [VRow] at h
    cases j with
    | zero => simp at hj; subst hj; exact h.1
    | succ j =>
      obtain ⟨u, h1, h2⟩ := VRow.cells h.2 j x (by simpa using hj)
      exact ⟨u, by rw [← h1]; congr 1; omega, h2⟩
theorem VRows.flat {G : Gh} {z : Nat} : ∀ {rs : List (List AV)} {b o : Nat}, VRows G z rs b o → ∀ (j : Nat) x, rs.flatten[j]? = some x → ∃ u, G.M b (o + j) = some u ∧ VR G x u
  | [], b, o, h, j, x, hj => by simp at hj
  | r :: rs, b, o, h, j, x, hj => by
    simp only [VRows] at h
    obtain ⟨h1, h2, h3⟩ := h
    rw [List.flatten_cons] at hj
    by_cases hlt : j < r.length
    · rw [List.getElem?_append_left hlt] at hj
      exact h2.cells j x hj
    · rw [List.getElem?_append_right (by omega)] at hj
      obtain ⟨u, q1, q2⟩ := VRows.flat h3 _ x hj
      exact ⟨u, by rw [← q1]; congr 1; omega, q2⟩
theorem flatten_len {z : Nat} : ∀ {rs : List (List AV)}, rs.all (fun r => decide (r.length = z)) = true → rs.flatten.length = rs.length * z
  | [], h => by simp
  | r :: rs, h => by
    simp only [List.all_cons, Bool.and_eq_true, decide_eq_true_eq] at h
    rw [List.flatten_cons, List.length_append, flatten_len h.2, h.1, List.length_cons, Nat.succ_mul, Nat.add_comm]
theorem frzV_ok {K : Kx} {G Gf : Gh} {H : AH} {w : World} (h : HRel K G H w) (hM : ∀ b o v, K.B ≤ b → w.cell? ⟨b, o, none⟩ = some v → v.oneCell' = true → Gf.M b o = some v) (hG : ∀ b o v, G.M b o = some v → Gf.M b o = some v) : ∀ (n : Nat) (x y : AV) (u : Value), frzV n H x = some y → VR G x u → VR Gf y u := by
  intro n
  induction n with
  | zero => intro x y u hf hv; cases hf
  | succ n ih =>
    intro x y u hf hv
    have list : ∀ {cs ys : List AV} {us : List Value}, frzs (frzV n H) cs = some ys → VRs G cs us → VRs Gf ys us := by
      intro cs ys us h1 h2
      obtain ⟨q1, q2⟩ := frzs_get h1
      refine VRs.of_get (by rw [h2.len, q1]) fun j y hj => ?_
      obtain ⟨x, h3, h4⟩ := q2 j y hj
      obtain ⟨v, h5, h6⟩ := h2.get j x h3
      exact ⟨v, h5, ih x y v h4 h6⟩
    simp only [frzV] at hf
    split at hf
    · rename_i cs
      split at hf
      · rename_i ys hys
        cases hf
        simp only [VR] at hv ⊢
        obtain ⟨us, rfl, h2⟩ := hv
        exact ⟨us, rfl, list hys h2⟩
      · cases hf
    · rename_i cs
      split at hf
      · rename_i ys hys
        cases hf
        simp only [VR] at hv ⊢
        obtain ⟨us, rfl, h2⟩ := hv
        exact ⟨us, rfl, list hys h2⟩
      · cases hf
    · rename_i g e i len z
      split at hf
      · rename_i r hr
        split at hf
        · rename_i hc
          obtain ⟨rfl, hfit⟩ := hc
          split at hf
          · rename_i ys hys
            cases hf
            simp only [VR] at hv ⊢
            obtain ⟨b, o, m, cap, hmu, rfl, hcap, _⟩ := hv
            obtain ⟨b', o', m', cs, t, q⟩ := h.grp g r hr
            rw [q.mu] at hmu
            cases hmu
            obtain ⟨q1, q2⟩ := frzs_get hys
            have hlen : ys.length = len * z := by rw [q1, List.length_take, List.length_drop]; omega
            refine ⟨_, cap, by rw [chunk_len], by rw [chunk_len]; exact hcap, .inr ⟨b, o + i, rfl, chunk_rows len ys (o + i) hlen fun j y hj => ?_⟩⟩
            obtain ⟨x, h3, h4⟩ := q2 j y hj
            obtain ⟨v, h5, h6, h7⟩ := q.cellsIn i (len * z) j x h3
            exact ⟨v, hM _ _ _ q.low h5 h7, ih x y v h4 h6⟩
          · cases hf
        · cases hf
      · cases hf
    · rename_i z rows
      split at hf
      · rename_i hz
        split at hf
        · rename_i ys hys
          cases hf
          simp only [VR] at hv ⊢
          obtain ⟨a, cap, rfl, hcap, hin⟩ := hv
          obtain ⟨q1, q2⟩ := frzs_get hys
          refine ⟨a, cap, by rw [chunk_len], by rw [chunk_len]; exact hcap, ?_⟩
          rcases hin with h0 | ⟨b, o, rfl, hin⟩
          · left; subst h0; rfl
          · right
            refine ⟨b, o, rfl, chunk_rows rows.length ys o (by rw [q1, flatten_len hz]) fun j y hj => ?_⟩
            obtain ⟨x, h3, h4⟩ := q2 j y hj
            obtain ⟨v, h5, h6⟩ := VRows.flat hin j x h3
            exact ⟨v, hG _ _ _ h5, ih x y v h4 h6⟩
        · cases hf
      · cases hf
    · rename_i t y'
      split at hf
      · rename_i z hz
        cases hf
        simp only [VR] at hv ⊢
        obtain ⟨v, rfl, h2⟩ := hv
        exact ⟨v, rfl, ih _ _ _ hz h2⟩
      · cases hf
    · split at hf
      · rename_i hfl
        cases hf
        exact flatC_ok hfl hv
      · cases hf
/-- Nothing is known. -/
def noG : Gh := ⟨fun _ _ => none, fun _ _ => none, fun _ => none⟩
theorem noG_rel (w : World) : HRel ⟨w.heap.size, w, fun _ _ => none⟩ noG AH.empty w := by
  refine ⟨Below.refl _ _, Nat.le_refl _, fun b o v h => (by cases h), fun b o v h => (by cases h), fun _ _ _ => rfl, ?_, ?_, fun _ _ _ => rfl, ?_, ?_, fun _ _ => rfl, ?_⟩
  · intro g r hg; rw [show AH.empty.gs.get g = none from Tr.get_nil g] at hg; cases hg
  · intro g g' r r' b o n b' o' n' hg; rw [show AH.empty.gs.get g = none from Tr.get_nil g] at hg; cases hg
  · intro g es hg; rw [show AH.empty.ms.get g = none from Tr.get_nil g] at hg; cases hg
  · intro g g' es es' b b' hg; rw [show AH.empty.ms.get g = none from Tr.get_nil g] at hg; cases hg
  · intro g r e hg; rw [show AH.empty.gs.get g = none from Tr.get_nil g] at hg; cases hg
/-- What a call answers in an empty memory it answers in any: kept for good. -/
theorem ACalls.memoV {P : Program} {f : FuncId} {args : List AV} {x y : AV} {H1 : AH} (n : Nat) (hargs : args.all flatC = true) (h : ACalls P f args AH.empty fun x' H' => x' = x ∧ H' = H1) (hf : frzV n H1 x = some y) (H : AH) :
    ACalls P f args H fun y' H' => y' = y ∧ H' = H := by
  intro K G vs w hr hv
  refine (h _ _ vs w (noG_rel w) (flats_ok hargs hv)).mono fun e w' ⟨u, x', G', H', h1, h2, h3, h4, h5, h6⟩ => ?_
  subst h5; subst h6
  refine ⟨u, y, newG G w.heap.size w', H, h1, newG_le hr, newG_rel hr h3.below, ?_, rfl, rfl⟩
  have hnew : ∀ b o v, w.heap.size ≤ b → w'.cell? ⟨b, o, none⟩ = some v → v.oneCell' = true → (newG G w.heap.size w').M b o = some v := fun b o v hB hc ho => by
    simp only [newG]
    rw [if_neg (by omega)]
    exact allG_cell hc ho
  refine frzV_ok h3 hnew (fun b o v hv => ?_) n x' y u hf h4
  by_cases hb : b < w.heap.size
  · have := h3.old b o hb
    rw [hv] at this
    cases this
  · exact hnew b o v (by omega) (h3.mem b o v hv) (h3.ones b o v hv)
/-- Is that what comes of a run? -/
def answersV (r : Option (AV × AH)) (y : AV) : Bool :=
  match r with
  | some (x, H) => match frzV 100 H x with
    | some x' => dsame 100 x' y
    | none => false
  | none => false
theorem answersV_ok {r : Option (AV × AH)} {y : AV} (h : answersV r y = true) : ∃ x H, r = some (x, H) ∧ frzV 100 H x = some y := by
  unfold answersV at h
  split at h
  · rename_i x H
    split at h
    · rename_i x' hx
      rw [← dsame_ok _ _ _ h]
      exact ⟨x, H, rfl, hx⟩
    · cases h
  · cases h
/-- Kept out of runs. -/
theorem memoV_of {P : Program} {good : FuncId → Bool} {hook : Hooks} {F n : Nat} (hok : CallOK P (arun P good hook F n)) {f : FuncId} {l : List (List AV × AV)} (h : (l.all fun e => e.1.all flatC && answersV (arunK P good hook F n f e.1 AH.empty) e.2) = true) :
    ∀ e ∈ l, ∀ H, ACalls P f e.1 H fun y H' => y = e.2 ∧ H' = H := by
  intro e he H
  have h1 := List.all_eq_true.1 h e he
  simp only [Bool.and_eq_true] at h1
  obtain ⟨x, H1, h2, h3⟩ := answersV_ok h1.2
  rw [arunK_eq] at h2
  exact ACalls.memoV 100 h1.1 (hok _ _ _ _ _ h2).2 h3 H
end Go.Abs
