/- Contracts that stand in for what is not carried out. -/
import Derived.Test.YtcnnobcncklgfaaGreatDoorAbsK
namespace Go.Abs
open Go Go.RowKit
set_option linter.unusedVariables false
/-- What is there stays as it is. -/
theorem HRel.stay {K : Kx} {G : Gh} {H : AH} {w w' : World} (h : HRel K G H w) (hb : Below w.heap.size w w') : HRel K G H w' :=
  ⟨h.below.trans (hb.mono h.hB), Nat.le_trans h.hB hb.size, fun b o v hv => by
    rw [← h.mem b o v hv]
    exact World.cell?_of_block (hb.block b (cell_lt (h.mem b o v hv))), h.ones, h.old, fun g r hr => by
      obtain ⟨b, o, n, cs, t, q⟩ := h.grp g r hr
      exact ⟨b, o, n, cs, t, q.mu, q.low, by rw [hb.block b (get_lt q.heap)]; exact q.heap, q.size, q.cell, q.free⟩, h.apart, h.fresh, fun g es hg => by
      obtain ⟨b, l, c, q⟩ := h.maps g es hg
      exact ⟨b, l, c, q.mm, q.low, by rw [hb.block b (get_lt q.heap)]; exact q.heap, q.ents⟩, h.mapart, h.mfresh, h.ages⟩
/-- A contract of the walks. -/
theorem ACalls.of_calls {P : Program} {f : FuncId} {args : List AV} {H : AH} {x : AV} (h : ∀ (G : Gh) (vs : Array Value) (w : World), VRs G args vs.toList → Calls P f vs w fun e w' => ∃ u, e = .returned u ∧ (∀ G : Gh, VR G x u) ∧ Below w.heap.size w w') :
    ACalls P f args H fun y H' => y = x ∧ H' = H := fun K G vs w hr hv =>
  (h G vs w hv).mono fun e w' ⟨u, h1, h2, h3⟩ => ⟨u, x, G, H, h1, Gh.le.refl _, hr.stay h3, h2 G, rfl, rfl⟩
/-- All that is there, as it is. -/
def allG (w : World) : Gh := ⟨fun b o => match w.cell? ⟨b, o, none⟩ with | some v => if v.oneCell' = true then some v else none | none => none, fun _ _ => none, fun _ => none⟩
theorem allG_rel (w : World) : HRel ⟨w.heap.size, w, (allG w).M⟩ (allG w) AH.empty w := by
  refine ⟨Below.refl _ _, Nat.le_refl _, ?_, ?_, fun _ _ _ => rfl, ?_, ?_, fun _ _ _ => rfl, ?_, ?_, fun _ _ => rfl, ?_⟩
  · intro b o v hv
    simp only [allG] at hv
    split at hv
    · rename_i u hu
      split at hv
      · cases hv; exact hu
      · cases hv
    · cases hv
  · intro b o v hv
    simp only [allG] at hv
    split at hv
    · split at hv
      · rename_i ho; cases hv; exact ho
      · cases hv
    · cases hv
  · intro g r hg; rw [show AH.empty.gs.get g = none from Tr.get_nil g] at hg; cases hg
  · intro g g' r r' b o n b' o' n' hg; rw [show AH.empty.gs.get g = none from Tr.get_nil g] at hg; cases hg
  · intro g es hg; rw [show AH.empty.ms.get g = none from Tr.get_nil g] at hg; cases hg
  · intro g g' es es' b b' hg; rw [show AH.empty.ms.get g = none from Tr.get_nil g] at hg; cases hg
  · intro g r e hg; rw [show AH.empty.gs.get g = none from Tr.get_nil g] at hg; cases hg
/-- Hangs on no memory. -/
def flatC : AV → Bool
  | .bool _ | .int .. | .str _ | .nilp | .nils | .nilf | .nili | .nilm => true
  | _ => false
theorem flatC_ok {G G' : Gh} {x : AV} {u : Value} (h : flatC x = true) (hv : VR G x u) : VR G' x u := by
  cases x <;> simp only [flatC] at h <;> (try (cases h; done)) <;> simp only [VR] at hv ⊢ <;> exact hv
theorem allG_cell {w : World} {b o : Nat} {v : Value} (h : w.cell? ⟨b, o, none⟩ = some v) (ho : v.oneCell' = true) : (allG w).M b o = some v := by simp [allG, h, ho]
theorem allG_row {G : Gh} {w : World} : ∀ {xs : List AV} {b o : Nat}, CellsIn G w xs b o → xs.all flatC = true → VRow (allG w) xs b o
  | [], b, o, h, hf => by simp only [VRow]
  | x :: xs, b, o, h, hf => by
    simp only [List.all_cons, Bool.and_eq_true] at hf
    obtain ⟨u, h1, h2, h3⟩ := h 0 x rfl
    simp only [VRow]
    refine ⟨⟨u, allG_cell h1 h3, flatC_ok hf.1 h2⟩, allG_row (G := G) (fun j y hj => ?_) hf.2⟩
    obtain ⟨v, q1, q2⟩ := h (j + 1) y (by simpa using hj)
    exact ⟨v, by rw [← q1]; congr 2; omega, q2⟩
theorem allG_rows {G : Gh} {w : World} {z : Nat} : ∀ {rs : List (List AV)} {b o : Nat}, CellsIn G w rs.flatten b o → (rs.all fun r => decide (r.length = z) && r.all flatC) = true → VRows (allG w) z rs b o
  | [], b, o, h, hf => by simp only [VRows]
  | r :: rs, b, o, h, hf => by
    simp only [List.all_cons, Bool.and_eq_true, decide_eq_true_eq] at hf
    obtain ⟨⟨h1, h2⟩, h3⟩ := hf
    simp only [VRows]
    rw [List.flatten_cons] at h
    refine ⟨h1, allG_row (G := G) (fun j x hj => ?_) h2, allG_rows (G := G) (fun j x hj => ?_) h3⟩
    · exact h j x (by rw [List.getElem?_append_left (List.getElem?_eq_some_iff.1 hj).1]; exact hj)
    · obtain ⟨v, q1, q2⟩ := h (r.length + j) x (by rw [List.getElem?_append_right (by omega)]; simpa using hj)
      exact ⟨v, by rw [← q1, h1]; congr 2; omega, q2⟩
/-- A call that answers at rows that stand for good answers at the same rows wherever they lie: a struct of one slice. -/
theorem ACalls.rows {P : Program} {f : FuncId} {z : Nat} {rows : List (List AV)} {x : AV} (hx : flatC x = true) (hrows : (rows.all fun r => decide (r.length = z) && r.all flatC) = true) (hne : rows ≠ [])
    (h : ACalls P f [.agg [.vals z rows]] AH.empty fun y _ => y = x) {s : AV} {H : AH} (hs : listCells H z s = some (rows.length, rows.flatten)) :
    ACalls P f [.agg [s]] H fun y H' => y = x ∧ H' = H := by
  intro K G vs w hr hv
  have hv' : VRs (allG w) [.agg [.vals z rows]] vs.toList := by
    obtain ⟨u, hu, hv⟩ := hv.one
    rw [hu]
    simp only [VR] at hv
    obtain ⟨us, rfl, hus⟩ := hv
    obtain ⟨v, hvs, hvv⟩ := hus.one
    obtain ⟨a, c, rfl, hc, hlen, hin⟩ := listCells_ok hr hvv hs
    rcases hin with h0 | ⟨b, o, rfl, hin⟩
    · exact absurd (List.eq_nil_of_length_eq_zero h0) hne
    · have hz : ∀ r ∈ rows, r.length = z := fun r hr => by
        have := List.all_eq_true.1 hrows r hr
        simp only [Bool.and_eq_true, decide_eq_true_eq] at this
        exact this.1
      simp only [VRs, VR]
      refine ⟨_, [], rfl, ⟨us, rfl, _, [], hvs, ⟨_, c, rfl, hc, .inr ⟨b, o, rfl, allG_rows hin hrows⟩⟩, rfl⟩, rfl⟩
  refine (h _ _ vs w (allG_rel w) hv').mono fun e w' ⟨u, y, G', H', h1, h2, h3, h4, h5⟩ => ?_
  subst h5
  exact ⟨u, y, G, H, h1, Gh.le.refl _, hr.stay h3.below, flatC_ok hx h4, rfl, rfl⟩
end Go.Abs
