/- What a call answers, kept for good: values whose rows stand for good too. -/
import Derived.Test.YtcnnobcncklgfaaGreatDoorAbsMemo
namespace Go.Abs
open Go Go.RowKit
set_option linter.unusedVariables false
/-- A value whose parts stand for good. -/
def frzV : Nat → AH → AV → Option AV
  | 0, _, _ => none
  | n + 1, H, x => match x with
    | .agg cs => match frzs (frzV n H) cs with
      | some ys => some (.agg ys)
      | none => none
    | .tup cs => match frzs (frzV n H) cs with
      | some ys => some (.tup ys)
      | none => none
    | .slc g e i len z => match H.gs.get g with
      | some r => if r.e = e ∧ i + len * z ≤ r.cells.length then (match frzs (frzV n H) ((r.cells.drop i).take (len * z)) with
        | some ys => some (.vals z (chunk z len ys))
        | none => none) else none
      | none => none
    | .vals z rows => if rows.all (fun r => decide (r.length = z)) = true then (match frzs (frzV n H) rows.flatten with
        | some ys => some (.vals z (chunk z rows.length ys))
        | none => none) else none
    | .iface t y => match frzV n H y with
      | some y' => some (.iface t y')
      | none => none
    | x => if flatC x = true then some x else none
theorem VRow.cells {G : Gh} : ∀ {xs : List AV} {b o : Nat}, VRow G xs b o → ∀ (j : Nat) x, xs[j]? = some x → ∃ u, G.M b (o + j) = some u ∧ VR G x u
  | [], b, o, h, j, x, hj => by simp at hj
  | y :: ys, b, o, h, j, x, hj => by
    simp only [VRow] at h
    cases j with
    | zero => simp at hj; subst hj; exact h.1
    | succ j =>
      obtain ⟨u, h1, h2⟩ := VRow.cells h.2 j x (by simpa using hj)
      exact ⟨u, by rw [← h1]; congr 1; omega, h2⟩
theorem VRows.flat {G : Gh} {z : Nat} : ∀ {rs : List (List AV)} {b o : Nat}, VRows G z rs b o → ∀ (j : Nat) x, rs.flatten[j]? = some x → ∃ u, G.M b (o + j) = some u ∧ VR G x u
  | [], b, o, h, j, x, hj => by simp at hj
  | r :: rs, b, o, h, j, x, hj => by
    simp only [VRows] at h
    obtain ⟨h1, h2, h3⟩ := h
    rw [List.flatten_cons] at hj
    by_cases hlt : j < r.length
    · rw [List.getElem?_append_left hlt] at hj
      exact h2.cells j x hj
    · rw [List.getElem?_append_right (by omega)] at hj
      obtain ⟨u, q1, q2⟩ := VRows.flat h3 _ x hj
      exact ⟨u, by rw [← q1]; congr 1; omega, q2⟩
theorem flatten_len {z : Nat} : ∀ {rs : List (List AV)}, rs.all (fun r => decide (r.length = z)) = true → rs.flatten.length = rs.length * z
  | [], h => by simp
  | r :: rs, h => by
    simp only [List.all_cons, Bool.and_eq_true, decide_eq_true_eq] at h
    rw [List.flatten_cons, List.length_append, flatten_len h.2, h.1, List.length_cons, Nat.succ_mul, Nat.add_comm]
theorem frzV_ok {K : Kx} {G Gf : Gh} {H : AH} {w : World} (h : HRel K G H w) (hM : ∀ b o v, K.B ≤ b → w.cell? ⟨b, o, none⟩ = some v → v.oneCell' = true → Gf.M b o = some v) (hG : ∀ b o v, G.M b o = some v → Gf.M b o = some v) : ∀ (n : Nat) (x y : AV) (u : Value), frzV n H x = some y → VR G x u → VR Gf y u := by
  intro n
  induction n with
  | zero => intro x y u hf hv; cases hf
  | succ n ih =>
    intro x y u hf hv
    have list : ∀ {cs ys : List AV} {us : List Value}, frzs (frzV n H) cs = some ys → VRs G cs us → VRs Gf ys us := by
      intro cs ys us h1 h2
      obtain ⟨q1, q2⟩ := frzs_get h1
      refine VRs.of_get (by rw [h2.len, q1]) fun j y hj => ?_
      obtain ⟨x, h3, h4⟩ := q2 j y hj
      obtain ⟨v, h5, h6⟩ := h2.get j x h3
      exact ⟨v, h5, ih x y v h4 h6⟩
    simp only [frzV] at hf
    split at hf
    · rename_i cs
      split at hf
      · rename_i ys hys
        cases hf
        simp only [VR] at hv ⊢
        obtain ⟨us, rfl, h2⟩ := hv
        exact ⟨us, rfl, list hys h2⟩
      · cases hf
    · rename_i cs
      split at hf
      · rename_i ys hys
        cases hf
        simp only [VR] at hv ⊢
        obtain ⟨us, rfl, h2⟩ := hv
        exact ⟨us, rfl, list hys h2⟩
      · cases hf
    · rename_i g e i len z
      split at hf
      · rename_i r hr
        split at hf
        · rename_i hc
          obtain ⟨rfl, hfit⟩ := hc
          split at hf
          · rename_i ys hys
            cases hf
            simp only [VR] at hv ⊢
            obtain ⟨b, o, m, cap, hmu, rfl, hcap, _⟩ := hv
            obtain ⟨b', o', m', cs, t, q⟩ := h.grp g r hr
            rw [q.mu] at hmu
            cases hmu
            obtain ⟨q1, q2⟩ := frzs_get hys
            have hlen : ys.length = len * z := by rw [q1, List.length_take, List.length_drop]; omega
            refine ⟨_, cap, by rw [chunk_len], by rw [chunk_len]; exact hcap, .inr ⟨b, o + i, rfl, chunk_rows len ys (o + i) hlen fun j y hj => ?_⟩⟩
            obtain ⟨x, h3, h4⟩ := q2 j y hj
            obtain ⟨v, h5, h6, h7⟩ := q.cellsIn i (len * z) j x h3
            exact ⟨v, hM _ _ _ q.low h5 h7, ih x y v h4 h6⟩
          · cases hf
        · cases hf
      · cases hf
    · rename_i z rows
      split at hf
      · rename_i hz
        split at hf
        · rename_i ys hys
          cases hf
          simp only [VR] at hv ⊢
          obtain ⟨a, cap, rfl, hcap, hin⟩ := hv
          obtain ⟨q1, q2⟩ := frzs_get hys
          refine ⟨a, cap, by rw [chunk_len], by rw [chunk_len]; exact hcap, ?_⟩
          rcases hin with h0 | ⟨b, o, rfl, hin⟩
          · left; subst h0; rfl
          · right
            refine ⟨b, o, rfl, chunk_rows rows.length ys o (by rw [q1, flatten_len hz]) fun j y hj => ?_⟩
            obtain ⟨x, h3, h4⟩ := q2 j y hj
            obtain ⟨v, h5, h6⟩ := VRows.flat hin j x h3
            exact ⟨v, hG _ _ _ h5, ih x y v h4 h6⟩
        · cases hf
      · cases hf
    · rename_i t y'
      split at hf
      · rename_i z hz
        cases hf
        simp only [VR] at hv ⊢
        obtain ⟨v, rfl, h2⟩ := hv
        exact ⟨v, rfl, ih _ _ _ hz h2⟩
      · cases hf
    · split at hf
      · rename_i hfl
        cases hf
        exact flatC_ok hfl hv
      · cases hf
/-- Nothing is known. -/
def noG : Gh := ⟨fun _ _ => none, fun _ _ => none, fun _ => none⟩
theorem noG_rel (w : World) : HRel ⟨w.heap.size, w, fun _ _ => none⟩ noG AH.empty w := by
  refine ⟨Below.refl _ _, Nat.le_refl _, fun b o v h => (by cases h), fun b o v h => (by cases h), fun _ _ _ => rfl, ?_, ?_, fun _ _ _ => rfl, ?_, ?_, fun _ _ => rfl, ?_⟩
  · intro g r hg; rw [show AH.empty.gs.get g = none from Tr.get_nil g] at hg; cases hg
  · intro g g' r r' b o n b' o' n' hg; rw [show AH.empty.gs.get g = none from Tr.get_nil g] at hg; cases hg
  · intro g es hg; rw [show AH.empty.ms.get g = none from Tr.get_nil g] at hg; cases hg
  · intro g g' es es' b b' hg; rw [show AH.empty.ms.get g = none from Tr.get_nil g] at hg; cases hg
  · intro g r e hg; rw [show AH.empty.gs.get g = none from Tr.get_nil g] at hg; cases hg
/-- What a call answers in an empty memory it answers in any: kept for good. -/
theorem ACalls.memoV {P : Program} {f : FuncId} {args : List AV} {x y : AV} {H1 : AH} (n : Nat) (hargs : args.all flatC = true) (h : ACalls P f args AH.empty fun x' H' => x' = x ∧ H' = H1) (hf : frzV n H1 x = some y) (H : AH) :
    ACalls P f args H fun y' H' => y' = y ∧ H' = H := by
  intro K G vs w hr hv
  refine (h _ _ vs w (noG_rel w) (flats_ok hargs hv)).mono fun e w' ⟨u, x', G', H', h1, h2, h3, h4, h5, h6⟩ => ?_
  subst h5; subst h6
  refine ⟨u, y, newG G w.heap.size w', H, h1, newG_le hr, newG_rel hr h3.below, ?_, rfl, rfl⟩
  have hnew : ∀ b o v, w.heap.size ≤ b → w'.cell? ⟨b, o, none⟩ = some v → v.oneCell' = true → (newG G w.heap.size w').M b o = some v := fun b o v hB hc ho => by
    simp only [newG]
    rw [if_neg (by omega)]
    exact allG_cell hc ho
  refine frzV_ok h3 hnew (fun b o v hv => ?_) n x' y u hf h4
  by_cases hb : b < w.heap.size
  · have := h3.old b o hb
    rw [hv] at this
    cases this
  · exact hnew b o v (by omega) (h3.mem b o v hv) (h3.ones b o v hv)
/-- Is that what comes of a run? -/
def answersV (r : Option (AV × AH)) (y : AV) : Bool :=
  match r with
  | some (x, H) => match frzV 100 H x with
    | some x' => dsame 100 x' y
    | none => false
  | none => false
theorem answersV_ok {r : Option (AV × AH)} {y : AV} (h : answersV r y = true) : ∃ x H, r = some (x, H) ∧ frzV 100 H x = some y := by
  unfold answersV at h
  split at h
  · rename_i x H
    split at h
    · rename_i x' hx
      rw [← dsame_ok _ _ _ h]
      exact ⟨x, H, rfl, hx⟩
    · cases h
  · cases h
/-- Kept out of runs. -/
theorem memoV_of {P : Program} {good : FuncId → Bool} {hook : Hooks} {F n : Nat} (hok : CallOK P (arun P good hook F n)) {f : FuncId} {l : List (List AV × AV)} (h : (l.all fun e => e.1.all flatC && answersV (arunK P good hook F n f e.1 AH.empty) e.2) = true) :
    ∀ e ∈ l, ∀ H, ACalls P f e.1 H fun y H' => y = e.2 ∧ H' = H := by
  intro e he H
  have h1 := List.all_eq_true.1 h e he
  simp only [Bool.and_eq_true] at h1
  obtain ⟨x, H1, h2, h3⟩ := answersV_ok h1.2
  rw [arunK_eq] at h2
  exact ACalls.memoV 100 h1.1 (hok _ _ _ _ _ h2).2 h3 H
end Go.Abs
