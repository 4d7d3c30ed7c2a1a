/- From a row of cells to a term that is held; term.Comp. -/
import Derived.Test.YtcnnobcncklgfaaGreatDoorTermClone
namespace Go.Proofs.YtcnnobcncklgfaaGreatDoor
open Go Go.ChangeShapes Go.WideShapes Go.ChangeAt Go.RowKit
set_option linter.unusedVariables false
/-- The cells of terms whose Args slices are L. -/
def tmRow (ts : List Tm) (L : Nat → Value) : List Value := (List.range ts.length).flatMap fun i => match ts[i]? with | some t => [.int .i64 t.kind, .int .i64 t.num, .string ⟨t.name.toArray⟩, L i] | none => []
theorem flat_four {f : Nat → List Value} : ∀ (n : Nat), (∀ i, i < n → (f i).length = 4) → ((List.range n).flatMap f).length = n * 4 ∧ ∀ i, i < n → ∀ c, c < 4 → ((List.range n).flatMap f)[i * 4 + c]? = (f i)[c]? := by
  intro n
  induction n with
  | zero => intro _; exact ⟨rfl, fun i h => by omega⟩
  | succ n ih =>
    intro hf
    obtain ⟨h1, h2⟩ := ih fun i hi => hf i (by omega)
    rw [List.range_succ, List.flatMap_append]
    have e : (List.flatMap f [n]) = f n := by simp
    rw [e]
    refine ⟨by rw [List.length_append, h1, hf n (by omega)]; omega, fun i hi c hc => ?_⟩
    by_cases hin : i < n
    · rw [List.getElem?_append_left (by rw [h1]; omega)]
      exact h2 i hin c hc
    · have : i = n := by omega
      subst this
      rw [List.getElem?_append_right (by rw [h1]; omega), h1]
      congr 1; omega
theorem tmRow_spec (ts : List Tm) (L : Nat → Value) : (tmRow ts L).length = ts.length * 4 ∧ ∀ i (hi : i < ts.length), (tmRow ts L)[i * 4 + 0]? = some (.int .i64 ts[i].kind) ∧ (tmRow ts L)[i * 4 + 1]? = some (.int .i64 ts[i].num) ∧ (tmRow ts L)[i * 4 + 2]? = some (.string ⟨ts[i].name.toArray⟩) ∧ (tmRow ts L)[i * 4 + 3]? = some (L i) := by
  obtain ⟨h1, h2⟩ := flat_four (f := fun i => match ts[i]? with | some t => [.int .i64 t.kind, .int .i64 t.num, .string ⟨t.name.toArray⟩, L i] | none => []) ts.length (fun i hi => by simp [List.getElem?_eq_getElem hi])
  refine ⟨h1, fun i hi => ?_⟩
  have k0 := h2 i hi 0 (by omega)
  have k1 := h2 i hi 1 (by omega)
  have k2 := h2 i hi 2 (by omega)
  have k3 := h2 i hi 3 (by omega)
  simp only [List.getElem?_eq_getElem hi] at k0 k1 k2 k3
  exact ⟨k0, k1, k2, k3⟩
/-- A row of the run's own that holds the cells of held terms is held as Args. -/
theorem holds_own {w : World} {X : Nat → Prop} {ts : List Tm} {L : Nat → Value} {sl : Value} {base : Nat} (hown : w.ownsRow base 24 4 sl ts.length (tmRow ts L)) (hx : ∀ b, base ≤ b → X b)
    (h : ∀ i (hi : i < ts.length), Holds w X ts[i] (tmV ts[i].kind ts[i].num ts[i].name (L i))) (k n : Int) (s : List UInt8) : Holds w X (.mk k n s ts) (tmV k n s sl) := by
  obtain ⟨-, hsp⟩ := tmRow_spec ts L
  have hc := hown
  rcases hown.2 with ⟨rfl, h0⟩ | ⟨g, cap, cur, rfl, hb, hg, hnc, hcm, _⟩
  · have : ts = [] := List.eq_nil_of_length_eq_zero h0
    subst this
    exact .leaf _ _ _ _ _
  · have hk := hc.cells (g := g) rfl
    exact .node k n s ts ⟨g, 0, none⟩ cap L (hx g hb) (by omega) h (fun i hi => hk _ _ (hsp i hi).1) (fun i hi => hk _ _ (hsp i hi).2.1) (fun i hi => hk _ _ (hsp i hi).2.2.1) (fun i hi => hk _ _ (hsp i hi).2.2.2)
/-- The cells that a held term's Args lie in. -/
theorem holds_cells {w : World} {X : Nat → Prop} {t : Tm} {k n : Int} {s : List UInt8} {a : Addr} {len c : Nat} (h : Holds w X t (tmV k n s (.slice (some a) len c))) :
    ∃ L : Nat → Value, (∀ i (hi : i < t.args.length), Holds w X t.args[i] (tmV t.args[i].kind t.args[i].num t.args[i].name (L i))) ∧ ∀ j u, (tmRow t.args L)[j]? = some u → w.cell? (a.add j) = some u := by
  generalize hv : tmV k n s (.slice (some a) len c) = v at h
  cases h with
  | leaf k' n' s' a' c' => exact ⟨fun _ => .nilFunc, fun i hi => by simp [Tm.args] at hi, fun j u hu => by simp [Tm.args, tmRow] at hu⟩
  | node k' n' s' ts b cap L hx hn h c0 c1 c2 c3 =>
    unfold tmV at hv
    simp at hv
    obtain ⟨-, -, -, rfl, -, -⟩ := hv
    obtain ⟨hl, hsp⟩ := tmRow_spec ts L
    refine ⟨L, h, fun j u hu => ?_⟩
    have hj : j < ts.length * 4 := by
      rw [← hl]; exact (List.getElem?_eq_some_iff.1 hu).1
    have hi : j / 4 < ts.length := by omega
    have hs := hsp (j / 4) hi
    have hcase : j % 4 = 0 ∨ j % 4 = 1 ∨ j % 4 = 2 ∨ j % 4 = 3 := by omega
    replace hu : (tmRow ts L)[j]? = some u := hu
    rcases hcase with e | e | e | e
    · have e2 : j = j / 4 * 4 + 0 := by omega
      rw [e2] at hu ⊢
      rw [hs.1] at hu; cases hu; exact c0 _ hi
    · have e2 : j = j / 4 * 4 + 1 := by omega
      rw [e2] at hu ⊢
      rw [hs.2.1] at hu; cases hu; exact c1 _ hi
    · have e2 : j = j / 4 * 4 + 2 := by omega
      rw [e2] at hu ⊢
      rw [hs.2.2.1] at hu; cases hu; exact c2 _ hi
    · have e2 : j = j / 4 * 4 + 3 := by omega
      rw [e2] at hu ⊢
      rw [hs.2.2.2] at hu; cases hu; exact c3 _ hi
theorem tmRow_one {ts : List Tm} {L : Nat → Value} (h : ∀ i, i < ts.length → ∃ a n c, L i = .slice a n c) : ∀ u ∈ tmRow ts L, u.oneCell' = true := by
  intro u hu
  unfold tmRow at hu
  rw [List.mem_flatMap] at hu
  obtain ⟨i, hi, hu⟩ := hu
  rw [List.mem_range] at hi
  obtain ⟨a, n, c, hL⟩ := h i hi
  rw [List.getElem?_eq_getElem hi] at hu
  simp only [hL, List.mem_cons, List.not_mem_nil, or_false] at hu
  rcases hu with rfl | rfl | rfl | rfl <;> rfl
end Go.Proofs.YtcnnobcncklgfaaGreatDoor
