/- The contracts of body.Cuts and of the document's Cuts. -/
import Derived.Test.YtcnnobcncklgfaaGreatDoorSymB3
namespace Go.Proofs.YtcnnobcncklgfaaGreatDoor
open Go Go.Abs Go.RowKit
set_option linter.unusedVariables false
set_option linter.unusedSimpArgs false
attribute [local congr] on_congr br_congr onf_congr
def glA (g : Gl) : AV := .agg (glC g)
theorem glA_inj (a b : Gl) (h : glA a = glA b) : a = b := glC_inj a b (by unfold glA at h; injection h)
theorem pure_glA (g : Gl) : pureA (glA g) = true := by simp [glA, pureA, pure_glC]
def GC (n : Nat) (g : Gl) : Prop := wt g < n + 1 ∧ wt g ≤ 100000000
theorem WC.gc {n : Nat} {l : List Gl} (h : WC (n + 1) l) {g : Gl} (hg : g ∈ l) : GC n g := ⟨by have := wt_mem hg; have := h.1; omega, by have := wt_mem hg; have := h.2; omega⟩
theorem GC.rows {n : Nat} {g : Gl} (h : GC n g) : g.rows.length ≤ 100000000 ∧ ∀ r ∈ g.rows, WC n r := by
  obtain ⟨h1, h2⟩ := h
  rw [wt_eq] at h1 h2
  have := rows_wt g.rows
  exact ⟨by omega, fun r hr => by have := wt_row hr; exact ⟨by omega, by omega⟩⟩
noncomputable def c1S (n : Nat) : List AV → Option AV
  | [x] => (back glA x).bind fun g => only (GC n g) (some (.bool (cutG g)))
  | _ => none
theorem c1S_eq {n : Nat} {g : Gl} (h : GC n g) : c1S n [.agg (glC g)] = some (.bool (cutG g)) := by
  show (back glA (glA g)).bind _ = _
  rw [back_eq glA_inj]; exact only_eq h _
set_option maxHeartbeats 1000000 in
theorem c1_one {n : Nat} (hc : HookOne Tryz.prog 19 (pureF (cutS n))) : HookOne Tryz.prog 50 (pureF (c1S n)) := by
  refine HookOne.ofPureF (by decide +kernel) fun args y h H => ?_
  have hl : ∀ e ∈ [(51, pureF (rcS n))], HookOne Tryz.prog e.1 e.2 := by
    intro e he; simp at he; subst he; exact rc_one hc
  unfold c1S at h; split at h
  · rename_i x
    rw [Option.bind_eq_some_iff] at h
    obtain ⟨g, h1, h2⟩ := h
    obtain ⟨hw, h3⟩ := only_ok h2
    cases h3
    obtain rfl := back_ok h1
    refine ACalls.ofRun hl mixed (draws _ rfl) yCuts1_ok rfl (by simp [pureL, pure_glA]) 1 ?_ H
    unfold glA
    have hr := hw.rows
    rw [cutG_eq]
    by_cases k2 : g.kind = 2
    · simp (maxSteps := 1000000) (disch := omega) only [yCuts1, xinit_1, ↓axP, axQ, ↓if_true, ↓if_false, List.all_cons, List.all_nil, List.length_cons, List.length_nil, List.take_succ_cons, List.take_zero, List.take_nil, List.drop_succ_cons, List.drop_zero, List.drop_nil, List.getElem?_cons_zero, List.getElem?_cons_succ, List.getElem?_nil, List.nil_append, List.cons_append, List.append_nil, List.flatten_cons, List.flatten_nil, ite_true, ite_false, reduceIte, ne_eq, eq_self, Nat.reduceAdd, Nat.reduceSub, Nat.reduceMul, Nat.reduceLeDiff, Nat.reduceEqDiff, Nat.reduceBEq, reduceCtorEq, Int.reduceToNat, List.elem_nil, List.elem_cons, Int.reduceLT, Int.reduceLE, Int.reduceEq, Int.reduceAdd, Int.reduceSub, Int.reduceNeg, capnY, appzY, List.all_append, List.take_append, List.drop_append, List.length_append, glC_len, glC_0, glC_5, glC_t, glC_take, glC_drop, glC_one, glC_ne, glV_cells, glV_fit, glV_one, frA_glV, k2]
      exact Ans.some (.pure rfl)
    · by_cases k5 : g.kind = 5
      · have e1 : ((5 : Int) = 2) = False := by simp
        simp (maxSteps := 1000000) (disch := omega) only [yCuts1, xinit_1, ↓axP, axQ, ↓if_true, ↓if_false, List.all_cons, List.all_nil, List.length_cons, List.length_nil, List.take_succ_cons, List.take_zero, List.take_nil, List.drop_succ_cons, List.drop_zero, List.drop_nil, List.getElem?_cons_zero, List.getElem?_cons_succ, List.getElem?_nil, List.nil_append, List.cons_append, List.append_nil, List.flatten_cons, List.flatten_nil, ite_true, ite_false, reduceIte, ne_eq, eq_self, Nat.reduceAdd, Nat.reduceSub, Nat.reduceMul, Nat.reduceLeDiff, Nat.reduceEqDiff, Nat.reduceBEq, reduceCtorEq, Int.reduceToNat, List.elem_nil, List.elem_cons, Int.reduceLT, Int.reduceLE, Int.reduceEq, Int.reduceAdd, Int.reduceSub, Int.reduceNeg, capnY, appzY, List.all_append, List.take_append, List.drop_append, List.length_append, glC_len, glC_0, glC_5, glC_t, glC_take, glC_drop, glC_one, glC_ne, glV_cells, glV_fit, glV_one, frA_glV, k5, e1]
        exact Ans.some (.pure rfl)
      · by_cases k4 : g.kind = 4
        · have e1 : ((4 : Int) = 2) = False := by simp
          have e2 : ((4 : Int) = 5) = False := by simp
          cases hrs : g.rows with
          | nil =>
            have e := rcS_eq (n := n) (l := []) ⟨by simp, fun r hr => by cases hr⟩
            unfold glsV at e
            simp only [List.map_nil] at e
            simp (maxSteps := 1000000) (disch := omega) only [yCuts1, xinit_1, ↓axP, axQ, ↓if_true, ↓if_false, List.all_cons, List.all_nil, List.length_cons, List.length_nil, List.take_succ_cons, List.take_zero, List.take_nil, List.drop_succ_cons, List.drop_zero, List.drop_nil, List.getElem?_cons_zero, List.getElem?_cons_succ, List.getElem?_nil, List.nil_append, List.cons_append, List.append_nil, List.flatten_cons, List.flatten_nil, ite_true, ite_false, reduceIte, ne_eq, eq_self, Nat.reduceAdd, Nat.reduceSub, Nat.reduceMul, Nat.reduceLeDiff, Nat.reduceEqDiff, Nat.reduceBEq, reduceCtorEq, Int.reduceToNat, List.elem_nil, List.elem_cons, Int.reduceLT, Int.reduceLE, Int.reduceEq, Int.reduceAdd, Int.reduceSub, Int.reduceNeg, capnY, appzY, List.all_append, List.take_append, List.drop_append, List.length_append, glC_len, glC_0, glC_5, glC_t, glC_take, glC_drop, glC_one, glC_ne, glV_cells, glV_fit, glV_one, frA_glV, k4, e1, e2, hrs, e, List.map_nil]
            exact Ans.some (.pure rfl)
          | cons r rs =>
            rw [hrs] at hr
            have e := rcS_eq (n := n) (l := rs) ⟨by have := hr.1; simp at this; omega, fun x hx => hr.2 x (List.mem_cons_of_mem _ hx)⟩
            unfold glsV at e
            have hp : ((0 : Int) < (rs.length : Int) + 1) = True := eq_true (by omega)
            have ht : List.take rs.length (rs.map fun r => [glV r]) = rs.map fun r => [glV r] := List.take_of_length_le (by simp)
            simp (maxSteps := 1000000) (disch := omega) only [yCuts1, xinit_1, ↓axP, axQ, ↓if_true, ↓if_false, List.all_cons, List.all_nil, List.length_cons, List.length_nil, List.take_succ_cons, List.take_zero, List.take_nil, List.drop_succ_cons, List.drop_zero, List.drop_nil, List.getElem?_cons_zero, List.getElem?_cons_succ, List.getElem?_nil, List.nil_append, List.cons_append, List.append_nil, List.flatten_cons, List.flatten_nil, ite_true, ite_false, reduceIte, ne_eq, eq_self, Nat.reduceAdd, Nat.reduceSub, Nat.reduceMul, Nat.reduceLeDiff, Nat.reduceEqDiff, Nat.reduceBEq, reduceCtorEq, Int.reduceToNat, List.elem_nil, List.elem_cons, Int.reduceLT, Int.reduceLE, Int.reduceEq, Int.reduceAdd, Int.reduceSub, Int.reduceNeg, capnY, appzY, List.all_append, List.take_append, List.drop_append, List.length_append, glC_len, glC_0, glC_5, glC_t, glC_take, glC_drop, glC_one, glC_ne, glV_cells, glV_fit, glV_one, frA_glV, k4, e1, e2, hrs, e, List.map_cons, List.length_map, hp, ht, Nat.add_sub_cancel, Nat.le_add_left]
            exact Ans.some (.pure rfl)
        · have e := rcS_eq (n := n) (l := g.rows) hr
          unfold glsV at e
          simp (maxSteps := 1000000) (disch := omega) only [yCuts1, xinit_1, ↓axP, axQ, ↓if_true, ↓if_false, List.all_cons, List.all_nil, List.length_cons, List.length_nil, List.take_succ_cons, List.take_zero, List.take_nil, List.drop_succ_cons, List.drop_zero, List.drop_nil, List.getElem?_cons_zero, List.getElem?_cons_succ, List.getElem?_nil, List.nil_append, List.cons_append, List.append_nil, List.flatten_cons, List.flatten_nil, ite_true, ite_false, reduceIte, ne_eq, eq_self, Nat.reduceAdd, Nat.reduceSub, Nat.reduceMul, Nat.reduceLeDiff, Nat.reduceEqDiff, Nat.reduceBEq, reduceCtorEq, Int.reduceToNat, List.elem_nil, List.elem_cons, Int.reduceLT, Int.reduceLE, Int.reduceEq, Int.reduceAdd, Int.reduceSub, Int.reduceNeg, capnY, appzY, List.all_append, List.take_append, List.drop_append, List.length_append, glC_len, glC_0, glC_5, glC_t, glC_take, glC_drop, glC_one, glC_ne, glV_cells, glV_fit, glV_one, frA_glV, k2, k5, k4, e]
          exact Ans.some (.pure rfl)
  · cases h
noncomputable def fxS (n : Nat) : List AV → Option AV
  | [x, .fn (.func f) []] => (ofRow x).bind fun l => only (f = 50 ∧ l.length ≤ 100000000 ∧ ∀ g ∈ l, GC n g) (some (.int .i64 (ixOf cutG l 0)))
  | _ => none
theorem fxS_eq {n : Nat} {l : List Gl} (h : l.length ≤ 100000000 ∧ ∀ g ∈ l, GC n g) : fxS n [glV l, .fn (.func 50) []] = some (.int .i64 (ixOf cutG l 0)) := by
  simp only [fxS, ofRow_eq, Option.bind_some]; exact only_eq (by exact ⟨trivial, h⟩) _
theorem fx_loop {n : Nat} (F0 : Nat) (H : AH) (rs : List Gl) (hb : rs.length ≤ 100000000) : ∀ (r2 r1 : List Gl) (F : Nat), rs = r1 ++ r2 → (∀ r ∈ r2, GC n r) → r2.length < F →
    iter (ycode (tcall [(50, pureF (c1S n))]) F0 yIxFa) F (mk [(0, .vals 6 (rs.map glC)), (1, .fn (.func 50) []), (7, .int .i64 rs.length), (8, .int .i64 r1.length)]) H =
      if r2.any cutG = true then some (.ret, mk [(4, .int .i64 (ixOf cutG r2 r1.length))], H) else some (.exit 0, mk [], H) := by
  intro r2
  induction r2 with
  | nil =>
    intro r1 F h1 h2 h6
    obtain ⟨k, rfl⟩ := iter_pos (f := fun _ _ => none) (n := F) (by omega)
    rw [List.append_nil] at h1
    have hlt : ((r1.length : Int) < (rs.length : Int)) = False := by rw [h1]; simp
    rw [iter_one]
    simp (maxSteps := 1000000) (disch := omega) only [yIxFa_r, yIxFa_, ↓axP, axQ, ↓if_true, ↓if_false, List.all_cons, List.all_nil, List.length_cons, List.length_nil, List.take_succ_cons, List.take_zero, List.take_nil, List.drop_succ_cons, List.drop_zero, List.drop_nil, List.getElem?_cons_zero, List.getElem?_cons_succ, List.getElem?_nil, List.nil_append, List.cons_append, List.append_nil, List.flatten_cons, List.flatten_nil, ite_true, ite_false, reduceIte, ne_eq, eq_self, Nat.reduceAdd, Nat.reduceSub, Nat.reduceMul, Nat.reduceLeDiff, Nat.reduceEqDiff, Nat.reduceBEq, reduceCtorEq, Int.reduceToNat, List.elem_nil, List.elem_cons, Int.reduceLT, Int.reduceLE, Int.reduceEq, Int.reduceAdd, Int.reduceSub, Int.reduceNeg, capnY, appzY, List.all_append, List.take_append, List.drop_append, List.length_append, hlt, List.length_map, List.any_nil, Bool.false_eq_true]
  | cons r r2 ih =>
    intro r1 F h1 h2 h6
    obtain ⟨k, rfl⟩ := iter_pos (f := fun _ _ => none) (n := F) (by omega)
    have hR : r1.length + 1 ≤ 100000000 := by rw [h1] at hb; simp at hb; omega
    have hlt : ((r1.length : Int) < (rs.length : Int)) = True := eq_true (by rw [h1]; simp; omega)
    have hget : (rs.map glC)[r1.length]? = some (glC r) := by rw [h1]; exact mid_get _ _ _ _
    have hi : (0 : Int) ≤ (r1.length : Int) := by omega
    have hr := c1S_eq (h2 r (List.mem_cons_self ..))
    have IH := ih (r1 ++ [r]) k (by simp [h1]) (fun x hx => h2 x (List.mem_cons_of_mem _ hx)) (by simp at h6; omega)
    have hls : (r1 ++ [r]).length = r1.length + 1 := by simp
    rw [hls] at IH
    simp only [Int.natCast_add, Int.natCast_one] at IH
    rw [iter_one, List.any_cons]
    simp only [ixOf]
    cases hc : cutG r with
    | true => simp (maxSteps := 1000000) (disch := omega) only [yIxFa_r, yIxFa_, ↓axP, axQ, ↓if_true, ↓if_false, List.all_cons, List.all_nil, List.length_cons, List.length_nil, List.take_succ_cons, List.take_zero, List.take_nil, List.drop_succ_cons, List.drop_zero, List.drop_nil, List.getElem?_cons_zero, List.getElem?_cons_succ, List.getElem?_nil, List.nil_append, List.cons_append, List.append_nil, List.flatten_cons, List.flatten_nil, ite_true, ite_false, reduceIte, ne_eq, eq_self, Nat.reduceAdd, Nat.reduceSub, Nat.reduceMul, Nat.reduceLeDiff, Nat.reduceEqDiff, Nat.reduceBEq, reduceCtorEq, Int.reduceToNat, List.elem_nil, List.elem_cons, Int.reduceLT, Int.reduceLE, Int.reduceEq, Int.reduceAdd, Int.reduceSub, Int.reduceNeg, capnY, appzY, List.all_append, List.take_append, List.drop_append, List.length_append, glC_len, glC_0, glC_5, glC_t, glC_take, glC_drop, glC_one, glC_ne, glV_cells, glV_fit, glV_one, frA_glV, hlt, hi, hget, Int.toNat_natCast, List.length_map, hr, hc]
    | false => simp (maxSteps := 1000000) (disch := omega) only [yIxFa_r, yIxFa_, ↓axP, axQ, ↓if_true, ↓if_false, List.all_cons, List.all_nil, List.length_cons, List.length_nil, List.take_succ_cons, List.take_zero, List.take_nil, List.drop_succ_cons, List.drop_zero, List.drop_nil, List.getElem?_cons_zero, List.getElem?_cons_succ, List.getElem?_nil, List.nil_append, List.cons_append, List.append_nil, List.flatten_cons, List.flatten_nil, ite_true, ite_false, reduceIte, ne_eq, eq_self, Nat.reduceAdd, Nat.reduceSub, Nat.reduceMul, Nat.reduceLeDiff, Nat.reduceEqDiff, Nat.reduceBEq, reduceCtorEq, Int.reduceToNat, List.elem_nil, List.elem_cons, Int.reduceLT, Int.reduceLE, Int.reduceEq, Int.reduceAdd, Int.reduceSub, Int.reduceNeg, capnY, appzY, List.all_append, List.take_append, List.drop_append, List.length_append, glC_len, glC_0, glC_5, glC_t, glC_take, glC_drop, glC_one, glC_ne, glV_cells, glV_fit, glV_one, frA_glV, hlt, hi, hget, Int.toNat_natCast, List.length_map, hr, hc, IH, Bool.false_eq_true]
theorem ixOf_none {α : Type} (p : α → Bool) : ∀ (l : List α) (i : Int), l.any p = false → ixOf p l i = -1
  | [], _, _ => rfl
  | x :: l, i, h => by simp only [List.any_cons, Bool.or_eq_false_iff] at h; simp [ixOf, h.1, ixOf_none p l _ h.2]
theorem fx_one {n : Nat} (hc : HookOne Tryz.prog 19 (pureF (cutS n))) : HookOne Tryz.prog 75 (pureF (fxS n)) := by
  refine HookOne.ofPureF (by decide +kernel) fun args y h H => ?_
  have hl : ∀ e ∈ [(50, pureF (c1S n))], HookOne Tryz.prog e.1 e.2 := by
    intro e he; simp at he; subst he; exact c1_one hc
  unfold fxS at h; split at h
  · rename_i x f
    rw [Option.bind_eq_some_iff] at h
    obtain ⟨l, h1, h2⟩ := h
    obtain ⟨⟨rfl, hb, hw⟩, h3⟩ := only_ok h2
    cases h3
    obtain rfl := back_ok h1
    refine ACalls.ofRun hl mixed (draws _ rfl) yIxF_ok rfl (by simp [pureL, pure_glV, pureA]) (l.length + 1) ?_ H
    have q := fx_loop (n := n) (l.length + 1) AH.empty l hb l [] (l.length + 1) rfl hw (by omega)
    simp only [List.length_nil, Int.natCast_zero, empty_mk] at q
    unfold glV
    cases ha : l.any cutG with
    | true =>
      simp only [ha, if_true] at q
      simp (maxSteps := 1000000) (disch := omega) only [yIxF, xinit_2, ↓axP, axQ, ↓if_true, ↓if_false, List.all_cons, List.all_nil, List.length_cons, List.length_nil, List.take_succ_cons, List.take_zero, List.take_nil, List.drop_succ_cons, List.drop_zero, List.drop_nil, List.getElem?_cons_zero, List.getElem?_cons_succ, List.getElem?_nil, List.nil_append, List.cons_append, List.append_nil, List.flatten_cons, List.flatten_nil, ite_true, ite_false, reduceIte, ne_eq, eq_self, Nat.reduceAdd, Nat.reduceSub, Nat.reduceMul, Nat.reduceLeDiff, Nat.reduceEqDiff, Nat.reduceBEq, reduceCtorEq, Int.reduceToNat, List.elem_nil, List.elem_cons, Int.reduceLT, Int.reduceLE, Int.reduceEq, Int.reduceAdd, Int.reduceSub, Int.reduceNeg, capnY, appzY, List.all_append, List.take_append, List.drop_append, List.length_append, List.length_map, q]
      exact Ans.some (.pure rfl)
    | false =>
      have e := ixOf_none cutG l 0 ha
      simp only [ha, if_false, Bool.false_eq_true] at q
      simp (maxSteps := 1000000) (disch := omega) only [yIxF, xinit_2, ↓axP, axQ, ↓if_true, ↓if_false, List.all_cons, List.all_nil, List.length_cons, List.length_nil, List.take_succ_cons, List.take_zero, List.take_nil, List.drop_succ_cons, List.drop_zero, List.drop_nil, List.getElem?_cons_zero, List.getElem?_cons_succ, List.getElem?_nil, List.nil_append, List.cons_append, List.append_nil, List.flatten_cons, List.flatten_nil, ite_true, ite_false, reduceIte, ne_eq, eq_self, Nat.reduceAdd, Nat.reduceSub, Nat.reduceMul, Nat.reduceLeDiff, Nat.reduceEqDiff, Nat.reduceBEq, reduceCtorEq, Int.reduceToNat, List.elem_nil, List.elem_cons, Int.reduceLT, Int.reduceLE, Int.reduceEq, Int.reduceAdd, Int.reduceSub, Int.reduceNeg, capnY, appzY, List.all_append, List.take_append, List.drop_append, List.length_append, List.length_map, q, e]
      exact Ans.some (.pure rfl)
  · cases h
noncomputable def fcS (n : Nat) : List AV → Option AV
  | [x, .fn (.func f) []] => (ofRow x).bind fun l => only (f = 50 ∧ l.length ≤ 100000000 ∧ ∀ r ∈ l, GC n r) (some (.bool (l.any cutG)))
  | _ => none
theorem fcS_eq {n : Nat} {l : List Gl} (h : l.length ≤ 100000000 ∧ ∀ r ∈ l, GC n r) : fcS n [glV l, .fn (.func 50) []] = some (.bool (l.any cutG)) := by
  simp only [fcS, ofRow_eq, Option.bind_some]; exact only_eq (by exact ⟨trivial, h⟩) _
theorem fc_one {n : Nat} (hc : HookOne Tryz.prog 19 (pureF (cutS n))) : HookOne Tryz.prog 49 (pureF (fcS n)) := by
  refine HookOne.ofPureF (by decide +kernel) fun args y h H => ?_
  have hl : ∀ e ∈ [(75, pureF (fxS n))], HookOne Tryz.prog e.1 e.2 := by
    intro e he; simp at he; subst he; exact fx_one hc
  unfold fcS at h; split at h
  · rename_i x f
    rw [Option.bind_eq_some_iff] at h
    obtain ⟨l, h1, h2⟩ := h
    obtain ⟨⟨rfl, hw⟩, h3⟩ := only_ok h2
    cases h3
    obtain rfl := back_ok h1
    refine ACalls.ofRun hl mixed (draws _ rfl) yCtF_ok rfl (by simp [pureL, pure_glV, pureA]) 1 ?_ H
    have e := ixOf_any cutG l 0 (by omega)
    cases ha : l.any cutG with
    | true =>
      have e1 : (0 ≤ ixOf cutG l 0) = True := eq_true (e.mpr ha)
      simp (maxSteps := 1000000) (disch := omega) only [yCtF, xinit_2, ↓axP, axQ, ↓if_true, ↓if_false, List.all_cons, List.all_nil, List.length_cons, List.length_nil, List.take_succ_cons, List.take_zero, List.take_nil, List.drop_succ_cons, List.drop_zero, List.drop_nil, List.getElem?_cons_zero, List.getElem?_cons_succ, List.getElem?_nil, List.nil_append, List.cons_append, List.append_nil, List.flatten_cons, List.flatten_nil, ite_true, ite_false, reduceIte, ne_eq, eq_self, Nat.reduceAdd, Nat.reduceSub, Nat.reduceMul, Nat.reduceLeDiff, Nat.reduceEqDiff, Nat.reduceBEq, reduceCtorEq, Int.reduceToNat, List.elem_nil, List.elem_cons, Int.reduceLT, Int.reduceLE, Int.reduceEq, Int.reduceAdd, Int.reduceSub, Int.reduceNeg, capnY, appzY, List.all_append, List.take_append, List.drop_append, List.length_append, frA_glV, fxS_eq hw, e1]
      exact Ans.some (.pure rfl)
    | false =>
      have e1 : (0 ≤ ixOf cutG l 0) = False := eq_false (fun h => by rw [e] at h; rw [h] at ha; cases ha)
      simp (maxSteps := 1000000) (disch := omega) only [yCtF, xinit_2, ↓axP, axQ, ↓if_true, ↓if_false, List.all_cons, List.all_nil, List.length_cons, List.length_nil, List.take_succ_cons, List.take_zero, List.take_nil, List.drop_succ_cons, List.drop_zero, List.drop_nil, List.getElem?_cons_zero, List.getElem?_cons_succ, List.getElem?_nil, List.nil_append, List.cons_append, List.append_nil, List.flatten_cons, List.flatten_nil, ite_true, ite_false, reduceIte, ne_eq, eq_self, Nat.reduceAdd, Nat.reduceSub, Nat.reduceMul, Nat.reduceLeDiff, Nat.reduceEqDiff, Nat.reduceBEq, reduceCtorEq, Int.reduceToNat, List.elem_nil, List.elem_cons, Int.reduceLT, Int.reduceLE, Int.reduceEq, Int.reduceAdd, Int.reduceSub, Int.reduceNeg, capnY, appzY, List.all_append, List.take_append, List.drop_append, List.length_append, frA_glV, fxS_eq hw, e1]
      exact Ans.some (.pure rfl)
  · cases h
theorem cut_step {n : Nat} (hc : HookOne Tryz.prog 19 (pureF (cutS n))) : HookOne Tryz.prog 19 (pureF (cutS (n + 1))) := by
  refine HookOne.ofPureF (by decide +kernel) fun args y h H => ?_
  have hl : ∀ e ∈ [(49, pureF (fcS n))], HookOne Tryz.prog e.1 e.2 := by
    intro e he; simp at he; subst he; exact fc_one hc
  unfold cutS at h; split at h
  · rename_i x
    rw [Option.bind_eq_some_iff] at h
    obtain ⟨l, h1, h2⟩ := h
    obtain ⟨hw, h3⟩ := only_ok h2
    cases h3
    obtain rfl := back_ok h1
    refine ACalls.ofRun hl mixed (draws _ rfl) yCuts_ok rfl (by simp [pureL, pure_glV]) 1 ?_ H
    have e := fcS_eq (n := n) (l := l) ⟨by have := len_wt l; have := hw.2; omega, fun g hg => hw.gc hg⟩
    rw [← cutL_any] at e
    simp (maxSteps := 1000000) (disch := omega) only [yCuts, xinit_1, ↓axP, axQ, ↓if_true, ↓if_false, List.all_cons, List.all_nil, List.length_cons, List.length_nil, List.take_succ_cons, List.take_zero, List.take_nil, List.drop_succ_cons, List.drop_zero, List.drop_nil, List.getElem?_cons_zero, List.getElem?_cons_succ, List.getElem?_nil, List.nil_append, List.cons_append, List.append_nil, List.flatten_cons, List.flatten_nil, ite_true, ite_false, reduceIte, ne_eq, eq_self, Nat.reduceAdd, Nat.reduceSub, Nat.reduceMul, Nat.reduceLeDiff, Nat.reduceEqDiff, Nat.reduceBEq, reduceCtorEq, Int.reduceToNat, List.elem_nil, List.elem_cons, Int.reduceLT, Int.reduceLE, Int.reduceEq, Int.reduceAdd, Int.reduceSub, Int.reduceNeg, capnY, appzY, List.all_append, List.take_append, List.drop_append, List.length_append, frA_glV, e]
    exact Ans.some (.pure rfl)
  · cases h
theorem cut_any : ∀ n, HookOne Tryz.prog 19 (pureF (cutS n)) := lev_any _ (fun h => cut_step h) cutS_0 (by decide +kernel)
def cutX (g : Gl) (first : Bool) (r2 : List (List Gl)) : Bool := !decide (g.kind = 5) && (if g.kind = 4 then (r2.drop (if first then 1 else 0)).any cutL else r2.any cutL)
theorem rcuta_loop {n : Nat} (F0 : Nat) (H : AH) (l : List Gl) (hl : l.length ≤ 100000000) (l1 l3 : List Gl) (g : Gl) (he : l = l1 ++ g :: l3) (hg : g.rows.length ≤ 100000000) : ∀ (r2 r1 : List (List Gl)) (F : Nat), g.rows = r1 ++ r2 → (∀ r ∈ r2, WC n r) → r2.length < F →
    iter (ycode (tcall [(26, pureF (cutS n))]) F0 yRCutsa) F (mk [(0, .vals 6 (l.map glC)), (3, .int .i64 l1.length), (4, .int .i64 r1.length)]) H =
      if cutX g (decide (r1 = [])) r2 = true then some (.ret, mk [(2, .bool true)], H) else some (.exit 2, mk [(0, .vals 6 (l.map glC)), (3, .int .i64 l1.length)], H) := by
  intro r2
  have hget0 : (l.map glC)[l1.length]? = some (glC g) := by rw [he]; exact mid_get _ _ _ _
  have hi0 : (0 : Int) ≤ (l1.length : Int) := by omega
  induction r2 with
  | nil =>
    intro r1 F h1 h2 h6
    obtain ⟨k, rfl⟩ := iter_pos (f := fun _ _ => none) (n := F) (by omega)
    rw [List.append_nil] at h1
    have hlt : ((r1.length : Int) < (g.rows.length : Int)) = False := by rw [h1]; simp
    have hx : cutX g (decide (r1 = [])) [] = false := by simp [cutX]
    rw [iter_one, hx]
    simp (maxSteps := 1000000) (disch := omega) only [yRCutsa_r, yRCutsa_, ↓axP, axQ, ↓if_true, ↓if_false, List.all_cons, List.all_nil, List.length_cons, List.length_nil, List.take_succ_cons, List.take_zero, List.take_nil, List.drop_succ_cons, List.drop_zero, List.drop_nil, List.getElem?_cons_zero, List.getElem?_cons_succ, List.getElem?_nil, List.nil_append, List.cons_append, List.append_nil, List.flatten_cons, List.flatten_nil, ite_true, ite_false, reduceIte, ne_eq, eq_self, Nat.reduceAdd, Nat.reduceSub, Nat.reduceMul, Nat.reduceLeDiff, Nat.reduceEqDiff, Nat.reduceBEq, reduceCtorEq, Int.reduceToNat, List.elem_nil, List.elem_cons, Int.reduceLT, Int.reduceLE, Int.reduceEq, Int.reduceAdd, Int.reduceSub, Int.reduceNeg, capnY, appzY, List.all_append, List.take_append, List.drop_append, List.length_append, glC_len, glC_0, glC_5, glC_t, glC_take, glC_drop, glC_one, glC_ne, glV_cells, glV_fit, glV_one, frA_glV, hlt, List.length_map, hi0, hget0, Int.toNat_natCast, Bool.false_eq_true]
  | cons r r2 ih =>
    intro r1 F h1 h2 h6
    obtain ⟨k, rfl⟩ := iter_pos (f := fun _ _ => none) (n := F) (by omega)
    have hR : r1.length + 1 ≤ 100000000 := by rw [h1] at hg; simp at hg; omega
    have hlt : ((r1.length : Int) < (g.rows.length : Int)) = True := eq_true (by rw [h1]; simp; omega)
    have hget : (g.rows.map fun r => [glV r])[r1.length]? = some [glV r] := by rw [h1]; exact mid_get _ _ _ _
    have hi : (0 : Int) ≤ (r1.length : Int) := by omega
    have hr := cutS_eq (h2 r (List.mem_cons_self ..))
    have IH := ih (r1 ++ [r]) k (by simp [h1]) (fun x hx => h2 x (List.mem_cons_of_mem _ hx)) (by simp at h6; omega)
    have hls : (r1 ++ [r]).length = r1.length + 1 := by simp
    have hne : decide (r1 ++ [r] = []) = false := by simp
    rw [hls, hne] at IH
    simp only [Int.natCast_add, Int.natCast_one] at IH
    rw [iter_one]
    by_cases k5 : g.kind = 5
    · have hx : cutX g (decide (r1 = [])) (r :: r2) = false := by simp [cutX, k5]
      rw [hx]
      simp (maxSteps := 1000000) (disch := omega) only [yRCutsa_r, yRCutsa_, ↓axP, axQ, ↓if_true, ↓if_false, List.all_cons, List.all_nil, List.length_cons, List.length_nil, List.take_succ_cons, List.take_zero, List.take_nil, List.drop_succ_cons, List.drop_zero, List.drop_nil, List.getElem?_cons_zero, List.getElem?_cons_succ, List.getElem?_nil, List.nil_append, List.cons_append, List.append_nil, List.flatten_cons, List.flatten_nil, ite_true, ite_false, reduceIte, ne_eq, eq_self, Nat.reduceAdd, Nat.reduceSub, Nat.reduceMul, Nat.reduceLeDiff, Nat.reduceEqDiff, Nat.reduceBEq, reduceCtorEq, Int.reduceToNat, List.elem_nil, List.elem_cons, Int.reduceLT, Int.reduceLE, Int.reduceEq, Int.reduceAdd, Int.reduceSub, Int.reduceNeg, capnY, appzY, List.all_append, List.take_append, List.drop_append, List.length_append, glC_len, glC_0, glC_5, glC_t, glC_take, glC_drop, glC_one, glC_ne, glV_cells, glV_fit, glV_one, frA_glV, hlt, List.length_map, hi0, hget0, Int.toNat_natCast, Bool.false_eq_true, k5]
    · have hd5 : (g.kind = 5) = False := eq_false k5
      have tail : cutX g false r2 = r2.any cutL := by unfold cutX; simp [k5]
      rw [tail] at IH
      by_cases k4 : g.kind = 4
      · have e45 : ((4 : Int) = 5) = False := by simp
        by_cases hn : r1 = []
        · have hx : cutX g (decide (r1 = [])) (r :: r2) = r2.any cutL := by simp [cutX, k4, hn]
          rw [hx]
          subst hn
          simp only [List.length_nil, Int.natCast_zero, Int.cast_ofNat_Int] at hlt hget hi IH ⊢
          simp only [Int.reduceAdd] at IH
          simp (maxSteps := 1000000) (disch := omega) only [yRCutsa_r, yRCutsa_, ↓axP, axQ, ↓if_true, ↓if_false, List.all_cons, List.all_nil, List.length_cons, List.length_nil, List.take_succ_cons, List.take_zero, List.take_nil, List.drop_succ_cons, List.drop_zero, List.drop_nil, List.getElem?_cons_zero, List.getElem?_cons_succ, List.getElem?_nil, List.nil_append, List.cons_append, List.append_nil, List.flatten_cons, List.flatten_nil, ite_true, ite_false, reduceIte, ne_eq, eq_self, Nat.reduceAdd, Nat.reduceSub, Nat.reduceMul, Nat.reduceLeDiff, Nat.reduceEqDiff, Nat.reduceBEq, reduceCtorEq, Int.reduceToNat, List.elem_nil, List.elem_cons, Int.reduceLT, Int.reduceLE, Int.reduceEq, Int.reduceAdd, Int.reduceSub, Int.reduceNeg, capnY, appzY, List.all_append, List.take_append, List.drop_append, List.length_append, glC_len, glC_0, glC_5, glC_t, glC_take, glC_drop, glC_one, glC_ne, glV_cells, glV_fit, glV_one, frA_glV, hlt, hi, hget, hi0, hget0, Int.toNat_natCast, List.length_map, k4, e45, IH]
        · have hx : cutX g (decide (r1 = [])) (r :: r2) = (cutL r || r2.any cutL) := by simp [cutX, k4, hn]
          have hpos : ((0 : Int) < (r1.length : Int)) = True := eq_true (by cases r1 with | nil => exact absurd rfl hn | cons => simp only [List.length_cons]; omega)
          rw [hx]
          cases hc : cutL r with
          | true => simp (maxSteps := 1000000) (disch := omega) only [yRCutsa_r, yRCutsa_, ↓axP, axQ, ↓if_true, ↓if_false, List.all_cons, List.all_nil, List.length_cons, List.length_nil, List.take_succ_cons, List.take_zero, List.take_nil, List.drop_succ_cons, List.drop_zero, List.drop_nil, List.getElem?_cons_zero, List.getElem?_cons_succ, List.getElem?_nil, List.nil_append, List.cons_append, List.append_nil, List.flatten_cons, List.flatten_nil, ite_true, ite_false, reduceIte, ne_eq, eq_self, Nat.reduceAdd, Nat.reduceSub, Nat.reduceMul, Nat.reduceLeDiff, Nat.reduceEqDiff, Nat.reduceBEq, reduceCtorEq, Int.reduceToNat, List.elem_nil, List.elem_cons, Int.reduceLT, Int.reduceLE, Int.reduceEq, Int.reduceAdd, Int.reduceSub, Int.reduceNeg, capnY, appzY, List.all_append, List.take_append, List.drop_append, List.length_append, glC_len, glC_0, glC_5, glC_t, glC_take, glC_drop, glC_one, glC_ne, glV_cells, glV_fit, glV_one, frA_glV, hlt, hi, hget, hi0, hget0, Int.toNat_natCast, List.length_map, k4, e45, hpos, hr, hc]
          | false => simp (maxSteps := 1000000) (disch := omega) only [yRCutsa_r, yRCutsa_, ↓axP, axQ, ↓if_true, ↓if_false, List.all_cons, List.all_nil, List.length_cons, List.length_nil, List.take_succ_cons, List.take_zero, List.take_nil, List.drop_succ_cons, List.drop_zero, List.drop_nil, List.getElem?_cons_zero, List.getElem?_cons_succ, List.getElem?_nil, List.nil_append, List.cons_append, List.append_nil, List.flatten_cons, List.flatten_nil, ite_true, ite_false, reduceIte, ne_eq, eq_self, Nat.reduceAdd, Nat.reduceSub, Nat.reduceMul, Nat.reduceLeDiff, Nat.reduceEqDiff, Nat.reduceBEq, reduceCtorEq, Int.reduceToNat, List.elem_nil, List.elem_cons, Int.reduceLT, Int.reduceLE, Int.reduceEq, Int.reduceAdd, Int.reduceSub, Int.reduceNeg, capnY, appzY, List.all_append, List.take_append, List.drop_append, List.length_append, glC_len, glC_0, glC_5, glC_t, glC_take, glC_drop, glC_one, glC_ne, glV_cells, glV_fit, glV_one, frA_glV, hlt, hi, hget, hi0, hget0, Int.toNat_natCast, List.length_map, k4, e45, hpos, hr, hc, IH]
      · have hx : cutX g (decide (r1 = [])) (r :: r2) = (cutL r || r2.any cutL) := by simp [cutX, k4, k5]
        rw [hx]
        cases hc : cutL r with
        | true => simp (maxSteps := 1000000) (disch := omega) only [yRCutsa_r, yRCutsa_, ↓axP, axQ, ↓if_true, ↓if_false, List.all_cons, List.all_nil, List.length_cons, List.length_nil, List.take_succ_cons, List.take_zero, List.take_nil, List.drop_succ_cons, List.drop_zero, List.drop_nil, List.getElem?_cons_zero, List.getElem?_cons_succ, List.getElem?_nil, List.nil_append, List.cons_append, List.append_nil, List.flatten_cons, List.flatten_nil, ite_true, ite_false, reduceIte, ne_eq, eq_self, Nat.reduceAdd, Nat.reduceSub, Nat.reduceMul, Nat.reduceLeDiff, Nat.reduceEqDiff, Nat.reduceBEq, reduceCtorEq, Int.reduceToNat, List.elem_nil, List.elem_cons, Int.reduceLT, Int.reduceLE, Int.reduceEq, Int.reduceAdd, Int.reduceSub, Int.reduceNeg, capnY, appzY, List.all_append, List.take_append, List.drop_append, List.length_append, glC_len, glC_0, glC_5, glC_t, glC_take, glC_drop, glC_one, glC_ne, glV_cells, glV_fit, glV_one, frA_glV, hlt, hi, hget, hi0, hget0, Int.toNat_natCast, List.length_map, k4, k5, hr, hc]
        | false => simp (maxSteps := 1000000) (disch := omega) only [yRCutsa_r, yRCutsa_, ↓axP, axQ, ↓if_true, ↓if_false, List.all_cons, List.all_nil, List.length_cons, List.length_nil, List.take_succ_cons, List.take_zero, List.take_nil, List.drop_succ_cons, List.drop_zero, List.drop_nil, List.getElem?_cons_zero, List.getElem?_cons_succ, List.getElem?_nil, List.nil_append, List.cons_append, List.append_nil, List.flatten_cons, List.flatten_nil, ite_true, ite_false, reduceIte, ne_eq, eq_self, Nat.reduceAdd, Nat.reduceSub, Nat.reduceMul, Nat.reduceLeDiff, Nat.reduceEqDiff, Nat.reduceBEq, reduceCtorEq, Int.reduceToNat, List.elem_nil, List.elem_cons, Int.reduceLT, Int.reduceLE, Int.reduceEq, Int.reduceAdd, Int.reduceSub, Int.reduceNeg, capnY, appzY, List.all_append, List.take_append, List.drop_append, List.length_append, glC_len, glC_0, glC_5, glC_t, glC_take, glC_drop, glC_one, glC_ne, glV_cells, glV_fit, glV_one, frA_glV, hlt, hi, hget, hi0, hget0, Int.toNat_natCast, List.length_map, k4, k5, hr, hc, IH]
theorem cutG_X (g : Gl) : cutG g = (decide (g.kind = 2) || cutX g true g.rows) := by rw [cutG_eq]; rfl
theorem rcutb_loop {n : Nat} (F0 : Nat) (H : AH) (l : List Gl) (hw : WC (n + 1) l) (hF : ∀ g ∈ l, g.rows.length < F0) : ∀ (l2 l1 : List Gl) (F : Nat), l = l1 ++ l2 → l2.length < F →
    iter (ycode (tcall [(26, pureF (cutS n))]) F0 yRCutsb) F (mk [(0, .vals 6 (l.map glC)), (3, .int .i64 l1.length)]) H =
      if l2.any cutG = true then some (.ret, mk [(2, .bool true)], H) else some (.exit 0, mk [], H) := by
  intro l2
  have hL := xL_le l
  have hW := hw.2
  induction l2 with
  | nil =>
    intro l1 F h1 h5
    obtain ⟨k, rfl⟩ := iter_pos (f := fun _ _ => none) (n := F) (by omega)
    rw [List.append_nil] at h1
    have hlt : ((l1.length : Int) < (l.length : Int)) = False := by rw [h1]; simp
    rw [iter_one]
    simp (maxSteps := 1000000) (disch := omega) only [yRCutsb_r, yRCutsb_, ↓axP, axQ, ↓if_true, ↓if_false, List.all_cons, List.all_nil, List.length_cons, List.length_nil, List.take_succ_cons, List.take_zero, List.take_nil, List.drop_succ_cons, List.drop_zero, List.drop_nil, List.getElem?_cons_zero, List.getElem?_cons_succ, List.getElem?_nil, List.nil_append, List.cons_append, List.append_nil, List.flatten_cons, List.flatten_nil, ite_true, ite_false, reduceIte, ne_eq, eq_self, Nat.reduceAdd, Nat.reduceSub, Nat.reduceMul, Nat.reduceLeDiff, Nat.reduceEqDiff, Nat.reduceBEq, reduceCtorEq, Int.reduceToNat, List.elem_nil, List.elem_cons, Int.reduceLT, Int.reduceLE, Int.reduceEq, Int.reduceAdd, Int.reduceSub, Int.reduceNeg, capnY, appzY, List.all_append, List.take_append, List.drop_append, List.length_append, hlt, List.length_map, List.any_nil, Bool.false_eq_true]
  | cons g l2 ih =>
    intro l1 F h1 h5
    obtain ⟨k, rfl⟩ := iter_pos (f := fun _ _ => none) (n := F) (by omega)
    have hg : g ∈ l := by rw [h1]; simp
    have hR : l1.length + 1 ≤ 100000000 := by have : l.length = l1.length + (l2.length + 1) := by rw [h1]; simp
                                              omega
    have hlt : ((l1.length : Int) < (l.length : Int)) = True := eq_true (by rw [h1]; simp; omega)
    have hget : (l.map glC)[l1.length]? = some (glC g) := by rw [h1]; exact mid_get _ _ _ _
    have hi : (0 : Int) ≤ (l1.length : Int) := by omega
    have q := rcuta_loop (n := n) F0 H l (by omega) l1 l2 g h1 (hw.gc hg).rows.1 g.rows [] F0 rfl (hw.gc hg).rows.2 (hF g hg)
    simp only [List.length_nil, Int.natCast_zero, decide_true] at q
    have IH := ih (l1 ++ [g]) k (by simp [h1]) (by simp at h5; omega)
    have hls : (l1 ++ [g]).length = l1.length + 1 := by simp
    rw [hls] at IH
    simp only [Int.natCast_add, Int.natCast_one] at IH
    rw [iter_one, List.any_cons, cutG_X]
    by_cases k2 : g.kind = 2
    · simp (maxSteps := 1000000) (disch := omega) only [yRCutsb_r, yRCutsb_, ↓axP, axQ, ↓if_true, ↓if_false, List.all_cons, List.all_nil, List.length_cons, List.length_nil, List.take_succ_cons, List.take_zero, List.take_nil, List.drop_succ_cons, List.drop_zero, List.drop_nil, List.getElem?_cons_zero, List.getElem?_cons_succ, List.getElem?_nil, List.nil_append, List.cons_append, List.append_nil, List.flatten_cons, List.flatten_nil, ite_true, ite_false, reduceIte, ne_eq, eq_self, Nat.reduceAdd, Nat.reduceSub, Nat.reduceMul, Nat.reduceLeDiff, Nat.reduceEqDiff, Nat.reduceBEq, reduceCtorEq, Int.reduceToNat, List.elem_nil, List.elem_cons, Int.reduceLT, Int.reduceLE, Int.reduceEq, Int.reduceAdd, Int.reduceSub, Int.reduceNeg, capnY, appzY, List.all_append, List.take_append, List.drop_append, List.length_append, glC_len, glC_0, glC_5, glC_t, glC_take, glC_drop, glC_one, glC_ne, glV_cells, glV_fit, glV_one, frA_glV, hlt, hi, hget, Int.toNat_natCast, List.length_map, k2]
    · cases hx : cutX g true g.rows with
      | true =>
        simp only [hx, if_true] at q
        simp (maxSteps := 1000000) (disch := omega) only [yRCutsb_r, yRCutsb_, ↓axP, axQ, ↓if_true, ↓if_false, List.all_cons, List.all_nil, List.length_cons, List.length_nil, List.take_succ_cons, List.take_zero, List.take_nil, List.drop_succ_cons, List.drop_zero, List.drop_nil, List.getElem?_cons_zero, List.getElem?_cons_succ, List.getElem?_nil, List.nil_append, List.cons_append, List.append_nil, List.flatten_cons, List.flatten_nil, ite_true, ite_false, reduceIte, ne_eq, eq_self, Nat.reduceAdd, Nat.reduceSub, Nat.reduceMul, Nat.reduceLeDiff, Nat.reduceEqDiff, Nat.reduceBEq, reduceCtorEq, Int.reduceToNat, List.elem_nil, List.elem_cons, Int.reduceLT, Int.reduceLE, Int.reduceEq, Int.reduceAdd, Int.reduceSub, Int.reduceNeg, capnY, appzY, List.all_append, List.take_append, List.drop_append, List.length_append, glC_len, glC_0, glC_5, glC_t, glC_take, glC_drop, glC_one, glC_ne, glV_cells, glV_fit, glV_one, frA_glV, hlt, hi, hget, Int.toNat_natCast, List.length_map, k2, q]
      | false =>
        simp only [hx, if_false, Bool.false_eq_true] at q
        simp (maxSteps := 1000000) (disch := omega) only [yRCutsb_r, yRCutsb_, ↓axP, axQ, ↓if_true, ↓if_false, List.all_cons, List.all_nil, List.length_cons, List.length_nil, List.take_succ_cons, List.take_zero, List.take_nil, List.drop_succ_cons, List.drop_zero, List.drop_nil, List.getElem?_cons_zero, List.getElem?_cons_succ, List.getElem?_nil, List.nil_append, List.cons_append, List.append_nil, List.flatten_cons, List.flatten_nil, ite_true, ite_false, reduceIte, ne_eq, eq_self, Nat.reduceAdd, Nat.reduceSub, Nat.reduceMul, Nat.reduceLeDiff, Nat.reduceEqDiff, Nat.reduceBEq, reduceCtorEq, Int.reduceToNat, List.elem_nil, List.elem_cons, Int.reduceLT, Int.reduceLE, Int.reduceEq, Int.reduceAdd, Int.reduceSub, Int.reduceNeg, capnY, appzY, List.all_append, List.take_append, List.drop_append, List.length_append, glC_len, glC_0, glC_5, glC_t, glC_take, glC_drop, glC_one, glC_ne, glV_cells, glV_fit, glV_one, frA_glV, hlt, hi, hget, Int.toNat_natCast, List.length_map, k2, q, IH]
theorem rcut_step {n : Nat} (hc : HookOne Tryz.prog 26 (pureF (cutS n))) : HookOne Tryz.prog 26 (pureF (cutS (n + 1))) := by
  refine HookOne.ofPureF (by decide +kernel) fun args y h H => ?_
  have hl : ∀ e ∈ [(26, pureF (cutS n))], HookOne Tryz.prog e.1 e.2 := by
    intro e he; simp at he; subst he; exact hc
  unfold cutS at h; split at h
  · rename_i x
    rw [Option.bind_eq_some_iff] at h
    obtain ⟨l, h1, h2⟩ := h
    obtain ⟨hw, h3⟩ := only_ok h2
    cases h3
    obtain rfl := back_ok h1
    have a := xL_le l
    refine ACalls.ofRun hl mixed (draws _ rfl) yRCuts_ok rfl (by simp [pureL, pure_glV]) (wtL l + 1) ?_ H
    have q := rcutb_loop (wtL l + 1) AH.empty l hw rows_lt l [] (wtL l + 1) rfl (by omega)
    simp only [List.length_nil, Int.natCast_zero, empty_mk] at q
    rw [cutL_any]
    unfold glV
    cases hx : l.any cutG with
    | true =>
      simp only [hx, if_true] at q
      simp (maxSteps := 1000000) (disch := omega) only [yRCuts, xinit_1, ↓axP, axQ, ↓if_true, ↓if_false, List.all_cons, List.all_nil, List.length_cons, List.length_nil, List.take_succ_cons, List.take_zero, List.take_nil, List.drop_succ_cons, List.drop_zero, List.drop_nil, List.getElem?_cons_zero, List.getElem?_cons_succ, List.getElem?_nil, List.nil_append, List.cons_append, List.append_nil, List.flatten_cons, List.flatten_nil, ite_true, ite_false, reduceIte, ne_eq, eq_self, Nat.reduceAdd, Nat.reduceSub, Nat.reduceMul, Nat.reduceLeDiff, Nat.reduceEqDiff, Nat.reduceBEq, reduceCtorEq, Int.reduceToNat, List.elem_nil, List.elem_cons, Int.reduceLT, Int.reduceLE, Int.reduceEq, Int.reduceAdd, Int.reduceSub, Int.reduceNeg, capnY, appzY, List.all_append, List.take_append, List.drop_append, List.length_append, List.length_map, q]
      exact Ans.some (.pure rfl)
    | false =>
      simp only [hx, if_false, Bool.false_eq_true] at q
      simp (maxSteps := 1000000) (disch := omega) only [yRCuts, xinit_1, ↓axP, axQ, ↓if_true, ↓if_false, List.all_cons, List.all_nil, List.length_cons, List.length_nil, List.take_succ_cons, List.take_zero, List.take_nil, List.drop_succ_cons, List.drop_zero, List.drop_nil, List.getElem?_cons_zero, List.getElem?_cons_succ, List.getElem?_nil, List.nil_append, List.cons_append, List.append_nil, List.flatten_cons, List.flatten_nil, ite_true, ite_false, reduceIte, ne_eq, eq_self, Nat.reduceAdd, Nat.reduceSub, Nat.reduceMul, Nat.reduceLeDiff, Nat.reduceEqDiff, Nat.reduceBEq, reduceCtorEq, Int.reduceToNat, List.elem_nil, List.elem_cons, Int.reduceLT, Int.reduceLE, Int.reduceEq, Int.reduceAdd, Int.reduceSub, Int.reduceNeg, capnY, appzY, List.all_append, List.take_append, List.drop_append, List.length_append, List.length_map, q]
      exact Ans.some (.pure rfl)
  · cases h
theorem rcut_any : ∀ n, HookOne Tryz.prog 26 (pureF (cutS n)) := lev_any _ (fun h => rcut_step h) cutS_0 (by decide +kernel)
end Go.Proofs.YtcnnobcncklgfaaGreatDoor
