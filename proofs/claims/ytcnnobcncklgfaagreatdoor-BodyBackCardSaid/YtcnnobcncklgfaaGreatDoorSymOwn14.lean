/- The contracts of the law's own and deep. -/
import Derived.Test.YtcnnobcncklgfaaGreatDoorYOwn14
import Derived.Test.YtcnnobcncklgfaaGreatDoorSymC
import Derived.Test.YtcnnobcncklgfaaGreatDoorEvalT
namespace Go.Proofs.YtcnnobcncklgfaaGreatDoor
open Go Go.Abs Go.RowKit
set_option linter.unusedVariables false
set_option linter.unusedSimpArgs false
attribute [local congr] on_congr br_congr onf_congr
noncomputable def ownS (n : Nat) : List AV → Option AV
  | [x] => (ofT x).bind fun t => only (t.height ≤ n ∧ Fine 1000 t) (some (tmA t))
  | _ => none
theorem ownS_eq {n : Nat} {t : Tm} (h : t.height ≤ n ∧ Fine 1000 t) : ownS n [.agg (tmC t)] = some (.agg (tmC t)) := by
  show (ofT (tmA t)).bind _ = _
  rw [ofT_tm]; exact only_eq h _
/-- What holds of memory in own. -/
def OwnJ (t : Tm) (H : AH) (o : AV) (l : List Tm) : Prop :=
  H.wf ∧ 3 ≤ H.next ∧ H.gs.get 0 = some ⟨0, 0, tmC t⟩ ∧ H.gs.get 1 = some ⟨0, 0, [.int .i64 0, .int .i64 0, .str [], .nils]⟩ ∧ H.gs.get 2 = some ⟨0, 0, [.int .i64 t.kind, .int .i64 t.num, .str t.name, o]⟩ ∧ Ows H o 4 (l.map tmC).flatten l.length ∧ OB 3 o
set_option maxHeartbeats 1000000 in
theorem ownJ_loop {n : Nat} (F0 : Nat) (t : Tm) (hl : t.args.length ≤ 1000) : ∀ (l2 l1 : List Tm) (o : AV) (H : AH) (F : Nat), t.args = l1 ++ l2 → (∀ x ∈ l2, x.height ≤ n ∧ Fine 1000 x) → OwnJ t H o l1 → l2.length < F →
    ∃ o' H', iter (ycode (tcall [(20, pureF (ownS n))]) F0 yOwna) F (mk [(1, .ptr 0 0 0), (2, .ptr 1 0 0), (3, .ptr 2 0 0), (4, .int .i64 l1.length)]) H = some (.exit 0, mk [(2, .ptr 1 0 0), (3, .ptr 2 0 0)], H') ∧ OwnJ t H' o' t.args := by
  intro l2
  induction l2 with
  | nil =>
    intro l1 o H F h1 h2 h3 h4
    obtain ⟨m, rfl⟩ := iter_pos (f := fun _ _ => none) (n := F) (by omega)
    rw [List.append_nil] at h1
    have hlt : ((l1.length : Int) < (t.args.length : Int)) = False := by rw [h1]; simp
    have h0 := h3.2.2.1
    refine ⟨o, H, ?_, by rw [h1]; exact h3⟩
    rw [iter_one]
    simp (maxSteps := 1000000) (disch := omega) only [yOwna_r, yOwna_, ↓axP, axQ, ↓if_true, ↓if_false, List.all_cons, List.all_nil, List.length_cons, List.length_nil, List.take_succ_cons, List.take_zero, List.take_nil, List.drop_succ_cons, List.drop_zero, List.drop_nil, List.getElem?_cons_zero, List.getElem?_cons_succ, List.getElem?_nil, List.nil_append, List.cons_append, List.append_nil, List.flatten_cons, List.flatten_nil, ite_true, ite_false, reduceIte, ne_eq, eq_self, Nat.reduceAdd, Nat.reduceSub, Nat.reduceMul, Nat.reduceLeDiff, Nat.reduceEqDiff, Nat.reduceBEq, reduceCtorEq, Int.reduceToNat, List.elem_nil, List.elem_cons, Int.reduceLT, Int.reduceLE, Int.reduceEq, Int.reduceAdd, Int.reduceSub, Int.reduceNeg, capnY, appzY, List.all_append, List.take_append, List.drop_append, List.length_append, tmC_len, tmC_0, tmC_1, tmC_2, tmC_3, tmC_take, tmC_drop, tmC_one, tmC_ne, hlt, h0, List.length_map]
  | cons x l2 ih =>
    intro l1 o H F h1 h2 h3 h4
    obtain ⟨m, rfl⟩ := iter_pos (f := fun _ _ => none) (n := F) (by omega)
    have hR : l1.length + 1 ≤ 1000 := by rw [h1] at hl; simp at hl; omega
    have hlt : ((l1.length : Int) < (t.args.length : Int)) = True := eq_true (by rw [h1]; simp; omega)
    have hget : (t.args.map tmC)[l1.length]? = some (tmC x) := by rw [h1]; simp
    have hi : (0 : Int) ≤ (l1.length : Int) := by omega
    obtain ⟨w1, w2, g0, g1, g2, w3, w4⟩ := h3
    have hr := ownS_eq (h2 x (List.mem_cons_self ..))
    obtain ⟨nx, gs, ms⟩ := H
    simp only at g0 g1 g2 w2
    have e8 : gs.get (nx + 8) = none := w1 (nx + 8) (by simp)
    have q0 : (0 = nx + 8) = False := eq_false (by omega)
    have q2 : (2 = nx + 8) = False := eq_false (by omega)
    have wfA : AH.wf ⟨nx + 12, gs.set (nx + 8) ⟨0, 0, tmC x⟩, ms⟩ := fun g hg => by
      show (gs.set (nx + 8) _).get g = none
      have : nx + 12 ≤ g := hg
      rw [Tr.get_set_ne _ _ (by omega)]; exact w1 g (by show nx ≤ g; omega)
    have owA : Ows ⟨nx + 12, gs.set (nx + 8) ⟨0, 0, tmC x⟩, ms⟩ o 4 (l1.map tmC).flatten l1.length := w3.keep (by simp) fun g hg => Tr.get_set_ne _ _ (by have : g < nx := hg; omega)
    obtain ⟨v', H', e1, e2, e3, e4, e5, e6⟩ := own_app (x := .slc (nx + 8) 0 0 1 4) (z := 4) (b := 56) (m := 1) (xs := tmC x) owA wfA (by simp only [↓axP, axQ, ↓if_true, ↓if_false, List.all_cons, List.all_nil, List.length_cons, List.length_nil, List.take_succ_cons, List.take_zero, List.take_nil, List.drop_succ_cons, List.drop_zero, List.drop_nil, List.getElem?_cons_zero, List.getElem?_cons_succ, List.getElem?_nil, List.nil_append, List.cons_append, List.append_nil, List.flatten_cons, List.flatten_nil, ite_true, ite_false, reduceIte, ne_eq, eq_self, Nat.reduceAdd, Nat.reduceSub, Nat.reduceMul, Nat.reduceLeDiff, Nat.reduceEqDiff, Nat.reduceBEq, reduceCtorEq, Int.reduceToNat, List.elem_nil, List.elem_cons, Int.reduceLT, Int.reduceLE, Int.reduceEq, Int.reduceAdd, Int.reduceSub, Int.reduceNeg, capnY, appzY, List.all_append, List.take_append, List.drop_append, List.length_append, tmC_len, tmC_0, tmC_1, tmC_2, tmC_3, tmC_take, tmC_drop, tmC_one, tmC_ne]) (tmC_len x) (by omega) (by omega) (by omega)
    have f0 : H'.gs.get 0 = some ⟨0, 0, tmC t⟩ := by rw [e4.get w4 (by omega) (by show 0 < nx + 12; omega)]; show (gs.set (nx + 8) _).get 0 = _; rw [Tr.get_set_ne _ _ (by omega)]; exact g0
    have f1 : H'.gs.get 1 = some ⟨0, 0, [.int .i64 0, .int .i64 0, .str [], .nils]⟩ := by rw [e4.get w4 (by omega) (by show 1 < nx + 12; omega)]; show (gs.set (nx + 8) _).get 1 = _; rw [Tr.get_set_ne _ _ (by omega)]; exact g1
    have f2 : H'.gs.get 2 = some ⟨0, 0, [.int .i64 t.kind, .int .i64 t.num, .str t.name, o]⟩ := by rw [e4.get w4 (by omega) (by show 2 < nx + 12; omega)]; show (gs.set (nx + 8) _).get 2 = _; rw [Tr.get_set_ne _ _ (by omega)]; exact g2
    have o' := e6 3 (by show 3 ≤ nx + 12; omega) w4
    have hn3 : 3 ≤ H'.next := Nat.le_trans (by show 3 ≤ nx + 12; omega) e4.1
    have hfl : (l1.map tmC).flatten ++ tmC x = ((l1 ++ [x]).map tmC).flatten := by simp
    rw [hfl] at e2
    obtain ⟨o2, H2, k1, k2⟩ := ih (l1 ++ [x]) v' ⟨H'.next, H'.gs.set 2 ⟨0, 0, [.int .i64 t.kind, .int .i64 t.num, .str t.name, v']⟩, H'.ms⟩ m (by simp [h1]) (fun y hy => h2 y (List.mem_cons_of_mem _ hy))
      ⟨wf_set' e3 (by omega) _, hn3, by show (H'.gs.set 2 _).get 0 = _; rw [Tr.get_set_ne _ _ (by omega)]; exact f0, by show (H'.gs.set 2 _).get 1 = _; rw [Tr.get_set_ne _ _ (by omega)]; exact f1, Tr.get_set_same _ _ _, by simpa using e2.set o' (by omega) _, o'⟩ (by simp at h4; omega)
    refine ⟨o2, H2, ?_, k2⟩
    rw [iter_one]
    have hs : (l1 ++ [x]).length = l1.length + 1 := by simp
    rw [hs] at k1
    simp (maxSteps := 1000000) (disch := omega) only [↓axP, axQ, ↓if_true, ↓if_false, List.all_cons, List.all_nil, List.length_cons, List.length_nil, List.take_succ_cons, List.take_zero, List.take_nil, List.drop_succ_cons, List.drop_zero, List.drop_nil, List.getElem?_cons_zero, List.getElem?_cons_succ, List.getElem?_nil, List.nil_append, List.cons_append, List.append_nil, List.flatten_cons, List.flatten_nil, ite_true, ite_false, reduceIte, ne_eq, eq_self, Nat.reduceAdd, Nat.reduceSub, Nat.reduceMul, Nat.reduceLeDiff, Nat.reduceEqDiff, Nat.reduceBEq, reduceCtorEq, Int.reduceToNat, List.elem_nil, List.elem_cons, Int.reduceLT, Int.reduceLE, Int.reduceEq, Int.reduceAdd, Int.reduceSub, Int.reduceNeg, capnY, appzY, List.all_append, List.take_append, List.drop_append, List.length_append] at k1
    simp (maxSteps := 1000000) (disch := omega) only [yOwna_r, yOwna_, ↓axP, axQ, ↓if_true, ↓if_false, List.all_cons, List.all_nil, List.length_cons, List.length_nil, List.take_succ_cons, List.take_zero, List.take_nil, List.drop_succ_cons, List.drop_zero, List.drop_nil, List.getElem?_cons_zero, List.getElem?_cons_succ, List.getElem?_nil, List.nil_append, List.cons_append, List.append_nil, List.flatten_cons, List.flatten_nil, ite_true, ite_false, reduceIte, ne_eq, eq_self, Nat.reduceAdd, Nat.reduceSub, Nat.reduceMul, Nat.reduceLeDiff, Nat.reduceEqDiff, Nat.reduceBEq, reduceCtorEq, Int.reduceToNat, List.elem_nil, List.elem_cons, Int.reduceLT, Int.reduceLE, Int.reduceEq, Int.reduceAdd, Int.reduceSub, Int.reduceNeg, capnY, appzY, List.all_append, List.take_append, List.drop_append, List.length_append, tmC_len, tmC_0, tmC_1, tmC_2, tmC_3, tmC_take, tmC_drop, tmC_one, tmC_ne, hlt, hi, hget, Int.toNat_natCast, List.length_map, g0, g2, q0, q2, e8, hr, e1, f2, e2.fit, e2.cell, k1]
theorem ownJ_step {n : Nat} (hown : HookOne Tryz.prog 20 (pureF (ownS n))) : HookOne Tryz.prog 20 (pureF (ownS (n + 1))) := by
  refine HookOne.ofPureF (by decide +kernel) fun args y h H => ?_
  have hl : ∀ e ∈ [(20, pureF (ownS n))], HookOne Tryz.prog e.1 e.2 := by
    intro e he; simp at he; subst he; exact hown
  unfold ownS at h; split at h
  · rename_i x
    rw [Option.bind_eq_some_iff] at h
    obtain ⟨t, h1, h2⟩ := h
    obtain ⟨hc, h3⟩ := only_ok h2
    cases h3
    obtain rfl := ofT_ok h1
    refine ACalls.ofRun hl mixed (draws _ rfl) yOwn_ok rfl (by simp [pureL, pure_tmA]) (t.args.length + 1) ?_ H
    have hA : ∀ x ∈ t.args, x.height ≤ n ∧ Fine 1000 x := fun x hx => by
      obtain ⟨i, hi, rfl⟩ := List.getElem_of_mem hx
      have := heights_mem hi
      have h0 := hc.1
      rw [height_eq] at h0
      exact ⟨by omega, hc.2.args.2.1 _ hx⟩
    have wf0 : AH.wf ⟨3, ((Tr.nil.set 0 ⟨0, 0, tmC t⟩).set 1 ⟨0, 0, [.int .i64 0, .int .i64 0, .str [], .nils]⟩).set 2 ⟨0, 0, [.int .i64 t.kind, .int .i64 t.num, .str t.name, .nils]⟩, .nil⟩ := wf_add (wf_add (wf_add wf_empty _) _) _
    obtain ⟨o', H', k1, w1, w2, g0, g1, g2, w3, w4⟩ := ownJ_loop (n := n) (t.args.length + 1) t hc.2.args.1 t.args [] .nils _ (t.args.length + 1) rfl hA ⟨wf0, Nat.le_refl _, by simp only [↓axP, axQ, ↓if_true, ↓if_false, List.all_cons, List.all_nil, List.length_cons, List.length_nil, List.take_succ_cons, List.take_zero, List.take_nil, List.drop_succ_cons, List.drop_zero, List.drop_nil, List.getElem?_cons_zero, List.getElem?_cons_succ, List.getElem?_nil, List.nil_append, List.cons_append, List.append_nil, List.flatten_cons, List.flatten_nil, ite_true, ite_false, reduceIte, ne_eq, eq_self, Nat.reduceAdd, Nat.reduceSub, Nat.reduceMul, Nat.reduceLeDiff, Nat.reduceEqDiff, Nat.reduceBEq, reduceCtorEq, Int.reduceToNat, List.elem_nil, List.elem_cons, Int.reduceLT, Int.reduceLE, Int.reduceEq, Int.reduceAdd, Int.reduceSub, Int.reduceNeg, capnY, appzY, List.all_append, List.take_append, List.drop_append, List.length_append], by simp only [↓axP, axQ, ↓if_true, ↓if_false, List.all_cons, List.all_nil, List.length_cons, List.length_nil, List.take_succ_cons, List.take_zero, List.take_nil, List.drop_succ_cons, List.drop_zero, List.drop_nil, List.getElem?_cons_zero, List.getElem?_cons_succ, List.getElem?_nil, List.nil_append, List.cons_append, List.append_nil, List.flatten_cons, List.flatten_nil, ite_true, ite_false, reduceIte, ne_eq, eq_self, Nat.reduceAdd, Nat.reduceSub, Nat.reduceMul, Nat.reduceLeDiff, Nat.reduceEqDiff, Nat.reduceBEq, reduceCtorEq, Int.reduceToNat, List.elem_nil, List.elem_cons, Int.reduceLT, Int.reduceLE, Int.reduceEq, Int.reduceAdd, Int.reduceSub, Int.reduceNeg, capnY, appzY, List.all_append, List.take_append, List.drop_append, List.length_append], by simp only [↓axP, axQ, ↓if_true, ↓if_false, List.all_cons, List.all_nil, List.length_cons, List.length_nil, List.take_succ_cons, List.take_zero, List.take_nil, List.drop_succ_cons, List.drop_zero, List.drop_nil, List.getElem?_cons_zero, List.getElem?_cons_succ, List.getElem?_nil, List.nil_append, List.cons_append, List.append_nil, List.flatten_cons, List.flatten_nil, ite_true, ite_false, reduceIte, ne_eq, eq_self, Nat.reduceAdd, Nat.reduceSub, Nat.reduceMul, Nat.reduceLeDiff, Nat.reduceEqDiff, Nat.reduceBEq, reduceCtorEq, Int.reduceToNat, List.elem_nil, List.elem_cons, Int.reduceLT, Int.reduceLE, Int.reduceEq, Int.reduceAdd, Int.reduceSub, Int.reduceNeg, capnY, appzY, List.all_append, List.take_append, List.drop_append, List.length_append], own_nil _ _, ob_nil _⟩ (Nat.lt_succ_self _)
    simp (maxSteps := 1000000) (disch := omega) only [↓axP, axQ, ↓if_true, ↓if_false, List.all_cons, List.all_nil, List.length_cons, List.length_nil, List.take_succ_cons, List.take_zero, List.take_nil, List.drop_succ_cons, List.drop_zero, List.drop_nil, List.getElem?_cons_zero, List.getElem?_cons_succ, List.getElem?_nil, List.nil_append, List.cons_append, List.append_nil, List.flatten_cons, List.flatten_nil, ite_true, ite_false, reduceIte, ne_eq, eq_self, Nat.reduceAdd, Nat.reduceSub, Nat.reduceMul, Nat.reduceLeDiff, Nat.reduceEqDiff, Nat.reduceBEq, reduceCtorEq, Int.reduceToNat, List.elem_nil, List.elem_cons, Int.reduceLT, Int.reduceLE, Int.reduceEq, Int.reduceAdd, Int.reduceSub, Int.reduceNeg, capnY, appzY, List.all_append, List.take_append, List.drop_append, List.length_append] at k1
    unfold tmA
    have ho : o'.one = true := by
      obtain ⟨-, q⟩ := w3
      rcases q with ⟨rfl, -⟩ | ⟨g, e, rfl, -⟩ <;> rfl
    simp (maxSteps := 1000000) (disch := omega) only [yOwn, xinit_1, ↓axP, axQ, ↓if_true, ↓if_false, List.all_cons, List.all_nil, List.length_cons, List.length_nil, List.take_succ_cons, List.take_zero, List.take_nil, List.drop_succ_cons, List.drop_zero, List.drop_nil, List.getElem?_cons_zero, List.getElem?_cons_succ, List.getElem?_nil, List.nil_append, List.cons_append, List.append_nil, List.flatten_cons, List.flatten_nil, ite_true, ite_false, reduceIte, ne_eq, eq_self, Nat.reduceAdd, Nat.reduceSub, Nat.reduceMul, Nat.reduceLeDiff, Nat.reduceEqDiff, Nat.reduceBEq, reduceCtorEq, Int.reduceToNat, List.elem_nil, List.elem_cons, Int.reduceLT, Int.reduceLE, Int.reduceEq, Int.reduceAdd, Int.reduceSub, Int.reduceNeg, capnY, appzY, List.all_append, List.take_append, List.drop_append, List.length_append, tmC_len, tmC_0, tmC_1, tmC_2, tmC_3, tmC_take, tmC_drop, tmC_one, tmC_ne, k1, g2, g1, ho]
    rw [tmC_eq t]
    refine Ans.some (.ofAgg (.cons (.pure rfl) (.cons (.pure rfl) (.cons (.pure rfl) (.cons ?_ (.nil _))))))
    exact (w3.set w4 (by omega) _).fz (by simp) (rows4 _) (FzL.pure (pure_flat (pure_rows _)))
  · cases h
theorem own_any14 : ∀ n : Nat, HookOne Tryz.prog 20 (pureF (ownS n))
  | 0 => by
    refine HookOne.ofPureF (by decide +kernel) fun args y h H => ?_
    unfold ownS at h; split at h
    · rename_i x
      rw [Option.bind_eq_some_iff] at h
      obtain ⟨t, h1, h2⟩ := h
      obtain ⟨hc, h3⟩ := only_ok h2
      have := hc.1
      rw [height_eq] at this
      omega
    · cases h
  | n + 1 => ownJ_step (own_any14 n)
noncomputable def deepS (m : Nat) : List AV → Option AV
  | [x, .int .i64 n] => (ofT x).bind fun t => only (n = m ∧ m ≤ 1000) (some (.bool (deepP m t)))
  | _ => none
theorem deepS_eq {m : Nat} {n : Int} {t : Tm} (h : n = m ∧ m ≤ 1000) : deepS m [.agg (tmC t), .int .i64 n] = some (.bool (deepP m t)) := by
  show (ofT (tmA t)).bind _ = _
  rw [ofT_tm]; exact only_eq h _
theorem deepJ_loop {m : Nat} (hm : m ≤ 1000) (F0 : Nat) (t : Tm) (hl : t.args.length ≤ 12) : ∀ (l2 l1 : List Tm) (F : Nat), t.args = l1 ++ l2 → l2.length < F →
    iter (ycode (tcall [(12, pureF (deepS m))]) F0 yDeepa) F (mk [(1, .int .i64 ((m : Int) + 1)), (2, .ptr 0 0 0), (5, .int .i64 l1.length)]) ⟨1, Tr.nil.set 0 ⟨0, 0, tmC t⟩, .nil⟩ =
      if l2.any (deepP m) = true then some (.ret, mk [(4, .bool true)], ⟨1, Tr.nil.set 0 ⟨0, 0, tmC t⟩, .nil⟩) else some (.exit 0, mk [], ⟨1, Tr.nil.set 0 ⟨0, 0, tmC t⟩, .nil⟩) := by
  intro l2
  induction l2 with
  | nil =>
    intro l1 F h1 h4
    obtain ⟨k, rfl⟩ := iter_pos (f := fun _ _ => none) (n := F) (by omega)
    rw [List.append_nil] at h1
    have hlt : ((l1.length : Int) < (t.args.length : Int)) = False := by rw [h1]; simp
    rw [iter_one]
    simp (maxSteps := 1000000) (disch := omega) only [yDeepa_r, yDeepa_, ↓axP, axQ, ↓if_true, ↓if_false, List.all_cons, List.all_nil, List.length_cons, List.length_nil, List.take_succ_cons, List.take_zero, List.take_nil, List.drop_succ_cons, List.drop_zero, List.drop_nil, List.getElem?_cons_zero, List.getElem?_cons_succ, List.getElem?_nil, List.nil_append, List.cons_append, List.append_nil, List.flatten_cons, List.flatten_nil, ite_true, ite_false, reduceIte, ne_eq, eq_self, Nat.reduceAdd, Nat.reduceSub, Nat.reduceMul, Nat.reduceLeDiff, Nat.reduceEqDiff, Nat.reduceBEq, reduceCtorEq, Int.reduceToNat, List.elem_nil, List.elem_cons, Int.reduceLT, Int.reduceLE, Int.reduceEq, Int.reduceAdd, Int.reduceSub, Int.reduceNeg, capnY, appzY, List.all_append, List.take_append, List.drop_append, List.length_append, tmC_len, tmC_0, tmC_1, tmC_2, tmC_3, tmC_take, tmC_drop, tmC_one, tmC_ne, hlt, List.length_map, List.any_nil]
    all_goals rfl
  | cons x l2 ih =>
    intro l1 F h1 h4
    obtain ⟨k, rfl⟩ := iter_pos (f := fun _ _ => none) (n := F) (by omega)
    have hR : l1.length + 1 ≤ 12 := by rw [h1] at hl; simp at hl; omega
    have hlt : ((l1.length : Int) < (t.args.length : Int)) = True := eq_true (by rw [h1]; simp; omega)
    have hget : (t.args.map tmC)[l1.length]? = some (tmC x) := by rw [h1]; simp
    have hi : (0 : Int) ≤ (l1.length : Int) := by omega
    have hs : (m : Int) + 1 - 1 = m := by omega
    have IH := ih (l1 ++ [x]) k (by simp [h1]) (by simp at h4; omega)
    have hls : (l1 ++ [x]).length = l1.length + 1 := by simp
    rw [hls] at IH
    simp only [Int.natCast_add, Int.natCast_one] at IH
    have hr := deepS_eq (m := m) (n := m) (t := x) ⟨rfl, hm⟩
    rw [iter_one, List.any_cons]
    cases hd : deepP m x with
    | true =>
      simp (maxSteps := 1000000) (disch := omega) only [yDeepa_r, yDeepa_, ↓axP, axQ, ↓if_true, ↓if_false, List.all_cons, List.all_nil, List.length_cons, List.length_nil, List.take_succ_cons, List.take_zero, List.take_nil, List.drop_succ_cons, List.drop_zero, List.drop_nil, List.getElem?_cons_zero, List.getElem?_cons_succ, List.getElem?_nil, List.nil_append, List.cons_append, List.append_nil, List.flatten_cons, List.flatten_nil, ite_true, ite_false, reduceIte, ne_eq, eq_self, Nat.reduceAdd, Nat.reduceSub, Nat.reduceMul, Nat.reduceLeDiff, Nat.reduceEqDiff, Nat.reduceBEq, reduceCtorEq, Int.reduceToNat, List.elem_nil, List.elem_cons, Int.reduceLT, Int.reduceLE, Int.reduceEq, Int.reduceAdd, Int.reduceSub, Int.reduceNeg, capnY, appzY, List.all_append, List.take_append, List.drop_append, List.length_append, tmC_len, tmC_0, tmC_1, tmC_2, tmC_3, tmC_take, tmC_drop, tmC_one, tmC_ne, hlt, hi, hget, Int.toNat_natCast, List.length_map, hr, hd, hs]
    | false =>
      simp (maxSteps := 1000000) (disch := omega) only [yDeepa_r, yDeepa_, ↓axP, axQ, ↓if_true, ↓if_false, List.all_cons, List.all_nil, List.length_cons, List.length_nil, List.take_succ_cons, List.take_zero, List.take_nil, List.drop_succ_cons, List.drop_zero, List.drop_nil, List.getElem?_cons_zero, List.getElem?_cons_succ, List.getElem?_nil, List.nil_append, List.cons_append, List.append_nil, List.flatten_cons, List.flatten_nil, ite_true, ite_false, reduceIte, ne_eq, eq_self, Nat.reduceAdd, Nat.reduceSub, Nat.reduceMul, Nat.reduceLeDiff, Nat.reduceEqDiff, Nat.reduceBEq, reduceCtorEq, Int.reduceToNat, List.elem_nil, List.elem_cons, Int.reduceLT, Int.reduceLE, Int.reduceEq, Int.reduceAdd, Int.reduceSub, Int.reduceNeg, capnY, appzY, List.all_append, List.take_append, List.drop_append, List.length_append, tmC_len, tmC_0, tmC_1, tmC_2, tmC_3, tmC_take, tmC_drop, tmC_one, tmC_ne, hlt, hi, hget, Int.toNat_natCast, List.length_map, hr, hd, hs, IH]
theorem deep_any14 : ∀ m : Nat, HookOne Tryz.prog 12 (pureF (deepS m))
  | 0 => by
    refine HookOne.ofPureF (by decide +kernel) fun args y h H => ?_
    unfold deepS at h; split at h
    · rename_i x n
      rw [Option.bind_eq_some_iff] at h
      obtain ⟨t, h1, h2⟩ := h
      obtain ⟨⟨rfl, hc⟩, h3⟩ := only_ok h2
      cases h3
      obtain rfl := ofT_ok h1
      refine ACalls.ofRun (l := []) (by simp) mixed (draws _ rfl) yDeep_ok rfl (by simp [pureL, pure_tmA, pureA]) 0 ?_ H
      unfold tmA
      simp (maxSteps := 1000000) (disch := omega) only [yDeep, xinit_2, ↓axP, axQ, ↓if_true, ↓if_false, List.all_cons, List.all_nil, List.length_cons, List.length_nil, List.take_succ_cons, List.take_zero, List.take_nil, List.drop_succ_cons, List.drop_zero, List.drop_nil, List.getElem?_cons_zero, List.getElem?_cons_succ, List.getElem?_nil, List.nil_append, List.cons_append, List.append_nil, List.flatten_cons, List.flatten_nil, ite_true, ite_false, reduceIte, ne_eq, eq_self, Nat.reduceAdd, Nat.reduceSub, Nat.reduceMul, Nat.reduceLeDiff, Nat.reduceEqDiff, Nat.reduceBEq, reduceCtorEq, Int.reduceToNat, List.elem_nil, List.elem_cons, Int.reduceLT, Int.reduceLE, Int.reduceEq, Int.reduceAdd, Int.reduceSub, Int.reduceNeg, capnY, appzY, List.all_append, List.take_append, List.drop_append, List.length_append, tmC_len, tmC_0, tmC_1, tmC_2, tmC_3, tmC_take, tmC_drop, tmC_one, tmC_ne, deepP]
      exact Ans.some (.pure rfl)
    · cases h
  | m + 1 => by
    refine HookOne.ofPureF (by decide +kernel) fun args y h H => ?_
    have hl : ∀ e ∈ [(12, pureF (deepS m))], HookOne Tryz.prog e.1 e.2 := by
      intro e he; simp at he; subst he; exact deep_any14 m
    unfold deepS at h; split at h
    · rename_i x n
      rw [Option.bind_eq_some_iff] at h
      obtain ⟨t, h1, h2⟩ := h
      obtain ⟨⟨rfl, hc⟩, h3⟩ := only_ok h2
      cases h3
      obtain rfl := ofT_ok h1
      refine ACalls.ofRun hl mixed (draws _ rfl) yDeep_ok rfl (by simp [pureL, pure_tmA, pureA]) (t.args.length + 1) ?_ H
      unfold tmA
      have h0 : (((m : Int) + 1) < 1) = False := eq_false (by omega)
      by_cases hn : t.args.length ≤ 12
      · have hn1 : ((12 : Int) < (t.args.length : Int)) = False := eq_false (by omega)
        have hn2 : decide (12 < t.args.length) = false := by simp; omega
        have q := deepJ_loop (m := m) (by omega) (t.args.length + 1) t hn t.args [] (t.args.length + 1) rfl (Nat.lt_succ_self _)
        simp only [List.length_nil, Int.natCast_zero] at q
        simp only [deepP, hn2, Bool.false_or]
        cases ha : t.args.any (deepP m) with
        | true =>
          simp only [ha, if_true] at q
          simp (maxSteps := 1000000) (disch := omega) only [yDeep, xinit_2, ↓axP, axQ, ↓if_true, ↓if_false, List.all_cons, List.all_nil, List.length_cons, List.length_nil, List.take_succ_cons, List.take_zero, List.take_nil, List.drop_succ_cons, List.drop_zero, List.drop_nil, List.getElem?_cons_zero, List.getElem?_cons_succ, List.getElem?_nil, List.nil_append, List.cons_append, List.append_nil, List.flatten_cons, List.flatten_nil, ite_true, ite_false, reduceIte, ne_eq, eq_self, Nat.reduceAdd, Nat.reduceSub, Nat.reduceMul, Nat.reduceLeDiff, Nat.reduceEqDiff, Nat.reduceBEq, reduceCtorEq, Int.reduceToNat, List.elem_nil, List.elem_cons, Int.reduceLT, Int.reduceLE, Int.reduceEq, Int.reduceAdd, Int.reduceSub, Int.reduceNeg, capnY, appzY, List.all_append, List.take_append, List.drop_append, List.length_append, tmC_len, tmC_0, tmC_1, tmC_2, tmC_3, tmC_take, tmC_drop, tmC_one, tmC_ne, h0, hn1, List.length_map, q]
          exact Ans.some (.pure rfl)
        | false =>
          simp only [ha, if_false] at q
          simp (maxSteps := 1000000) (disch := omega) only [yDeep, xinit_2, ↓axP, axQ, ↓if_true, ↓if_false, List.all_cons, List.all_nil, List.length_cons, List.length_nil, List.take_succ_cons, List.take_zero, List.take_nil, List.drop_succ_cons, List.drop_zero, List.drop_nil, List.getElem?_cons_zero, List.getElem?_cons_succ, List.getElem?_nil, List.nil_append, List.cons_append, List.append_nil, List.flatten_cons, List.flatten_nil, ite_true, ite_false, reduceIte, ne_eq, eq_self, Nat.reduceAdd, Nat.reduceSub, Nat.reduceMul, Nat.reduceLeDiff, Nat.reduceEqDiff, Nat.reduceBEq, reduceCtorEq, Int.reduceToNat, List.elem_nil, List.elem_cons, Int.reduceLT, Int.reduceLE, Int.reduceEq, Int.reduceAdd, Int.reduceSub, Int.reduceNeg, capnY, appzY, List.all_append, List.take_append, List.drop_append, List.length_append, tmC_len, tmC_0, tmC_1, tmC_2, tmC_3, tmC_take, tmC_drop, tmC_one, tmC_ne, h0, hn1, List.length_map, q]
          exact Ans.some (.pure rfl)
      · have hn1 : ((12 : Int) < (t.args.length : Int)) = True := eq_true (by omega)
        have hn2 : decide (12 < t.args.length) = true := by simp; omega
        simp only [deepP, hn2, Bool.true_or]
        simp (maxSteps := 1000000) (disch := omega) only [yDeep, xinit_2, ↓axP, axQ, ↓if_true, ↓if_false, List.all_cons, List.all_nil, List.length_cons, List.length_nil, List.take_succ_cons, List.take_zero, List.take_nil, List.drop_succ_cons, List.drop_zero, List.drop_nil, List.getElem?_cons_zero, List.getElem?_cons_succ, List.getElem?_nil, List.nil_append, List.cons_append, List.append_nil, List.flatten_cons, List.flatten_nil, ite_true, ite_false, reduceIte, ne_eq, eq_self, Nat.reduceAdd, Nat.reduceSub, Nat.reduceMul, Nat.reduceLeDiff, Nat.reduceEqDiff, Nat.reduceBEq, reduceCtorEq, Int.reduceToNat, List.elem_nil, List.elem_cons, Int.reduceLT, Int.reduceLE, Int.reduceEq, Int.reduceAdd, Int.reduceSub, Int.reduceNeg, capnY, appzY, List.all_append, List.take_append, List.drop_append, List.length_append, tmC_len, tmC_0, tmC_1, tmC_2, tmC_3, tmC_take, tmC_drop, tmC_one, tmC_ne, h0, hn1, List.length_map]
        exact Ans.some (.pure rfl)
    · cases h
end Go.Proofs.YtcnnobcncklgfaaGreatDoor
