/- The contracts of body.control, Of, Clause. -/
import Derived.Test.YtcnnobcncklgfaaGreatDoorSymRR
import Derived.Test.YtcnnobcncklgfaaGreatDoorYB2
namespace Go.Proofs.YtcnnobcncklgfaaGreatDoor
open Go Go.Abs Go.RowKit
set_option linter.unusedVariables false
set_option linter.unusedSimpArgs false
attribute [local congr] on_congr br_congr onf_congr
def ctlP (t : Tm) : Bool := isP t [58, 45] 2 || isP t [44] 2 || isP t [59] 2 || isP t [45, 62] 2 || isP t [92, 43] 1 || isP t [33] 0 || isP t [116, 114, 117, 101] 0 || isP t [102, 97, 105, 108] 0
noncomputable def ctlS : List AV → Option AV
  | [x] => (ofT x).map fun t => .bool (ctlP t)
  | _ => none
theorem ctlS_eq (t : Tm) : ctlS [.agg (tmC t)] = some (.bool (ctlP t)) := by
  show (ofT (tmA t)).map _ = _
  rw [ofT_tm]; rfl
set_option maxHeartbeats 4000000 in
theorem ctl_one : HookOne Tryz.prog 55 (pureF ctlS) := by
  refine HookOne.ofPureF (by decide +kernel) fun args y h H => ?_
  have hl : ∀ e ∈ [(54, pureF isS)], HookOne Tryz.prog e.1 e.2 := by
    intro e he; simp at he; subst he; exact is_one
  unfold ctlS at h; split at h
  · rename_i x
    rw [Option.map_eq_some_iff] at h
    obtain ⟨t, h1, rfl⟩ := h
    obtain rfl := ofT_ok h1
    refine ACalls.ofRun hl mixed (draws _ rfl) yCtl_ok rfl (by simp [pureL, pure_tmA]) 5 ?_ H
    unfold tmA ctlP
    cases c1 : isP t [58, 45] 2 with
    | true =>
      simp (maxSteps := 1000000) (disch := omega) only [yCtl, xinit_1, ↓axP, axQ, ↓if_true, ↓if_false, List.all_cons, List.all_nil, List.length_cons, List.length_nil, List.take_succ_cons, List.take_zero, List.take_nil, List.drop_succ_cons, List.drop_zero, List.drop_nil, List.getElem?_cons_zero, List.getElem?_cons_succ, List.getElem?_nil, List.nil_append, List.cons_append, List.append_nil, List.flatten_cons, List.flatten_nil, ite_true, ite_false, reduceIte, ne_eq, eq_self, Nat.reduceAdd, Nat.reduceSub, Nat.reduceMul, Nat.reduceLeDiff, Nat.reduceEqDiff, Nat.reduceBEq, reduceCtorEq, Int.reduceToNat, List.elem_nil, List.elem_cons, Int.reduceLT, Int.reduceLE, Int.reduceEq, Int.reduceAdd, Int.reduceSub, Int.reduceNeg, capnY, appzY, List.all_append, List.take_append, List.drop_append, List.length_append, tmC_len, tmC_0, tmC_1, tmC_2, tmC_3, tmC_take, tmC_drop, tmC_one, tmC_ne, iter_one, yCtla_r, yCtla_, isS_eq, c1]
      exact Ans.some (.pure rfl)
    | false => cases c2 : isP t [44] 2 with
      | true =>
        simp (maxSteps := 1000000) (disch := omega) only [yCtl, xinit_1, ↓axP, axQ, ↓if_true, ↓if_false, List.all_cons, List.all_nil, List.length_cons, List.length_nil, List.take_succ_cons, List.take_zero, List.take_nil, List.drop_succ_cons, List.drop_zero, List.drop_nil, List.getElem?_cons_zero, List.getElem?_cons_succ, List.getElem?_nil, List.nil_append, List.cons_append, List.append_nil, List.flatten_cons, List.flatten_nil, ite_true, ite_false, reduceIte, ne_eq, eq_self, Nat.reduceAdd, Nat.reduceSub, Nat.reduceMul, Nat.reduceLeDiff, Nat.reduceEqDiff, Nat.reduceBEq, reduceCtorEq, Int.reduceToNat, List.elem_nil, List.elem_cons, Int.reduceLT, Int.reduceLE, Int.reduceEq, Int.reduceAdd, Int.reduceSub, Int.reduceNeg, capnY, appzY, List.all_append, List.take_append, List.drop_append, List.length_append, tmC_len, tmC_0, tmC_1, tmC_2, tmC_3, tmC_take, tmC_drop, tmC_one, tmC_ne, iter_one, yCtla_r, yCtla_, isS_eq, c1, c2]
        exact Ans.some (.pure rfl)
      | false => cases c3 : isP t [59] 2 with
        | true =>
          simp (maxSteps := 1000000) (disch := omega) only [yCtl, xinit_1, ↓axP, axQ, ↓if_true, ↓if_false, List.all_cons, List.all_nil, List.length_cons, List.length_nil, List.take_succ_cons, List.take_zero, List.take_nil, List.drop_succ_cons, List.drop_zero, List.drop_nil, List.getElem?_cons_zero, List.getElem?_cons_succ, List.getElem?_nil, List.nil_append, List.cons_append, List.append_nil, List.flatten_cons, List.flatten_nil, ite_true, ite_false, reduceIte, ne_eq, eq_self, Nat.reduceAdd, Nat.reduceSub, Nat.reduceMul, Nat.reduceLeDiff, Nat.reduceEqDiff, Nat.reduceBEq, reduceCtorEq, Int.reduceToNat, List.elem_nil, List.elem_cons, Int.reduceLT, Int.reduceLE, Int.reduceEq, Int.reduceAdd, Int.reduceSub, Int.reduceNeg, capnY, appzY, List.all_append, List.take_append, List.drop_append, List.length_append, tmC_len, tmC_0, tmC_1, tmC_2, tmC_3, tmC_take, tmC_drop, tmC_one, tmC_ne, iter_one, yCtla_r, yCtla_, isS_eq, c1, c2, c3]
          exact Ans.some (.pure rfl)
        | false => cases c4 : isP t [45, 62] 2 with
          | true =>
            simp (maxSteps := 1000000) (disch := omega) only [yCtl, xinit_1, ↓axP, axQ, ↓if_true, ↓if_false, List.all_cons, List.all_nil, List.length_cons, List.length_nil, List.take_succ_cons, List.take_zero, List.take_nil, List.drop_succ_cons, List.drop_zero, List.drop_nil, List.getElem?_cons_zero, List.getElem?_cons_succ, List.getElem?_nil, List.nil_append, List.cons_append, List.append_nil, List.flatten_cons, List.flatten_nil, ite_true, ite_false, reduceIte, ne_eq, eq_self, Nat.reduceAdd, Nat.reduceSub, Nat.reduceMul, Nat.reduceLeDiff, Nat.reduceEqDiff, Nat.reduceBEq, reduceCtorEq, Int.reduceToNat, List.elem_nil, List.elem_cons, Int.reduceLT, Int.reduceLE, Int.reduceEq, Int.reduceAdd, Int.reduceSub, Int.reduceNeg, capnY, appzY, List.all_append, List.take_append, List.drop_append, List.length_append, tmC_len, tmC_0, tmC_1, tmC_2, tmC_3, tmC_take, tmC_drop, tmC_one, tmC_ne, iter_one, yCtla_r, yCtla_, isS_eq, c1, c2, c3, c4]
            exact Ans.some (.pure rfl)
          | false =>
            cases c5 : isP t [92, 43] 1 <;> cases c6 : isP t [33] 0 <;> cases c7 : isP t [116, 114, 117, 101] 0 <;> cases c8 : isP t [102, 97, 105, 108] 0
            all_goals
              simp (maxSteps := 1000000) (disch := omega) only [yCtl, xinit_1, ↓axP, axQ, ↓if_true, ↓if_false, List.all_cons, List.all_nil, List.length_cons, List.length_nil, List.take_succ_cons, List.take_zero, List.take_nil, List.drop_succ_cons, List.drop_zero, List.drop_nil, List.getElem?_cons_zero, List.getElem?_cons_succ, List.getElem?_nil, List.nil_append, List.cons_append, List.append_nil, List.flatten_cons, List.flatten_nil, ite_true, ite_false, reduceIte, ne_eq, eq_self, Nat.reduceAdd, Nat.reduceSub, Nat.reduceMul, Nat.reduceLeDiff, Nat.reduceEqDiff, Nat.reduceBEq, reduceCtorEq, Int.reduceToNat, List.elem_nil, List.elem_cons, Int.reduceLT, Int.reduceLE, Int.reduceEq, Int.reduceAdd, Int.reduceSub, Int.reduceNeg, capnY, appzY, List.all_append, List.take_append, List.drop_append, List.length_append, tmC_len, tmC_0, tmC_1, tmC_2, tmC_3, tmC_take, tmC_drop, tmC_one, tmC_ne, iter_one, yCtla_r, yCtla_, isS_eq, c1, c2, c3, c4, c5, c6, c7, c8]
              exact Ans.some (.pure rfl)
  · cases h
/-- What Of answers. -/
def ofP (t : Tm) : List Gl × Int := if t.good = true then rowF 64 t else ([], 1)
noncomputable def bofS : List AV → Option AV
  | [x] => (ofT x).bind fun t => only (Fine 1000 t) (some (.tup [glV (ofP t).1, .int .i64 (ofP t).2]))
  | _ => none
theorem bofS_eq {t : Tm} (h : Fine 1000 t) : bofS [.agg (tmC t)] = some (.tup [glV (ofP t).1, .int .i64 (ofP t).2]) := by
  show (ofT (tmA t)).bind _ = _
  rw [ofT_tm]; exact only_eq h _
theorem goodS_eq' {t : Tm} (h : Fine 1000 t) : goodS [.agg (tmC t)] = some (.bool t.good) := goodS_eq h
theorem RC_good {t : Tm} (hf : Fine 1000 t) (hg : t.good = true) : RC 64 t := by
  unfold Tm.good at hg
  simp only [Bool.and_eq_true, decide_eq_true_eq] at hg
  exact ⟨hg.1.2, hf, hg.1.1⟩
theorem goodF_one : HookOne Tryz.prog 15 (pureF goodS) := HookOne.ofPureF (by decide +kernel) fun args y h H => by
  have := goodS_one.ok args H y H (by simp only [pureH, h])
  exact this
theorem bof_one : HookOne Tryz.prog 13 (pureF bofS) := by
  refine HookOne.ofPureF (by decide +kernel) fun args y h H => ?_
  have hl : ∀ e ∈ [(15, pureF goodS), (43, pureF (rowS 64))], HookOne Tryz.prog e.1 e.2 := by
    intro e he
    simp only [List.mem_cons, List.not_mem_nil, or_false] at he
    rcases he with rfl | rfl
    · exact goodF_one
    · exact row_any 64
  unfold bofS at h; split at h
  · rename_i x
    rw [Option.bind_eq_some_iff] at h
    obtain ⟨t, h1, h2⟩ := h
    obtain ⟨hf, h3⟩ := only_ok h2
    cases h3
    obtain rfl := ofT_ok h1
    refine ACalls.ofRun hl mixed (draws _ rfl) yOf_ok rfl (by simp [pureL, pure_tmA]) 0 ?_ H
    unfold tmA
    cases hg : t.good with
    | true =>
      simp (maxSteps := 1000000) (disch := omega) only [yOf, xinit_1, ↓axP, axQ, ↓if_true, ↓if_false, List.all_cons, List.all_nil, List.length_cons, List.length_nil, List.take_succ_cons, List.take_zero, List.take_nil, List.drop_succ_cons, List.drop_zero, List.drop_nil, List.getElem?_cons_zero, List.getElem?_cons_succ, List.getElem?_nil, List.nil_append, List.cons_append, List.append_nil, List.flatten_cons, List.flatten_nil, ite_true, ite_false, reduceIte, ne_eq, eq_self, Nat.reduceAdd, Nat.reduceSub, Nat.reduceMul, Nat.reduceLeDiff, Nat.reduceEqDiff, Nat.reduceBEq, reduceCtorEq, Int.reduceToNat, List.elem_nil, List.elem_cons, Int.reduceLT, Int.reduceLE, Int.reduceEq, Int.reduceAdd, Int.reduceSub, Int.reduceNeg, capnY, appzY, List.all_append, List.take_append, List.drop_append, List.length_append, tmC_len, tmC_0, tmC_1, tmC_2, tmC_3, tmC_take, tmC_drop, tmC_one, tmC_ne, goodS_eq' hf, hg, rowS_eq (RC_good hf hg), ofP]
      exact Ans.some (.ofTup (.cons (.pure (pure_glV _)) (.cons (.pure rfl) (.nil _))))
    | false =>
      simp (maxSteps := 1000000) (disch := omega) only [yOf, xinit_1, ↓axP, axQ, ↓if_true, ↓if_false, List.all_cons, List.all_nil, List.length_cons, List.length_nil, List.take_succ_cons, List.take_zero, List.take_nil, List.drop_succ_cons, List.drop_zero, List.drop_nil, List.getElem?_cons_zero, List.getElem?_cons_succ, List.getElem?_nil, List.nil_append, List.cons_append, List.append_nil, List.flatten_cons, List.flatten_nil, ite_true, ite_false, reduceIte, ne_eq, eq_self, Nat.reduceAdd, Nat.reduceSub, Nat.reduceMul, Nat.reduceLeDiff, Nat.reduceEqDiff, Nat.reduceBEq, reduceCtorEq, Int.reduceToNat, List.elem_nil, List.elem_cons, Int.reduceLT, Int.reduceLE, Int.reduceEq, Int.reduceAdd, Int.reduceSub, Int.reduceNeg, capnY, appzY, List.all_append, List.take_append, List.drop_append, List.length_append, tmC_len, tmC_0, tmC_1, tmC_2, tmC_3, tmC_take, tmC_drop, tmC_one, tmC_ne, goodS_eq' hf, hg, ofP, Bool.false_eq_true]
      exact Ans.some (.ofTup (.cons (.nils 6) (.cons (.pure rfl) (.nil _))))
  · cases h
def trueT : Tm := .mk 2 0 [116, 114, 117, 101] []
/-- What Clause answers: head, body, error. -/
def clauseW (t head rest : Tm) : Tm × Tm × Int :=
  let e : Int := if head.kind = 0 then 6 else if head.kind = 1 then 5 else if ctlP head then 8 else (ofP rest).2
  if e = 0 then (head, rest, 0) else (zT, zT, e)
def clauseP (t : Tm) : Tm × Tm × Int :=
  if t.good = true then (if isP t [58, 45] 2 then clauseW t (t.args.getD 0 zT) (t.args.getD 1 zT) else clauseW t t trueT) else (zT, zT, 1)
noncomputable def clauseS : List AV → Option AV
  | [x] => (ofT x).bind fun t => only (Fine 1000 t) (some (.tup [tmA (clauseP t).1, tmA (clauseP t).2.1, .int .i64 (clauseP t).2.2]))
  | _ => none
theorem clauseS_eq {t : Tm} (h : Fine 1000 t) : clauseS [.agg (tmC t)] = some (.tup [.agg (tmC (clauseP t).1), .agg (tmC (clauseP t).2.1), .int .i64 (clauseP t).2.2]) := by
  show (ofT (tmA t)).bind _ = _
  rw [ofT_tm]; exact only_eq h _
theorem fine_true : Fine 1000 trueT := .mk _ _ _ _ (by omega) (by omega) (by unfold maxLen; simp) (by simp) (fun x hx => by cases hx)
theorem fz_zT (H : AH) : Fz H (.agg [.int .i64 0, .int .i64 0, .str [], .nils]) (tmA zT) := .ofAgg (by
  rw [tmC_eq]
  exact .cons (.pure rfl) (.cons (.pure rfl) (.cons (.pure rfl) (.cons (.nils 4) (.nil _)))))
set_option maxHeartbeats 4000000 in
theorem clause_one : HookOne Tryz.prog 22 (pureF clauseS) := by
  refine HookOne.ofPureF (by decide +kernel) fun args y h H => ?_
  have hl : ∀ e ∈ [(15, pureF goodS), (42, pureF atomS), (54, pureF isS), (55, pureF ctlS), (13, pureF bofS)], HookOne Tryz.prog e.1 e.2 := by
    intro e he
    simp only [List.mem_cons, List.not_mem_nil, or_false] at he
    rcases he with rfl | rfl | rfl | rfl | rfl
    · exact goodF_one
    · exact atom_one
    · exact is_one
    · exact ctl_one
    · exact bof_one
  unfold clauseS at h; split at h
  · rename_i x
    rw [Option.bind_eq_some_iff] at h
    obtain ⟨t, h1, h2⟩ := h
    obtain ⟨hf, h3⟩ := only_ok h2
    cases h3
    obtain rfl := ofT_ok h1
    refine ACalls.ofRun hl mixed (draws _ rfl) yClause_ok rfl (by simp [pureL, pure_tmA]) 0 ?_ H
    have key : ∀ head rest : Tm, Fine 1000 rest → ∀ (e : Int), e = (if head.kind = 0 then 6 else if head.kind = 1 then 5 else if ctlP head then 8 else (ofP rest).2) → True := fun _ _ _ _ _ => trivial
    cases hg : t.good with
    | false =>
      have : clauseP t = (zT, zT, 1) := by simp [clauseP, hg]
      rw [this]
      unfold tmA
      simp (maxSteps := 1000000) (disch := omega) only [yClause, xinit_1, ↓axP, axQ, ↓if_true, ↓if_false, List.all_cons, List.all_nil, List.length_cons, List.length_nil, List.take_succ_cons, List.take_zero, List.take_nil, List.drop_succ_cons, List.drop_zero, List.drop_nil, List.getElem?_cons_zero, List.getElem?_cons_succ, List.getElem?_nil, List.nil_append, List.cons_append, List.append_nil, List.flatten_cons, List.flatten_nil, ite_true, ite_false, reduceIte, ne_eq, eq_self, Nat.reduceAdd, Nat.reduceSub, Nat.reduceMul, Nat.reduceLeDiff, Nat.reduceEqDiff, Nat.reduceBEq, reduceCtorEq, Int.reduceToNat, List.elem_nil, List.elem_cons, Int.reduceLT, Int.reduceLE, Int.reduceEq, Int.reduceAdd, Int.reduceSub, Int.reduceNeg, capnY, appzY, List.all_append, List.take_append, List.drop_append, List.length_append, tmC_len, tmC_0, tmC_1, tmC_2, tmC_3, tmC_take, tmC_drop, tmC_one, tmC_ne, goodS_eq' hf, hg]
      exact Ans.some (.ofTup (.cons (fz_zT _) (.cons (fz_zT _) (.cons (.pure rfl) (.nil _)))))
    | true =>
      cases c1 : isP t [58, 45] 2 with
      | true =>
        obtain ⟨a, b, hab⟩ := args_two (isP_len (m := 2) c1)
        have fb : Fine 1000 b := hf.args.2.1 b (by rw [hab]; simp)
        have : clauseP t = clauseW t a b := by simp [clauseP, hg, c1, hab]
        rw [this]
        unfold tmA clauseW
        by_cases k0 : a.kind = 0
        · simp (maxSteps := 1000000) (disch := omega) only [yClause, xinit_1, ↓axP, axQ, ↓if_true, ↓if_false, List.all_cons, List.all_nil, List.length_cons, List.length_nil, List.take_succ_cons, List.take_zero, List.take_nil, List.drop_succ_cons, List.drop_zero, List.drop_nil, List.getElem?_cons_zero, List.getElem?_cons_succ, List.getElem?_nil, List.nil_append, List.cons_append, List.append_nil, List.flatten_cons, List.flatten_nil, ite_true, ite_false, reduceIte, ne_eq, eq_self, Nat.reduceAdd, Nat.reduceSub, Nat.reduceMul, Nat.reduceLeDiff, Nat.reduceEqDiff, Nat.reduceBEq, reduceCtorEq, Int.reduceToNat, List.elem_nil, List.elem_cons, Int.reduceLT, Int.reduceLE, Int.reduceEq, Int.reduceAdd, Int.reduceSub, Int.reduceNeg, capnY, appzY, List.all_append, List.take_append, List.drop_append, List.length_append, tmC_len, tmC_0, tmC_1, tmC_2, tmC_3, tmC_take, tmC_drop, tmC_one, tmC_ne, goodS_eq' hf, hg, isS_eq, c1, hab, List.map_cons, List.map_nil, k0, atomS_eq]
          exact Ans.some (.ofTup (.cons (fz_zT _) (.cons (fz_zT _) (.cons (.pure rfl) (.nil _)))))
        · by_cases k1 : a.kind = 1
          · have k0' : ((1 : Int) = 0) = False := by simp
            simp (maxSteps := 1000000) (disch := omega) only [yClause, xinit_1, ↓axP, axQ, ↓if_true, ↓if_false, List.all_cons, List.all_nil, List.length_cons, List.length_nil, List.take_succ_cons, List.take_zero, List.take_nil, List.drop_succ_cons, List.drop_zero, List.drop_nil, List.getElem?_cons_zero, List.getElem?_cons_succ, List.getElem?_nil, List.nil_append, List.cons_append, List.append_nil, List.flatten_cons, List.flatten_nil, ite_true, ite_false, reduceIte, ne_eq, eq_self, Nat.reduceAdd, Nat.reduceSub, Nat.reduceMul, Nat.reduceLeDiff, Nat.reduceEqDiff, Nat.reduceBEq, reduceCtorEq, Int.reduceToNat, List.elem_nil, List.elem_cons, Int.reduceLT, Int.reduceLE, Int.reduceEq, Int.reduceAdd, Int.reduceSub, Int.reduceNeg, capnY, appzY, List.all_append, List.take_append, List.drop_append, List.length_append, tmC_len, tmC_0, tmC_1, tmC_2, tmC_3, tmC_take, tmC_drop, tmC_one, tmC_ne, goodS_eq' hf, hg, isS_eq, c1, hab, List.map_cons, List.map_nil, k1, k0', atomS_eq]
            exact Ans.some (.ofTup (.cons (fz_zT _) (.cons (fz_zT _) (.cons (.pure rfl) (.nil _)))))
          · cases c2 : ctlP a with
            | true =>
              simp (maxSteps := 1000000) (disch := omega) only [yClause, xinit_1, ↓axP, axQ, ↓if_true, ↓if_false, List.all_cons, List.all_nil, List.length_cons, List.length_nil, List.take_succ_cons, List.take_zero, List.take_nil, List.drop_succ_cons, List.drop_zero, List.drop_nil, List.getElem?_cons_zero, List.getElem?_cons_succ, List.getElem?_nil, List.nil_append, List.cons_append, List.append_nil, List.flatten_cons, List.flatten_nil, ite_true, ite_false, reduceIte, ne_eq, eq_self, Nat.reduceAdd, Nat.reduceSub, Nat.reduceMul, Nat.reduceLeDiff, Nat.reduceEqDiff, Nat.reduceBEq, reduceCtorEq, Int.reduceToNat, List.elem_nil, List.elem_cons, Int.reduceLT, Int.reduceLE, Int.reduceEq, Int.reduceAdd, Int.reduceSub, Int.reduceNeg, capnY, appzY, List.all_append, List.take_append, List.drop_append, List.length_append, tmC_len, tmC_0, tmC_1, tmC_2, tmC_3, tmC_take, tmC_drop, tmC_one, tmC_ne, goodS_eq' hf, hg, isS_eq, c1, hab, List.map_cons, List.map_nil, k0, k1, atomS_eq, ctlS_eq, c2]
              exact Ans.some (.ofTup (.cons (fz_zT _) (.cons (fz_zT _) (.cons (.pure rfl) (.nil _)))))
            | false =>
              by_cases hz : (ofP b).2 = 0
              · simp (maxSteps := 1000000) (disch := omega) only [yClause, xinit_1, ↓axP, axQ, ↓if_true, ↓if_false, List.all_cons, List.all_nil, List.length_cons, List.length_nil, List.take_succ_cons, List.take_zero, List.take_nil, List.drop_succ_cons, List.drop_zero, List.drop_nil, List.getElem?_cons_zero, List.getElem?_cons_succ, List.getElem?_nil, List.nil_append, List.cons_append, List.append_nil, List.flatten_cons, List.flatten_nil, ite_true, ite_false, reduceIte, ne_eq, eq_self, Nat.reduceAdd, Nat.reduceSub, Nat.reduceMul, Nat.reduceLeDiff, Nat.reduceEqDiff, Nat.reduceBEq, reduceCtorEq, Int.reduceToNat, List.elem_nil, List.elem_cons, Int.reduceLT, Int.reduceLE, Int.reduceEq, Int.reduceAdd, Int.reduceSub, Int.reduceNeg, capnY, appzY, List.all_append, List.take_append, List.drop_append, List.length_append, tmC_len, tmC_0, tmC_1, tmC_2, tmC_3, tmC_take, tmC_drop, tmC_one, tmC_ne, goodS_eq' hf, hg, isS_eq, c1, hab, List.map_cons, List.map_nil, k0, k1, atomS_eq, ctlS_eq, c2, bofS_eq fb, hz, Bool.false_eq_true]
                exact Ans.some (.ofTup (.cons (.pure (pure_tmA _)) (.cons (.pure (pure_tmA _)) (.cons (.pure rfl) (.nil _)))))
              · simp (maxSteps := 1000000) (disch := omega) only [yClause, xinit_1, ↓axP, axQ, ↓if_true, ↓if_false, List.all_cons, List.all_nil, List.length_cons, List.length_nil, List.take_succ_cons, List.take_zero, List.take_nil, List.drop_succ_cons, List.drop_zero, List.drop_nil, List.getElem?_cons_zero, List.getElem?_cons_succ, List.getElem?_nil, List.nil_append, List.cons_append, List.append_nil, List.flatten_cons, List.flatten_nil, ite_true, ite_false, reduceIte, ne_eq, eq_self, Nat.reduceAdd, Nat.reduceSub, Nat.reduceMul, Nat.reduceLeDiff, Nat.reduceEqDiff, Nat.reduceBEq, reduceCtorEq, Int.reduceToNat, List.elem_nil, List.elem_cons, Int.reduceLT, Int.reduceLE, Int.reduceEq, Int.reduceAdd, Int.reduceSub, Int.reduceNeg, capnY, appzY, List.all_append, List.take_append, List.drop_append, List.length_append, tmC_len, tmC_0, tmC_1, tmC_2, tmC_3, tmC_take, tmC_drop, tmC_one, tmC_ne, goodS_eq' hf, hg, isS_eq, c1, hab, List.map_cons, List.map_nil, k0, k1, atomS_eq, ctlS_eq, c2, bofS_eq fb, hz, Bool.false_eq_true]
                exact Ans.some (.ofTup (.cons (fz_zT _) (.cons (fz_zT _) (.cons (.pure rfl) (.nil _)))))
      | false =>
        have ft := fine_true
        have : clauseP t = clauseW t t trueT := by simp [clauseP, hg, c1]
        rw [this]
        have bt := bofS_eq ft
        have at' := atomS_eq [116, 114, 117, 101]
        simp only [trueT] at bt
        unfold tmA clauseW
        simp only [trueT]
        by_cases k0 : t.kind = 0
        · simp (maxSteps := 1000000) (disch := omega) only [yClause, xinit_1, ↓axP, axQ, ↓if_true, ↓if_false, List.all_cons, List.all_nil, List.length_cons, List.length_nil, List.take_succ_cons, List.take_zero, List.take_nil, List.drop_succ_cons, List.drop_zero, List.drop_nil, List.getElem?_cons_zero, List.getElem?_cons_succ, List.getElem?_nil, List.nil_append, List.cons_append, List.append_nil, List.flatten_cons, List.flatten_nil, ite_true, ite_false, reduceIte, ne_eq, eq_self, Nat.reduceAdd, Nat.reduceSub, Nat.reduceMul, Nat.reduceLeDiff, Nat.reduceEqDiff, Nat.reduceBEq, reduceCtorEq, Int.reduceToNat, List.elem_nil, List.elem_cons, Int.reduceLT, Int.reduceLE, Int.reduceEq, Int.reduceAdd, Int.reduceSub, Int.reduceNeg, capnY, appzY, List.all_append, List.take_append, List.drop_append, List.length_append, tmC_len, tmC_0, tmC_1, tmC_2, tmC_3, tmC_take, tmC_drop, tmC_one, tmC_ne, goodS_eq' hf, hg, isS_eq, c1, k0, at']
          exact Ans.some (.ofTup (.cons (fz_zT _) (.cons (fz_zT _) (.cons (.pure rfl) (.nil _)))))
        · by_cases k1 : t.kind = 1
          · have k0' : ((1 : Int) = 0) = False := by simp
            simp (maxSteps := 1000000) (disch := omega) only [yClause, xinit_1, ↓axP, axQ, ↓if_true, ↓if_false, List.all_cons, List.all_nil, List.length_cons, List.length_nil, List.take_succ_cons, List.take_zero, List.take_nil, List.drop_succ_cons, List.drop_zero, List.drop_nil, List.getElem?_cons_zero, List.getElem?_cons_succ, List.getElem?_nil, List.nil_append, List.cons_append, List.append_nil, List.flatten_cons, List.flatten_nil, ite_true, ite_false, reduceIte, ne_eq, eq_self, Nat.reduceAdd, Nat.reduceSub, Nat.reduceMul, Nat.reduceLeDiff, Nat.reduceEqDiff, Nat.reduceBEq, reduceCtorEq, Int.reduceToNat, List.elem_nil, List.elem_cons, Int.reduceLT, Int.reduceLE, Int.reduceEq, Int.reduceAdd, Int.reduceSub, Int.reduceNeg, capnY, appzY, List.all_append, List.take_append, List.drop_append, List.length_append, tmC_len, tmC_0, tmC_1, tmC_2, tmC_3, tmC_take, tmC_drop, tmC_one, tmC_ne, goodS_eq' hf, hg, isS_eq, c1, k1, k0', at']
            exact Ans.some (.ofTup (.cons (fz_zT _) (.cons (fz_zT _) (.cons (.pure rfl) (.nil _)))))
          · cases c2 : ctlP t with
            | true =>
              simp (maxSteps := 1000000) (disch := omega) only [yClause, xinit_1, ↓axP, axQ, ↓if_true, ↓if_false, List.all_cons, List.all_nil, List.length_cons, List.length_nil, List.take_succ_cons, List.take_zero, List.take_nil, List.drop_succ_cons, List.drop_zero, List.drop_nil, List.getElem?_cons_zero, List.getElem?_cons_succ, List.getElem?_nil, List.nil_append, List.cons_append, List.append_nil, List.flatten_cons, List.flatten_nil, ite_true, ite_false, reduceIte, ne_eq, eq_self, Nat.reduceAdd, Nat.reduceSub, Nat.reduceMul, Nat.reduceLeDiff, Nat.reduceEqDiff, Nat.reduceBEq, reduceCtorEq, Int.reduceToNat, List.elem_nil, List.elem_cons, Int.reduceLT, Int.reduceLE, Int.reduceEq, Int.reduceAdd, Int.reduceSub, Int.reduceNeg, capnY, appzY, List.all_append, List.take_append, List.drop_append, List.length_append, tmC_len, tmC_0, tmC_1, tmC_2, tmC_3, tmC_take, tmC_drop, tmC_one, tmC_ne, goodS_eq' hf, hg, isS_eq, c1, k0, k1, at', ctlS_eq, c2]
              exact Ans.some (.ofTup (.cons (fz_zT _) (.cons (fz_zT _) (.cons (.pure rfl) (.nil _)))))
            | false =>
              by_cases hz : (ofP (Tm.mk 2 0 [116, 114, 117, 101] [])).2 = 0
              · simp (maxSteps := 1000000) (disch := omega) only [yClause, xinit_1, ↓axP, axQ, ↓if_true, ↓if_false, List.all_cons, List.all_nil, List.length_cons, List.length_nil, List.take_succ_cons, List.take_zero, List.take_nil, List.drop_succ_cons, List.drop_zero, List.drop_nil, List.getElem?_cons_zero, List.getElem?_cons_succ, List.getElem?_nil, List.nil_append, List.cons_append, List.append_nil, List.flatten_cons, List.flatten_nil, ite_true, ite_false, reduceIte, ne_eq, eq_self, Nat.reduceAdd, Nat.reduceSub, Nat.reduceMul, Nat.reduceLeDiff, Nat.reduceEqDiff, Nat.reduceBEq, reduceCtorEq, Int.reduceToNat, List.elem_nil, List.elem_cons, Int.reduceLT, Int.reduceLE, Int.reduceEq, Int.reduceAdd, Int.reduceSub, Int.reduceNeg, capnY, appzY, List.all_append, List.take_append, List.drop_append, List.length_append, tmC_len, tmC_0, tmC_1, tmC_2, tmC_3, tmC_take, tmC_drop, tmC_one, tmC_ne, goodS_eq' hf, hg, isS_eq, c1, k0, k1, at', ctlS_eq, c2, bt, hz, Bool.false_eq_true]
                exact Ans.some (.ofTup (.cons (.pure (pure_tmA _)) (.cons (.pure (pure_tmA _)) (.cons (.pure rfl) (.nil _)))))
              · simp (maxSteps := 1000000) (disch := omega) only [yClause, xinit_1, ↓axP, axQ, ↓if_true, ↓if_false, List.all_cons, List.all_nil, List.length_cons, List.length_nil, List.take_succ_cons, List.take_zero, List.take_nil, List.drop_succ_cons, List.drop_zero, List.drop_nil, List.getElem?_cons_zero, List.getElem?_cons_succ, List.getElem?_nil, List.nil_append, List.cons_append, List.append_nil, List.flatten_cons, List.flatten_nil, ite_true, ite_false, reduceIte, ne_eq, eq_self, Nat.reduceAdd, Nat.reduceSub, Nat.reduceMul, Nat.reduceLeDiff, Nat.reduceEqDiff, Nat.reduceBEq, reduceCtorEq, Int.reduceToNat, List.elem_nil, List.elem_cons, Int.reduceLT, Int.reduceLE, Int.reduceEq, Int.reduceAdd, Int.reduceSub, Int.reduceNeg, capnY, appzY, List.all_append, List.take_append, List.drop_append, List.length_append, tmC_len, tmC_0, tmC_1, tmC_2, tmC_3, tmC_take, tmC_drop, tmC_one, tmC_ne, goodS_eq' hf, hg, isS_eq, c1, k0, k1, at', ctlS_eq, c2, bt, hz, Bool.false_eq_true]
                exact Ans.some (.ofTup (.cons (fz_zT _) (.cons (fz_zT _) (.cons (.pure rfl) (.nil _)))))
  · cases h
end Go.Proofs.YtcnnobcncklgfaaGreatDoor
