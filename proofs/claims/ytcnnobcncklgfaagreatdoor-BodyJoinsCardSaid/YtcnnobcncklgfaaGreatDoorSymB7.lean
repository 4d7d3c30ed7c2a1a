/- The contracts of the document's Clause, Same. -/
import Derived.Test.YtcnnobcncklgfaaGreatDoorSymB6
import Derived.Test.YtcnnobcncklgfaaGreatDoorSymB3
namespace Go.Proofs.YtcnnobcncklgfaaGreatDoor
open Go Go.Abs Go.RowKit
set_option linter.unusedVariables false
set_option linter.unusedSimpArgs false
attribute [local congr] on_congr br_congr onf_congr
theorem good_of {t : Tm} (h : RG 64 t) : t.good = true := by
  unfold Tm.good
  simp only [Bool.and_eq_true, decide_eq_true_eq]
  exact ⟨⟨h.1.2.2, h.1.1⟩, h.2⟩
theorem ofP_of {t : Tm} (h : RG 64 t) : ofP t = rowF 64 t := by unfold ofP; rw [if_pos (good_of h)]
theorem true_RG : RG 64 trueT := ⟨⟨by simp [trueT, Tm.height, Tm.heights], fine_true, by simp [trueT, Tm.size, Tm.sizes]⟩, by decide⟩
theorem ctl_cases (t : Tm) : (isP t [58, 45] 2 = true ∧ ctlP t = true) ∨ (isP t [58, 45] 2 = false ∧ isP t [44] 2 = true ∧ ctlP t = true) ∨ (isP t [58, 45] 2 = false ∧ isP t [44] 2 = false ∧ isP t [59] 2 = true ∧ ctlP t = true) ∨
    (isP t [58, 45] 2 = false ∧ isP t [44] 2 = false ∧ isP t [59] 2 = false ∧ isP t [45, 62] 2 = true ∧ ctlP t = true) ∨ (isP t [58, 45] 2 = false ∧ isP t [44] 2 = false ∧ isP t [59] 2 = false ∧ isP t [45, 62] 2 = false ∧ isP t [92, 43] 1 = true ∧ ctlP t = true) ∨
    (isP t [58, 45] 2 = false ∧ isP t [44] 2 = false ∧ isP t [59] 2 = false ∧ isP t [45, 62] 2 = false ∧ isP t [92, 43] 1 = false ∧ isP t [33] 0 = true ∧ ctlP t = true) ∨
    (isP t [58, 45] 2 = false ∧ isP t [44] 2 = false ∧ isP t [59] 2 = false ∧ isP t [45, 62] 2 = false ∧ isP t [92, 43] 1 = false ∧ isP t [33] 0 = false ∧ isP t [116, 114, 117, 101] 0 = true ∧ ctlP t = true) ∨
    (isP t [58, 45] 2 = false ∧ isP t [44] 2 = false ∧ isP t [59] 2 = false ∧ isP t [45, 62] 2 = false ∧ isP t [92, 43] 1 = false ∧ isP t [33] 0 = false ∧ isP t [116, 114, 117, 101] 0 = false ∧ isP t [102, 97, 105, 108] 0 = true ∧ ctlP t = true) ∨
    (isP t [58, 45] 2 = false ∧ isP t [44] 2 = false ∧ isP t [59] 2 = false ∧ isP t [45, 62] 2 = false ∧ isP t [92, 43] 1 = false ∧ isP t [33] 0 = false ∧ isP t [116, 114, 117, 101] 0 = false ∧ isP t [102, 97, 105, 108] 0 = false ∧ ctlP t = false) := by
  unfold ctlP
  cases isP t [58, 45] 2 <;> cases isP t [44] 2 <;> cases isP t [59] 2 <;> cases isP t [45, 62] 2 <;> cases isP t [92, 43] 1 <;> cases isP t [33] 0 <;> cases isP t [116, 114, 117, 101] 0 <;> cases isP t [102, 97, 105, 108] 0 <;> simp
set_option maxHeartbeats 8000000 in
theorem rclause_one : HookOne Tryz.prog 23 (pureF clauseS) := by
  refine HookOne.ofPureF (by decide +kernel) fun args y h H => ?_
  have hl : ∀ e ∈ [(52, pureF goodS), (56, pureF atomS), (57, pureF isRS), (53, pureF (rofS 64))], HookOne Tryz.prog e.1 e.2 := by
    intro e he
    simp only [List.mem_cons, List.not_mem_nil, or_false] at he
    rcases he with rfl | rfl | rfl | rfl
    · exact rgoodF_one
    · exact ratom_one
    · exact ris_one
    · exact rof_any 64
  unfold clauseS at h; split at h
  · rename_i x
    rw [Option.bind_eq_some_iff] at h
    obtain ⟨t, h1, h2⟩ := h
    obtain ⟨hf, h3⟩ := only_ok h2
    cases h3
    obtain rfl := ofT_ok h1
    refine ACalls.ofRun hl mixed (draws _ rfl) yRClause_ok rfl (by simp [pureL, pure_tmA]) 0 ?_ H
    cases hg : t.good with
    | false =>
      have : clauseP t = (zT, zT, 1) := by simp [clauseP, hg]
      rw [this]
      unfold tmA
      simp (maxSteps := 1000000) (disch := omega) only [yRClause, xinit_1, ↓axP, axQ, ↓if_true, ↓if_false, List.all_cons, List.all_nil, List.length_cons, List.length_nil, List.take_succ_cons, List.take_zero, List.take_nil, List.drop_succ_cons, List.drop_zero, List.drop_nil, List.getElem?_cons_zero, List.getElem?_cons_succ, List.getElem?_nil, List.nil_append, List.cons_append, List.append_nil, List.flatten_cons, List.flatten_nil, ite_true, ite_false, reduceIte, ne_eq, eq_self, Nat.reduceAdd, Nat.reduceSub, Nat.reduceMul, Nat.reduceLeDiff, Nat.reduceEqDiff, Nat.reduceBEq, reduceCtorEq, Int.reduceToNat, List.elem_nil, List.elem_cons, Int.reduceLT, Int.reduceLE, Int.reduceEq, Int.reduceAdd, Int.reduceSub, Int.reduceNeg, capnY, appzY, List.all_append, List.take_append, List.drop_append, List.length_append, tmC_len, tmC_0, tmC_1, tmC_2, tmC_3, tmC_take, tmC_drop, tmC_one, tmC_ne, goodS_eq' hf, hg, atomS_eq]
      exact Ans.some (.ofTup (.cons (fz_zT _) (.cons (fz_zT _) (.cons (.pure rfl) (.nil _)))))
    | true =>
      have ht := RG_good hf hg
      have hi := isR_eq ht.kind
      cases c1 : isP t [58, 45] 2 with
      | true =>
        obtain ⟨a, b, hab⟩ := args_two (isP_len (m := 2) c1)
        have ra : RG 64 a := (RG.arg (n := 63) ht (by rw [hab]; simp)).up
        have rb : RG 64 b := (RG.arg (n := 63) ht (by rw [hab]; simp)).up
        have hia := isR_eq ra.kind
        have : clauseP t = clauseW t a b := by simp [clauseP, hg, c1, hab]
        rw [this]
        unfold tmA clauseW
        by_cases k0 : a.kind = 0
        · simp (maxSteps := 1000000) (disch := omega) only [yRClause, xinit_1, ↓axP, axQ, ↓if_true, ↓if_false, List.all_cons, List.all_nil, List.length_cons, List.length_nil, List.take_succ_cons, List.take_zero, List.take_nil, List.drop_succ_cons, List.drop_zero, List.drop_nil, List.getElem?_cons_zero, List.getElem?_cons_succ, List.getElem?_nil, List.nil_append, List.cons_append, List.append_nil, List.flatten_cons, List.flatten_nil, ite_true, ite_false, reduceIte, ne_eq, eq_self, Nat.reduceAdd, Nat.reduceSub, Nat.reduceMul, Nat.reduceLeDiff, Nat.reduceEqDiff, Nat.reduceBEq, reduceCtorEq, Int.reduceToNat, List.elem_nil, List.elem_cons, Int.reduceLT, Int.reduceLE, Int.reduceEq, Int.reduceAdd, Int.reduceSub, Int.reduceNeg, capnY, appzY, List.all_append, List.take_append, List.drop_append, List.length_append, tmC_len, tmC_0, tmC_1, tmC_2, tmC_3, tmC_take, tmC_drop, tmC_one, tmC_ne, goodS_eq' hf, hg, isRS_eq, hi, hia, c1, hab, List.map_cons, List.map_nil, k0, atomS_eq]
          exact Ans.some (.ofTup (.cons (fz_zT _) (.cons (fz_zT _) (.cons (.pure rfl) (.nil _)))))
        · by_cases k1 : a.kind = 1
          · have k0' : ((1 : Int) = 0) = False := by simp
            simp (maxSteps := 1000000) (disch := omega) only [yRClause, xinit_1, ↓axP, axQ, ↓if_true, ↓if_false, List.all_cons, List.all_nil, List.length_cons, List.length_nil, List.take_succ_cons, List.take_zero, List.take_nil, List.drop_succ_cons, List.drop_zero, List.drop_nil, List.getElem?_cons_zero, List.getElem?_cons_succ, List.getElem?_nil, List.nil_append, List.cons_append, List.append_nil, List.flatten_cons, List.flatten_nil, ite_true, ite_false, reduceIte, ne_eq, eq_self, Nat.reduceAdd, Nat.reduceSub, Nat.reduceMul, Nat.reduceLeDiff, Nat.reduceEqDiff, Nat.reduceBEq, reduceCtorEq, Int.reduceToNat, List.elem_nil, List.elem_cons, Int.reduceLT, Int.reduceLE, Int.reduceEq, Int.reduceAdd, Int.reduceSub, Int.reduceNeg, capnY, appzY, List.all_append, List.take_append, List.drop_append, List.length_append, tmC_len, tmC_0, tmC_1, tmC_2, tmC_3, tmC_take, tmC_drop, tmC_one, tmC_ne, goodS_eq' hf, hg, isRS_eq, hi, hia, c1, hab, List.map_cons, List.map_nil, k1, k0', atomS_eq]
            exact Ans.some (.ofTup (.cons (fz_zT _) (.cons (fz_zT _) (.cons (.pure rfl) (.nil _)))))
          · rcases ctl_cases a with h | h | h | h | h | h | h | h | h
            case inr.inr.inr.inr.inr.inr.inr.inr =>
              by_cases hz : (rowF 64 b).2 = 0
              · simp (maxSteps := 1000000) (disch := omega) only [yRClause, xinit_1, ↓axP, axQ, ↓if_true, ↓if_false, List.all_cons, List.all_nil, List.length_cons, List.length_nil, List.take_succ_cons, List.take_zero, List.take_nil, List.drop_succ_cons, List.drop_zero, List.drop_nil, List.getElem?_cons_zero, List.getElem?_cons_succ, List.getElem?_nil, List.nil_append, List.cons_append, List.append_nil, List.flatten_cons, List.flatten_nil, ite_true, ite_false, reduceIte, ne_eq, eq_self, Nat.reduceAdd, Nat.reduceSub, Nat.reduceMul, Nat.reduceLeDiff, Nat.reduceEqDiff, Nat.reduceBEq, reduceCtorEq, Int.reduceToNat, List.elem_nil, List.elem_cons, Int.reduceLT, Int.reduceLE, Int.reduceEq, Int.reduceAdd, Int.reduceSub, Int.reduceNeg, capnY, appzY, List.all_append, List.take_append, List.drop_append, List.length_append, tmC_len, tmC_0, tmC_1, tmC_2, tmC_3, tmC_take, tmC_drop, tmC_one, tmC_ne, goodS_eq' hf, hg, isRS_eq, hi, hia, c1, hab, List.map_cons, List.map_nil, k0, k1, atomS_eq, h, rofS_eq rb, ofP_of rb, hz, Bool.false_eq_true]
                exact Ans.some (.ofTup (.cons (.pure (pure_tmA _)) (.cons (.pure (pure_tmA _)) (.cons (.pure rfl) (.nil _)))))
              · simp (maxSteps := 1000000) (disch := omega) only [yRClause, xinit_1, ↓axP, axQ, ↓if_true, ↓if_false, List.all_cons, List.all_nil, List.length_cons, List.length_nil, List.take_succ_cons, List.take_zero, List.take_nil, List.drop_succ_cons, List.drop_zero, List.drop_nil, List.getElem?_cons_zero, List.getElem?_cons_succ, List.getElem?_nil, List.nil_append, List.cons_append, List.append_nil, List.flatten_cons, List.flatten_nil, ite_true, ite_false, reduceIte, ne_eq, eq_self, Nat.reduceAdd, Nat.reduceSub, Nat.reduceMul, Nat.reduceLeDiff, Nat.reduceEqDiff, Nat.reduceBEq, reduceCtorEq, Int.reduceToNat, List.elem_nil, List.elem_cons, Int.reduceLT, Int.reduceLE, Int.reduceEq, Int.reduceAdd, Int.reduceSub, Int.reduceNeg, capnY, appzY, List.all_append, List.take_append, List.drop_append, List.length_append, tmC_len, tmC_0, tmC_1, tmC_2, tmC_3, tmC_take, tmC_drop, tmC_one, tmC_ne, goodS_eq' hf, hg, isRS_eq, hi, hia, c1, hab, List.map_cons, List.map_nil, k0, k1, atomS_eq, h, rofS_eq rb, ofP_of rb, hz, Bool.false_eq_true]
                exact Ans.some (.ofTup (.cons (fz_zT _) (.cons (fz_zT _) (.cons (.pure rfl) (.nil _)))))
            all_goals
              simp (maxSteps := 1000000) (disch := omega) only [yRClause, xinit_1, ↓axP, axQ, ↓if_true, ↓if_false, List.all_cons, List.all_nil, List.length_cons, List.length_nil, List.take_succ_cons, List.take_zero, List.take_nil, List.drop_succ_cons, List.drop_zero, List.drop_nil, List.getElem?_cons_zero, List.getElem?_cons_succ, List.getElem?_nil, List.nil_append, List.cons_append, List.append_nil, List.flatten_cons, List.flatten_nil, ite_true, ite_false, reduceIte, ne_eq, eq_self, Nat.reduceAdd, Nat.reduceSub, Nat.reduceMul, Nat.reduceLeDiff, Nat.reduceEqDiff, Nat.reduceBEq, reduceCtorEq, Int.reduceToNat, List.elem_nil, List.elem_cons, Int.reduceLT, Int.reduceLE, Int.reduceEq, Int.reduceAdd, Int.reduceSub, Int.reduceNeg, capnY, appzY, List.all_append, List.take_append, List.drop_append, List.length_append, tmC_len, tmC_0, tmC_1, tmC_2, tmC_3, tmC_take, tmC_drop, tmC_one, tmC_ne, goodS_eq' hf, hg, isRS_eq, hi, hia, c1, hab, List.map_cons, List.map_nil, k0, k1, atomS_eq, h]
              exact Ans.some (.ofTup (.cons (fz_zT _) (.cons (fz_zT _) (.cons (.pure rfl) (.nil _)))))
      | false =>
        have : clauseP t = clauseW t t trueT := by simp [clauseP, hg, c1]
        rw [this]
        have bt := rofS_eq true_RG
        have at' := atomS_eq [116, 114, 117, 101]
        have ot := ofP_of true_RG
        simp only [trueT] at bt ot
        unfold tmA clauseW
        simp only [trueT]
        by_cases k0 : t.kind = 0
        · simp (maxSteps := 1000000) (disch := omega) only [yRClause, xinit_1, ↓axP, axQ, ↓if_true, ↓if_false, List.all_cons, List.all_nil, List.length_cons, List.length_nil, List.take_succ_cons, List.take_zero, List.take_nil, List.drop_succ_cons, List.drop_zero, List.drop_nil, List.getElem?_cons_zero, List.getElem?_cons_succ, List.getElem?_nil, List.nil_append, List.cons_append, List.append_nil, List.flatten_cons, List.flatten_nil, ite_true, ite_false, reduceIte, ne_eq, eq_self, Nat.reduceAdd, Nat.reduceSub, Nat.reduceMul, Nat.reduceLeDiff, Nat.reduceEqDiff, Nat.reduceBEq, reduceCtorEq, Int.reduceToNat, List.elem_nil, List.elem_cons, Int.reduceLT, Int.reduceLE, Int.reduceEq, Int.reduceAdd, Int.reduceSub, Int.reduceNeg, capnY, appzY, List.all_append, List.take_append, List.drop_append, List.length_append, tmC_len, tmC_0, tmC_1, tmC_2, tmC_3, tmC_take, tmC_drop, tmC_one, tmC_ne, goodS_eq' hf, hg, isRS_eq, hi, c1, k0, at']
          exact Ans.some (.ofTup (.cons (fz_zT _) (.cons (fz_zT _) (.cons (.pure rfl) (.nil _)))))
        · by_cases k1 : t.kind = 1
          · have k0' : ((1 : Int) = 0) = False := by simp
            simp (maxSteps := 1000000) (disch := omega) only [yRClause, xinit_1, ↓axP, axQ, ↓if_true, ↓if_false, List.all_cons, List.all_nil, List.length_cons, List.length_nil, List.take_succ_cons, List.take_zero, List.take_nil, List.drop_succ_cons, List.drop_zero, List.drop_nil, List.getElem?_cons_zero, List.getElem?_cons_succ, List.getElem?_nil, List.nil_append, List.cons_append, List.append_nil, List.flatten_cons, List.flatten_nil, ite_true, ite_false, reduceIte, ne_eq, eq_self, Nat.reduceAdd, Nat.reduceSub, Nat.reduceMul, Nat.reduceLeDiff, Nat.reduceEqDiff, Nat.reduceBEq, reduceCtorEq, Int.reduceToNat, List.elem_nil, List.elem_cons, Int.reduceLT, Int.reduceLE, Int.reduceEq, Int.reduceAdd, Int.reduceSub, Int.reduceNeg, capnY, appzY, List.all_append, List.take_append, List.drop_append, List.length_append, tmC_len, tmC_0, tmC_1, tmC_2, tmC_3, tmC_take, tmC_drop, tmC_one, tmC_ne, goodS_eq' hf, hg, isRS_eq, hi, c1, k1, k0', at']
            exact Ans.some (.ofTup (.cons (fz_zT _) (.cons (fz_zT _) (.cons (.pure rfl) (.nil _)))))
          · rcases ctl_cases t with h | h | h | h | h | h | h | h | h
            case inl => rw [c1] at h; cases h.1
            case inr.inr.inr.inr.inr.inr.inr.inr =>
              by_cases hz : (rowF 64 (Tm.mk 2 0 [116, 114, 117, 101] [])).2 = 0
              · simp (maxSteps := 1000000) (disch := omega) only [yRClause, xinit_1, ↓axP, axQ, ↓if_true, ↓if_false, List.all_cons, List.all_nil, List.length_cons, List.length_nil, List.take_succ_cons, List.take_zero, List.take_nil, List.drop_succ_cons, List.drop_zero, List.drop_nil, List.getElem?_cons_zero, List.getElem?_cons_succ, List.getElem?_nil, List.nil_append, List.cons_append, List.append_nil, List.flatten_cons, List.flatten_nil, ite_true, ite_false, reduceIte, ne_eq, eq_self, Nat.reduceAdd, Nat.reduceSub, Nat.reduceMul, Nat.reduceLeDiff, Nat.reduceEqDiff, Nat.reduceBEq, reduceCtorEq, Int.reduceToNat, List.elem_nil, List.elem_cons, Int.reduceLT, Int.reduceLE, Int.reduceEq, Int.reduceAdd, Int.reduceSub, Int.reduceNeg, capnY, appzY, List.all_append, List.take_append, List.drop_append, List.length_append, tmC_len, tmC_0, tmC_1, tmC_2, tmC_3, tmC_take, tmC_drop, tmC_one, tmC_ne, goodS_eq' hf, hg, isRS_eq, hi, k0, k1, at', h, bt, ot, hz, Bool.false_eq_true]
                exact Ans.some (.ofTup (.cons (.pure (pure_tmA _)) (.cons (.pure (pure_tmA _)) (.cons (.pure rfl) (.nil _)))))
              · simp (maxSteps := 1000000) (disch := omega) only [yRClause, xinit_1, ↓axP, axQ, ↓if_true, ↓if_false, List.all_cons, List.all_nil, List.length_cons, List.length_nil, List.take_succ_cons, List.take_zero, List.take_nil, List.drop_succ_cons, List.drop_zero, List.drop_nil, List.getElem?_cons_zero, List.getElem?_cons_succ, List.getElem?_nil, List.nil_append, List.cons_append, List.append_nil, List.flatten_cons, List.flatten_nil, ite_true, ite_false, reduceIte, ne_eq, eq_self, Nat.reduceAdd, Nat.reduceSub, Nat.reduceMul, Nat.reduceLeDiff, Nat.reduceEqDiff, Nat.reduceBEq, reduceCtorEq, Int.reduceToNat, List.elem_nil, List.elem_cons, Int.reduceLT, Int.reduceLE, Int.reduceEq, Int.reduceAdd, Int.reduceSub, Int.reduceNeg, capnY, appzY, List.all_append, List.take_append, List.drop_append, List.length_append, tmC_len, tmC_0, tmC_1, tmC_2, tmC_3, tmC_take, tmC_drop, tmC_one, tmC_ne, goodS_eq' hf, hg, isRS_eq, hi, k0, k1, at', h, bt, ot, hz, Bool.false_eq_true]
                exact Ans.some (.ofTup (.cons (fz_zT _) (.cons (fz_zT _) (.cons (.pure rfl) (.nil _)))))
            all_goals
              simp (maxSteps := 1000000) (disch := omega) only [yRClause, xinit_1, ↓axP, axQ, ↓if_true, ↓if_false, List.all_cons, List.all_nil, List.length_cons, List.length_nil, List.take_succ_cons, List.take_zero, List.take_nil, List.drop_succ_cons, List.drop_zero, List.drop_nil, List.getElem?_cons_zero, List.getElem?_cons_succ, List.getElem?_nil, List.nil_append, List.cons_append, List.append_nil, List.flatten_cons, List.flatten_nil, ite_true, ite_false, reduceIte, ne_eq, eq_self, Nat.reduceAdd, Nat.reduceSub, Nat.reduceMul, Nat.reduceLeDiff, Nat.reduceEqDiff, Nat.reduceBEq, reduceCtorEq, Int.reduceToNat, List.elem_nil, List.elem_cons, Int.reduceLT, Int.reduceLE, Int.reduceEq, Int.reduceAdd, Int.reduceSub, Int.reduceNeg, capnY, appzY, List.all_append, List.take_append, List.drop_append, List.length_append, tmC_len, tmC_0, tmC_1, tmC_2, tmC_3, tmC_take, tmC_drop, tmC_one, tmC_ne, goodS_eq' hf, hg, isRS_eq, hi, k0, k1, at', h]
              exact Ans.some (.ofTup (.cons (fz_zT _) (.cons (fz_zT _) (.cons (.pure rfl) (.nil _)))))
  · cases h
end Go.Proofs.YtcnnobcncklgfaaGreatDoor
