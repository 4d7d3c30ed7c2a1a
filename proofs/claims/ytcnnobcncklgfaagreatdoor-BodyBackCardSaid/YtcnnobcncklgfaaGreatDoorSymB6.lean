/- The contracts of the document's rows, of, Of, Clause. -/
import Derived.Test.YtcnnobcncklgfaaGreatDoorSymB5
import Derived.Test.YtcnnobcncklgfaaGreatDoorRefB
namespace Go.Proofs.YtcnnobcncklgfaaGreatDoor
open Go Go.Abs Go.RowKit
set_option linter.unusedVariables false
set_option linter.unusedSimpArgs false
attribute [local congr] on_congr br_congr onf_congr
theorem rowsW_nil {f : Tm → List Gl × Int} : ∀ l : List Tm, (rowsW f l).2 ≠ 0 → (rowsW f l).1 = [] := by
  intro l
  induction l with
  | nil => intro h; exact absurd rfl h
  | cons t l ih =>
    intro h
    simp only [rowsW] at h ⊢
    split
    · rename_i h1; simp only [h1, if_true] at h
      split
      · rename_i h2; simp [h2] at h
      · rfl
    · rfl
theorem rrows_one {n : Nat} (hof : HookOne Tryz.prog 53 (pureF (rofS n))) : HookOne Tryz.prog 82 (pureF (rrowsS n)) := by
  refine HookOne.ofPureF (by decide +kernel) fun args y h H => ?_
  have hl : ∀ e ∈ [(53, pureF (rofS n))], HookOne Tryz.prog e.1 e.2 := by
    intro e he; simp at he; subst he; exact hof
  unfold rrowsS at h; split at h
  · rename_i k x
    rw [Option.bind_eq_some_iff] at h
    obtain ⟨l, h1, h2⟩ := h
    obtain ⟨⟨hn, hR⟩, h3⟩ := only_ok h2
    cases h3
    obtain rfl := back_ok h1
    unfold lsA
    refine ACalls.ofRun hl mixed (draws _ rfl) yRrows_ok rfl (by simp [pureL, pureA, pure_rows]) (l.length + 1) ?_ H
    have wf0 : AH.wf ⟨1, Tr.nil.set 0 ⟨0, 0, [.int .i64 k, .int .i64 0, .int .i64 0, .str [], .nils, .nils]⟩, .nil⟩ := wf_add wf_empty _
    obtain ⟨q1, q2⟩ := rrows_loop (n := n) (l.length + 1) k l hn l [] [] .nils _ (l.length + 1) rfl rfl hR ⟨wf0, Nat.le_refl _, by simp only [↓axP, axQ, ↓if_true, ↓if_false, List.all_cons, List.all_nil, List.length_cons, List.length_nil, List.take_succ_cons, List.take_zero, List.take_nil, List.drop_succ_cons, List.drop_zero, List.drop_nil, List.getElem?_cons_zero, List.getElem?_cons_succ, List.getElem?_nil, List.nil_append, List.cons_append, List.append_nil, List.flatten_cons, List.flatten_nil, ite_true, ite_false, reduceIte, ne_eq, eq_self, Nat.reduceAdd, Nat.reduceSub, Nat.reduceMul, Nat.reduceLeDiff, Nat.reduceEqDiff, Nat.reduceBEq, reduceCtorEq, Int.reduceToNat, List.elem_nil, List.elem_cons, Int.reduceLT, Int.reduceLE, Int.reduceEq, Int.reduceAdd, Int.reduceSub, Int.reduceNeg, capnY, appzY, List.all_append, List.take_append, List.drop_append, List.length_append], own_nil _ _, ob_nil _⟩ (Nat.lt_succ_self _)
    simp only [List.length_nil, Int.natCast_zero] at q1 q2
    by_cases hz : (rowsW (rowF n) l).2 = 0
    · obtain ⟨o', H', k1, w1, w2, g0, w3, w4⟩ := q1 hz
      have ho : o'.one = true := by
        obtain ⟨-, q⟩ := w3
        rcases q with ⟨rfl, -⟩ | ⟨g, e, rfl, -⟩ <;> rfl
      obtain ⟨nx, gs, ms⟩ := H'
      simp only at g0 w2
      have e8 := wf_mk w1
      have q0 : (0 = nx) = False := eq_false (by omega)
      simp (maxSteps := 1000000) (disch := omega) only [yRrows, xinit_2, ↓axP, axQ, ↓if_true, ↓if_false, List.all_cons, List.all_nil, List.length_cons, List.length_nil, List.take_succ_cons, List.take_zero, List.take_nil, List.drop_succ_cons, List.drop_zero, List.drop_nil, List.getElem?_cons_zero, List.getElem?_cons_succ, List.getElem?_nil, List.nil_append, List.cons_append, List.append_nil, List.flatten_cons, List.flatten_nil, ite_true, ite_false, reduceIte, ne_eq, eq_self, Nat.reduceAdd, Nat.reduceSub, Nat.reduceMul, Nat.reduceLeDiff, Nat.reduceEqDiff, Nat.reduceBEq, reduceCtorEq, Int.reduceToNat, List.elem_nil, List.elem_cons, Int.reduceLT, Int.reduceLE, Int.reduceEq, Int.reduceAdd, Int.reduceSub, Int.reduceNeg, capnY, appzY, List.all_append, List.take_append, List.drop_append, List.length_append, k1, g0, ho, e8, q0, nestW, hz]
      refine Ans.some (.ofTup (.cons (Fz.ofSlc (by simp only [↓axP, axQ, ↓if_true, ↓if_false, List.all_cons, List.all_nil, List.length_cons, List.length_nil, List.take_succ_cons, List.take_zero, List.take_nil, List.drop_succ_cons, List.drop_zero, List.drop_nil, List.getElem?_cons_zero, List.getElem?_cons_succ, List.getElem?_nil, List.nil_append, List.cons_append, List.append_nil, List.flatten_cons, List.flatten_nil, ite_true, ite_false, reduceIte, ne_eq, eq_self, Nat.reduceAdd, Nat.reduceSub, Nat.reduceMul, Nat.reduceLeDiff, Nat.reduceEqDiff, Nat.reduceBEq, reduceCtorEq, Int.reduceToNat, List.elem_nil, List.elem_cons, Int.reduceLT, Int.reduceLE, Int.reduceEq, Int.reduceAdd, Int.reduceSub, Int.reduceNeg, capnY, appzY, List.all_append, List.take_append, List.drop_append, List.length_append]; rfl) rfl (by simp [glC_len]) ?_) (.cons (.pure rfl) (.nil _))))
      simp only [List.map_cons, List.map_nil, List.flatten_cons, List.flatten_nil, List.append_nil, glC, tmC_eq, zT, Tm.kind, Tm.num, Tm.name, Tm.args, List.cons_append, List.nil_append]
      refine .cons (.pure rfl) (.cons (.pure rfl) (.cons (.pure rfl) (.cons (.pure rfl) (.cons (.nils 4) (.cons ?_ (.nil _))))))
      rw [glRs_map]
      refine (w3.add _).fz (by simp) (by simp) ?_
      have : (List.map (fun r => [glV r]) (rowsW (rowF n) l).1).flatten = ([] ++ (rowsW (rowF n) l).1).map glV := by
        rw [List.nil_append]
        induction (rowsW (rowF n) l).1 with
        | nil => rfl
        | cons a b ih => simp [ih]
      rw [this]
      refine FzL.pure ?_
      rw [pureL_all]
      intro x hx
      obtain ⟨r, _, rfl⟩ := List.mem_map.1 hx
      exact pure_glV r
    · obtain ⟨H', k1⟩ := q2 hz
      simp (maxSteps := 1000000) (disch := omega) only [yRrows, xinit_2, ↓axP, axQ, ↓if_true, ↓if_false, List.all_cons, List.all_nil, List.length_cons, List.length_nil, List.take_succ_cons, List.take_zero, List.take_nil, List.drop_succ_cons, List.drop_zero, List.drop_nil, List.getElem?_cons_zero, List.getElem?_cons_succ, List.getElem?_nil, List.nil_append, List.cons_append, List.append_nil, List.flatten_cons, List.flatten_nil, ite_true, ite_false, reduceIte, ne_eq, eq_self, Nat.reduceAdd, Nat.reduceSub, Nat.reduceMul, Nat.reduceLeDiff, Nat.reduceEqDiff, Nat.reduceBEq, reduceCtorEq, Int.reduceToNat, List.elem_nil, List.elem_cons, Int.reduceLT, Int.reduceLE, Int.reduceEq, Int.reduceAdd, Int.reduceSub, Int.reduceNeg, capnY, appzY, List.all_append, List.take_append, List.drop_append, List.length_append, k1, nestW, hz]
      exact Ans.some (.ofTup (.cons (.nils 6) (.cons (.pure rfl) (.nil _))))
  · cases h
theorem isP_excl {t : Tm} {s s' : List UInt8} {m m' : Int} (h : isP t s m = true) (hm : m ≠ m') : isP t s' m' = false := by
  unfold isP at h ⊢
  simp only [Bool.and_eq_true, decide_eq_true_eq] at h
  have : decide ((t.args.length : Int) = m') = false := decide_eq_false (by omega)
  rw [this, Bool.and_false]
theorem fail_RG {n : Nat} {t : Tm} (h : RG n t) : RG n failT :=
  ⟨⟨by have := h.1.1; have := height_pos t; simp [failT, Tm.height, Tm.heights]; omega, fine_fail, by simp [failT, Tm.size, Tm.sizes]⟩, by decide⟩
set_option maxHeartbeats 4000000 in
theorem rof_step {n : Nat} (hof : HookOne Tryz.prog 53 (pureF (rofS n))) : HookOne Tryz.prog 53 (pureF (rofS (n + 1))) := by
  refine HookOne.ofPureF (by decide +kernel) fun args y h H => ?_
  have hl : ∀ e ∈ [(57, pureF isRS), (80, pureF rcompS), (56, pureF atomS), (81, pureF (rtwoS n)), (82, pureF (rrowsS n))], HookOne Tryz.prog e.1 e.2 := by
    intro e he
    simp only [List.mem_cons, List.not_mem_nil, or_false] at he
    rcases he with rfl | rfl | rfl | rfl | rfl
    · exact ris_one
    · exact rcomp_one
    · exact ratom_one
    · exact rtwo_one hof
    · exact rrows_one hof
  unfold rofS at h; split at h
  · rename_i x
    rw [Option.bind_eq_some_iff] at h
    obtain ⟨t, h1, h2⟩ := h
    obtain ⟨hc, h3⟩ := only_ok h2
    cases h3
    obtain rfl := ofT_ok h1
    refine ACalls.ofRun hl mixed (draws _ rfl) yRof_ok rfl (by simp [pureL, pure_tmA]) 0 ?_ H
    have hRG : ∀ x ∈ t.args, RG n x := fun x hx => hc.arg hx
    have hi := isR_eq hc.kind
    unfold tmA
    by_cases k0 : t.kind = 0
    · simp only [rowF, if_pos k0]
      have e := rcompS_eq [99, 97, 108, 108] [t]
      simp only [List.map_cons, List.map_nil] at e
      simp (maxSteps := 1000000) (disch := omega) only [yRof, xinit_1, ↓axP, axQ, ↓if_true, ↓if_false, List.all_cons, List.all_nil, List.length_cons, List.length_nil, List.take_succ_cons, List.take_zero, List.take_nil, List.drop_succ_cons, List.drop_zero, List.drop_nil, List.getElem?_cons_zero, List.getElem?_cons_succ, List.getElem?_nil, List.nil_append, List.cons_append, List.append_nil, List.flatten_cons, List.flatten_nil, ite_true, ite_false, reduceIte, ne_eq, eq_self, Nat.reduceAdd, Nat.reduceSub, Nat.reduceMul, Nat.reduceLeDiff, Nat.reduceEqDiff, Nat.reduceBEq, reduceCtorEq, Int.reduceToNat, List.elem_nil, List.elem_cons, Int.reduceLT, Int.reduceLE, Int.reduceEq, Int.reduceAdd, Int.reduceSub, Int.reduceNeg, capnY, appzY, List.all_append, List.take_append, List.drop_append, List.length_append, tmC_len, tmC_0, tmC_1, tmC_2, tmC_3, tmC_take, tmC_drop, tmC_one, tmC_ne, k0, e]
      refine Ans.some (.ofTup (.cons (Fz.ofSlc (by simp only [↓axP, axQ, ↓if_true, ↓if_false, List.all_cons, List.all_nil, List.length_cons, List.length_nil, List.take_succ_cons, List.take_zero, List.take_nil, List.drop_succ_cons, List.drop_zero, List.drop_nil, List.getElem?_cons_zero, List.getElem?_cons_succ, List.getElem?_nil, List.nil_append, List.cons_append, List.append_nil, List.flatten_cons, List.flatten_nil, ite_true, ite_false, reduceIte, ne_eq, eq_self, Nat.reduceAdd, Nat.reduceSub, Nat.reduceMul, Nat.reduceLeDiff, Nat.reduceEqDiff, Nat.reduceBEq, reduceCtorEq, Int.reduceToNat, List.elem_nil, List.elem_cons, Int.reduceLT, Int.reduceLE, Int.reduceEq, Int.reduceAdd, Int.reduceSub, Int.reduceNeg, capnY, appzY, List.all_append, List.take_append, List.drop_append, List.length_append]; rfl) rfl (by simp [glC_len]) ?_) (.cons (.pure rfl) (.nil _))))
      simp only [List.map_cons, List.map_nil, List.flatten_cons, List.flatten_nil, List.append_nil, glC]
      exact .cons (.pure rfl) (.append (.pure (pure_tmC _)) (.cons (.nils 1) (.nil _)))
    · simp only [rowF, if_neg k0]
      by_cases k1 : t.kind = 1
      · simp only [if_pos k1]
        have k0' : ((1 : Int) = 0) = False := by simp
        simp (maxSteps := 1000000) (disch := omega) only [yRof, xinit_1, ↓axP, axQ, ↓if_true, ↓if_false, List.all_cons, List.all_nil, List.length_cons, List.length_nil, List.take_succ_cons, List.take_zero, List.take_nil, List.drop_succ_cons, List.drop_zero, List.drop_nil, List.getElem?_cons_zero, List.getElem?_cons_succ, List.getElem?_nil, List.nil_append, List.cons_append, List.append_nil, List.flatten_cons, List.flatten_nil, ite_true, ite_false, reduceIte, ne_eq, eq_self, Nat.reduceAdd, Nat.reduceSub, Nat.reduceMul, Nat.reduceLeDiff, Nat.reduceEqDiff, Nat.reduceBEq, reduceCtorEq, Int.reduceToNat, List.elem_nil, List.elem_cons, Int.reduceLT, Int.reduceLE, Int.reduceEq, Int.reduceAdd, Int.reduceSub, Int.reduceNeg, capnY, appzY, List.all_append, List.take_append, List.drop_append, List.length_append, tmC_len, tmC_0, tmC_1, tmC_2, tmC_3, tmC_take, tmC_drop, tmC_one, tmC_ne, k1, k0']
        exact Ans.some (.ofTup (.cons (.nils 6) (.cons (.pure rfl) (.nil _))))
      · simp only [if_neg k1]
        cases c3 : isP t [44] 2 with
        | true =>
          have c1 := isP_excl (s' := [116, 114, 117, 101]) (m' := 0) c3 (by omega)
          have c2 := isP_excl (s' := [33]) (m' := 0) c3 (by omega)
          simp only [c1, c2, Bool.false_eq_true, if_false, if_true]
          obtain ⟨a, b, hab⟩ := args_two (isP_len (m := 2) c3)
          have e1 := rtwoS_eq (n := n) (a := a) (b := b) ⟨hRG a (by rw [hab]; simp), hRG b (by rw [hab]; simp)⟩
          rw [hab]
          simp (maxSteps := 1000000) (disch := omega) only [yRof, xinit_1, ↓axP, axQ, ↓if_true, ↓if_false, List.all_cons, List.all_nil, List.length_cons, List.length_nil, List.take_succ_cons, List.take_zero, List.take_nil, List.drop_succ_cons, List.drop_zero, List.drop_nil, List.getElem?_cons_zero, List.getElem?_cons_succ, List.getElem?_nil, List.nil_append, List.cons_append, List.append_nil, List.flatten_cons, List.flatten_nil, ite_true, ite_false, reduceIte, ne_eq, eq_self, Nat.reduceAdd, Nat.reduceSub, Nat.reduceMul, Nat.reduceLeDiff, Nat.reduceEqDiff, Nat.reduceBEq, reduceCtorEq, Int.reduceToNat, List.elem_nil, List.elem_cons, Int.reduceLT, Int.reduceLE, Int.reduceEq, Int.reduceAdd, Int.reduceSub, Int.reduceNeg, capnY, appzY, List.all_append, List.take_append, List.drop_append, List.length_append, tmC_len, tmC_0, tmC_1, tmC_2, tmC_3, tmC_take, tmC_drop, tmC_one, tmC_ne, k0, k1, isRS_eq, hi, c3, hab, List.map_cons, List.map_nil, e1]
          exact Ans.some (.ofTup (.cons (.pure (pure_glV _)) (.cons (.pure rfl) (.nil _))))
        | false =>
          cases c1 : isP t [116, 114, 117, 101] 0 with
          | true =>
            simp (maxSteps := 1000000) (disch := omega) only [yRof, xinit_1, ↓axP, axQ, ↓if_true, ↓if_false, List.all_cons, List.all_nil, List.length_cons, List.length_nil, List.take_succ_cons, List.take_zero, List.take_nil, List.drop_succ_cons, List.drop_zero, List.drop_nil, List.getElem?_cons_zero, List.getElem?_cons_succ, List.getElem?_nil, List.nil_append, List.cons_append, List.append_nil, List.flatten_cons, List.flatten_nil, ite_true, ite_false, reduceIte, ne_eq, eq_self, Nat.reduceAdd, Nat.reduceSub, Nat.reduceMul, Nat.reduceLeDiff, Nat.reduceEqDiff, Nat.reduceBEq, reduceCtorEq, Int.reduceToNat, List.elem_nil, List.elem_cons, Int.reduceLT, Int.reduceLE, Int.reduceEq, Int.reduceAdd, Int.reduceSub, Int.reduceNeg, capnY, appzY, List.all_append, List.take_append, List.drop_append, List.length_append, tmC_len, tmC_0, tmC_1, tmC_2, tmC_3, tmC_take, tmC_drop, tmC_one, tmC_ne, k0, k1, isRS_eq, hi, c1, c3]
            exact Ans.some (.ofTup (.cons (.nils 6) (.cons (.pure rfl) (.nil _))))
          | false =>
            cases c2 : isP t [33] 0 with
            | true =>
              simp (maxSteps := 1000000) (disch := omega) only [yRof, xinit_1, ↓axP, axQ, ↓if_true, ↓if_false, List.all_cons, List.all_nil, List.length_cons, List.length_nil, List.take_succ_cons, List.take_zero, List.take_nil, List.drop_succ_cons, List.drop_zero, List.drop_nil, List.getElem?_cons_zero, List.getElem?_cons_succ, List.getElem?_nil, List.nil_append, List.cons_append, List.append_nil, List.flatten_cons, List.flatten_nil, ite_true, ite_false, reduceIte, ne_eq, eq_self, Nat.reduceAdd, Nat.reduceSub, Nat.reduceMul, Nat.reduceLeDiff, Nat.reduceEqDiff, Nat.reduceBEq, reduceCtorEq, Int.reduceToNat, List.elem_nil, List.elem_cons, Int.reduceLT, Int.reduceLE, Int.reduceEq, Int.reduceAdd, Int.reduceSub, Int.reduceNeg, capnY, appzY, List.all_append, List.take_append, List.drop_append, List.length_append, tmC_len, tmC_0, tmC_1, tmC_2, tmC_3, tmC_take, tmC_drop, tmC_one, tmC_ne, k0, k1, isRS_eq, hi, c1, c2, c3]
              refine Ans.some (.ofTup (.cons (Fz.ofSlc (by simp only [↓axP, axQ, ↓if_true, ↓if_false, List.all_cons, List.all_nil, List.length_cons, List.length_nil, List.take_succ_cons, List.take_zero, List.take_nil, List.drop_succ_cons, List.drop_zero, List.drop_nil, List.getElem?_cons_zero, List.getElem?_cons_succ, List.getElem?_nil, List.nil_append, List.cons_append, List.append_nil, List.flatten_cons, List.flatten_nil, ite_true, ite_false, reduceIte, ne_eq, eq_self, Nat.reduceAdd, Nat.reduceSub, Nat.reduceMul, Nat.reduceLeDiff, Nat.reduceEqDiff, Nat.reduceBEq, reduceCtorEq, Int.reduceToNat, List.elem_nil, List.elem_cons, Int.reduceLT, Int.reduceLE, Int.reduceEq, Int.reduceAdd, Int.reduceSub, Int.reduceNeg, capnY, appzY, List.all_append, List.take_append, List.drop_append, List.length_append]; rfl) rfl (by simp [glC_len]) ?_) (.cons (.pure rfl) (.nil _))))
              simp only [List.map_cons, List.map_nil, List.flatten_cons, List.flatten_nil, List.append_nil, glC, tmC_eq, zT, Tm.kind, Tm.num, Tm.name, Tm.args, List.cons_append, List.nil_append, glRs]
              exact .cons (.pure rfl) (.cons (.pure rfl) (.cons (.pure rfl) (.cons (.pure rfl) (.cons (.nils 4) (.cons (.nils 1) (.nil _))))))
            | false =>
              cases c4 : isP t [59] 2 with
              | true =>
                obtain ⟨a, b, hab⟩ := args_two (isP_len (m := 2) c4)
                have hRa := hRG a (by rw [hab]; simp)
                have hRb := hRG b (by rw [hab]; simp)
                have hia := isR_eq hRa.kind
                simp only [hab, List.getD_cons_zero, List.getD_cons_succ, Bool.true_and]
                cases c5 : isP a [45, 62] 2 with
                | true =>
                  obtain ⟨c, d, hcd⟩ := args_two (isP_len (m := 2) c5)
                  obtain ⟨m, rfl⟩ : ∃ m, n = m + 1 := ⟨n - 1, by have := hRa.1.1; have := height_pos a; omega⟩
                  have hRc : RG (m + 1) c := (hRa.arg (by rw [hcd]; simp)).up
                  have hRd : RG (m + 1) d := (hRa.arg (by rw [hcd]; simp)).up
                  have e := rrowsS_eq (n := m + 1) (k := 4) (l := [c, d, b]) ⟨by simp, by simp [hRc, hRd, hRb]⟩
                  simp only [List.map_cons, List.map_nil] at e
                  simp only [hcd, List.getD_cons_zero, List.getD_cons_succ]
                  simp (maxSteps := 1000000) (disch := omega) only [yRof, xinit_1, ↓axP, axQ, ↓if_true, ↓if_false, List.all_cons, List.all_nil, List.length_cons, List.length_nil, List.take_succ_cons, List.take_zero, List.take_nil, List.drop_succ_cons, List.drop_zero, List.drop_nil, List.getElem?_cons_zero, List.getElem?_cons_succ, List.getElem?_nil, List.nil_append, List.cons_append, List.append_nil, List.flatten_cons, List.flatten_nil, ite_true, ite_false, reduceIte, ne_eq, eq_self, Nat.reduceAdd, Nat.reduceSub, Nat.reduceMul, Nat.reduceLeDiff, Nat.reduceEqDiff, Nat.reduceBEq, reduceCtorEq, Int.reduceToNat, List.elem_nil, List.elem_cons, Int.reduceLT, Int.reduceLE, Int.reduceEq, Int.reduceAdd, Int.reduceSub, Int.reduceNeg, capnY, appzY, List.all_append, List.take_append, List.drop_append, List.length_append, tmC_len, tmC_0, tmC_1, tmC_2, tmC_3, tmC_take, tmC_drop, tmC_one, tmC_ne, k0, k1, isRS_eq, hi, hia, c1, c2, c3, c4, c5, hab, hcd, List.map_cons, List.map_nil, e]
                  exact Ans.some (.ofTup (.cons (.pure (pure_glV _)) (.cons (.pure rfl) (.nil _))))
                | false =>
                  have e := rrowsS_eq (n := n) (k := 3) (l := [a, b]) ⟨by simp, by simp [hRa, hRb]⟩
                  simp only [List.map_cons, List.map_nil] at e
                  simp (maxSteps := 1000000) (disch := omega) only [yRof, xinit_1, ↓axP, axQ, ↓if_true, ↓if_false, List.all_cons, List.all_nil, List.length_cons, List.length_nil, List.take_succ_cons, List.take_zero, List.take_nil, List.drop_succ_cons, List.drop_zero, List.drop_nil, List.getElem?_cons_zero, List.getElem?_cons_succ, List.getElem?_nil, List.nil_append, List.cons_append, List.append_nil, List.flatten_cons, List.flatten_nil, ite_true, ite_false, reduceIte, ne_eq, eq_self, Nat.reduceAdd, Nat.reduceSub, Nat.reduceMul, Nat.reduceLeDiff, Nat.reduceEqDiff, Nat.reduceBEq, reduceCtorEq, Int.reduceToNat, List.elem_nil, List.elem_cons, Int.reduceLT, Int.reduceLE, Int.reduceEq, Int.reduceAdd, Int.reduceSub, Int.reduceNeg, capnY, appzY, List.all_append, List.take_append, List.drop_append, List.length_append, tmC_len, tmC_0, tmC_1, tmC_2, tmC_3, tmC_take, tmC_drop, tmC_one, tmC_ne, k0, k1, isRS_eq, hi, hia, c1, c2, c3, c4, c5, hab, List.map_cons, List.map_nil, e]
                  exact Ans.some (.ofTup (.cons (.pure (pure_glV _)) (.cons (.pure rfl) (.nil _))))
              | false =>
                cases c6 : isP t [45, 62] 2 with
                | true =>
                  obtain ⟨a, b, hab⟩ := args_two (isP_len (m := 2) c6)
                  have hRa := hRG a (by rw [hab]; simp)
                  have hRb := hRG b (by rw [hab]; simp)
                  have e := rrowsS_eq (n := n) (k := 4) (l := [a, b, failT]) ⟨by simp, by simp [hRa, hRb, fail_RG hRa]⟩
                  simp only [List.map_cons, List.map_nil, failT] at e
                  simp only [hab, List.getD_cons_zero, List.getD_cons_succ, failT]
                  simp (maxSteps := 1000000) (disch := omega) only [yRof, xinit_1, ↓axP, axQ, ↓if_true, ↓if_false, List.all_cons, List.all_nil, List.length_cons, List.length_nil, List.take_succ_cons, List.take_zero, List.take_nil, List.drop_succ_cons, List.drop_zero, List.drop_nil, List.getElem?_cons_zero, List.getElem?_cons_succ, List.getElem?_nil, List.nil_append, List.cons_append, List.append_nil, List.flatten_cons, List.flatten_nil, ite_true, ite_false, reduceIte, ne_eq, eq_self, Nat.reduceAdd, Nat.reduceSub, Nat.reduceMul, Nat.reduceLeDiff, Nat.reduceEqDiff, Nat.reduceBEq, reduceCtorEq, Int.reduceToNat, List.elem_nil, List.elem_cons, Int.reduceLT, Int.reduceLE, Int.reduceEq, Int.reduceAdd, Int.reduceSub, Int.reduceNeg, capnY, appzY, List.all_append, List.take_append, List.drop_append, List.length_append, tmC_len, tmC_0, tmC_1, tmC_2, tmC_3, tmC_take, tmC_drop, tmC_one, tmC_ne, k0, k1, isRS_eq, hi, c1, c2, c3, c4, c6, hab, List.map_cons, List.map_nil, atomS_eq, e]
                  exact Ans.some (.ofTup (.cons (.pure (pure_glV _)) (.cons (.pure rfl) (.nil _))))
                | false =>
                  cases c7 : isP t [92, 43] 1 with
                  | true =>
                    have hL := isP_len (m := 1) c7
                    obtain ⟨a, hab⟩ : ∃ a, t.args = [a] := by
                      match hq : t.args, hL with
                      | [a], _ => exact ⟨a, rfl⟩
                    have e := rrowsS_eq (n := n) (k := 5) (l := [a]) ⟨by simp, by simp [hRG a (by rw [hab]; simp)]⟩
                    simp only [List.map_cons, List.map_nil] at e
                    rw [hab]
                    simp (maxSteps := 1000000) (disch := omega) only [yRof, xinit_1, ↓axP, axQ, ↓if_true, ↓if_false, List.all_cons, List.all_nil, List.length_cons, List.length_nil, List.take_succ_cons, List.take_zero, List.take_nil, List.drop_succ_cons, List.drop_zero, List.drop_nil, List.getElem?_cons_zero, List.getElem?_cons_succ, List.getElem?_nil, List.nil_append, List.cons_append, List.append_nil, List.flatten_cons, List.flatten_nil, ite_true, ite_false, reduceIte, ne_eq, eq_self, Nat.reduceAdd, Nat.reduceSub, Nat.reduceMul, Nat.reduceLeDiff, Nat.reduceEqDiff, Nat.reduceBEq, reduceCtorEq, Int.reduceToNat, List.elem_nil, List.elem_cons, Int.reduceLT, Int.reduceLE, Int.reduceEq, Int.reduceAdd, Int.reduceSub, Int.reduceNeg, capnY, appzY, List.all_append, List.take_append, List.drop_append, List.length_append, tmC_len, tmC_0, tmC_1, tmC_2, tmC_3, tmC_take, tmC_drop, tmC_one, tmC_ne, k0, k1, isRS_eq, hi, c1, c2, c3, c4, c6, c7, hab, List.map_cons, List.map_nil, e]
                    exact Ans.some (.ofTup (.cons (.pure (pure_glV _)) (.cons (.pure rfl) (.nil _))))
                  | false =>
                    simp (maxSteps := 1000000) (disch := omega) only [yRof, xinit_1, ↓axP, axQ, ↓if_true, ↓if_false, List.all_cons, List.all_nil, List.length_cons, List.length_nil, List.take_succ_cons, List.take_zero, List.take_nil, List.drop_succ_cons, List.drop_zero, List.drop_nil, List.getElem?_cons_zero, List.getElem?_cons_succ, List.getElem?_nil, List.nil_append, List.cons_append, List.append_nil, List.flatten_cons, List.flatten_nil, ite_true, ite_false, reduceIte, ne_eq, eq_self, Nat.reduceAdd, Nat.reduceSub, Nat.reduceMul, Nat.reduceLeDiff, Nat.reduceEqDiff, Nat.reduceBEq, reduceCtorEq, Int.reduceToNat, List.elem_nil, List.elem_cons, Int.reduceLT, Int.reduceLE, Int.reduceEq, Int.reduceAdd, Int.reduceSub, Int.reduceNeg, capnY, appzY, List.all_append, List.take_append, List.drop_append, List.length_append, tmC_len, tmC_0, tmC_1, tmC_2, tmC_3, tmC_take, tmC_drop, tmC_one, tmC_ne, k0, k1, isRS_eq, hi, c1, c2, c3, c4, c6, c7]
                    refine Ans.some (.ofTup (.cons (Fz.ofSlc (by simp only [↓axP, axQ, ↓if_true, ↓if_false, List.all_cons, List.all_nil, List.length_cons, List.length_nil, List.take_succ_cons, List.take_zero, List.take_nil, List.drop_succ_cons, List.drop_zero, List.drop_nil, List.getElem?_cons_zero, List.getElem?_cons_succ, List.getElem?_nil, List.nil_append, List.cons_append, List.append_nil, List.flatten_cons, List.flatten_nil, ite_true, ite_false, reduceIte, ne_eq, eq_self, Nat.reduceAdd, Nat.reduceSub, Nat.reduceMul, Nat.reduceLeDiff, Nat.reduceEqDiff, Nat.reduceBEq, reduceCtorEq, Int.reduceToNat, List.elem_nil, List.elem_cons, Int.reduceLT, Int.reduceLE, Int.reduceEq, Int.reduceAdd, Int.reduceSub, Int.reduceNeg, capnY, appzY, List.all_append, List.take_append, List.drop_append, List.length_append]; rfl) rfl (by simp [glC_len]) ?_) (.cons (.pure rfl) (.nil _))))
                    simp only [List.map_cons, List.map_nil, List.flatten_cons, List.flatten_nil, List.append_nil, glC]
                    exact .cons (.pure rfl) (.append (.pure (pure_tmC _)) (.cons (.nils 1) (.nil _)))
  · cases h
theorem rof_any : ∀ n : Nat, HookOne Tryz.prog 53 (pureF (rofS n))
  | 0 => by
    refine HookOne.ofPureF (by decide +kernel) fun args y h H => ?_
    unfold rofS at h; split at h
    · rename_i x
      rw [Option.bind_eq_some_iff] at h
      obtain ⟨t, h1, h2⟩ := h
      obtain ⟨hc, h3⟩ := only_ok h2
      have := hc.1.1
      have := height_pos t
      omega
    · cases h
  | n + 1 => rof_step (rof_any n)
/-- A contract of the walks, its answer without memory. -/
theorem plain_call {P : Program} {f : FuncId} {args : List AV} {y : AV} (h : ∀ (G : Gh) (vs : Array Value) (w : World), (∀ b o v, G.M b o = some v → w.cell? ⟨b, o, none⟩ = some v) → VRs G args vs.toList → Calls P f vs w fun e w' => ∃ u, e = .returned u ∧ VR G y u ∧ Below w.heap.size w w') (H : AH) :
    ACalls P f args H fun y' H' => y' = y ∧ H' = H := fun K G vs w hr hv =>
  (h G vs w hr.mem hv).mono fun e w' ⟨u, h1, h2, h3⟩ => ⟨u, y, G, H, h1, Gh.le.refl _, hr.stay h3, h2, rfl, rfl⟩
theorem rgoodF_one : HookOne Tryz.prog 52 (pureF goodS) := by
  refine HookOne.ofPureF (by decide +kernel) fun args y h H => ?_
  unfold goodS at h
  split at h
  · rename_i x
    rw [Option.bind_eq_some_iff] at h
    obtain ⟨t, h1, h2⟩ := h
    obtain ⟨hf, h3⟩ := only_ok h2
    cases h3
    have := ofT_ok h1
    subst this
    refine plain_call (fun G vs w hM hv => ?_) H
    obtain ⟨u, hu, hv1⟩ := hv.one
    obtain rfl : vs = #[u] := by cases vs; simpa using hu
    refine (rgood_any 1000 (by omega) t hf w u (tm_one (by unfold maxLen; omega) hf hM hv1)).mono fun e w' ⟨he, hb⟩ => ⟨_, he, by simp [VR], hb⟩
  · cases h
theorem RG_good {t : Tm} (hf : Fine 1000 t) (hg : t.good = true) : RG 64 t := by
  refine ⟨RC_good hf hg, ?_⟩
  unfold Tm.good at hg
  simp only [Bool.and_eq_true] at hg
  exact hg.2
theorem rOf_one : HookOne Tryz.prog 21 (pureF bofS) := by
  refine HookOne.ofPureF (by decide +kernel) fun args y h H => ?_
  have hl : ∀ e ∈ [(52, pureF goodS), (53, pureF (rofS 64))], HookOne Tryz.prog e.1 e.2 := by
    intro e he
    simp only [List.mem_cons, List.not_mem_nil, or_false] at he
    rcases he with rfl | rfl
    · exact rgoodF_one
    · exact rof_any 64
  unfold bofS at h; split at h
  · rename_i x
    rw [Option.bind_eq_some_iff] at h
    obtain ⟨t, h1, h2⟩ := h
    obtain ⟨hf, h3⟩ := only_ok h2
    cases h3
    obtain rfl := ofT_ok h1
    refine ACalls.ofRun hl mixed (draws _ rfl) yROf_ok rfl (by simp [pureL, pure_tmA]) 0 ?_ H
    unfold tmA
    cases hg : t.good with
    | true =>
      simp (maxSteps := 1000000) (disch := omega) only [yROf, xinit_1, ↓axP, axQ, ↓if_true, ↓if_false, List.all_cons, List.all_nil, List.length_cons, List.length_nil, List.take_succ_cons, List.take_zero, List.take_nil, List.drop_succ_cons, List.drop_zero, List.drop_nil, List.getElem?_cons_zero, List.getElem?_cons_succ, List.getElem?_nil, List.nil_append, List.cons_append, List.append_nil, List.flatten_cons, List.flatten_nil, ite_true, ite_false, reduceIte, ne_eq, eq_self, Nat.reduceAdd, Nat.reduceSub, Nat.reduceMul, Nat.reduceLeDiff, Nat.reduceEqDiff, Nat.reduceBEq, reduceCtorEq, Int.reduceToNat, List.elem_nil, List.elem_cons, Int.reduceLT, Int.reduceLE, Int.reduceEq, Int.reduceAdd, Int.reduceSub, Int.reduceNeg, capnY, appzY, List.all_append, List.take_append, List.drop_append, List.length_append, tmC_len, tmC_0, tmC_1, tmC_2, tmC_3, tmC_take, tmC_drop, tmC_one, tmC_ne, goodS_eq' hf, hg, rofS_eq (RG_good hf hg), ofP]
      exact Ans.some (.ofTup (.cons (.pure (pure_glV _)) (.cons (.pure rfl) (.nil _))))
    | false =>
      simp (maxSteps := 1000000) (disch := omega) only [yROf, xinit_1, ↓axP, axQ, ↓if_true, ↓if_false, List.all_cons, List.all_nil, List.length_cons, List.length_nil, List.take_succ_cons, List.take_zero, List.take_nil, List.drop_succ_cons, List.drop_zero, List.drop_nil, List.getElem?_cons_zero, List.getElem?_cons_succ, List.getElem?_nil, List.nil_append, List.cons_append, List.append_nil, List.flatten_cons, List.flatten_nil, ite_true, ite_false, reduceIte, ne_eq, eq_self, Nat.reduceAdd, Nat.reduceSub, Nat.reduceMul, Nat.reduceLeDiff, Nat.reduceEqDiff, Nat.reduceBEq, reduceCtorEq, Int.reduceToNat, List.elem_nil, List.elem_cons, Int.reduceLT, Int.reduceLE, Int.reduceEq, Int.reduceAdd, Int.reduceSub, Int.reduceNeg, capnY, appzY, List.all_append, List.take_append, List.drop_append, List.length_append, tmC_len, tmC_0, tmC_1, tmC_2, tmC_3, tmC_take, tmC_drop, tmC_one, tmC_ne, goodS_eq' hf, hg, ofP, Bool.false_eq_true]
      exact Ans.some (.ofTup (.cons (.nils 6) (.cons (.pure rfl) (.nil _))))
  · cases h
end Go.Proofs.YtcnnobcncklgfaaGreatDoor
