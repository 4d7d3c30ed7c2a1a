/- The contracts of slices.Grow, Concat at goals, of body.nested, body.row.   The contracts of slices.Concat at goals, of body.row.   The contract of body.row. -/
import Derived.Test.YtcnnobcncklgfaaGreatDoorSymG
namespace Go.Proofs.YtcnnobcncklgfaaGreatDoor
open Go Go.Abs Go.RowKit
set_option linter.unusedVariables false
set_option linter.unusedSimpArgs false
attribute [local congr] on_congr br_congr onf_congr
noncomputable def nestS (n : Nat) : List AV → Option AV
  | [.int .i64 k, x] => (ofLs x).bind fun l => only (l.length ≤ 1000 ∧ ∀ t ∈ l, RC n t) (some (.tup [glV (nestW (rowF n) k l).1, .int .i64 (nestW (rowF n) k l).2]))
  | _ => none
theorem nestS_eq {n : Nat} {k : Int} {l : List Tm} (h : l.length ≤ 1000 ∧ ∀ t ∈ l, RC n t) : nestS n [.int .i64 k, .vals 4 (l.map tmC)] = some (.tup [glV (nestW (rowF n) k l).1, .int .i64 (nestW (rowF n) k l).2]) := by
  simp only [nestS, ofLs_eq, Option.bind_some]; exact only_eq h _
theorem glsV_cells (r : List (List Gl)) : (glsV r).cells = [glsV r] := (rfl)
theorem glsV_fit (r : List (List Gl)) : (glsV r).fit = true := (rfl)
theorem glsV_one (r : List (List Gl)) : (glsV r).one = true := (rfl)
theorem frA_glsV (r : List (List Gl)) (H : AH) : frA (glsV r) H = some (glsV r, H) := (rfl)
theorem nested_one {n : Nat} (hrows : HookOne Tryz.prog 69 (pureF (rowsS n))) : HookOne Tryz.prog 71 (pureF (nestS n)) := by
  refine HookOne.ofPureF (by decide +kernel) fun args y h H => ?_
  have hl : ∀ e ∈ [(69, pureF (rowsS n))], HookOne Tryz.prog e.1 e.2 := by
    intro e he; simp at he; subst he; exact hrows
  unfold nestS at h; split at h
  · rename_i k x
    rw [Option.bind_eq_some_iff] at h
    obtain ⟨l, h1, h2⟩ := h
    obtain ⟨hh, h3⟩ := only_ok h2
    cases h3
    obtain rfl := back_ok h1
    unfold lsA
    refine ACalls.ofRun hl mixed (draws _ rfl) yNested_ok rfl (by simp [pureL, pureA, pure_rows]) 0 ?_ H
    have e := rowsS_eq hh
    by_cases hz : (rowsW (rowF n) l).2 = 0
    · simp only [yNested, xinit_2, ↓axP, axQ, ↓if_true, ↓if_false, List.all_cons, List.all_nil, List.length_cons, List.length_nil, List.take_succ_cons, List.take_zero, List.take_nil, List.drop_succ_cons, List.drop_zero, List.drop_nil, List.getElem?_cons_zero, List.getElem?_cons_succ, List.getElem?_nil, List.nil_append, List.cons_append, List.append_nil, List.flatten_cons, List.flatten_nil, ite_true, ite_false, reduceIte, ne_eq, eq_self, Nat.reduceAdd, Nat.reduceSub, Nat.reduceMul, Nat.reduceLeDiff, Nat.reduceEqDiff, Nat.reduceBEq, reduceCtorEq, Int.reduceToNat, List.elem_nil, List.elem_cons, Int.reduceLT, Int.reduceLE, Int.reduceEq, Int.reduceAdd, Int.reduceSub, Int.reduceNeg, capnY, appzY, List.all_append, List.take_append, List.drop_append, List.length_append, e, hz, glsV_cells, glsV_fit, glsV_one, nestW]
      refine Ans.some (.ofTup (.cons (Fz.ofSlc (by simp only [↓axP, axQ, ↓if_true, ↓if_false, List.all_cons, List.all_nil, List.length_cons, List.length_nil, List.take_succ_cons, List.take_zero, List.take_nil, List.drop_succ_cons, List.drop_zero, List.drop_nil, List.getElem?_cons_zero, List.getElem?_cons_succ, List.getElem?_nil, List.nil_append, List.cons_append, List.append_nil, List.flatten_cons, List.flatten_nil, ite_true, ite_false, reduceIte, ne_eq, eq_self, Nat.reduceAdd, Nat.reduceSub, Nat.reduceMul, Nat.reduceLeDiff, Nat.reduceEqDiff, Nat.reduceBEq, reduceCtorEq, Int.reduceToNat, List.elem_nil, List.elem_cons, Int.reduceLT, Int.reduceLE, Int.reduceEq, Int.reduceAdd, Int.reduceSub, Int.reduceNeg, capnY, appzY, List.all_append, List.take_append, List.drop_append, List.length_append]; rfl) rfl (by simp [glC_len]) ?_) (.cons (.pure rfl) (.nil _))))
      simp only [List.map_cons, List.map_nil, List.flatten_cons, List.flatten_nil, List.append_nil, glC, tmC_eq, zT, Tm.kind, Tm.num, Tm.name, Tm.args, List.cons_append, List.nil_append]
      refine .cons (.pure rfl) (.cons (.pure rfl) (.cons (.pure rfl) (.cons (.pure rfl) (.cons (.nils 4) (.cons ?_ (.nil _))))))
      rw [glRs_map]
      exact .pure (pure_glsV _)
    · simp only [yNested, xinit_2, ↓axP, axQ, ↓if_true, ↓if_false, List.all_cons, List.all_nil, List.length_cons, List.length_nil, List.take_succ_cons, List.take_zero, List.take_nil, List.drop_succ_cons, List.drop_zero, List.drop_nil, List.getElem?_cons_zero, List.getElem?_cons_succ, List.getElem?_nil, List.nil_append, List.cons_append, List.append_nil, List.flatten_cons, List.flatten_nil, ite_true, ite_false, reduceIte, ne_eq, eq_self, Nat.reduceAdd, Nat.reduceSub, Nat.reduceMul, Nat.reduceLeDiff, Nat.reduceEqDiff, Nat.reduceBEq, reduceCtorEq, Int.reduceToNat, List.elem_nil, List.elem_cons, Int.reduceLT, Int.reduceLE, Int.reduceEq, Int.reduceAdd, Int.reduceSub, Int.reduceNeg, capnY, appzY, List.all_append, List.take_append, List.drop_append, List.length_append, e, hz, nestW]
      exact Ans.some (.ofTup (.cons (.nils 6) (.cons (.pure rfl) (.nil _))))
  · cases h
def zeros (n : Nat) : List AV := (List.replicate n [.int .i64 0, .int .i64 0, .int .i64 0, .str [], .nils, .nils]).flatten
def growH (args : List AV) (H : AH) : Option (AV × AH) :=
  match args with
  | [.nils, .int .i64 n] => if n = 0 then some (.nils, H) else if 0 < n ∧ n ≤ 10000000 ∧ H.gs.get H.next = none then some (.slc H.next 0 0 0 6, H.add (zeros n.toNat)) else none
  | _ => none
theorem grow_one : HookOne Tryz.prog 95 growH := by
  have hl : ∀ e ∈ ([] : List (FuncId × (List AV → AH → Option (AV × AH)))), HookOne Tryz.prog e.1 e.2 := by intro e he; cases he
  obtain ⟨c1, c2⟩ := tcall_ok hl
  have main : ∀ args H x H', growH args H = some (x, H') → callableB Tryz.prog 95 = true ∧ ACalls Tryz.prog 95 args H fun y H1 => y = x ∧ H1 = H' := by
    intro args H x H' h
    unfold growH at h
    split at h
    · rename_i n
      split at h
      · rename_i h0
        cases h
        subst h0
        refine yfun_ok c1 c2 mixed (draws _ rfl) yGrow_ok (F := 0) rfl ?_
        simp only [yGrow, xinit_2, ↓axP, axQ, ↓if_true, ↓if_false, List.all_cons, List.all_nil, List.length_cons, List.length_nil, List.take_succ_cons, List.take_zero, List.take_nil, List.drop_succ_cons, List.drop_zero, List.drop_nil, List.getElem?_cons_zero, List.getElem?_cons_succ, List.getElem?_nil, List.nil_append, List.cons_append, List.append_nil, List.flatten_cons, List.flatten_nil, ite_true, ite_false, reduceIte, ne_eq, eq_self, Nat.reduceAdd, Nat.reduceSub, Nat.reduceMul, Nat.reduceLeDiff, Nat.reduceEqDiff, Nat.reduceBEq, reduceCtorEq, Int.reduceToNat, List.elem_nil, List.elem_cons, Int.reduceLT, Int.reduceLE, Int.reduceEq, Int.reduceAdd, Int.reduceSub, Int.reduceNeg, capnY, appzY, List.all_append, List.take_append, List.drop_append, List.length_append]
        all_goals rfl
      · rename_i h0
        split at h
        · rename_i hc
          cases h
          refine yfun_ok c1 c2 mixed (draws _ rfl) yGrow_ok (F := 0) rfl ?_
          have w1 : IntKind.i64.wrap (0 - 0) = 0 := by decide
          have w2 : IntKind.i64.wrap (n - 0) = n := by rw [wrap_i64] <;> omega
          have n0 : (n < 0) = False := by simp; omega
          have n1 : (0 < n) = True := by simp; omega
          have n2 : n ≤ 9223372036854775807 := by omega
          have n3 : n.toNat * 88 ≤ 281474976710656 := by omega
          have n4 := hc.2.2
          obtain ⟨nx, gs, ms⟩ := H
          simp only at n4
          simp only [yGrow, xinit_2, ↓axP, axQ, ↓if_true, ↓if_false, List.all_cons, List.all_nil, List.length_cons, List.length_nil, List.take_succ_cons, List.take_zero, List.take_nil, List.drop_succ_cons, List.drop_zero, List.drop_nil, List.getElem?_cons_zero, List.getElem?_cons_succ, List.getElem?_nil, List.nil_append, List.cons_append, List.append_nil, List.flatten_cons, List.flatten_nil, ite_true, ite_false, reduceIte, ne_eq, eq_self, Nat.reduceAdd, Nat.reduceSub, Nat.reduceMul, Nat.reduceLeDiff, Nat.reduceEqDiff, Nat.reduceBEq, reduceCtorEq, Int.reduceToNat, List.elem_nil, List.elem_cons, Int.reduceLT, Int.reduceLE, Int.reduceEq, Int.reduceAdd, Int.reduceSub, Int.reduceNeg, capnY, appzY, List.all_append, List.take_append, List.drop_append, List.length_append, w1, w2, n0, n1, natOf, islice, free_iff, n2, n3, n4, Int.toNat_zero, Nat.sub_self, or_false, true_or, Int.le_refl]
          all_goals rfl
        · cases h
    · cases h
  refine ⟨(by decide +kernel), fun args H x H' h => (main args H x H' h).2, fun args H x H' h => ?_⟩
  unfold growH at h
  split at h
  · rename_i n
    split at h
    · rename_i h0
      cases h
      exact FrameR.same fun R H2 _ _ => by simp only [growH, if_pos h0]
    · rename_i h0
      split at h
      · rename_i hc
        cases h
        refine FrameR.add fun R H2 he ha hR => ?_
        have := (free_iff H2).1 (Ext.free he hR ((free_iff H).2 hc.2.2))
        simp only [growH, if_neg h0]
        rw [if_pos ⟨hc.1, hc.2.1, this⟩, he.next]
      · cases h
  · cases h
end Go.Proofs.YtcnnobcncklgfaaGreatDoor
namespace Go.Proofs.YtcnnobcncklgfaaGreatDoor
open Go Go.Abs Go.RowKit
set_option linter.unusedVariables false
set_option linter.unusedSimpArgs false
attribute [local congr] on_congr br_congr onf_congr
theorem len_glV (r : List Gl) (H : AH) : lenY false H (glV r) = some (.int .i64 r.length, H) := by unfold glV; rw [len_v]; simp
theorem lc_glV (r : List Gl) (H : AH) : listCells H 6 (glV r) = some (r.length, (r.map glC).flatten) := by unfold glV; rw [lc_vals, if_pos rfl]; simp
noncomputable def concatS : List AV → Option AV
  | [x] => (ofRws x).bind fun rs => only (rs.length ≤ 2 ∧ ∀ r ∈ rs, r.length ≤ 100000) (some (glV rs.flatten))
  | _ => none
theorem concatS_eq {rs : List (List Gl)} (h : rs.length ≤ 2 ∧ ∀ r ∈ rs, r.length ≤ 100000) : concatS [glsV rs] = some (glV rs.flatten) := by
  simp only [concatS, ofRws_eq, Option.bind_some]; exact only_eq h _
theorem flat6 (a : List Gl) : (a.map glC).flatten.length = a.length * 6 := by
  rw [flatten_len' (z := 6)]
  · simp
  · intro r hr; obtain ⟨g, _, rfl⟩ := List.mem_map.1 hr; exact glC_len g
theorem pure6 (a : List Gl) : pureL (a.map glC).flatten = true := pure_flat (by rw [← glRw_map]; exact pure_glRw a)
theorem rows6 (a : List Gl) : ∀ r ∈ a.map glC, r.length = 6 := by intro r hr; obtain ⟨g, _, rfl⟩ := List.mem_map.1 hr; exact glC_len g
set_option maxHeartbeats 1000000 in
theorem concat_one : HookOne Tryz.prog 70 (pureF concatS) := by
  refine HookOne.ofPureF (by decide +kernel) fun args y h H => ?_
  have hl : ∀ e ∈ [(95, growH)], HookOne Tryz.prog e.1 e.2 := by
    intro e he; simp at he; subst he; exact grow_one
  unfold concatS at h; split at h
  · rename_i x
    rw [Option.bind_eq_some_iff] at h
    obtain ⟨rs, h1, h2⟩ := h
    obtain ⟨⟨hn, hr⟩, h3⟩ := only_ok h2
    cases h3
    obtain rfl := back_ok h1
    refine ACalls.ofRun hl mixed (draws _ rfl) yConcat_ok rfl (by simp [pureL, pure_glsV]) 3 ?_ H
    match rs, hn with
    | [], _ =>
      simp (maxSteps := 1000000) (disch := omega) only [yConcat, xinit_1, ↓axP, axQ, ↓if_true, ↓if_false, List.all_cons, List.all_nil, List.length_cons, List.length_nil, List.take_succ_cons, List.take_zero, List.take_nil, List.drop_succ_cons, List.drop_zero, List.drop_nil, List.getElem?_cons_zero, List.getElem?_cons_succ, List.getElem?_nil, List.nil_append, List.cons_append, List.append_nil, List.flatten_cons, List.flatten_nil, ite_true, ite_false, reduceIte, ne_eq, eq_self, Nat.reduceAdd, Nat.reduceSub, Nat.reduceMul, Nat.reduceLeDiff, Nat.reduceEqDiff, Nat.reduceBEq, reduceCtorEq, Int.reduceToNat, List.elem_nil, List.elem_cons, Int.reduceLT, Int.reduceLE, Int.reduceEq, Int.reduceAdd, Int.reduceSub, Int.reduceNeg, capnY, appzY, List.all_append, List.take_append, List.drop_append, List.length_append, iter_one, yConcata_r, yConcata_, yConcatb_r, yConcatb_, growH, glsV, List.map_nil]
      exact Ans.some (.nils 6)
    | [a], _ =>
      have ha := hr a (by simp)
      by_cases h0 : a = []
      · subst h0
        simp (maxSteps := 1000000) (disch := omega) only [yConcat, xinit_1, ↓axP, axQ, ↓if_true, ↓if_false, List.all_cons, List.all_nil, List.length_cons, List.length_nil, List.take_succ_cons, List.take_zero, List.take_nil, List.drop_succ_cons, List.drop_zero, List.drop_nil, List.getElem?_cons_zero, List.getElem?_cons_succ, List.getElem?_nil, List.nil_append, List.cons_append, List.append_nil, List.flatten_cons, List.flatten_nil, ite_true, ite_false, reduceIte, ne_eq, eq_self, Nat.reduceAdd, Nat.reduceSub, Nat.reduceMul, Nat.reduceLeDiff, Nat.reduceEqDiff, Nat.reduceBEq, reduceCtorEq, Int.reduceToNat, List.elem_nil, List.elem_cons, Int.reduceLT, Int.reduceLE, Int.reduceEq, Int.reduceAdd, Int.reduceSub, Int.reduceNeg, capnY, appzY, List.all_append, List.take_append, List.drop_append, List.length_append, iter_one, yConcata_r, yConcata_, yConcatb_r, yConcatb_, growH, glsV, List.map_cons, List.map_nil, len_glV, lc_glV]
        exact Ans.some (.nils 6)
      · have h1 : 0 < a.length := List.length_pos_iff.2 h0
        have h2 : ((a.length : Int) = 0) = False := by simp; omega
        have h3 : (0 < (a.length : Int)) = True := by simp; omega
        have h4 : ((a.length : Int) ≤ 10000000) = True := by simp; omega
        have h5 : ((a.length : Int) < 0) = False := by simp
        have h6 : (a.length = 0) = False := by simp; omega
        have h7 : (a.length * 88 ≤ 140737488355328) = True := by simp; omega
        have h8 : (a.length ≤ 9223372036854775807) = True := by simp; omega
        simp (maxSteps := 1000000) (disch := omega) only [yConcat, xinit_1, ↓axP, axQ, ↓if_true, ↓if_false, List.all_cons, List.all_nil, List.length_cons, List.length_nil, List.take_succ_cons, List.take_zero, List.take_nil, List.drop_succ_cons, List.drop_zero, List.drop_nil, List.getElem?_cons_zero, List.getElem?_cons_succ, List.getElem?_nil, List.nil_append, List.cons_append, List.append_nil, List.flatten_cons, List.flatten_nil, ite_true, ite_false, reduceIte, ne_eq, eq_self, Nat.reduceAdd, Nat.reduceSub, Nat.reduceMul, Nat.reduceLeDiff, Nat.reduceEqDiff, Nat.reduceBEq, reduceCtorEq, Int.reduceToNat, List.elem_nil, List.elem_cons, Int.reduceLT, Int.reduceLE, Int.reduceEq, Int.reduceAdd, Int.reduceSub, Int.reduceNeg, capnY, appzY, List.all_append, List.take_append, List.drop_append, List.length_append, iter_one, yConcata_r, yConcata_, yConcatb_r, yConcatb_, growH, glsV, List.map_cons, List.map_nil, len_glV, lc_glV, Int.zero_add, h2, h3, h4, h5, h6, h7, h8]
        exact Ans.some (Fz.ofSlc (by simp only [↓axP, axQ, ↓if_true, ↓if_false, List.all_cons, List.all_nil, List.length_cons, List.length_nil, List.take_succ_cons, List.take_zero, List.take_nil, List.drop_succ_cons, List.drop_zero, List.drop_nil, List.getElem?_cons_zero, List.getElem?_cons_succ, List.getElem?_nil, List.nil_append, List.cons_append, List.append_nil, List.flatten_cons, List.flatten_nil, ite_true, ite_false, reduceIte, ne_eq, eq_self, Nat.reduceAdd, Nat.reduceSub, Nat.reduceMul, Nat.reduceLeDiff, Nat.reduceEqDiff, Nat.reduceBEq, reduceCtorEq, Int.reduceToNat, List.elem_nil, List.elem_cons, Int.reduceLT, Int.reduceLE, Int.reduceEq, Int.reduceAdd, Int.reduceSub, Int.reduceNeg, capnY, appzY, List.all_append, List.take_append, List.drop_append, List.length_append]; rfl) (by simp) (by simpa using rows6 a) (by simpa using FzL.pure (pure6 a)))
    | [a, b], _ =>
      have ha := hr a (by simp)
      have hb := hr b (by simp)
      have s0 : ((a.length : Int) + (b.length : Int) ≤ 10000000) = True := by simp; omega
      have s1 : ((a.length : Int) < 0) = False := by simp
      have s2 : ((a.length : Int) + (b.length : Int) < 0) = False := by simp; omega
      have s3 : (a.length * 88 ≤ 140737488355328) = True := by simp; omega
      have s4 : (a.length ≤ 9223372036854775807) = True := by simp; omega
      have s5 : (b.length * 88 ≤ 140737488355328) = True := by simp; omega
      have s6 : (b.length ≤ 9223372036854775807) = True := by simp; omega
      have s7 : ((a.length + b.length) * 88 ≤ 140737488355328) = True := by simp; omega
      have s8 : (a.length + b.length ≤ 9223372036854775807) = True := by simp; omega
      have t1 : (1 : Int) + 1 = 2 := rfl
      have l6 : ((a.map glC).flatten).take (a.length * 6) = (a.map glC).flatten := List.take_of_length_le (by rw [flat6]; omega)
      by_cases ha0 : a = []
      · subst ha0
        by_cases hb0 : b = []
        · subst hb0
          simp (maxSteps := 1000000) (disch := omega) only [yConcat, xinit_1, ↓axP, axQ, ↓if_true, ↓if_false, List.all_cons, List.all_nil, List.length_cons, List.length_nil, List.take_succ_cons, List.take_zero, List.take_nil, List.drop_succ_cons, List.drop_zero, List.drop_nil, List.getElem?_cons_zero, List.getElem?_cons_succ, List.getElem?_nil, List.nil_append, List.cons_append, List.append_nil, List.flatten_cons, List.flatten_nil, ite_true, ite_false, reduceIte, ne_eq, eq_self, Nat.reduceAdd, Nat.reduceSub, Nat.reduceMul, Nat.reduceLeDiff, Nat.reduceEqDiff, Nat.reduceBEq, reduceCtorEq, Int.reduceToNat, List.elem_nil, List.elem_cons, Int.reduceLT, Int.reduceLE, Int.reduceEq, Int.reduceAdd, Int.reduceSub, Int.reduceNeg, capnY, appzY, List.all_append, List.take_append, List.drop_append, List.length_append, iter_one, yConcata_r, yConcata_, yConcatb_r, yConcatb_, growH, glsV, List.map_cons, List.map_nil, len_glV, lc_glV, Int.zero_add]
          exact Ans.some (.nils 6)
        · have b1 := List.length_pos_iff.2 hb0
          have u1 : ((b.length : Int) = 0) = False := by simp; omega
          have u2 : (0 < (b.length : Int)) = True := by simp; omega
          have u3 : ((b.length : Int) ≤ 10000000) = True := by simp; omega
          have u4 : (b.length = 0) = False := by simp; omega
          have u5 : ((b.length : Int) < 0) = False := by simp
          simp (maxSteps := 1000000) (disch := omega) only [yConcat, xinit_1, ↓axP, axQ, ↓if_true, ↓if_false, List.all_cons, List.all_nil, List.length_cons, List.length_nil, List.take_succ_cons, List.take_zero, List.take_nil, List.drop_succ_cons, List.drop_zero, List.drop_nil, List.getElem?_cons_zero, List.getElem?_cons_succ, List.getElem?_nil, List.nil_append, List.cons_append, List.append_nil, List.flatten_cons, List.flatten_nil, ite_true, ite_false, reduceIte, ne_eq, eq_self, Nat.reduceAdd, Nat.reduceSub, Nat.reduceMul, Nat.reduceLeDiff, Nat.reduceEqDiff, Nat.reduceBEq, reduceCtorEq, Int.reduceToNat, List.elem_nil, List.elem_cons, Int.reduceLT, Int.reduceLE, Int.reduceEq, Int.reduceAdd, Int.reduceSub, Int.reduceNeg, capnY, appzY, List.all_append, List.take_append, List.drop_append, List.length_append, iter_one, yConcata_r, yConcata_, yConcatb_r, yConcatb_, growH, glsV, List.map_cons, List.map_nil, len_glV, lc_glV, Int.zero_add, s5, s6, u1, u2, u3, u4, u5]
          exact Ans.some (Fz.ofSlc (by simp only [↓axP, axQ, ↓if_true, ↓if_false, List.all_cons, List.all_nil, List.length_cons, List.length_nil, List.take_succ_cons, List.take_zero, List.take_nil, List.drop_succ_cons, List.drop_zero, List.drop_nil, List.getElem?_cons_zero, List.getElem?_cons_succ, List.getElem?_nil, List.nil_append, List.cons_append, List.append_nil, List.flatten_cons, List.flatten_nil, ite_true, ite_false, reduceIte, ne_eq, eq_self, Nat.reduceAdd, Nat.reduceSub, Nat.reduceMul, Nat.reduceLeDiff, Nat.reduceEqDiff, Nat.reduceBEq, reduceCtorEq, Int.reduceToNat, List.elem_nil, List.elem_cons, Int.reduceLT, Int.reduceLE, Int.reduceEq, Int.reduceAdd, Int.reduceSub, Int.reduceNeg, capnY, appzY, List.all_append, List.take_append, List.drop_append, List.length_append]; rfl) (by simp) (by simpa using rows6 b) (by simpa using FzL.pure (pure6 b)))
      · have a1 := List.length_pos_iff.2 ha0
        have v0 : ((a.length : Int) = 0) = False := by simp; omega
        have v1 : ((a.length : Int) + (b.length : Int) = 0) = False := by simp; omega
        have v2 : (0 < (a.length : Int) + (b.length : Int)) = True := by simp; omega
        have v3 : (a.length = 0) = False := by simp; omega
        by_cases hb0 : b = []
        · subst hb0
          have v4 : (0 < (a.length : Int)) = True := by simp; omega
          have v5 : ((a.length : Int) ≤ 10000000) = True := by simp; omega
          simp (maxSteps := 1000000) (disch := omega) only [yConcat, xinit_1, ↓axP, axQ, ↓if_true, ↓if_false, List.all_cons, List.all_nil, List.length_cons, List.length_nil, List.take_succ_cons, List.take_zero, List.take_nil, List.drop_succ_cons, List.drop_zero, List.drop_nil, List.getElem?_cons_zero, List.getElem?_cons_succ, List.getElem?_nil, List.nil_append, List.cons_append, List.append_nil, List.flatten_cons, List.flatten_nil, ite_true, ite_false, reduceIte, ne_eq, eq_self, Nat.reduceAdd, Nat.reduceSub, Nat.reduceMul, Nat.reduceLeDiff, Nat.reduceEqDiff, Nat.reduceBEq, reduceCtorEq, Int.reduceToNat, List.elem_nil, List.elem_cons, Int.reduceLT, Int.reduceLE, Int.reduceEq, Int.reduceAdd, Int.reduceSub, Int.reduceNeg, capnY, appzY, List.all_append, List.take_append, List.drop_append, List.length_append, iter_one, yConcata_r, yConcata_, yConcatb_r, yConcatb_, growH, glsV, List.map_cons, List.map_nil, len_glV, lc_glV, Int.zero_add, Int.add_zero, s1, s3, s4, v0, v3, v4, v5]
          exact Ans.some (Fz.ofSlc (by simp only [↓axP, axQ, ↓if_true, ↓if_false, List.all_cons, List.all_nil, List.length_cons, List.length_nil, List.take_succ_cons, List.take_zero, List.take_nil, List.drop_succ_cons, List.drop_zero, List.drop_nil, List.getElem?_cons_zero, List.getElem?_cons_succ, List.getElem?_nil, List.nil_append, List.cons_append, List.append_nil, List.flatten_cons, List.flatten_nil, ite_true, ite_false, reduceIte, ne_eq, eq_self, Nat.reduceAdd, Nat.reduceSub, Nat.reduceMul, Nat.reduceLeDiff, Nat.reduceEqDiff, Nat.reduceBEq, reduceCtorEq, Int.reduceToNat, List.elem_nil, List.elem_cons, Int.reduceLT, Int.reduceLE, Int.reduceEq, Int.reduceAdd, Int.reduceSub, Int.reduceNeg, capnY, appzY, List.all_append, List.take_append, List.drop_append, List.length_append]; rfl) (by simp) (by simpa using rows6 a) (by simpa using FzL.pure (pure6 a)))
        · have b1 := List.length_pos_iff.2 hb0
          have u4 : (b.length = 0) = False := by simp; omega
          have u6 : (a.length * 6 ≤ ((a.map glC).flatten).length) = True := by rw [flat6]; simp
          simp (maxSteps := 1000000) (disch := omega) only [yConcat, xinit_1, ↓axP, axQ, ↓if_true, ↓if_false, List.all_cons, List.all_nil, List.length_cons, List.length_nil, List.take_succ_cons, List.take_zero, List.take_nil, List.drop_succ_cons, List.drop_zero, List.drop_nil, List.getElem?_cons_zero, List.getElem?_cons_succ, List.getElem?_nil, List.nil_append, List.cons_append, List.append_nil, List.flatten_cons, List.flatten_nil, ite_true, ite_false, reduceIte, ne_eq, eq_self, Nat.reduceAdd, Nat.reduceSub, Nat.reduceMul, Nat.reduceLeDiff, Nat.reduceEqDiff, Nat.reduceBEq, reduceCtorEq, Int.reduceToNat, List.elem_nil, List.elem_cons, Int.reduceLT, Int.reduceLE, Int.reduceEq, Int.reduceAdd, Int.reduceSub, Int.reduceNeg, capnY, appzY, List.all_append, List.take_append, List.drop_append, List.length_append, iter_one, yConcata_r, yConcata_, yConcatb_r, yConcatb_, growH, glsV, List.map_cons, List.map_nil, len_glV, lc_glV, Int.zero_add, s0, s1, s2, s3, s4, s7, s8, v0, v1, v2, v3, u4, u6, l6]
          exact Ans.some (Fz.ofSlc (by simp only [↓axP, axQ, ↓if_true, ↓if_false, List.all_cons, List.all_nil, List.length_cons, List.length_nil, List.take_succ_cons, List.take_zero, List.take_nil, List.drop_succ_cons, List.drop_zero, List.drop_nil, List.getElem?_cons_zero, List.getElem?_cons_succ, List.getElem?_nil, List.nil_append, List.cons_append, List.append_nil, List.flatten_cons, List.flatten_nil, ite_true, ite_false, reduceIte, ne_eq, eq_self, Nat.reduceAdd, Nat.reduceSub, Nat.reduceMul, Nat.reduceLeDiff, Nat.reduceEqDiff, Nat.reduceBEq, reduceCtorEq, Int.reduceToNat, List.elem_nil, List.elem_cons, Int.reduceLT, Int.reduceLE, Int.reduceEq, Int.reduceAdd, Int.reduceSub, Int.reduceNeg, capnY, appzY, List.all_append, List.take_append, List.drop_append, List.length_append]; rfl) (by simp) (by simpa using rows6 (a ++ b)) (by simpa using FzL.pure (pure6 (a ++ b))))
  · cases h
end Go.Proofs.YtcnnobcncklgfaaGreatDoor
namespace Go.Proofs.YtcnnobcncklgfaaGreatDoor
open Go Go.Abs Go.RowKit
set_option linter.unusedVariables false
set_option linter.unusedSimpArgs false
attribute [local congr] on_congr br_congr onf_congr
theorem height_mem {l : List Tm} {x : Tm} (h : x ∈ l) : x.height ≤ Tm.heights l := by
  obtain ⟨i, hi, rfl⟩ := List.getElem_of_mem h
  exact heights_mem hi
theorem size_mem {l : List Tm} {x : Tm} (h : x ∈ l) : x.size ≤ Tm.sizes l := by
  induction l with
  | nil => cases h
  | cons y l ih =>
    simp only [Tm.sizes]
    rcases List.mem_cons.1 h with rfl | h
    · omega
    · have := ih h; omega
theorem RC.arg {n : Nat} {t x : Tm} (h : RC (n + 1) t) (hx : x ∈ t.args) : RC n x := by
  obtain ⟨h1, h2, h3⟩ := h
  have a1 := height_mem hx
  have a2 := size_mem hx
  rw [height_eq] at h1
  rw [size_eq] at h3
  exact ⟨by omega, h2.args.2.1 x hx, by omega⟩
theorem RC.up {n : Nat} {t : Tm} (h : RC n t) : RC (n + 1) t := ⟨by have := h.1; omega, h.2⟩
theorem height_pos (t : Tm) : 0 < t.height := by rw [height_eq]; omega
theorem rowsW_len {f : Tm → List Gl × Int} (hf : ∀ t, (f t).1.length ≤ t.size) : ∀ l : List Tm, (rowsW f l).1.length ≤ l.length ∧ (rowsW f l).1.flatten.length ≤ Tm.sizes l ∧ ∀ r ∈ (rowsW f l).1, r.length ≤ Tm.sizes l
  | [] => by simp [rowsW, Tm.sizes]
  | t :: ts => by
    obtain ⟨h1, h2, h3⟩ := rowsW_len hf ts
    have h0 := hf t
    simp only [rowsW, Tm.sizes]
    split
    · split
      · refine ⟨by simp; exact h1, by simp only [List.flatten_cons, List.length_append]; omega, fun r hr => ?_⟩
        rcases List.mem_cons.1 hr with rfl | hr
        · omega
        · have := h3 r hr; omega
      · simp
    · simp
theorem isP_len {t : Tm} {s : List UInt8} {m : Nat} (h : isP t s m = true) : t.args.length = m := by
  unfold isP at h
  simp only [Bool.and_eq_true, decide_eq_true_eq] at h
  omega
theorem size_pos (t : Tm) : 0 < t.size := by rw [size_eq]; omega
theorem rowF_len : ∀ (n : Nat) (t : Tm), (rowF n t).1.length ≤ t.size
  | 0, t => by simp [rowF]
  | n + 1, t => by
    have hp := size_pos t
    have hn : ∀ k l, (nestW (rowF n) k l).1.length ≤ 1 := fun k l => by unfold nestW; split <;> simp
    simp only [rowF]
    split
    · simp; omega
    · split
      · simp
      · split
        · simp
        · split
          · simp; omega
          · split
            · have := (rowsW_len (rowF_len n) t.args).2.1
              rw [size_eq]; simp only; omega
            · split
              · exact Nat.le_trans (hn _ _) hp
              · split
                · exact Nat.le_trans (hn _ _) hp
                · split
                  · exact Nat.le_trans (hn _ _) hp
                  · split
                    · exact Nat.le_trans (hn _ _) hp
                    · simp; omega
theorem args_two {t : Tm} (h : t.args.length = 2) : ∃ a b, t.args = [a, b] := by
  match hl : t.args, h with
  | [a, b], _ => exact ⟨a, b, rfl⟩
theorem fine_fail : Fine 1000 failT := .mk _ _ _ _ (by omega) (by omega) (by unfold maxLen; simp) (by simp) (fun x hx => by cases hx)
set_option maxHeartbeats 4000000 in
theorem row_step {n : Nat} (hrow : HookOne Tryz.prog 43 (pureF (rowS n))) : HookOne Tryz.prog 43 (pureF (rowS (n + 1))) := by
  refine HookOne.ofPureF (by decide +kernel) fun args y h H => ?_
  have hrows := rows_one hrow
  have hl : ∀ e ∈ [(54, pureF isS), (14, pureF compS), (42, pureF atomS), (69, pureF (rowsS n)), (71, pureF (nestS n)), (70, pureF concatS)], HookOne Tryz.prog e.1 e.2 := by
    intro e he
    simp only [List.mem_cons, List.not_mem_nil, or_false] at he
    rcases he with rfl | rfl | rfl | rfl | rfl | rfl
    · exact is_one
    · exact comp_one
    · exact atom_one
    · exact hrows
    · exact nested_one hrows
    · exact concat_one
  unfold rowS at h; split at h
  · rename_i x
    rw [Option.bind_eq_some_iff] at h
    obtain ⟨t, h1, h2⟩ := h
    obtain ⟨hc, h3⟩ := only_ok h2
    cases h3
    obtain rfl := ofT_ok h1
    refine ACalls.ofRun hl mixed (draws _ rfl) yRow_ok rfl (by simp [pureL, pure_tmA]) 0 ?_ H
    have hRC : ∀ x ∈ t.args, RC n x := fun x hx => hc.arg hx
    have hlen : t.args.length ≤ 1000 := hc.2.1.args.1
    have oneG : ∀ g : Gl, glV [g] = .vals 6 [glC g] := fun g => rfl
    unfold tmA
    by_cases k0 : t.kind = 0
    · simp only [rowF, if_pos k0]
      have e := compS_eq [99, 97, 108, 108] [t] (by simp)
      simp only [List.map_cons, List.map_nil] at e
      simp (maxSteps := 1000000) (disch := omega) only [yRow, xinit_1, ↓axP, axQ, ↓if_true, ↓if_false, List.all_cons, List.all_nil, List.length_cons, List.length_nil, List.take_succ_cons, List.take_zero, List.take_nil, List.drop_succ_cons, List.drop_zero, List.drop_nil, List.getElem?_cons_zero, List.getElem?_cons_succ, List.getElem?_nil, List.nil_append, List.cons_append, List.append_nil, List.flatten_cons, List.flatten_nil, ite_true, ite_false, reduceIte, ne_eq, eq_self, Nat.reduceAdd, Nat.reduceSub, Nat.reduceMul, Nat.reduceLeDiff, Nat.reduceEqDiff, Nat.reduceBEq, reduceCtorEq, Int.reduceToNat, List.elem_nil, List.elem_cons, Int.reduceLT, Int.reduceLE, Int.reduceEq, Int.reduceAdd, Int.reduceSub, Int.reduceNeg, capnY, appzY, List.all_append, List.take_append, List.drop_append, List.length_append, tmC_len, tmC_0, tmC_1, tmC_2, tmC_3, tmC_take, tmC_drop, tmC_one, tmC_ne, k0, e]
      refine Ans.some (.ofTup (.cons (Fz.ofSlc (by simp only [↓axP, axQ, ↓if_true, ↓if_false, List.all_cons, List.all_nil, List.length_cons, List.length_nil, List.take_succ_cons, List.take_zero, List.take_nil, List.drop_succ_cons, List.drop_zero, List.drop_nil, List.getElem?_cons_zero, List.getElem?_cons_succ, List.getElem?_nil, List.nil_append, List.cons_append, List.append_nil, List.flatten_cons, List.flatten_nil, ite_true, ite_false, reduceIte, ne_eq, eq_self, Nat.reduceAdd, Nat.reduceSub, Nat.reduceMul, Nat.reduceLeDiff, Nat.reduceEqDiff, Nat.reduceBEq, reduceCtorEq, Int.reduceToNat, List.elem_nil, List.elem_cons, Int.reduceLT, Int.reduceLE, Int.reduceEq, Int.reduceAdd, Int.reduceSub, Int.reduceNeg, capnY, appzY, List.all_append, List.take_append, List.drop_append, List.length_append]; rfl) rfl (by simp [glC_len]) ?_) (.cons (.pure rfl) (.nil _))))
      simp only [List.map_cons, List.map_nil, List.flatten_cons, List.flatten_nil, List.append_nil, glC]
      exact .cons (.pure rfl) (.append (.pure (pure_tmC _)) (.cons (.nils 1) (.nil _)))
    · simp only [rowF, if_neg k0]
      by_cases k1 : t.kind = 1
      · simp only [if_pos k1]
        have k0' : ((1 : Int) = 0) = False := by simp
        simp (maxSteps := 1000000) (disch := omega) only [yRow, xinit_1, ↓axP, axQ, ↓if_true, ↓if_false, List.all_cons, List.all_nil, List.length_cons, List.length_nil, List.take_succ_cons, List.take_zero, List.take_nil, List.drop_succ_cons, List.drop_zero, List.drop_nil, List.getElem?_cons_zero, List.getElem?_cons_succ, List.getElem?_nil, List.nil_append, List.cons_append, List.append_nil, List.flatten_cons, List.flatten_nil, ite_true, ite_false, reduceIte, ne_eq, eq_self, Nat.reduceAdd, Nat.reduceSub, Nat.reduceMul, Nat.reduceLeDiff, Nat.reduceEqDiff, Nat.reduceBEq, reduceCtorEq, Int.reduceToNat, List.elem_nil, List.elem_cons, Int.reduceLT, Int.reduceLE, Int.reduceEq, Int.reduceAdd, Int.reduceSub, Int.reduceNeg, capnY, appzY, List.all_append, List.take_append, List.drop_append, List.length_append, tmC_len, tmC_0, tmC_1, tmC_2, tmC_3, tmC_take, tmC_drop, tmC_one, tmC_ne, k1, k0']
        exact Ans.some (.ofTup (.cons (.nils 6) (.cons (.pure rfl) (.nil _))))
      · simp only [if_neg k1]
        cases c1 : isP t [116, 114, 117, 101] 0 with
        | true =>
          simp (maxSteps := 1000000) (disch := omega) only [yRow, xinit_1, ↓axP, axQ, ↓if_true, ↓if_false, List.all_cons, List.all_nil, List.length_cons, List.length_nil, List.take_succ_cons, List.take_zero, List.take_nil, List.drop_succ_cons, List.drop_zero, List.drop_nil, List.getElem?_cons_zero, List.getElem?_cons_succ, List.getElem?_nil, List.nil_append, List.cons_append, List.append_nil, List.flatten_cons, List.flatten_nil, ite_true, ite_false, reduceIte, ne_eq, eq_self, Nat.reduceAdd, Nat.reduceSub, Nat.reduceMul, Nat.reduceLeDiff, Nat.reduceEqDiff, Nat.reduceBEq, reduceCtorEq, Int.reduceToNat, List.elem_nil, List.elem_cons, Int.reduceLT, Int.reduceLE, Int.reduceEq, Int.reduceAdd, Int.reduceSub, Int.reduceNeg, capnY, appzY, List.all_append, List.take_append, List.drop_append, List.length_append, tmC_len, tmC_0, tmC_1, tmC_2, tmC_3, tmC_take, tmC_drop, tmC_one, tmC_ne, k0, k1, isS_eq, c1]
          exact Ans.some (.ofTup (.cons (.nils 6) (.cons (.pure rfl) (.nil _))))
        | false =>
          cases c2 : isP t [33] 0 with
          | true =>
            simp (maxSteps := 1000000) (disch := omega) only [yRow, xinit_1, ↓axP, axQ, ↓if_true, ↓if_false, List.all_cons, List.all_nil, List.length_cons, List.length_nil, List.take_succ_cons, List.take_zero, List.take_nil, List.drop_succ_cons, List.drop_zero, List.drop_nil, List.getElem?_cons_zero, List.getElem?_cons_succ, List.getElem?_nil, List.nil_append, List.cons_append, List.append_nil, List.flatten_cons, List.flatten_nil, ite_true, ite_false, reduceIte, ne_eq, eq_self, Nat.reduceAdd, Nat.reduceSub, Nat.reduceMul, Nat.reduceLeDiff, Nat.reduceEqDiff, Nat.reduceBEq, reduceCtorEq, Int.reduceToNat, List.elem_nil, List.elem_cons, Int.reduceLT, Int.reduceLE, Int.reduceEq, Int.reduceAdd, Int.reduceSub, Int.reduceNeg, capnY, appzY, List.all_append, List.take_append, List.drop_append, List.length_append, tmC_len, tmC_0, tmC_1, tmC_2, tmC_3, tmC_take, tmC_drop, tmC_one, tmC_ne, k0, k1, isS_eq, c1, c2]
            refine Ans.some (.ofTup (.cons (Fz.ofSlc (by simp only [↓axP, axQ, ↓if_true, ↓if_false, List.all_cons, List.all_nil, List.length_cons, List.length_nil, List.take_succ_cons, List.take_zero, List.take_nil, List.drop_succ_cons, List.drop_zero, List.drop_nil, List.getElem?_cons_zero, List.getElem?_cons_succ, List.getElem?_nil, List.nil_append, List.cons_append, List.append_nil, List.flatten_cons, List.flatten_nil, ite_true, ite_false, reduceIte, ne_eq, eq_self, Nat.reduceAdd, Nat.reduceSub, Nat.reduceMul, Nat.reduceLeDiff, Nat.reduceEqDiff, Nat.reduceBEq, reduceCtorEq, Int.reduceToNat, List.elem_nil, List.elem_cons, Int.reduceLT, Int.reduceLE, Int.reduceEq, Int.reduceAdd, Int.reduceSub, Int.reduceNeg, capnY, appzY, List.all_append, List.take_append, List.drop_append, List.length_append]; rfl) rfl (by simp [glC_len]) ?_) (.cons (.pure rfl) (.nil _))))
            simp only [List.map_cons, List.map_nil, List.flatten_cons, List.flatten_nil, List.append_nil, glC, tmC_eq, zT, Tm.kind, Tm.num, Tm.name, Tm.args, List.cons_append, List.nil_append, glRs]
            exact .cons (.pure rfl) (.cons (.pure rfl) (.cons (.pure rfl) (.cons (.pure rfl) (.cons (.nils 4) (.cons (.nils 1) (.nil _))))))
          | false =>
            cases c3 : isP t [44] 2 with
            | true =>
              have e1 := rowsS_eq ⟨hlen, hRC⟩
              have hL := isP_len (m := 2) c3
              obtain ⟨q1, q2, q3⟩ := rowsW_len (rowF_len n) t.args
              have e2 := concatS_eq (rs := (rowsW (rowF n) t.args).1) ⟨by omega, fun r hr => by have := q3 r hr; have := size_eq t; have := hc.2.2; omega⟩
              simp (maxSteps := 1000000) (disch := omega) only [yRow, xinit_1, ↓axP, axQ, ↓if_true, ↓if_false, List.all_cons, List.all_nil, List.length_cons, List.length_nil, List.take_succ_cons, List.take_zero, List.take_nil, List.drop_succ_cons, List.drop_zero, List.drop_nil, List.getElem?_cons_zero, List.getElem?_cons_succ, List.getElem?_nil, List.nil_append, List.cons_append, List.append_nil, List.flatten_cons, List.flatten_nil, ite_true, ite_false, reduceIte, ne_eq, eq_self, Nat.reduceAdd, Nat.reduceSub, Nat.reduceMul, Nat.reduceLeDiff, Nat.reduceEqDiff, Nat.reduceBEq, reduceCtorEq, Int.reduceToNat, List.elem_nil, List.elem_cons, Int.reduceLT, Int.reduceLE, Int.reduceEq, Int.reduceAdd, Int.reduceSub, Int.reduceNeg, capnY, appzY, List.all_append, List.take_append, List.drop_append, List.length_append, tmC_len, tmC_0, tmC_1, tmC_2, tmC_3, tmC_take, tmC_drop, tmC_one, tmC_ne, k0, k1, isS_eq, c1, c2, c3, e1, frA_glsV, e2]
              exact Ans.some (.ofTup (.cons (.pure (pure_glV _)) (.cons (.pure rfl) (.nil _))))
            | false =>
              cases c4 : isP t [59] 2 with
              | true =>
                obtain ⟨a, b, hab⟩ := args_two (isP_len (m := 2) c4)
                have hRa := hRC a (by rw [hab]; simp)
                have hRb := hRC b (by rw [hab]; simp)
                simp only [hab, List.getD_cons_zero, List.getD_cons_succ, Bool.true_and]
                cases c5 : isP a [45, 62] 2 with
                | true =>
                  obtain ⟨c, d, hcd⟩ := args_two (isP_len (m := 2) c5)
                  obtain ⟨m, rfl⟩ : ∃ m, n = m + 1 := ⟨n - 1, by have := hRa.1; have := height_pos a; omega⟩
                  have hRc : RC (m + 1) c := (hRa.arg (by rw [hcd]; simp)).up
                  have hRd : RC (m + 1) d := (hRa.arg (by rw [hcd]; simp)).up
                  have e := nestS_eq (n := m + 1) (k := 4) (l := [c, d, b]) ⟨by simp, by simp [hRc, hRd, hRb]⟩
                  simp only [List.map_cons, List.map_nil] at e
                  simp only [hcd, List.getD_cons_zero, List.getD_cons_succ]
                  simp (maxSteps := 1000000) (disch := omega) only [yRow, xinit_1, ↓axP, axQ, ↓if_true, ↓if_false, List.all_cons, List.all_nil, List.length_cons, List.length_nil, List.take_succ_cons, List.take_zero, List.take_nil, List.drop_succ_cons, List.drop_zero, List.drop_nil, List.getElem?_cons_zero, List.getElem?_cons_succ, List.getElem?_nil, List.nil_append, List.cons_append, List.append_nil, List.flatten_cons, List.flatten_nil, ite_true, ite_false, reduceIte, ne_eq, eq_self, Nat.reduceAdd, Nat.reduceSub, Nat.reduceMul, Nat.reduceLeDiff, Nat.reduceEqDiff, Nat.reduceBEq, reduceCtorEq, Int.reduceToNat, List.elem_nil, List.elem_cons, Int.reduceLT, Int.reduceLE, Int.reduceEq, Int.reduceAdd, Int.reduceSub, Int.reduceNeg, capnY, appzY, List.all_append, List.take_append, List.drop_append, List.length_append, tmC_len, tmC_0, tmC_1, tmC_2, tmC_3, tmC_take, tmC_drop, tmC_one, tmC_ne, k0, k1, isS_eq, c1, c2, c3, c4, c5, hab, hcd, List.map_cons, List.map_nil, e]
                  exact Ans.some (.ofTup (.cons (.pure (pure_glV _)) (.cons (.pure rfl) (.nil _))))
                | false =>
                  have e := nestS_eq (n := n) (k := 3) (l := [a, b]) ⟨by simp, by simp [hRa, hRb]⟩
                  simp only [List.map_cons, List.map_nil] at e
                  simp (maxSteps := 1000000) (disch := omega) only [yRow, xinit_1, ↓axP, axQ, ↓if_true, ↓if_false, List.all_cons, List.all_nil, List.length_cons, List.length_nil, List.take_succ_cons, List.take_zero, List.take_nil, List.drop_succ_cons, List.drop_zero, List.drop_nil, List.getElem?_cons_zero, List.getElem?_cons_succ, List.getElem?_nil, List.nil_append, List.cons_append, List.append_nil, List.flatten_cons, List.flatten_nil, ite_true, ite_false, reduceIte, ne_eq, eq_self, Nat.reduceAdd, Nat.reduceSub, Nat.reduceMul, Nat.reduceLeDiff, Nat.reduceEqDiff, Nat.reduceBEq, reduceCtorEq, Int.reduceToNat, List.elem_nil, List.elem_cons, Int.reduceLT, Int.reduceLE, Int.reduceEq, Int.reduceAdd, Int.reduceSub, Int.reduceNeg, capnY, appzY, List.all_append, List.take_append, List.drop_append, List.length_append, tmC_len, tmC_0, tmC_1, tmC_2, tmC_3, tmC_take, tmC_drop, tmC_one, tmC_ne, k0, k1, isS_eq, c1, c2, c3, c4, c5, hab, List.map_cons, List.map_nil, e]
                  exact Ans.some (.ofTup (.cons (.pure (pure_glV _)) (.cons (.pure rfl) (.nil _))))
              | false =>
                cases c6 : isP t [45, 62] 2 with
                | true =>
                  obtain ⟨a, b, hab⟩ := args_two (isP_len (m := 2) c6)
                  have hRa := hRC a (by rw [hab]; simp)
                  have hRb := hRC b (by rw [hab]; simp)
                  have hRf : RC n failT := ⟨by have := hRa.1; have := height_pos a; simp [failT, Tm.height, Tm.heights]; omega, fine_fail, by simp [failT, Tm.size, Tm.sizes]⟩
                  have e := nestS_eq (n := n) (k := 4) (l := [a, b, failT]) ⟨by simp, by simp [hRa, hRb, hRf]⟩
                  simp only [List.map_cons, List.map_nil, failT] at e
                  simp only [hab, List.getD_cons_zero, List.getD_cons_succ, failT]
                  simp (maxSteps := 1000000) (disch := omega) only [yRow, xinit_1, ↓axP, axQ, ↓if_true, ↓if_false, List.all_cons, List.all_nil, List.length_cons, List.length_nil, List.take_succ_cons, List.take_zero, List.take_nil, List.drop_succ_cons, List.drop_zero, List.drop_nil, List.getElem?_cons_zero, List.getElem?_cons_succ, List.getElem?_nil, List.nil_append, List.cons_append, List.append_nil, List.flatten_cons, List.flatten_nil, ite_true, ite_false, reduceIte, ne_eq, eq_self, Nat.reduceAdd, Nat.reduceSub, Nat.reduceMul, Nat.reduceLeDiff, Nat.reduceEqDiff, Nat.reduceBEq, reduceCtorEq, Int.reduceToNat, List.elem_nil, List.elem_cons, Int.reduceLT, Int.reduceLE, Int.reduceEq, Int.reduceAdd, Int.reduceSub, Int.reduceNeg, capnY, appzY, List.all_append, List.take_append, List.drop_append, List.length_append, tmC_len, tmC_0, tmC_1, tmC_2, tmC_3, tmC_take, tmC_drop, tmC_one, tmC_ne, k0, k1, isS_eq, c1, c2, c3, c4, c6, hab, List.map_cons, List.map_nil, atomS_eq, e]
                  exact Ans.some (.ofTup (.cons (.pure (pure_glV _)) (.cons (.pure rfl) (.nil _))))
                | false =>
                  cases c7 : isP t [92, 43] 1 with
                  | true =>
                    have e := nestS_eq (n := n) (k := 5) ⟨hlen, hRC⟩
                    simp (maxSteps := 1000000) (disch := omega) only [yRow, xinit_1, ↓axP, axQ, ↓if_true, ↓if_false, List.all_cons, List.all_nil, List.length_cons, List.length_nil, List.take_succ_cons, List.take_zero, List.take_nil, List.drop_succ_cons, List.drop_zero, List.drop_nil, List.getElem?_cons_zero, List.getElem?_cons_succ, List.getElem?_nil, List.nil_append, List.cons_append, List.append_nil, List.flatten_cons, List.flatten_nil, ite_true, ite_false, reduceIte, ne_eq, eq_self, Nat.reduceAdd, Nat.reduceSub, Nat.reduceMul, Nat.reduceLeDiff, Nat.reduceEqDiff, Nat.reduceBEq, reduceCtorEq, Int.reduceToNat, List.elem_nil, List.elem_cons, Int.reduceLT, Int.reduceLE, Int.reduceEq, Int.reduceAdd, Int.reduceSub, Int.reduceNeg, capnY, appzY, List.all_append, List.take_append, List.drop_append, List.length_append, tmC_len, tmC_0, tmC_1, tmC_2, tmC_3, tmC_take, tmC_drop, tmC_one, tmC_ne, k0, k1, isS_eq, c1, c2, c3, c4, c6, c7, e]
                    exact Ans.some (.ofTup (.cons (.pure (pure_glV _)) (.cons (.pure rfl) (.nil _))))
                  | false =>
                    simp (maxSteps := 1000000) (disch := omega) only [yRow, xinit_1, ↓axP, axQ, ↓if_true, ↓if_false, List.all_cons, List.all_nil, List.length_cons, List.length_nil, List.take_succ_cons, List.take_zero, List.take_nil, List.drop_succ_cons, List.drop_zero, List.drop_nil, List.getElem?_cons_zero, List.getElem?_cons_succ, List.getElem?_nil, List.nil_append, List.cons_append, List.append_nil, List.flatten_cons, List.flatten_nil, ite_true, ite_false, reduceIte, ne_eq, eq_self, Nat.reduceAdd, Nat.reduceSub, Nat.reduceMul, Nat.reduceLeDiff, Nat.reduceEqDiff, Nat.reduceBEq, reduceCtorEq, Int.reduceToNat, List.elem_nil, List.elem_cons, Int.reduceLT, Int.reduceLE, Int.reduceEq, Int.reduceAdd, Int.reduceSub, Int.reduceNeg, capnY, appzY, List.all_append, List.take_append, List.drop_append, List.length_append, tmC_len, tmC_0, tmC_1, tmC_2, tmC_3, tmC_take, tmC_drop, tmC_one, tmC_ne, k0, k1, isS_eq, c1, c2, c3, c4, c6, c7]
                    refine Ans.some (.ofTup (.cons (Fz.ofSlc (by simp only [↓axP, axQ, ↓if_true, ↓if_false, List.all_cons, List.all_nil, List.length_cons, List.length_nil, List.take_succ_cons, List.take_zero, List.take_nil, List.drop_succ_cons, List.drop_zero, List.drop_nil, List.getElem?_cons_zero, List.getElem?_cons_succ, List.getElem?_nil, List.nil_append, List.cons_append, List.append_nil, List.flatten_cons, List.flatten_nil, ite_true, ite_false, reduceIte, ne_eq, eq_self, Nat.reduceAdd, Nat.reduceSub, Nat.reduceMul, Nat.reduceLeDiff, Nat.reduceEqDiff, Nat.reduceBEq, reduceCtorEq, Int.reduceToNat, List.elem_nil, List.elem_cons, Int.reduceLT, Int.reduceLE, Int.reduceEq, Int.reduceAdd, Int.reduceSub, Int.reduceNeg, capnY, appzY, List.all_append, List.take_append, List.drop_append, List.length_append]; rfl) rfl (by simp [glC_len]) ?_) (.cons (.pure rfl) (.nil _))))
                    simp only [List.map_cons, List.map_nil, List.flatten_cons, List.flatten_nil, List.append_nil, glC]
                    exact .cons (.pure rfl) (.append (.pure (pure_tmC _)) (.cons (.nils 1) (.nil _)))
  · cases h
theorem row_any : ∀ n : Nat, HookOne Tryz.prog 43 (pureF (rowS n))
  | 0 => by
    refine HookOne.ofPureF (by decide +kernel) fun args y h H => ?_
    unfold rowS at h; split at h
    · rename_i x
      rw [Option.bind_eq_some_iff] at h
      obtain ⟨t, h1, h2⟩ := h
      obtain ⟨hc, h3⟩ := only_ok h2
      have := hc.1
      have := height_pos t
      omega
    · cases h
  | n + 1 => row_step (row_any n)
end Go.Proofs.YtcnnobcncklgfaaGreatDoor
