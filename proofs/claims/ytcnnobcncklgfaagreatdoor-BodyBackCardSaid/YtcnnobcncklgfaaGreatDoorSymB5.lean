/- The contracts of the document's is, of, two, rows, Atom, Comp. -/
import Derived.Test.YtcnnobcncklgfaaGreatDoorSymB2
namespace Go.Proofs.YtcnnobcncklgfaaGreatDoor
open Go Go.Abs Go.RowKit
set_option linter.unusedVariables false
set_option linter.unusedSimpArgs false
attribute [local congr] on_congr br_congr onf_congr
def isR (t : Tm) (nm : List UInt8) (m : Int) : Bool := decide (t.kind = 2) && (t.name == nm) && decide ((t.args.length : Int) = m)
theorem isR_eq {t : Tm} (h : t.kind ≤ 2) (nm : List UInt8) (m : Int) : isR t nm m = isP t nm m := by
  have : decide (t.kind = 2) = decide (1 < t.kind) := decide_eq_decide.2 (by omega)
  unfold isR isP; rw [this]
noncomputable def isRS : List AV → Option AV
  | [x, .str nm, .int .i64 m] => (ofT x).map fun t => .bool (isR t nm m)
  | _ => none
theorem isRS_eq (t : Tm) (nm : List UInt8) (m : Int) : isRS [.agg (tmC t), .str nm, .int .i64 m] = some (.bool (isR t nm m)) := by
  show (ofT (tmA t)).map _ = _
  rw [ofT_tm]; rfl
theorem ris_one : HookOne Tryz.prog 57 (pureF isRS) := by
  refine HookOne.ofPureF (by decide +kernel) fun args y h H => ?_
  unfold isRS at h; split at h
  · rename_i x nm m
    rw [Option.map_eq_some_iff] at h
    obtain ⟨t, h1, rfl⟩ := h
    obtain rfl := ofT_ok h1
    refine ACalls.ofRun (l := []) (by simp) mixed (draws _ rfl) yRis_ok rfl (by simp [pureL, pure_tmA, pureA]) 0 ?_ H
    unfold isR
    by_cases c1 : t.kind = 2 <;> cases c2 : t.name == nm
    all_goals
      simp only [yRis, xinit_3, tmA, ↓axP, axQ, ↓if_true, ↓if_false, List.all_cons, List.all_nil, List.length_cons, List.length_nil, List.take_succ_cons, List.take_zero, List.take_nil, List.drop_succ_cons, List.drop_zero, List.drop_nil, List.getElem?_cons_zero, List.getElem?_cons_succ, List.getElem?_nil, List.nil_append, List.cons_append, List.append_nil, List.flatten_cons, List.flatten_nil, ite_true, ite_false, reduceIte, ne_eq, eq_self, Nat.reduceAdd, Nat.reduceSub, Nat.reduceMul, Nat.reduceLeDiff, Nat.reduceEqDiff, Nat.reduceBEq, reduceCtorEq, Int.reduceToNat, List.elem_nil, List.elem_cons, Int.reduceLT, Int.reduceLE, Int.reduceEq, Int.reduceAdd, Int.reduceSub, Int.reduceNeg, capnY, appzY, List.all_append, List.take_append, List.drop_append, List.length_append, tmC_len, tmC_0, tmC_1, tmC_2, tmC_3, tmC_take, tmC_drop, tmC_one, tmC_ne, c1, c2, List.length_map]
      exact Ans.some (.pure rfl)
  · cases h
noncomputable def rcompS : List AV → Option AV
  | [.str nm, x] => (ofLs x).bind fun l => some (tmA (.mk 2 0 nm l))
  | _ => none
theorem rcompS_eq (nm : List UInt8) (l : List Tm) : rcompS [.str nm, .vals 4 (l.map tmC)] = some (.agg (tmC (.mk 2 0 nm l))) := by
  simp [rcompS, ofLs_eq, tmA]
theorem rcomp_one : HookOne Tryz.prog 80 (pureF rcompS) := by
  refine HookOne.ofPureF (by decide +kernel) fun args y h H => ?_
  unfold rcompS at h; split at h
  · rename_i nm x
    rw [Option.bind_eq_some_iff] at h
    obtain ⟨l, h1, h3⟩ := h
    cases h3
    obtain rfl := back_ok h1
    unfold lsA
    refine ACalls.ofRun (l := []) (by simp) mixed (draws _ rfl) yRComp_ok rfl (by simp [pureL, pureA, pure_rows]) 0 ?_ H
    simp only [yRComp, xinit_2, ↓axP, axQ, ↓if_true, ↓if_false, List.all_cons, List.all_nil, List.length_cons, List.length_nil, List.take_succ_cons, List.take_zero, List.take_nil, List.drop_succ_cons, List.drop_zero, List.drop_nil, List.getElem?_cons_zero, List.getElem?_cons_succ, List.getElem?_nil, List.nil_append, List.cons_append, List.append_nil, List.flatten_cons, List.flatten_nil, ite_true, ite_false, reduceIte, ne_eq, eq_self, Nat.reduceAdd, Nat.reduceSub, Nat.reduceMul, Nat.reduceLeDiff, Nat.reduceEqDiff, Nat.reduceBEq, reduceCtorEq, Int.reduceToNat, List.elem_nil, List.elem_cons, Int.reduceLT, Int.reduceLE, Int.reduceEq, Int.reduceAdd, Int.reduceSub, Int.reduceNeg, capnY, appzY, List.all_append, List.take_append, List.drop_append, List.length_append, tmA, tmC_eq, Tm.kind, Tm.num, Tm.name, Tm.args]
    exact Ans.some (.pure (by simp [pureA, pureL, pure_rows]))
  · cases h
theorem ratom_one : HookOne Tryz.prog 56 (pureF atomS) := by
  refine HookOne.ofPureF (by decide +kernel) fun args y h H => ?_
  unfold atomS at h; split at h
  · rename_i nm
    cases h
    refine ACalls.ofRun (l := []) (by simp) mixed (draws _ rfl) yRAtom_ok rfl (by rfl) 0 ?_ H
    simp only [yRAtom, xinit_1, ↓axP, axQ, ↓if_true, ↓if_false, List.all_cons, List.all_nil, List.length_cons, List.length_nil, List.take_succ_cons, List.take_zero, List.take_nil, List.drop_succ_cons, List.drop_zero, List.drop_nil, List.getElem?_cons_zero, List.getElem?_cons_succ, List.getElem?_nil, List.nil_append, List.cons_append, List.append_nil, List.flatten_cons, List.flatten_nil, ite_true, ite_false, reduceIte, ne_eq, eq_self, Nat.reduceAdd, Nat.reduceSub, Nat.reduceMul, Nat.reduceLeDiff, Nat.reduceEqDiff, Nat.reduceBEq, reduceCtorEq, Int.reduceToNat, List.elem_nil, List.elem_cons, Int.reduceLT, Int.reduceLE, Int.reduceEq, Int.reduceAdd, Int.reduceSub, Int.reduceNeg, capnY, appzY, List.all_append, List.take_append, List.drop_append, List.length_append, tmA, tmC_eq, Tm.kind, Tm.num, Tm.name, Tm.args, List.map_nil]
    refine Ans.some (.ofAgg (.cons (.pure rfl) (.cons (.pure rfl) (.cons (.pure rfl) (.cons (.nils 4) (.nil _))))))
  · cases h
/-- What may be asked of the document's of. -/
def RG (n : Nat) (t : Tm) : Prop := RC n t ∧ t.allG = true
theorem allsG_mem {l : List Tm} (h : Tm.allsG l = true) {x : Tm} (hx : x ∈ l) : x.allG = true := by
  induction l with
  | nil => cases hx
  | cons y l ih =>
    simp only [Tm.allsG, Bool.and_eq_true] at h
    rcases List.mem_cons.1 hx with rfl | hx
    · exact h.1
    · exact ih h.2 hx
theorem RG.arg {n : Nat} {t x : Tm} (h : RG (n + 1) t) (hx : x ∈ t.args) : RG n x := by
  refine ⟨h.1.arg hx, ?_⟩
  have := h.2
  rw [allG_eq, Bool.and_eq_true] at this
  exact allsG_mem this.2 hx
theorem RG.up {n : Nat} {t : Tm} (h : RG n t) : RG (n + 1) t := ⟨h.1.up, h.2⟩
theorem RG.kind {n : Nat} {t : Tm} (h : RG n t) : t.kind ≤ 2 := by
  have := h.2
  rw [allG_eq, Bool.and_eq_true] at this
  have := this.1
  unfold goneP at this
  by_cases h0 : t.kind = 0
  · omega
  · by_cases h1 : t.kind = 1
    · omega
    · by_cases h2 : t.kind = 2
      · omega
      · simp [h0, h1, h2] at this
noncomputable def rofS (n : Nat) : List AV → Option AV
  | [x] => (ofT x).bind fun t => only (RG n t) (some (.tup [glV (rowF n t).1, .int .i64 (rowF n t).2]))
  | _ => none
theorem rofS_eq {n : Nat} {t : Tm} (h : RG n t) : rofS n [.agg (tmC t)] = some (.tup [glV (rowF n t).1, .int .i64 (rowF n t).2]) := by
  show (ofT (tmA t)).bind _ = _
  rw [ofT_tm]; exact only_eq h _
noncomputable def rtwoS (n : Nat) : List AV → Option AV
  | [x, y] => (ofT x).bind fun a => (ofT y).bind fun b => only (RG n a ∧ RG n b) (some (.tup [glV (rowsW (rowF n) [a, b]).1.flatten, .int .i64 (rowsW (rowF n) [a, b]).2]))
  | _ => none
theorem rtwoS_eq {n : Nat} {a b : Tm} (h : RG n a ∧ RG n b) : rtwoS n [.agg (tmC a), .agg (tmC b)] = some (.tup [glV (rowsW (rowF n) [a, b]).1.flatten, .int .i64 (rowsW (rowF n) [a, b]).2]) := by
  show (ofT (tmA a)).bind (fun a => (ofT (tmA b)).bind _) = _
  rw [ofT_tm, Option.bind_some, ofT_tm]; exact only_eq h _
theorem rtwo_one {n : Nat} (hof : HookOne Tryz.prog 53 (pureF (rofS n))) : HookOne Tryz.prog 81 (pureF (rtwoS n)) := by
  refine HookOne.ofPureF (by decide +kernel) fun args y h H => ?_
  have hl : ∀ e ∈ [(53, pureF (rofS n))], HookOne Tryz.prog e.1 e.2 := by
    intro e he; simp at he; subst he; exact hof
  unfold rtwoS at h; split at h
  · rename_i x y
    rw [Option.bind_eq_some_iff] at h
    obtain ⟨a, h1, h2⟩ := h
    rw [Option.bind_eq_some_iff] at h2
    obtain ⟨b, h3, h4⟩ := h2
    obtain ⟨⟨hA, hB⟩, h5⟩ := only_ok h4
    cases h5
    obtain rfl := ofT_ok h1
    obtain rfl := ofT_ok h3
    refine ACalls.ofRun hl mixed (draws _ rfl) yRtwo_ok rfl (by simp [pureL, pure_tmA]) 0 ?_ H
    unfold tmA
    have la := rowF_len n a
    have lb := rowF_len n b
    have sa := hA.1.2.2
    have sb := hB.1.2.2
    by_cases ea : (rowF n a).2 = 0
    · by_cases eb : (rowF n b).2 = 0
      · have hw : rowsW (rowF n) [a, b] = ([(rowF n a).1, (rowF n b).1], 0) := by simp [rowsW, ea, eb]
        rw [hw]
        simp only [List.flatten_cons, List.flatten_nil, List.append_nil]
        generalize hga : (rowF n a).1 = p at la
        generalize hgb : (rowF n b).1 = q at lb
        have l6 : ((p.map glC).flatten).take (p.length * 6) = (p.map glC).flatten := List.take_of_length_le (by rw [flat6]; omega)
        have u6 : (p.length * 6 ≤ ((p.map glC).flatten).length) = True := by rw [flat6]; simp
        by_cases hp : p.length = 0
        · obtain rfl := List.eq_nil_of_length_eq_zero hp
          by_cases hq : q.length = 0
          · obtain rfl := List.eq_nil_of_length_eq_zero hq
            simp (maxSteps := 1000000) (disch := omega) only [yRtwo, xinit_2, ↓axP, axQ, ↓if_true, ↓if_false, List.all_cons, List.all_nil, List.length_cons, List.length_nil, List.take_succ_cons, List.take_zero, List.take_nil, List.drop_succ_cons, List.drop_zero, List.drop_nil, List.getElem?_cons_zero, List.getElem?_cons_succ, List.getElem?_nil, List.nil_append, List.cons_append, List.append_nil, List.flatten_cons, List.flatten_nil, ite_true, ite_false, reduceIte, ne_eq, eq_self, Nat.reduceAdd, Nat.reduceSub, Nat.reduceMul, Nat.reduceLeDiff, Nat.reduceEqDiff, Nat.reduceBEq, reduceCtorEq, Int.reduceToNat, List.elem_nil, List.elem_cons, Int.reduceLT, Int.reduceLE, Int.reduceEq, Int.reduceAdd, Int.reduceSub, Int.reduceNeg, capnY, appzY, List.all_append, List.take_append, List.drop_append, List.length_append, tmC_len, tmC_0, tmC_1, tmC_2, tmC_3, tmC_take, tmC_drop, tmC_one, tmC_ne, rofS_eq hA, rofS_eq hB, ea, eb, hga, hgb, lc_glV]
            exact Ans.some (.ofTup (.cons (.zslc 6) (.cons (.pure rfl) (.nil _))))
          · have q1 : (q.length * 88 ≤ 140737488355328) = True := eq_true (by omega)
            have q2 : (q.length ≤ 9223372036854775807) = True := eq_true (by omega)
            simp (maxSteps := 1000000) (disch := omega) only [yRtwo, xinit_2, ↓axP, axQ, ↓if_true, ↓if_false, List.all_cons, List.all_nil, List.length_cons, List.length_nil, List.take_succ_cons, List.take_zero, List.take_nil, List.drop_succ_cons, List.drop_zero, List.drop_nil, List.getElem?_cons_zero, List.getElem?_cons_succ, List.getElem?_nil, List.nil_append, List.cons_append, List.append_nil, List.flatten_cons, List.flatten_nil, ite_true, ite_false, reduceIte, ne_eq, eq_self, Nat.reduceAdd, Nat.reduceSub, Nat.reduceMul, Nat.reduceLeDiff, Nat.reduceEqDiff, Nat.reduceBEq, reduceCtorEq, Int.reduceToNat, List.elem_nil, List.elem_cons, Int.reduceLT, Int.reduceLE, Int.reduceEq, Int.reduceAdd, Int.reduceSub, Int.reduceNeg, capnY, appzY, List.all_append, List.take_append, List.drop_append, List.length_append, tmC_len, tmC_0, tmC_1, tmC_2, tmC_3, tmC_take, tmC_drop, tmC_one, tmC_ne, rofS_eq hA, rofS_eq hB, ea, eb, hga, hgb, lc_glV, hq, q1, q2]
            exact Ans.some (.ofTup (.cons (Fz.ofSlc (by simp only [↓axP, axQ, ↓if_true, ↓if_false, List.all_cons, List.all_nil, List.length_cons, List.length_nil, List.take_succ_cons, List.take_zero, List.take_nil, List.drop_succ_cons, List.drop_zero, List.drop_nil, List.getElem?_cons_zero, List.getElem?_cons_succ, List.getElem?_nil, List.nil_append, List.cons_append, List.append_nil, List.flatten_cons, List.flatten_nil, ite_true, ite_false, reduceIte, ne_eq, eq_self, Nat.reduceAdd, Nat.reduceSub, Nat.reduceMul, Nat.reduceLeDiff, Nat.reduceEqDiff, Nat.reduceBEq, reduceCtorEq, Int.reduceToNat, List.elem_nil, List.elem_cons, Int.reduceLT, Int.reduceLE, Int.reduceEq, Int.reduceAdd, Int.reduceSub, Int.reduceNeg, capnY, appzY, List.all_append, List.take_append, List.drop_append, List.length_append]; rfl) (by simp) (by simpa using rows6 q) (by simpa using FzL.pure (pure6 q))) (.cons (.pure rfl) (.nil _))))
        · have p1 : (p.length * 88 ≤ 140737488355328) = True := eq_true (by omega)
          have p2 : (p.length ≤ 9223372036854775807) = True := eq_true (by omega)
          by_cases hq : q.length = 0
          · obtain rfl := List.eq_nil_of_length_eq_zero hq
            simp (maxSteps := 1000000) (disch := omega) only [yRtwo, xinit_2, ↓axP, axQ, ↓if_true, ↓if_false, List.all_cons, List.all_nil, List.length_cons, List.length_nil, List.take_succ_cons, List.take_zero, List.take_nil, List.drop_succ_cons, List.drop_zero, List.drop_nil, List.getElem?_cons_zero, List.getElem?_cons_succ, List.getElem?_nil, List.nil_append, List.cons_append, List.append_nil, List.flatten_cons, List.flatten_nil, ite_true, ite_false, reduceIte, ne_eq, eq_self, Nat.reduceAdd, Nat.reduceSub, Nat.reduceMul, Nat.reduceLeDiff, Nat.reduceEqDiff, Nat.reduceBEq, reduceCtorEq, Int.reduceToNat, List.elem_nil, List.elem_cons, Int.reduceLT, Int.reduceLE, Int.reduceEq, Int.reduceAdd, Int.reduceSub, Int.reduceNeg, capnY, appzY, List.all_append, List.take_append, List.drop_append, List.length_append, tmC_len, tmC_0, tmC_1, tmC_2, tmC_3, tmC_take, tmC_drop, tmC_one, tmC_ne, rofS_eq hA, rofS_eq hB, ea, eb, hga, hgb, lc_glV, hp, p1, p2]
            exact Ans.some (.ofTup (.cons (Fz.ofSlc (by simp only [↓axP, axQ, ↓if_true, ↓if_false, List.all_cons, List.all_nil, List.length_cons, List.length_nil, List.take_succ_cons, List.take_zero, List.take_nil, List.drop_succ_cons, List.drop_zero, List.drop_nil, List.getElem?_cons_zero, List.getElem?_cons_succ, List.getElem?_nil, List.nil_append, List.cons_append, List.append_nil, List.flatten_cons, List.flatten_nil, ite_true, ite_false, reduceIte, ne_eq, eq_self, Nat.reduceAdd, Nat.reduceSub, Nat.reduceMul, Nat.reduceLeDiff, Nat.reduceEqDiff, Nat.reduceBEq, reduceCtorEq, Int.reduceToNat, List.elem_nil, List.elem_cons, Int.reduceLT, Int.reduceLE, Int.reduceEq, Int.reduceAdd, Int.reduceSub, Int.reduceNeg, capnY, appzY, List.all_append, List.take_append, List.drop_append, List.length_append]; rfl) (by simp) (by simpa using rows6 p) (by simpa using FzL.pure (pure6 p))) (.cons (.pure rfl) (.nil _))))
          · have q1 : ((p.length + q.length) * 88 ≤ 140737488355328) = True := eq_true (by omega)
            have q2 : (p.length + q.length ≤ 9223372036854775807) = True := eq_true (by omega)
            simp (maxSteps := 1000000) (disch := omega) only [yRtwo, xinit_2, ↓axP, axQ, ↓if_true, ↓if_false, List.all_cons, List.all_nil, List.length_cons, List.length_nil, List.take_succ_cons, List.take_zero, List.take_nil, List.drop_succ_cons, List.drop_zero, List.drop_nil, List.getElem?_cons_zero, List.getElem?_cons_succ, List.getElem?_nil, List.nil_append, List.cons_append, List.append_nil, List.flatten_cons, List.flatten_nil, ite_true, ite_false, reduceIte, ne_eq, eq_self, Nat.reduceAdd, Nat.reduceSub, Nat.reduceMul, Nat.reduceLeDiff, Nat.reduceEqDiff, Nat.reduceBEq, reduceCtorEq, Int.reduceToNat, List.elem_nil, List.elem_cons, Int.reduceLT, Int.reduceLE, Int.reduceEq, Int.reduceAdd, Int.reduceSub, Int.reduceNeg, capnY, appzY, List.all_append, List.take_append, List.drop_append, List.length_append, tmC_len, tmC_0, tmC_1, tmC_2, tmC_3, tmC_take, tmC_drop, tmC_one, tmC_ne, rofS_eq hA, rofS_eq hB, ea, eb, hga, hgb, lc_glV, hp, p1, p2, hq, q1, q2, l6, u6]
            exact Ans.some (.ofTup (.cons (Fz.ofSlc (by simp only [↓axP, axQ, ↓if_true, ↓if_false, List.all_cons, List.all_nil, List.length_cons, List.length_nil, List.take_succ_cons, List.take_zero, List.take_nil, List.drop_succ_cons, List.drop_zero, List.drop_nil, List.getElem?_cons_zero, List.getElem?_cons_succ, List.getElem?_nil, List.nil_append, List.cons_append, List.append_nil, List.flatten_cons, List.flatten_nil, ite_true, ite_false, reduceIte, ne_eq, eq_self, Nat.reduceAdd, Nat.reduceSub, Nat.reduceMul, Nat.reduceLeDiff, Nat.reduceEqDiff, Nat.reduceBEq, reduceCtorEq, Int.reduceToNat, List.elem_nil, List.elem_cons, Int.reduceLT, Int.reduceLE, Int.reduceEq, Int.reduceAdd, Int.reduceSub, Int.reduceNeg, capnY, appzY, List.all_append, List.take_append, List.drop_append, List.length_append]; rfl) (by simp) (by simpa using rows6 (p ++ q)) (by simpa using FzL.pure (pure6 (p ++ q)))) (.cons (.pure rfl) (.nil _))))
      · have hw : rowsW (rowF n) [a, b] = ([], (rowF n b).2) := by simp [rowsW, ea, eb]
        rw [hw]
        simp (maxSteps := 1000000) (disch := omega) only [yRtwo, xinit_2, ↓axP, axQ, ↓if_true, ↓if_false, List.all_cons, List.all_nil, List.length_cons, List.length_nil, List.take_succ_cons, List.take_zero, List.take_nil, List.drop_succ_cons, List.drop_zero, List.drop_nil, List.getElem?_cons_zero, List.getElem?_cons_succ, List.getElem?_nil, List.nil_append, List.cons_append, List.append_nil, List.flatten_cons, List.flatten_nil, ite_true, ite_false, reduceIte, ne_eq, eq_self, Nat.reduceAdd, Nat.reduceSub, Nat.reduceMul, Nat.reduceLeDiff, Nat.reduceEqDiff, Nat.reduceBEq, reduceCtorEq, Int.reduceToNat, List.elem_nil, List.elem_cons, Int.reduceLT, Int.reduceLE, Int.reduceEq, Int.reduceAdd, Int.reduceSub, Int.reduceNeg, capnY, appzY, List.all_append, List.take_append, List.drop_append, List.length_append, tmC_len, tmC_0, tmC_1, tmC_2, tmC_3, tmC_take, tmC_drop, tmC_one, tmC_ne, rofS_eq hA, rofS_eq hB, ea, eb]
        exact Ans.some (.ofTup (.cons (.nils 6) (.cons (.pure rfl) (.nil _))))
    · have hw : rowsW (rowF n) [a, b] = ([], (rowF n a).2) := by simp [rowsW, ea]
      rw [hw]
      simp (maxSteps := 1000000) (disch := omega) only [yRtwo, xinit_2, ↓axP, axQ, ↓if_true, ↓if_false, List.all_cons, List.all_nil, List.length_cons, List.length_nil, List.take_succ_cons, List.take_zero, List.take_nil, List.drop_succ_cons, List.drop_zero, List.drop_nil, List.getElem?_cons_zero, List.getElem?_cons_succ, List.getElem?_nil, List.nil_append, List.cons_append, List.append_nil, List.flatten_cons, List.flatten_nil, ite_true, ite_false, reduceIte, ne_eq, eq_self, Nat.reduceAdd, Nat.reduceSub, Nat.reduceMul, Nat.reduceLeDiff, Nat.reduceEqDiff, Nat.reduceBEq, reduceCtorEq, Int.reduceToNat, List.elem_nil, List.elem_cons, Int.reduceLT, Int.reduceLE, Int.reduceEq, Int.reduceAdd, Int.reduceSub, Int.reduceNeg, capnY, appzY, List.all_append, List.take_append, List.drop_append, List.length_append, tmC_len, tmC_0, tmC_1, tmC_2, tmC_3, tmC_take, tmC_drop, tmC_one, tmC_ne, rofS_eq hA, rofS_eq hB, ea]
      exact Ans.some (.ofTup (.cons (.nils 6) (.cons (.pure rfl) (.nil _))))
  · cases h
noncomputable def rrowsS (n : Nat) : List AV → Option AV
  | [.int .i64 k, x] => (ofLs x).bind fun l => only (l.length ≤ 1000 ∧ ∀ t ∈ l, RG n t) (some (.tup [glV (nestW (rowF n) k l).1, .int .i64 (nestW (rowF n) k l).2]))
  | _ => none
theorem rrowsS_eq {n : Nat} {k : Int} {l : List Tm} (h : l.length ≤ 1000 ∧ ∀ t ∈ l, RG n t) : rrowsS n [.int .i64 k, .vals 4 (l.map tmC)] = some (.tup [glV (nestW (rowF n) k l).1, .int .i64 (nestW (rowF n) k l).2]) := by
  simp only [rrowsS, ofLs_eq, Option.bind_some]; exact only_eq h _
def RowJ (k : Int) (H : AH) (o : AV) (R : List (List Gl)) : Prop :=
  H.wf ∧ 1 ≤ H.next ∧ H.gs.get 0 = some ⟨0, 0, [.int .i64 k, .int .i64 0, .int .i64 0, .str [], .nils, o]⟩ ∧ Ows H o 1 (R.map glV) R.length ∧ OB 1 o
theorem glV_one' (r : List Gl) : (glV r).one = true := (rfl)
set_option maxHeartbeats 1000000 in
theorem rrows_loop {n : Nat} (F0 : Nat) (k : Int) (l : List Tm) (hl : l.length ≤ 1000) : ∀ (l2 l1 : List Tm) (R : List (List Gl)) (o : AV) (H : AH) (F : Nat), l1.length = R.length → l = l1 ++ l2 → (∀ t ∈ l2, RG n t) → RowJ k H o R → l2.length < F →
    ((rowsW (rowF n) l2).2 = 0 → ∃ o' H', iter (ycode (tcall [(53, pureF (rofS n))]) F0 yRrowsa) F (mk [(1, .vals 4 (l.map tmC)), (6, .ptr 0 0 0), (7, .int .i64 R.length)]) H = some (.exit 0, mk [(6, .ptr 0 0 0)], H') ∧ RowJ k H' o' (R ++ (rowsW (rowF n) l2).1)) ∧
    ((rowsW (rowF n) l2).2 ≠ 0 → ∃ H', iter (ycode (tcall [(53, pureF (rofS n))]) F0 yRrowsa) F (mk [(1, .vals 4 (l.map tmC)), (6, .ptr 0 0 0), (7, .int .i64 R.length)]) H = some (.ret, mk [(4, .nils), (5, .int .i64 (rowsW (rowF n) l2).2)], H')) := by
  intro l2
  induction l2 with
  | nil =>
    intro l1 R o H F h1 h2 h3 h4 h6
    obtain ⟨m, rfl⟩ := iter_pos (f := fun _ _ => none) (n := F) (by omega)
    have hlt : ((R.length : Int) < (l.length : Int)) = False := by subst h2; simp; omega
    refine ⟨fun _ => ⟨o, H, ?_, by simpa [rowsW] using h4⟩, fun h => absurd rfl h⟩
    rw [iter_one]
    simp (maxSteps := 1000000) (disch := omega) only [yRrowsa_r, yRrowsa_, ↓axP, axQ, ↓if_true, ↓if_false, List.all_cons, List.all_nil, List.length_cons, List.length_nil, List.take_succ_cons, List.take_zero, List.take_nil, List.drop_succ_cons, List.drop_zero, List.drop_nil, List.getElem?_cons_zero, List.getElem?_cons_succ, List.getElem?_nil, List.nil_append, List.cons_append, List.append_nil, List.flatten_cons, List.flatten_nil, ite_true, ite_false, reduceIte, ne_eq, eq_self, Nat.reduceAdd, Nat.reduceSub, Nat.reduceMul, Nat.reduceLeDiff, Nat.reduceEqDiff, Nat.reduceBEq, reduceCtorEq, Int.reduceToNat, List.elem_nil, List.elem_cons, Int.reduceLT, Int.reduceLE, Int.reduceEq, Int.reduceAdd, Int.reduceSub, Int.reduceNeg, capnY, appzY, List.all_append, List.take_append, List.drop_append, List.length_append, List.length_map, hlt]
  | cons t l2 ih =>
    intro l1 R o H F h1 h2 h3 h4 h6
    obtain ⟨m, rfl⟩ := iter_pos (f := fun _ _ => none) (n := F) (by omega)
    have hlt : ((R.length : Int) < (l.length : Int)) = True := by subst h2; simp; omega
    have hget : (l.map tmC)[R.length]? = some (tmC t) := by subst h2; rw [← h1]; simp
    have h0 : (0 : Int) ≤ (R.length : Int) := by omega
    have hR : R.length + 1 ≤ 1000 := by subst h2; simp at hl; omega
    have hr := rofS_eq (h3 t (List.mem_cons_self ..))
    rw [iter_one]
    by_cases hz : (rowF n t).2 = 0
    · obtain ⟨w1, w2, g0, w3, w4⟩ := h4
      obtain ⟨nx, gs, ms⟩ := H
      simp only at g0 w2
      have e8 := wf_mk w1
      have q0 : (0 = nx) = False := eq_false (by omega)
      have wfA : AH.wf ⟨nx + 1, gs.set nx ⟨0, 0, [glV (rowF n t).1]⟩, ms⟩ := wf_add w1 _
      have owA : Ows ⟨nx + 1, gs.set nx ⟨0, 0, [glV (rowF n t).1]⟩, ms⟩ o 1 (R.map glV) R.length := w3.add _
      obtain ⟨v', H', e1, e2, e3, e4, e5, e6⟩ := own_app (x := .slc nx 0 0 1 1) (z := 1) (b := 24) (m := 1) (xs := [glV (rowF n t).1]) owA wfA (by simp only [↓axP, axQ, ↓if_true, ↓if_false, List.all_cons, List.all_nil, List.length_cons, List.length_nil, List.take_succ_cons, List.take_zero, List.take_nil, List.drop_succ_cons, List.drop_zero, List.drop_nil, List.getElem?_cons_zero, List.getElem?_cons_succ, List.getElem?_nil, List.nil_append, List.cons_append, List.append_nil, List.flatten_cons, List.flatten_nil, ite_true, ite_false, reduceIte, ne_eq, eq_self, Nat.reduceAdd, Nat.reduceSub, Nat.reduceMul, Nat.reduceLeDiff, Nat.reduceEqDiff, Nat.reduceBEq, reduceCtorEq, Int.reduceToNat, List.elem_nil, List.elem_cons, Int.reduceLT, Int.reduceLE, Int.reduceEq, Int.reduceAdd, Int.reduceSub, Int.reduceNeg, capnY, appzY, List.all_append, List.take_append, List.drop_append, List.length_append]) rfl (by omega) (by omega) (by omega)
      have f0 : H'.gs.get 0 = some ⟨0, 0, [.int .i64 k, .int .i64 0, .int .i64 0, .str [], .nils, o]⟩ := by rw [e4.get w4 (by omega) (by show 0 < nx + 1; omega)]; show (gs.set nx _).get 0 = _; rw [Tr.get_set_ne _ _ (by omega)]; exact g0
      have o' := e6 1 (by show 1 ≤ nx + 1; omega) w4
      have hn1 : 1 ≤ H'.next := Nat.le_trans (by show 1 ≤ nx + 1; omega) e4.1
      have hL : R.length + 1 = (R ++ [(rowF n t).1]).length := by simp
      have hC : R.map glV ++ [glV (rowF n t).1] = (R ++ [(rowF n t).1]).map glV := by simp
      rw [hL, hC] at e2
      have IH := ih (l1 ++ [t]) (R ++ [(rowF n t).1]) v' ⟨H'.next, H'.gs.set 0 ⟨0, 0, [.int .i64 k, .int .i64 0, .int .i64 0, .str [], .nils, v']⟩, H'.ms⟩ m (by simp [h1]) (by simp [h2]) (fun x hx => h3 x (List.mem_cons_of_mem _ hx))
        ⟨wf_set' e3 (by omega) _, hn1, Tr.get_set_same _ _ _, e2.set o' (by omega) _, o'⟩ (by simp at h6; omega)
      rw [← hL] at IH
      simp only [Int.natCast_add, Int.natCast_one] at IH
      have hW1 : (rowsW (rowF n) (t :: l2)).2 = (rowsW (rowF n) l2).2 := by
        simp only [rowsW, hz, if_true]
        split
        · rename_i h; exact h.symm
        · rfl
      refine ⟨fun h => ?_, fun h => ?_⟩
      · rw [hW1] at h
        obtain ⟨o2, H2, k1, k2⟩ := IH.1 h
        have : (rowsW (rowF n) (t :: l2)).1 = (rowF n t).1 :: (rowsW (rowF n) l2).1 := by simp [rowsW, hz, h]
        refine ⟨o2, H2, ?_, by rw [this]; simpa using k2⟩
        simp (maxSteps := 1000000) (disch := omega) only [yRrowsa_r, yRrowsa_, ↓axP, axQ, ↓if_true, ↓if_false, List.all_cons, List.all_nil, List.length_cons, List.length_nil, List.take_succ_cons, List.take_zero, List.take_nil, List.drop_succ_cons, List.drop_zero, List.drop_nil, List.getElem?_cons_zero, List.getElem?_cons_succ, List.getElem?_nil, List.nil_append, List.cons_append, List.append_nil, List.flatten_cons, List.flatten_nil, ite_true, ite_false, reduceIte, ne_eq, eq_self, Nat.reduceAdd, Nat.reduceSub, Nat.reduceMul, Nat.reduceLeDiff, Nat.reduceEqDiff, Nat.reduceBEq, reduceCtorEq, Int.reduceToNat, List.elem_nil, List.elem_cons, Int.reduceLT, Int.reduceLE, Int.reduceEq, Int.reduceAdd, Int.reduceSub, Int.reduceNeg, capnY, appzY, List.all_append, List.take_append, List.drop_append, List.length_append, tmC_len, tmC_0, tmC_1, tmC_2, tmC_3, tmC_take, tmC_drop, tmC_one, tmC_ne, List.length_map, hlt, h0, hget, Int.toNat_natCast, e8, hr, hz, glV_cells, glV_fit, q0, g0, e1, f0, e2.fit, e2.cell, k1]
      · obtain ⟨H2, k1⟩ := IH.2 (by rw [← hW1]; exact h)
        refine ⟨H2, ?_⟩
        rw [hW1]
        simp (maxSteps := 1000000) (disch := omega) only [yRrowsa_r, yRrowsa_, ↓axP, axQ, ↓if_true, ↓if_false, List.all_cons, List.all_nil, List.length_cons, List.length_nil, List.take_succ_cons, List.take_zero, List.take_nil, List.drop_succ_cons, List.drop_zero, List.drop_nil, List.getElem?_cons_zero, List.getElem?_cons_succ, List.getElem?_nil, List.nil_append, List.cons_append, List.append_nil, List.flatten_cons, List.flatten_nil, ite_true, ite_false, reduceIte, ne_eq, eq_self, Nat.reduceAdd, Nat.reduceSub, Nat.reduceMul, Nat.reduceLeDiff, Nat.reduceEqDiff, Nat.reduceBEq, reduceCtorEq, Int.reduceToNat, List.elem_nil, List.elem_cons, Int.reduceLT, Int.reduceLE, Int.reduceEq, Int.reduceAdd, Int.reduceSub, Int.reduceNeg, capnY, appzY, List.all_append, List.take_append, List.drop_append, List.length_append, tmC_len, tmC_0, tmC_1, tmC_2, tmC_3, tmC_take, tmC_drop, tmC_one, tmC_ne, List.length_map, hlt, h0, hget, Int.toNat_natCast, e8, hr, hz, glV_cells, glV_fit, q0, g0, e1, f0, e2.fit, e2.cell, k1]
    · have hW : rowsW (rowF n) (t :: l2) = ([], (rowF n t).2) := by simp [rowsW, hz]
      rw [hW]
      refine ⟨fun h => absurd h hz, fun _ => ⟨H, ?_⟩⟩
      simp (maxSteps := 1000000) (disch := omega) only [yRrowsa_r, yRrowsa_, ↓axP, axQ, ↓if_true, ↓if_false, List.all_cons, List.all_nil, List.length_cons, List.length_nil, List.take_succ_cons, List.take_zero, List.take_nil, List.drop_succ_cons, List.drop_zero, List.drop_nil, List.getElem?_cons_zero, List.getElem?_cons_succ, List.getElem?_nil, List.nil_append, List.cons_append, List.append_nil, List.flatten_cons, List.flatten_nil, ite_true, ite_false, reduceIte, ne_eq, eq_self, Nat.reduceAdd, Nat.reduceSub, Nat.reduceMul, Nat.reduceLeDiff, Nat.reduceEqDiff, Nat.reduceBEq, reduceCtorEq, Int.reduceToNat, List.elem_nil, List.elem_cons, Int.reduceLT, Int.reduceLE, Int.reduceEq, Int.reduceAdd, Int.reduceSub, Int.reduceNeg, capnY, appzY, List.all_append, List.take_append, List.drop_append, List.length_append, tmC_len, tmC_0, tmC_1, tmC_2, tmC_3, tmC_take, tmC_drop, tmC_one, tmC_ne, List.length_map, hlt, h0, hget, Int.toNat_natCast, hr, hz]
end Go.Proofs.YtcnnobcncklgfaaGreatDoor
