/- The contracts of slices.Clone at terms, term.Comp, term.Atom. -/
import Derived.Test.YtcnnobcncklgfaaGreatDoorYBody
import Derived.Test.YtcnnobcncklgfaaGreatDoorSymU
import Derived.Test.YtcnnobcncklgfaaGreatDoorAbsS
namespace Go.Proofs.YtcnnobcncklgfaaGreatDoor
open Go Go.Abs Go.RowKit
set_option linter.unusedVariables false
set_option linter.unusedSimpArgs false
attribute [local congr] on_congr br_congr onf_congr
def lsA (l : List Tm) : AV := .vals 4 (l.map tmC)
theorem lsA_inj (l l' : List Tm) (h : lsA l = lsA l') : l = l' := rows_inj (by unfold lsA at h; injection h)
noncomputable def ofLs : AV → Option (List Tm) := back lsA
theorem ofLs_eq (l : List Tm) : ofLs (.vals 4 (l.map tmC)) = some l := back_eq lsA_inj l
theorem rows4 (l : List Tm) : ∀ r ∈ l.map tmC, r.length = 4 := by
  intro r hr
  rw [List.mem_map] at hr
  obtain ⟨t, _, rfl⟩ := hr
  exact tmC_len t
theorem pure_flat {rs : List (List AV)} (h : pureR rs = true) : pureL rs.flatten = true := by
  rw [pureL_all]
  intro x hx
  obtain ⟨r, hr, hxr⟩ := List.mem_flatten.1 hx
  exact (pureL_all r).1 ((pureR_all rs).1 h r hr) x hxr
noncomputable def cloneS : List AV → Option AV
  | [.nils] => some (.vals 4 [])
  | [x] => (ofLs x).bind fun l => only (l ≠ [] ∧ l.length ≤ 1000000000) (some (.vals 4 (l.map tmC)))
  | _ => none
theorem cloneS_eq (l : List Tm) (h : l ≠ [] ∧ l.length ≤ 1000000000) : cloneS [.vals 4 (l.map tmC)] = some (.vals 4 (l.map tmC)) := by
  simp [cloneS, ofLs_eq, only_eq h]
theorem clone_nil : cloneS [.nils] = some (.vals 4 []) := (rfl)
theorem clone_one : HookOne Tryz.prog 44 (pureF cloneS) := by
  refine HookOne.ofPureF (by decide +kernel) fun args y h H => ?_
  unfold cloneS at h; split at h
  · cases h
    refine ACalls.ofRun (l := []) (by simp) mixed (draws _ rfl) yClone_ok rfl (by rfl) 0 ?_ H
    have e : ibin .eql 22 (some (.slice 24)) true .nils .nils = some (.bool true) := rfl
    simp only [yClone, xinit_1, ↓axP, axQ, ↓if_true, ↓if_false, List.all_cons, List.all_nil, List.length_cons, List.length_nil, List.take_succ_cons, List.take_zero, List.take_nil, List.drop_succ_cons, List.drop_zero, List.drop_nil, List.getElem?_cons_zero, List.getElem?_cons_succ, List.getElem?_nil, List.nil_append, List.cons_append, List.append_nil, List.flatten_cons, List.flatten_nil, ite_true, ite_false, reduceIte, ne_eq, eq_self, Nat.reduceAdd, Nat.reduceSub, Nat.reduceMul, Nat.reduceLeDiff, Nat.reduceEqDiff, Nat.reduceBEq, reduceCtorEq, Int.reduceToNat, List.elem_nil, List.elem_cons, Int.reduceLT, Int.reduceLE, Int.reduceEq, Int.reduceAdd, Int.reduceSub, Int.reduceNeg, capnY, appzY, List.all_append, List.take_append, List.drop_append, List.length_append, e]
    exact Ans.some (.nils 4)
  · rename_i x _
    rw [Option.bind_eq_some_iff] at h
    obtain ⟨l, h1, h2⟩ := h
    obtain ⟨⟨hl, hn⟩, h3⟩ := only_ok h2
    cases h3
    obtain rfl := back_ok h1
    unfold lsA
    refine ACalls.ofRun (l := []) (by simp) mixed (draws _ rfl) yClone_ok rfl (by simp [pureL, pureA, pure_rows]) 0 ?_ H
    obtain ⟨t, l', rfl⟩ := List.exists_cons_of_ne_nil hl
    have e : ∀ ts, ibin .eql 22 (some (.slice 24)) true (.vals 4 (tmC t :: ts)) .nils = some (.bool false) := fun ts => (rfl)
    have h0 : ((l'.map tmC).length + 1 = 0) = False := by simp
    have h1 : ((l'.map tmC).length + 1) * 56 ≤ 140737488355328 ∧ (l'.map tmC).length + 1 ≤ 9223372036854775807 := by simp at hn ⊢; omega
    simp only [yClone, xinit_1, ↓axP, axQ, ↓if_true, ↓if_false, List.all_cons, List.all_nil, List.length_cons, List.length_nil, List.take_succ_cons, List.take_zero, List.take_nil, List.drop_succ_cons, List.drop_zero, List.drop_nil, List.getElem?_cons_zero, List.getElem?_cons_succ, List.getElem?_nil, List.nil_append, List.cons_append, List.append_nil, List.flatten_cons, List.flatten_nil, ite_true, ite_false, reduceIte, ne_eq, eq_self, Nat.reduceAdd, Nat.reduceSub, Nat.reduceMul, Nat.reduceLeDiff, Nat.reduceEqDiff, Nat.reduceBEq, reduceCtorEq, Int.reduceToNat, List.elem_nil, List.elem_cons, Int.reduceLT, Int.reduceLE, Int.reduceEq, Int.reduceAdd, Int.reduceSub, Int.reduceNeg, capnY, appzY, List.all_append, List.take_append, List.drop_append, List.length_append, e, List.map_cons, h0, h1]
    refine Ans.some (Fz.ofSlc (by simp only [↓axP, axQ, ↓if_true, ↓if_false, List.all_cons, List.all_nil, List.length_cons, List.length_nil, List.take_succ_cons, List.take_zero, List.take_nil, List.drop_succ_cons, List.drop_zero, List.drop_nil, List.getElem?_cons_zero, List.getElem?_cons_succ, List.getElem?_nil, List.nil_append, List.cons_append, List.append_nil, List.flatten_cons, List.flatten_nil, ite_true, ite_false, reduceIte, ne_eq, eq_self, Nat.reduceAdd, Nat.reduceSub, Nat.reduceMul, Nat.reduceLeDiff, Nat.reduceEqDiff, Nat.reduceBEq, reduceCtorEq, Int.reduceToNat, List.elem_nil, List.elem_cons, Int.reduceLT, Int.reduceLE, Int.reduceEq, Int.reduceAdd, Int.reduceSub, Int.reduceNeg, capnY, appzY, List.all_append, List.take_append, List.drop_append, List.length_append]; rfl) (by simp) (rows4 (t :: l')) ?_)
    exact FzL.pure (pure_flat (pure_rows (t :: l')))
  · cases h
noncomputable def compS : List AV → Option AV
  | [.str nm, .nils] => some (tmA (.mk 2 0 nm []))
  | [.str nm, x] => (ofLs x).bind fun l => only (l ≠ [] ∧ l.length ≤ 1000000000) (some (tmA (.mk 2 0 nm l)))
  | _ => none
theorem compS_eq (nm : List UInt8) (l : List Tm) (h : l ≠ [] ∧ l.length ≤ 1000000000) : compS [.str nm, .vals 4 (l.map tmC)] = some (.agg (tmC (.mk 2 0 nm l))) := by
  simp [compS, ofLs_eq, only_eq h, tmA]
theorem compS_nil (nm : List UInt8) : compS [.str nm, .nils] = some (.agg (tmC (.mk 2 0 nm []))) := (rfl)
theorem comp_one : HookOne Tryz.prog 14 (pureF compS) := by
  refine HookOne.ofPureF (by decide +kernel) fun args y h H => ?_
  have hl : ∀ e ∈ [(44, pureF cloneS)], HookOne Tryz.prog e.1 e.2 := by
    intro e he; simp at he; subst he; exact clone_one
  unfold compS at h; split at h
  · rename_i nm
    cases h
    refine ACalls.ofRun hl mixed (draws _ rfl) yComp_ok rfl (by rfl) 0 ?_ H
    simp only [yComp, xinit_2, ↓axP, axQ, ↓if_true, ↓if_false, List.all_cons, List.all_nil, List.length_cons, List.length_nil, List.take_succ_cons, List.take_zero, List.take_nil, List.drop_succ_cons, List.drop_zero, List.drop_nil, List.getElem?_cons_zero, List.getElem?_cons_succ, List.getElem?_nil, List.nil_append, List.cons_append, List.append_nil, List.flatten_cons, List.flatten_nil, ite_true, ite_false, reduceIte, ne_eq, eq_self, Nat.reduceAdd, Nat.reduceSub, Nat.reduceMul, Nat.reduceLeDiff, Nat.reduceEqDiff, Nat.reduceBEq, reduceCtorEq, Int.reduceToNat, List.elem_nil, List.elem_cons, Int.reduceLT, Int.reduceLE, Int.reduceEq, Int.reduceAdd, Int.reduceSub, Int.reduceNeg, capnY, appzY, List.all_append, List.take_append, List.drop_append, List.length_append, clone_nil, tmA, tmC_eq, Tm.kind, Tm.num, Tm.name, Tm.args, List.map_nil]
    exact Ans.some (.pure rfl)
  · rename_i nm x _
    rw [Option.bind_eq_some_iff] at h
    obtain ⟨l, h1, h2⟩ := h
    obtain ⟨hh, h3⟩ := only_ok h2
    cases h3
    obtain rfl := back_ok h1
    unfold lsA
    refine ACalls.ofRun hl mixed (draws _ rfl) yComp_ok rfl (by simp [pureL, pureA, pure_rows]) 0 ?_ H
    simp only [yComp, xinit_2, ↓axP, axQ, ↓if_true, ↓if_false, List.all_cons, List.all_nil, List.length_cons, List.length_nil, List.take_succ_cons, List.take_zero, List.take_nil, List.drop_succ_cons, List.drop_zero, List.drop_nil, List.getElem?_cons_zero, List.getElem?_cons_succ, List.getElem?_nil, List.nil_append, List.cons_append, List.append_nil, List.flatten_cons, List.flatten_nil, ite_true, ite_false, reduceIte, ne_eq, eq_self, Nat.reduceAdd, Nat.reduceSub, Nat.reduceMul, Nat.reduceLeDiff, Nat.reduceEqDiff, Nat.reduceBEq, reduceCtorEq, Int.reduceToNat, List.elem_nil, List.elem_cons, Int.reduceLT, Int.reduceLE, Int.reduceEq, Int.reduceAdd, Int.reduceSub, Int.reduceNeg, capnY, appzY, List.all_append, List.take_append, List.drop_append, List.length_append, cloneS_eq _ hh, tmA, tmC_eq, Tm.kind, Tm.num, Tm.name, Tm.args]
    exact Ans.some (.pure (by simp [pureA, pureL, pure_rows]))
  · cases h
def atomS : List AV → Option AV
  | [.str nm] => some (tmA (.mk 2 0 nm []))
  | _ => none
theorem atomS_eq (nm : List UInt8) : atomS [.str nm] = some (.agg (tmC (.mk 2 0 nm []))) := (rfl)
theorem atom_one : HookOne Tryz.prog 42 (pureF atomS) := by
  refine HookOne.ofPureF (by decide +kernel) fun args y h H => ?_
  unfold atomS at h; split at h
  · rename_i nm
    cases h
    refine ACalls.ofRun (l := []) (by simp) mixed (draws _ rfl) yAtom_ok rfl (by rfl) 0 ?_ H
    simp only [yAtom, xinit_1, ↓axP, axQ, ↓if_true, ↓if_false, List.all_cons, List.all_nil, List.length_cons, List.length_nil, List.take_succ_cons, List.take_zero, List.take_nil, List.drop_succ_cons, List.drop_zero, List.drop_nil, List.getElem?_cons_zero, List.getElem?_cons_succ, List.getElem?_nil, List.nil_append, List.cons_append, List.append_nil, List.flatten_cons, List.flatten_nil, ite_true, ite_false, reduceIte, ne_eq, eq_self, Nat.reduceAdd, Nat.reduceSub, Nat.reduceMul, Nat.reduceLeDiff, Nat.reduceEqDiff, Nat.reduceBEq, reduceCtorEq, Int.reduceToNat, List.elem_nil, List.elem_cons, Int.reduceLT, Int.reduceLE, Int.reduceEq, Int.reduceAdd, Int.reduceSub, Int.reduceNeg, capnY, appzY, List.all_append, List.take_append, List.drop_append, List.length_append, tmA, tmC_eq, Tm.kind, Tm.num, Tm.name, Tm.args, List.map_nil]
    refine Ans.some (.ofAgg (.cons (.pure rfl) (.cons (.pure rfl) (.cons (.pure rfl) (.cons (.nils 4) (.nil _))))))
  · cases h
end Go.Proofs.YtcnnobcncklgfaaGreatDoor
