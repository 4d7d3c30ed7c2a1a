/- The contract of the document's Same of terms. -/
import Derived.Test.YtcnnobcncklgfaaGreatDoorSymB6
import Derived.Test.YtcnnobcncklgfaaGreatDoorSymB3
namespace Go.Proofs.YtcnnobcncklgfaaGreatDoor
open Go Go.Abs Go.RowKit
set_option linter.unusedVariables false
set_option linter.unusedSimpArgs false
attribute [local congr] on_congr br_congr onf_congr
/-- Same of one and the same. -/
noncomputable def tsameS (n : Nat) : List AV → Option AV
  | [x, y] => (ofT x).bind fun a => only (y = tmA a ∧ a.height ≤ n ∧ Fine 1000 a) (some (.bool true))
  | _ => none
theorem tsameS_eq {n : Nat} {a : Tm} (h : a.height ≤ n ∧ Fine 1000 a) : tsameS n [.agg (tmC a), .agg (tmC a)] = some (.bool true) := by
  show (ofT (tmA a)).bind _ = _
  rw [ofT_tm]; exact only_eq (by exact ⟨rfl, h⟩) _
theorem tsame_loop {n : Nat} (F0 : Nat) (t : Tm) (hl : t.args.length ≤ 1000) : ∀ (l2 l1 : List Tm) (nx F : Nat), t.args = l1 ++ l2 → (∀ x ∈ l2, x.height ≤ n ∧ Fine 1000 x) → l2.length < F →
    ∃ nx', iter (ycode (tcall [(24, pureF (tsameS n))]) F0 yTSamea) F (mk [(2, .ptr 0 0 0), (3, .ptr 1 0 0), (5, .int .i64 l1.length)]) ⟨nx, (Tr.nil.set 0 ⟨0, 0, tmC t⟩).set 1 ⟨0, 0, tmC t⟩, .nil⟩ = some (.exit 0, mk [], ⟨nx', (Tr.nil.set 0 ⟨0, 0, tmC t⟩).set 1 ⟨0, 0, tmC t⟩, .nil⟩) := by
  intro l2
  induction l2 with
  | nil =>
    intro l1 nx F h1 h2 h4
    obtain ⟨k, rfl⟩ := iter_pos (f := fun _ _ => none) (n := F) (by omega)
    rw [List.append_nil] at h1
    have hlt : ((l1.length : Int) < (t.args.length : Int)) = False := by rw [h1]; simp
    refine ⟨nx, ?_⟩
    rw [iter_one]
    simp (maxSteps := 1000000) (disch := omega) only [yTSamea_r, yTSamea_, ↓axP, axQ, ↓if_true, ↓if_false, List.all_cons, List.all_nil, List.length_cons, List.length_nil, List.take_succ_cons, List.take_zero, List.take_nil, List.drop_succ_cons, List.drop_zero, List.drop_nil, List.getElem?_cons_zero, List.getElem?_cons_succ, List.getElem?_nil, List.nil_append, List.cons_append, List.append_nil, List.flatten_cons, List.flatten_nil, ite_true, ite_false, reduceIte, ne_eq, eq_self, Nat.reduceAdd, Nat.reduceSub, Nat.reduceMul, Nat.reduceLeDiff, Nat.reduceEqDiff, Nat.reduceBEq, reduceCtorEq, Int.reduceToNat, List.elem_nil, List.elem_cons, Int.reduceLT, Int.reduceLE, Int.reduceEq, Int.reduceAdd, Int.reduceSub, Int.reduceNeg, capnY, appzY, List.all_append, List.take_append, List.drop_append, List.length_append, tmC_len, tmC_0, tmC_1, tmC_2, tmC_3, tmC_take, tmC_drop, tmC_one, tmC_ne, hlt, List.length_map]
  | cons x l2 ih =>
    intro l1 nx F h1 h2 h4
    obtain ⟨k, rfl⟩ := iter_pos (f := fun _ _ => none) (n := F) (by omega)
    have hR : l1.length + 1 ≤ 1000 := by rw [h1] at hl; simp at hl; omega
    have hlt : ((l1.length : Int) < (t.args.length : Int)) = True := eq_true (by rw [h1]; simp; omega)
    have hget : (t.args.map tmC)[l1.length]? = some (tmC x) := by rw [h1]; simp
    have hi : (0 : Int) ≤ (l1.length : Int) := by omega
    obtain ⟨nx', IH⟩ := ih (l1 ++ [x]) (nx + 12) k (by simp [h1]) (fun y hy => h2 y (List.mem_cons_of_mem _ hy)) (by simp at h4; omega)
    have hls : (l1 ++ [x]).length = l1.length + 1 := by simp
    rw [hls] at IH
    simp only [Int.natCast_add, Int.natCast_one] at IH
    have hr := tsameS_eq (n := n) (h2 x (List.mem_cons_self ..))
    refine ⟨nx', ?_⟩
    rw [iter_one]
    simp (maxSteps := 1000000) (disch := omega) only [yTSamea_r, yTSamea_, ↓axP, axQ, ↓if_true, ↓if_false, List.all_cons, List.all_nil, List.length_cons, List.length_nil, List.take_succ_cons, List.take_zero, List.take_nil, List.drop_succ_cons, List.drop_zero, List.drop_nil, List.getElem?_cons_zero, List.getElem?_cons_succ, List.getElem?_nil, List.nil_append, List.cons_append, List.append_nil, List.flatten_cons, List.flatten_nil, ite_true, ite_false, reduceIte, ne_eq, eq_self, Nat.reduceAdd, Nat.reduceSub, Nat.reduceMul, Nat.reduceLeDiff, Nat.reduceEqDiff, Nat.reduceBEq, reduceCtorEq, Int.reduceToNat, List.elem_nil, List.elem_cons, Int.reduceLT, Int.reduceLE, Int.reduceEq, Int.reduceAdd, Int.reduceSub, Int.reduceNeg, capnY, appzY, List.all_append, List.take_append, List.drop_append, List.length_append, tmC_len, tmC_0, tmC_1, tmC_2, tmC_3, tmC_take, tmC_drop, tmC_one, tmC_ne, hlt, hi, hget, Int.toNat_natCast, List.length_map, hr, IH]
theorem tsame_step {n : Nat} (hs : HookOne Tryz.prog 24 (pureF (tsameS n))) : HookOne Tryz.prog 24 (pureF (tsameS (n + 1))) := by
  refine HookOne.ofPureF (by decide +kernel) fun args y h H => ?_
  have hl : ∀ e ∈ [(24, pureF (tsameS n))], HookOne Tryz.prog e.1 e.2 := by
    intro e he; simp at he; subst he; exact hs
  unfold tsameS at h; split at h
  · rename_i x y
    rw [Option.bind_eq_some_iff] at h
    obtain ⟨t, h1, h2⟩ := h
    obtain ⟨⟨rfl, hc⟩, h3⟩ := only_ok h2
    cases h3
    obtain rfl := ofT_ok h1
    refine ACalls.ofRun hl mixed (draws _ rfl) yTSame_ok rfl (by simp [pureL, pure_tmA]) (t.args.length + 1) ?_ H
    have hA : ∀ x ∈ t.args, x.height ≤ n ∧ Fine 1000 x := fun x hx => by
      have := height_mem hx
      have h0 := hc.1
      rw [height_eq] at h0
      exact ⟨by omega, hc.2.args.2.1 _ hx⟩
    obtain ⟨nx', q⟩ := tsame_loop (n := n) (t.args.length + 1) t hc.2.args.1 t.args [] 2 (t.args.length + 1) rfl hA (Nat.lt_succ_self _)
    simp only [List.length_nil, Int.natCast_zero] at q
    unfold tmA
    simp (maxSteps := 1000000) (disch := omega) only [yTSame, xinit_2, ↓axP, axQ, ↓if_true, ↓if_false, List.all_cons, List.all_nil, List.length_cons, List.length_nil, List.take_succ_cons, List.take_zero, List.take_nil, List.drop_succ_cons, List.drop_zero, List.drop_nil, List.getElem?_cons_zero, List.getElem?_cons_succ, List.getElem?_nil, List.nil_append, List.cons_append, List.append_nil, List.flatten_cons, List.flatten_nil, ite_true, ite_false, reduceIte, ne_eq, eq_self, Nat.reduceAdd, Nat.reduceSub, Nat.reduceMul, Nat.reduceLeDiff, Nat.reduceEqDiff, Nat.reduceBEq, reduceCtorEq, Int.reduceToNat, List.elem_nil, List.elem_cons, Int.reduceLT, Int.reduceLE, Int.reduceEq, Int.reduceAdd, Int.reduceSub, Int.reduceNeg, capnY, appzY, List.all_append, List.take_append, List.drop_append, List.length_append, tmC_len, tmC_0, tmC_1, tmC_2, tmC_3, tmC_take, tmC_drop, tmC_one, tmC_ne, q, beq_self_eq_true]
    exact Ans.some (.pure rfl)
  · cases h
theorem tsameS_0 (args : List AV) : tsameS 0 args = none := by
  unfold tsameS
  split
  · rename_i x y
    cases ofT x with
    | none => rfl
    | some a => exact only_none (fun h => by have := h.2.1; have := height_pos a; omega) _
  · rfl
theorem tsame_any : ∀ n, HookOne Tryz.prog 24 (pureF (tsameS n)) := lev_any _ (fun h => tsame_step h) tsameS_0 (by decide +kernel)
end Go.Proofs.YtcnnobcncklgfaaGreatDoor
