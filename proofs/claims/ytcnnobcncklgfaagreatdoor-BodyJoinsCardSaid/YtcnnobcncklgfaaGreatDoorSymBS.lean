/- 'sizarlaw14.BodySays': at every term it returns true. -/
import Derived.Test.YtcnnobcncklgfaaGreatDoorSymB10
import Derived.Test.YtcnnobcncklgfaaGreatDoorSymB4
import Derived.Test.YtcnnobcncklgfaaGreatDoorSymB7
import Derived.Test.YtcnnobcncklgfaaGreatDoorSymOpen
import Derived.Test.YtcnnobcncklgfaaGreatDoorBAw
import Derived.Test.YtcnnobcncklgfaaGreatDoorYBLaw
namespace Go.Proofs.YtcnnobcncklgfaaGreatDoor
open Go Go.Abs Go.RowKit
set_option linter.unusedVariables false
set_option linter.unusedSimpArgs false
attribute [local congr] on_congr br_congr onf_congr
def awakeS : List AV → Option AV
  | [] => some (.bool true)
  | _ => none
theorem awakeS_eq : awakeS [] = some (.bool true) := (rfl)
theorem awake_one : HookOne Tryz.prog 11 (pureF awakeS) := by
  refine HookOne.ofPureF (by decide +kernel) fun args y h H => ?_
  unfold awakeS at h; split at h
  · cases h
    refine plain_call (fun G vs w hM hv => ?_) H
    obtain rfl : vs = #[] := by cases vs; simpa [VRs] using hv
    exact (awakeB_any w).mono fun e w' ⟨he, hb⟩ => ⟨_, he, by simp [VR], hb⟩
  · cases h
theorem fine_le' {N M : Nat} (h : N ≤ M) : ∀ t : Tm, Fine N t → Fine M t
  | t, hf => by
    induction hf with
    | mk k n s l hk hn hs hl hx ih => exact .mk k n s l hk hn hs (by omega) ih
def OB66 (m : Nat) (l : List Gl) : Prop := (WC 20000 l ∧ wtL l ≤ 1000000) ∧ tfL m l
theorem ofP_ok {m : Nat} (hm : 66 ≤ m) {t : Tm} (hf : Fine 1000 t) : OB66 m (ofP t).1 := by
  unfold ofP
  split
  · rename_i hg
    have hr := RC_good hf hg
    have h1 := rowF_wt 64 t
    have h2 := hr.2.2
    exact ⟨⟨⟨by omega, by omega⟩, by omega⟩, rowF_tf 64 t hr (by omega)⟩
  · exact ⟨⟨⟨by simp [wtL], by simp [wtL]⟩, by simp [wtL]⟩, trivial⟩
theorem clause_ok {m : Nat} (hm : 66 ≤ m) {t : Tm} (hf : Fine 1000 t) (ht : t.height ≤ m) : ((clauseP t).1.height ≤ m ∧ Fine 1000 (clauseP t).1) ∧ ((clauseP t).2.1.height ≤ m ∧ Fine 1000 (clauseP t).2.1) := by
  have hz : zT.height ≤ m ∧ Fine 1000 zT := ⟨by simp [zT, Tm.height, Tm.heights]; omega, fine_zT⟩
  have key : ∀ a b : Tm, (a.height ≤ m ∧ Fine 1000 a) → (b.height ≤ m ∧ Fine 1000 b) → ((clauseW t a b).1.height ≤ m ∧ Fine 1000 (clauseW t a b).1) ∧ ((clauseW t a b).2.1.height ≤ m ∧ Fine 1000 (clauseW t a b).2.1) := by
    intro a b ha hb
    have h : clauseW t a b = (a, b, 0) ∨ ∃ e, clauseW t a b = (zT, zT, e) := by
      simp only [clauseW]
      generalize (if a.kind = 0 then (6 : Int) else if a.kind = 1 then 5 else if ctlP a = true then 8 else (ofP b).2) = e
      by_cases he : e = 0
      · exact .inl (if_pos he)
      · exact .inr ⟨e, if_neg he⟩
    rcases h with h | ⟨e, h⟩ <;> rw [h]
    · exact ⟨ha, hb⟩
    · exact ⟨hz, hz⟩
  unfold clauseP
  split
  · split
    · rename_i hc
      obtain ⟨a, b, hab⟩ := args_two (isP_len (m := 2) hc)
      have h1 := hf.args.2.1
      have h2 : ∀ x ∈ t.args, x.height ≤ m := fun x hx => by have := height_mem hx; rw [height_eq] at ht; omega
      rw [hab] at h1 h2 ⊢
      exact key a b ⟨h2 a (by simp), h1 a (by simp)⟩ ⟨h2 b (by simp), h1 b (by simp)⟩
    · exact key t trueT ⟨ht, hf⟩ ⟨by simp [trueT, Tm.height, Tm.heights]; omega, fine_true⟩
  · exact ⟨hz, hz⟩
set_option maxHeartbeats 4000000 in
theorem bsays_run (t : Tm) (hft : Fine maxLen t) (H : AH) : ACalls Tryz.prog 4 [tmA t] H fun y H' => y = .bool true ∧ H' = H := by
  have hl : ∀ e ∈ [(11, pureF awakeS), (12, pureF (deepS 70)), (20, pureF (ownS (max t.height 66))), (13, pureF bofS), (21, pureF bofS), (22, pureF clauseS), (23, pureF clauseS), (17, pureF (goalsS (max t.height 66) 20000)), (16, pureF (rsameS (max t.height 66) 20000)), (24, pureF (tsameS (max t.height 66))), (18, pureF (cntS 20000)), (25, pureF (cntS 20000)), (19, pureF (cutS 20000)), (26, pureF (cutS 20000))], HookOne Tryz.prog e.1 e.2 := by
    intro e he
    simp only [List.mem_cons, List.not_mem_nil, or_false] at he
    rcases he with rfl | rfl | rfl | rfl | rfl | rfl | rfl | rfl | rfl | rfl | rfl | rfl | rfl | rfl
    · exact awake_one
    · exact deep_any14 70
    · exact own_any14 _
    · exact bof_one
    · exact rOf_one
    · exact clause_one
    · exact rclause_one
    · exact goals_any _ _
    · exact rsame_any _ _
    · exact tsame_any _
    · exact cnt_any _
    · exact rcnt_any _
    · exact cut_any _
    · exact rcut_any _
  refine ACalls.ofRun hl mixed (draws _ rfl) yBSays_ok rfl (by simp [pureL, pure_tmA, pureA]) 0 ?_ H
  have da := deepS_eq (m := 70) (n := 70) (t := t) ⟨rfl, by omega⟩
  unfold tmA
  cases ha : deepP 70 t with
  | true =>
    simp (maxSteps := 1000000) (disch := omega) only [yBSays, xinit_1, ↓axP, axQ, ↓if_true, ↓if_false, List.all_cons, List.all_nil, List.length_cons, List.length_nil, List.take_succ_cons, List.take_zero, List.take_nil, List.drop_succ_cons, List.drop_zero, List.drop_nil, List.getElem?_cons_zero, List.getElem?_cons_succ, List.getElem?_nil, List.nil_append, List.cons_append, List.append_nil, List.flatten_cons, List.flatten_nil, ite_true, ite_false, reduceIte, ne_eq, eq_self, Nat.reduceAdd, Nat.reduceSub, Nat.reduceMul, Nat.reduceLeDiff, Nat.reduceEqDiff, Nat.reduceBEq, reduceCtorEq, Int.reduceToNat, List.elem_nil, List.elem_cons, Int.reduceLT, Int.reduceLE, Int.reduceEq, Int.reduceAdd, Int.reduceSub, Int.reduceNeg, capnY, appzY, List.all_append, List.take_append, List.drop_append, List.length_append, tmC_len, tmC_0, tmC_1, tmC_2, tmC_3, tmC_take, tmC_drop, tmC_one, tmC_ne, awakeS_eq, da, ha]
    exact Ans.some (.pure rfl)
  | false =>
    have fa := fine_le' (M := 1000) (by omega) t (deep_fine 70 t ha hft)
    have hm : 66 ≤ max t.height 66 := by omega
    have ot := ownS_eq (n := max t.height 66) (t := t) ⟨by omega, fa⟩
    obtain ⟨o1, o2⟩ := ofP_ok hm fa
    obtain ⟨c1, c2⟩ := clause_ok hm fa (m := max t.height 66) (by omega)
    simp (maxSteps := 1000000) (disch := omega) only [yBSays, xinit_1, ↓axP, axQ, ↓if_true, ↓if_false, List.all_cons, List.all_nil, List.length_cons, List.length_nil, List.take_succ_cons, List.take_zero, List.take_nil, List.drop_succ_cons, List.drop_zero, List.drop_nil, List.getElem?_cons_zero, List.getElem?_cons_succ, List.getElem?_nil, List.nil_append, List.cons_append, List.append_nil, List.flatten_cons, List.flatten_nil, ite_true, ite_false, reduceIte, ne_eq, eq_self, Nat.reduceAdd, Nat.reduceSub, Nat.reduceMul, Nat.reduceLeDiff, Nat.reduceEqDiff, Nat.reduceBEq, reduceCtorEq, Int.reduceToNat, List.elem_nil, List.elem_cons, Int.reduceLT, Int.reduceLE, Int.reduceEq, Int.reduceAdd, Int.reduceSub, Int.reduceNeg, capnY, appzY, List.all_append, List.take_append, List.drop_append, List.length_append, tmC_len, tmC_0, tmC_1, tmC_2, tmC_3, tmC_take, tmC_drop, tmC_one, tmC_ne, awakeS_eq, da, ha, ot, bofS_eq fa, clauseS_eq fa, frA_glV, goalsS_eq ⟨o1, o2⟩, rsameS_eq ⟨o1.1, o2⟩, ownS_eq c1, ownS_eq c2, tsameS_eq c1, tsameS_eq c2, cntS_eq o1.1, cutS_eq o1.1, beq_self_eq_true]
    exact Ans.some (.pure rfl)
theorem bsays_any (t : Tm) (w : World) (v : Value) (h : VR (allG w) (tmA t) v) (hf : Fine maxLen t) :
    Calls Tryz.prog 4 #[v] w fun e w' => e = .returned (.bool true) ∧ Below w.heap.size w w' :=
  law_calls (bsays_run t hf) (by simp only [VRs]; exact ⟨_, _, rfl, h, rfl⟩)
end Go.Proofs.YtcnnobcncklgfaaGreatDoor
