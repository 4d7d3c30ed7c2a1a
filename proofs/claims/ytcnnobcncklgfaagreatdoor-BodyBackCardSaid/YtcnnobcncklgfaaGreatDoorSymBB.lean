/- 'sizarlaw14.BodyBack': at every term it returns true. -/
import Derived.Test.YtcnnobcncklgfaaGreatDoorSymBL
import Derived.Test.YtcnnobcncklgfaaGreatDoorSymOpen
import Derived.Test.YtcnnobcncklgfaaGreatDoorBAw
namespace Go.Proofs.YtcnnobcncklgfaaGreatDoor
open Go Go.Abs Go.RowKit
set_option linter.unusedVariables false
set_option linter.unusedSimpArgs false
attribute [local congr] on_congr br_congr onf_congr
def awakeS : List AV → Option AV
  | [] => some (.bool true)
  | _ => none
theorem awakeS_eq : awakeS [] = some (.bool true) := (rfl)
theorem awake_one : HookOne Tryz.prog 11 (pureF awakeS) := by
  refine HookOne.ofPureF (by decide +kernel) fun args y h H => ?_
  unfold awakeS at h; split at h
  · cases h
    refine plain_call (fun G vs w hM hv => ?_) H
    obtain rfl : vs = #[] := by cases vs; simpa [VRs] using hv
    exact (awakeB_any w).mono fun e w' ⟨he, hb⟩ => ⟨_, he, by simp [VR], hb⟩
  · cases h
theorem fine_le' {N M : Nat} (h : N ≤ M) : ∀ t : Tm, Fine N t → Fine M t
  | t, hf => by
    induction hf with
    | mk k n s l hk hn hs hl hx ih => exact .mk k n s l hk hn hs (by omega) ih
theorem fine_mk {s : List UInt8} {l : List Tm} (hs : s.length ≤ 10) (hl : l.length ≤ 10) (h : ∀ x ∈ l, Fine 1000 x) : Fine 1000 (.mk 2 0 s l) := .mk _ _ _ _ (by omega) (by omega) (by unfold maxLen; omega) (by omega) h
mutual
theorem bkG_fine {m : Nat} : ∀ g : Gl, okG g → tfG m g → Fine 1000 (bkG g)
  | .mk k t rows, h, hf => by
    have hC := bkRs_fine (m := m) rows
    simp only [okG] at h
    simp only [tfG] at hf
    rcases h with ⟨rfl, rfl, h⟩ | ⟨rfl, h, ⟨rfl, rfl⟩ | ⟨rfl, h2⟩ | ⟨rfl, h2⟩ | ⟨rfl, h2⟩⟩
    · simp only [bkG, if_true]; exact hf.1.2
    · have : bkG (.mk 2 zT []) = .mk 2 0 [33] [] := by simp [bkG]
      rw [this]
      exact fine_mk (by simp) (by simp) (fun x hx => by cases hx)
    · have : bkG (.mk 3 zT rows) = .mk 2 0 [59] (bkRs rows) := by simp [bkG]
      rw [this]
      exact fine_mk (by simp) (by rw [bkRs_map]; simp [h2]) (hC h hf.2)
    · obtain ⟨r1, r2, r3, rfl⟩ : ∃ r1 r2 r3, rows = [r1, r2, r3] := by
        match rows, h2 with
        | [a, b, c], _ => exact ⟨a, b, c, rfl⟩
      have hb : bkG (.mk 4 zT [r1, r2, r3]) = .mk 2 0 [59] [.mk 2 0 [45, 62] [bkL r1, bkL r2], bkL r3] := by simp [bkG, bkRs]
      rw [hb]
      have hC := hC h hf.2
      simp only [bkRs] at hC
      refine fine_mk (by simp) (by simp) fun x hx => ?_
      simp only [List.mem_cons, List.not_mem_nil, or_false] at hx
      rcases hx with rfl | rfl
      · refine fine_mk (by simp) (by simp) fun y hy => ?_
        simp only [List.mem_cons, List.not_mem_nil, or_false] at hy
        rcases hy with rfl | rfl
        · exact hC _ (by simp)
        · exact hC _ (by simp)
      · exact hC _ (by simp)
    · have : bkG (.mk 5 zT rows) = .mk 2 0 [92, 43] (bkRs rows) := by simp [bkG]
      rw [this]
      exact fine_mk (by simp) (by rw [bkRs_map]; simp [h2]) (hC h hf.2)
theorem bkL_fine {m : Nat} : ∀ l : List Gl, okL l → tfL m l → Fine 1000 (bkL l)
  | [], _, _ => by simp only [bkL]; exact fine_true
  | g :: gs, h, hf => by
    have h1 := bkG_fine g h.1 hf.1
    have h2 := bkL_fine gs h.2 hf.2
    simp only [bkL]
    split
    · exact h1
    · refine fine_mk (by simp) (by simp) fun x hx => ?_
      simp only [List.mem_cons, List.not_mem_nil, or_false] at hx
      rcases hx with rfl | rfl
      · exact h1
      · exact h2
theorem bkRs_fine {m : Nat} : ∀ rs : List (List Gl), okRs rs → tfRs m rs → ∀ x ∈ bkRs rs, Fine 1000 x
  | [], _, _ => by intro x hx; simp [bkRs] at hx
  | r :: rs, h, hf => by
    have h1 := bkL_fine r h.1 hf.1
    have h2 := bkRs_fine rs h.2 hf.2
    intro x hx
    simp only [bkRs] at hx
    rcases List.mem_cons.1 hx with rfl | hx
    · exact h1
    · exact h2 x hx
end
set_option maxHeartbeats 4000000 in
theorem bback_run (t : Tm) (hft : Fine maxLen t) (H : AH) : ACalls Tryz.prog 6 [tmA t] H fun y H' => y = .bool true ∧ H' = H := by
  have hl : ∀ e ∈ [(11, pureF awakeS), (12, pureF (deepS 40)), (13, pureF bofS), (31, pureF (bbackS 20000)), (15, pureF goodS), (17, pureF (goalsS 66 20000)), (16, pureF (rsameS 66 20000))], HookOne Tryz.prog e.1 e.2 := by
    intro e he
    simp only [List.mem_cons, List.not_mem_nil, or_false] at he
    rcases he with rfl | rfl | rfl | rfl | rfl | rfl | rfl
    · exact awake_one
    · exact deep_any14 40
    · exact bof_one
    · exact bback_one _
    · exact goodF_one
    · exact goals_any _ _
    · exact rsame_any _ _
  refine ACalls.ofRun hl mixed (draws _ rfl) yBBack_ok rfl (by simp [pureL, pure_tmA, pureA]) 0 ?_ H
  have da := deepS_eq (m := 40) (n := 40) (t := t) ⟨rfl, by omega⟩
  unfold tmA
  cases ha : deepP 40 t with
  | true =>
    simp (maxSteps := 1000000) (disch := omega) only [yBBack, xinit_1, ↓axP, axQ, ↓if_true, ↓if_false, List.all_cons, List.all_nil, List.length_cons, List.length_nil, List.take_succ_cons, List.take_zero, List.take_nil, List.drop_succ_cons, List.drop_zero, List.drop_nil, List.getElem?_cons_zero, List.getElem?_cons_succ, List.getElem?_nil, List.nil_append, List.cons_append, List.append_nil, List.flatten_cons, List.flatten_nil, ite_true, ite_false, reduceIte, ne_eq, eq_self, Nat.reduceAdd, Nat.reduceSub, Nat.reduceMul, Nat.reduceLeDiff, Nat.reduceEqDiff, Nat.reduceBEq, reduceCtorEq, Int.reduceToNat, List.elem_nil, List.elem_cons, Int.reduceLT, Int.reduceLE, Int.reduceEq, Int.reduceAdd, Int.reduceSub, Int.reduceNeg, capnY, appzY, List.all_append, List.take_append, List.drop_append, List.length_append, tmC_len, tmC_0, tmC_1, tmC_2, tmC_3, tmC_take, tmC_drop, tmC_one, tmC_ne, awakeS_eq, da, ha]
    exact Ans.some (.pure rfl)
  | false =>
    have fa := fine_le' (M := 1000) (by omega) t (deep_fine 40 t ha hft)
    by_cases he : (ofP t).2 = 0
    · have hg : t.good = true := by
        cases hg : t.good with
        | true => rfl
        | false => unfold ofP at he; rw [hg] at he; simp at he
      have hr := RC_good fa hg
      have hof : ofP t = rowF 64 t := by unfold ofP; rw [if_pos hg]
      rw [hof] at he
      have hok := rowF_ok 64 t he
      have htf := rowF_tf (M := 66) 64 t hr (by omega)
      have hwt := rowF_wt 64 t
      have hsz := hr.2.2
      have eb := bofS_eq fa
      rw [hof] at eb
      generalize hL : (rowF 64 t).1 = L at *
      have hW : WC 20000 L := ⟨by omega, by omega⟩
      have hf := bkL_fine L hok htf
      have eg := goodS_eq' hf
      cases hgx : (bkL L).good with
      | false =>
        simp (maxSteps := 1000000) (disch := omega) only [yBBack, xinit_1, ↓axP, axQ, ↓if_true, ↓if_false, List.all_cons, List.all_nil, List.length_cons, List.length_nil, List.take_succ_cons, List.take_zero, List.take_nil, List.drop_succ_cons, List.drop_zero, List.drop_nil, List.getElem?_cons_zero, List.getElem?_cons_succ, List.getElem?_nil, List.nil_append, List.cons_append, List.append_nil, List.flatten_cons, List.flatten_nil, ite_true, ite_false, reduceIte, ne_eq, eq_self, Nat.reduceAdd, Nat.reduceSub, Nat.reduceMul, Nat.reduceLeDiff, Nat.reduceEqDiff, Nat.reduceBEq, reduceCtorEq, Int.reduceToNat, List.elem_nil, List.elem_cons, Int.reduceLT, Int.reduceLE, Int.reduceEq, Int.reduceAdd, Int.reduceSub, Int.reduceNeg, capnY, appzY, List.all_append, List.take_append, List.drop_append, List.length_append, tmC_len, tmC_0, tmC_1, tmC_2, tmC_3, tmC_take, tmC_drop, tmC_one, tmC_ne, awakeS_eq, da, ha, eb, he, hL, frA_glV, bbackS_eq ⟨hW, hok⟩, eg, hgx]
        exact Ans.some (.pure rfl)
      | true =>
        have hh : (bkL L).height ≤ 64 := (RC_good hf hgx).1
        have ho2 : ofP (bkL L) = (L, 0) := by unfold ofP; rw [if_pos hgx, bkL_row L hok 64 hh]
        have e2 := bofS_eq hf
        rw [ho2] at e2
        simp only at e2
        simp (maxSteps := 1000000) (disch := omega) only [yBBack, xinit_1, ↓axP, axQ, ↓if_true, ↓if_false, List.all_cons, List.all_nil, List.length_cons, List.length_nil, List.take_succ_cons, List.take_zero, List.take_nil, List.drop_succ_cons, List.drop_zero, List.drop_nil, List.getElem?_cons_zero, List.getElem?_cons_succ, List.getElem?_nil, List.nil_append, List.cons_append, List.append_nil, List.flatten_cons, List.flatten_nil, ite_true, ite_false, reduceIte, ne_eq, eq_self, Nat.reduceAdd, Nat.reduceSub, Nat.reduceMul, Nat.reduceLeDiff, Nat.reduceEqDiff, Nat.reduceBEq, reduceCtorEq, Int.reduceToNat, List.elem_nil, List.elem_cons, Int.reduceLT, Int.reduceLE, Int.reduceEq, Int.reduceAdd, Int.reduceSub, Int.reduceNeg, capnY, appzY, List.all_append, List.take_append, List.drop_append, List.length_append, tmC_len, tmC_0, tmC_1, tmC_2, tmC_3, tmC_take, tmC_drop, tmC_one, tmC_ne, awakeS_eq, da, ha, eb, he, hL, frA_glV, bbackS_eq ⟨hW, hok⟩, eg, hgx, e2, goalsS_eq ⟨⟨hW, by omega⟩, htf⟩, rsameS_eq ⟨hW, htf⟩]
        exact Ans.some (.pure rfl)
    · have h0 : ((ofP t).2 = 0) = False := eq_false he
      simp (maxSteps := 1000000) (disch := omega) only [yBBack, xinit_1, ↓axP, axQ, ↓if_true, ↓if_false, List.all_cons, List.all_nil, List.length_cons, List.length_nil, List.take_succ_cons, List.take_zero, List.take_nil, List.drop_succ_cons, List.drop_zero, List.drop_nil, List.getElem?_cons_zero, List.getElem?_cons_succ, List.getElem?_nil, List.nil_append, List.cons_append, List.append_nil, List.flatten_cons, List.flatten_nil, ite_true, ite_false, reduceIte, ne_eq, eq_self, Nat.reduceAdd, Nat.reduceSub, Nat.reduceMul, Nat.reduceLeDiff, Nat.reduceEqDiff, Nat.reduceBEq, reduceCtorEq, Int.reduceToNat, List.elem_nil, List.elem_cons, Int.reduceLT, Int.reduceLE, Int.reduceEq, Int.reduceAdd, Int.reduceSub, Int.reduceNeg, capnY, appzY, List.all_append, List.take_append, List.drop_append, List.length_append, tmC_len, tmC_0, tmC_1, tmC_2, tmC_3, tmC_take, tmC_drop, tmC_one, tmC_ne, awakeS_eq, da, ha, bofS_eq fa, h0]
      exact Ans.some (.pure rfl)
theorem bback_any (t : Tm) (w : World) (v : Value) (h : VR (allG w) (tmA t) v) (hf : Fine maxLen t) :
    Calls Tryz.prog 6 #[v] w fun e w' => e = .returned (.bool true) ∧ Below w.heap.size w w' :=
  law_calls (bback_run t hf) (by simp only [VRs]; exact ⟨_, _, rfl, h, rfl⟩)
end Go.Proofs.YtcnnobcncklgfaaGreatDoor
