/- 'sizarlaw14.BodyJoins': at every two terms it returns true. -/
import Derived.Test.YtcnnobcncklgfaaGreatDoorSymBS
namespace Go.Proofs.YtcnnobcncklgfaaGreatDoor
open Go Go.Abs Go.RowKit
set_option linter.unusedVariables false
set_option linter.unusedSimpArgs false
attribute [local congr] on_congr br_congr onf_congr
/-- The law's goals, in a row of its own. -/
noncomputable def goalsO (m n : Nat) (args : List AV) (H : AH) : Option (AV × AH) :=
  match args with
  | [x] => (ofRow x).bind fun l => only (((WC n l ∧ wtL l ≤ 1000000) ∧ tfL m l) ∧ (l.length = 0 ∨ H.gs.get H.next = none)) (some (if l.length = 0 then (.nils, H) else (.slc H.next 0 0 l.length 6, H.add (l.map glC).flatten)))
  | _ => none
theorem goalsO_eq {m n : Nat} {l : List Gl} {H : AH} (h : (WC n l ∧ wtL l ≤ 1000000) ∧ tfL m l) (hf : l.length = 0 ∨ H.gs.get H.next = none) : goalsO m n [glV l] H = some (if l.length = 0 then (.nils, H) else (.slc H.next 0 0 l.length 6, H.add (l.map glC).flatten)) := by
  simp only [goalsO, ofRow_eq, Option.bind_some]; exact only_eq ⟨h, hf⟩ _
theorem goalsO_one (m n : Nat) : HookOne Tryz.prog 17 (goalsO m (n + 1)) := by
  have hl : ∀ e ∈ [(20, pureF (ownS m)), (17, pureF (goalsS m n))], HookOne Tryz.prog e.1 e.2 := by
    intro e he
    simp only [List.mem_cons, List.not_mem_nil, or_false] at he
    rcases he with rfl | rfl
    · exact own_any14 m
    · exact goals_any m n
  obtain ⟨c1, c2⟩ := tcall_ok hl
  have main : ∀ (l : List Gl) (H : AH), ((WC (n + 1) l ∧ wtL l ≤ 1000000) ∧ tfL m l) → (l.length = 0 ∨ H.gs.get H.next = none) → ACalls Tryz.prog 17 [glV l] H fun y H1 => y = (if l.length = 0 then (AV.nils, H) else (.slc H.next 0 0 l.length 6, H.add (l.map glC).flatten)).1 ∧ H1 = (if l.length = 0 then (AV.nils, H) else (.slc H.next 0 0 l.length 6, H.add (l.map glC).flatten)).2 := by
    intro l H hc hfr
    by_cases h0 : l.length = 0
    · obtain rfl := List.eq_nil_of_length_eq_zero h0
      simp only [h0, if_true]
      refine (yfun_ok c1 c2 mixed (draws _ rfl) yGoals_ok (F := 1) rfl ?_).2
      unfold glV
      simp (maxSteps := 1000000) (disch := omega) only [yGoals, xinit_1, ↓axP, axQ, ↓if_true, ↓if_false, List.all_cons, List.all_nil, List.length_cons, List.length_nil, List.take_succ_cons, List.take_zero, List.take_nil, List.drop_succ_cons, List.drop_zero, List.drop_nil, List.getElem?_cons_zero, List.getElem?_cons_succ, List.getElem?_nil, List.nil_append, List.cons_append, List.append_nil, List.flatten_cons, List.flatten_nil, ite_true, ite_false, reduceIte, ne_eq, eq_self, Nat.reduceAdd, Nat.reduceSub, Nat.reduceMul, Nat.reduceLeDiff, Nat.reduceEqDiff, Nat.reduceBEq, reduceCtorEq, Int.reduceToNat, List.elem_nil, List.elem_cons, Int.reduceLT, Int.reduceLE, Int.reduceEq, Int.reduceAdd, Int.reduceSub, Int.reduceNeg, capnY, appzY, List.all_append, List.take_append, List.drop_append, List.length_append, iter_one, yGoalsb_r, yGoalsb_, List.map_nil]
    · simp only [h0, if_false]
      obtain ⟨⟨hw, hsm⟩, ht⟩ := hc
      have w0 : GoJ AH.empty .nils [] := ⟨wf_empty, [], own_nil _ _, fun H' _ => .nil _⟩
      obtain ⟨w', H', q, q1, cs, q2, q3⟩ := go_loop (m := m) (n := n) (wtL l + 1) l hw hsm ht rows_lt l [] .nils AH.empty (wtL l + 1) rfl w0 (by have := len_wt l; omega)
      simp only [List.length_nil, Int.natCast_zero, empty_mk] at q
      have hc : ACalls Tryz.prog 17 [glV l] AH.empty fun x' H1 => x' = w' ∧ H1 = H' := by
        refine (yfun_ok c1 c2 mixed (draws _ rfl) yGoals_ok (F := wtL l + 1) rfl ?_).2
        unfold glV
        simp (maxSteps := 1000000) (disch := omega) only [yGoals, xinit_1, ↓axP, axQ, ↓if_true, ↓if_false, List.all_cons, List.all_nil, List.length_cons, List.length_nil, List.take_succ_cons, List.take_zero, List.take_nil, List.drop_succ_cons, List.drop_zero, List.drop_nil, List.getElem?_cons_zero, List.getElem?_cons_succ, List.getElem?_nil, List.nil_append, List.cons_append, List.append_nil, List.flatten_cons, List.flatten_nil, ite_true, ite_false, reduceIte, ne_eq, eq_self, Nat.reduceAdd, Nat.reduceSub, Nat.reduceMul, Nat.reduceLeDiff, Nat.reduceEqDiff, Nat.reduceBEq, reduceCtorEq, Int.reduceToNat, List.elem_nil, List.elem_cons, Int.reduceLT, Int.reduceLE, Int.reduceEq, Int.reduceAdd, Int.reduceSub, Int.reduceNeg, capnY, appzY, List.all_append, List.take_append, List.drop_append, List.length_append, List.length_map, q]
      obtain ⟨hlen, h⟩ := q2
      rcases h with ⟨-, h⟩ | ⟨g, e, rfl, hg, -⟩
      · exact absurd h h0
      · exact ACalls.own (by simp [pureL, pure_glV]) hc hg (q3.move (fun _ _ => rfl) fun j hj hjg => hj.2 ⟨e, 0, l.length, 6, by rw [hjg]⟩) H (hfr.resolve_left h0)
  have hit : ∀ args H x H', goalsO m (n + 1) args H = some (x, H') → ∃ l, args = [glV l] ∧ (((WC (n + 1) l ∧ wtL l ≤ 1000000) ∧ tfL m l) ∧ (l.length = 0 ∨ H.gs.get H.next = none)) ∧ (x, H') = (if l.length = 0 then (AV.nils, H) else (.slc H.next 0 0 l.length 6, H.add (l.map glC).flatten)) := by
    intro args H x H' h
    unfold goalsO at h
    split at h
    · rename_i x0
      rw [Option.bind_eq_some_iff] at h
      obtain ⟨l, h1, h2⟩ := h
      obtain ⟨hc, h3⟩ := only_ok h2
      obtain rfl := back_ok h1
      exact ⟨l, rfl, hc, (Option.some.inj h3).symm⟩
    · cases h
  refine ⟨(by decide +kernel), fun args H x H' h => ?_, fun args H x H' h => ?_⟩
  · obtain ⟨l, rfl, hc, e⟩ := hit args H x H' h
    have := main l H hc.1 hc.2
    rw [← e] at this
    exact this
  · obtain ⟨l, rfl, hc, e⟩ := hit args H x H' h
    by_cases h0 : l.length = 0
    · simp only [h0, if_true] at e
      cases e
      refine FrameR.same fun R H2 he ha => ?_
      rw [goalsO_eq hc.1 (.inl h0)]
      simp only [h0, if_true]
    · simp only [h0, if_false] at e
      cases e
      refine FrameR.add fun R H2 he ha hR => ?_
      have h2 := (free_iff H2).1 (Ext.free he hR ((free_iff H).2 (hc.2.resolve_left h0)))
      rw [goalsO_eq hc.1 (.inr h2)]
      simp only [h0, if_false]
      rw [he.next]
theorem goalsO_nil {m n : Nat} {l : List Gl} (h : OB66 m l) (H : AH) (h0 : l.length = 0) (hn : 20000 ≤ n) : goalsO m n [glV l] H = some (.nils, H) := by
  rw [goalsO_eq ⟨⟨⟨by have := h.1.1.1; omega, h.1.1.2⟩, h.1.2⟩, h.2⟩ (.inl h0), if_pos h0]
theorem goalsO_row {m n : Nat} {l : List Gl} (h : OB66 m l) (H : AH) (h0 : l.length ≠ 0) (hn : 20000 ≤ n) : goalsO m n [glV l] H = if H.gs.get H.next = none then some (.slc H.next 0 0 l.length 6, H.add (l.map glC).flatten) else none := by
  by_cases hf : H.gs.get H.next = none
  · rw [goalsO_eq ⟨⟨⟨by have := h.1.1.1; omega, h.1.1.2⟩, h.1.2⟩, h.2⟩ (.inr hf), if_neg h0, if_pos hf]
  · rw [if_neg hf]
    simp only [goalsO, ofRow_eq, Option.bind_some]
    exact only_none (fun h => h.2.elim h0 hf) _
noncomputable def rsame2S (m n : Nat) : List AV → Option AV
  | [.nils, .nils] => some (.bool true)
  | args => rsameS m n args
theorem rsame2_eq {m n : Nat} {l : List Gl} (h : WC n l ∧ tfL m l) : rsame2S m n [.vals 6 (l.map glC), .vals 6 (l.map glC)] = some (.bool true) := rsameS_eq h
theorem rsame2_nil {m n : Nat} : rsame2S m n [.nils, .nils] = some (.bool true) := (rfl)
theorem rsame2_any (m n : Nat) : HookOne Tryz.prog 16 (pureF (rsame2S m n)) := by
  refine HookOne.ofPureF (by decide +kernel) fun args y h H => ?_
  unfold rsame2S at h; split at h
  · cases h
    refine ACalls.ofRun (l := []) (by simp) mixed (draws _ rfl) yRSame_ok rfl (by rfl) 1 ?_ H
    simp (maxSteps := 1000000) (disch := omega) only [yRSame, xinit_2, ↓axP, axQ, ↓if_true, ↓if_false, List.all_cons, List.all_nil, List.length_cons, List.length_nil, List.take_succ_cons, List.take_zero, List.take_nil, List.drop_succ_cons, List.drop_zero, List.drop_nil, List.getElem?_cons_zero, List.getElem?_cons_succ, List.getElem?_nil, List.nil_append, List.cons_append, List.append_nil, List.flatten_cons, List.flatten_nil, ite_true, ite_false, reduceIte, ne_eq, eq_self, Nat.reduceAdd, Nat.reduceSub, Nat.reduceMul, Nat.reduceLeDiff, Nat.reduceEqDiff, Nat.reduceBEq, reduceCtorEq, Int.reduceToNat, List.elem_nil, List.elem_cons, Int.reduceLT, Int.reduceLE, Int.reduceEq, Int.reduceAdd, Int.reduceSub, Int.reduceNeg, capnY, appzY, List.all_append, List.take_append, List.drop_append, List.length_append, iter_one, yRSameb_r, yRSameb_]
    exact Ans.some (.pure rfl)
  · have := (rsame_any m n)
    unfold rsameS at h; split at h
    · rename_i x y _
      rw [Option.bind_eq_some_iff] at h
      obtain ⟨l, h1, h2⟩ := h
      obtain ⟨⟨rfl, hw⟩, h3⟩ := only_ok h2
      cases h3
      obtain rfl := back_ok h1
      refine this.ok _ H _ H ?_
      simp (maxSteps := 1000000) (disch := omega) only [↓axP, axQ, ↓if_true, ↓if_false, List.all_cons, List.all_nil, List.length_cons, List.length_nil, List.take_succ_cons, List.take_zero, List.take_nil, List.drop_succ_cons, List.drop_zero, List.drop_nil, List.getElem?_cons_zero, List.getElem?_cons_succ, List.getElem?_nil, List.nil_append, List.cons_append, List.append_nil, List.flatten_cons, List.flatten_nil, ite_true, ite_false, reduceIte, ne_eq, eq_self, Nat.reduceAdd, Nat.reduceSub, Nat.reduceMul, Nat.reduceLeDiff, Nat.reduceEqDiff, Nat.reduceBEq, reduceCtorEq, Int.reduceToNat, List.elem_nil, List.elem_cons, Int.reduceLT, Int.reduceLE, Int.reduceEq, Int.reduceAdd, Int.reduceSub, Int.reduceNeg, capnY, appzY, List.all_append, List.take_append, List.drop_append, List.length_append, frA_glV, rsameS_eq hw]
    · cases h
theorem rowsW_congr {f g : Tm → List Gl × Int} : ∀ {l : List Tm}, (∀ t ∈ l, f t = g t) → rowsW f l = rowsW g l
  | [], _ => rfl
  | t :: ts, h => by
    have h1 := h t (List.mem_cons_self ..)
    have h2 := rowsW_congr (f := f) (g := g) fun x hx => h x (List.mem_cons_of_mem _ hx)
    simp only [rowsW, h1, h2]
theorem nestW_congr {f g : Tm → List Gl × Int} {l : List Tm} (k : Int) (h : ∀ t ∈ l, f t = g t) : nestW f k l = nestW g k l := by
  unfold nestW; rw [rowsW_congr h]
theorem rowF_up : ∀ (n : Nat) (t : Tm), t.height ≤ n → rowF (n + 1) t = rowF n t
  | 0, t, h => by have := height_pos t; omega
  | n + 1, t, h => by
    have ha : ∀ x ∈ t.args, rowF (n + 1) x = rowF n x := fun x hx => rowF_up n x (by have := height_mem hx; rw [height_eq] at h; omega)
    rw [rowF.eq_2, rowF.eq_2 _ n]
    have e1 := rowsW_congr ha
    have e2 : ∀ k, nestW (rowF (n + 1)) k t.args = nestW (rowF n) k t.args := fun k => nestW_congr k ha
    rw [e1, e2, e2]
    by_cases c5 : (isP t [59] 2 && isP (t.args.getD 0 zT) [45, 62] 2) = true
    · have e3 : nestW (rowF (n + 1)) 4 [(t.args.getD 0 zT).args.getD 0 zT, (t.args.getD 0 zT).args.getD 1 zT, t.args.getD 1 zT] = nestW (rowF n) 4 [(t.args.getD 0 zT).args.getD 0 zT, (t.args.getD 0 zT).args.getD 1 zT, t.args.getD 1 zT] := by
        simp only [Bool.and_eq_true] at c5
        obtain ⟨a, b, hab⟩ := args_two (isP_len (m := 2) c5.1)
        have c52 := c5.2
        simp only [hab, List.getD_cons_zero, List.getD_cons_succ] at c52 ⊢
        obtain ⟨c, d, hcd⟩ := args_two (isP_len (m := 2) c52)
        simp only [hcd, List.getD_cons_zero, List.getD_cons_succ]
        have hA : a.height ≤ n := by have := height_mem (l := t.args) (x := a) (by rw [hab]; simp); rw [height_eq] at h; omega
        have hC : ∀ x ∈ a.args, x.height ≤ n := fun x hx => by have := height_mem hx; rw [height_eq] at hA; omega
        refine nestW_congr 4 fun x hx => ?_
        simp only [List.mem_cons, List.not_mem_nil, or_false] at hx
        rcases hx with rfl | rfl | rfl
        · exact rowF_up n _ (hC _ (by rw [hcd]; simp))
        · exact rowF_up n _ (hC _ (by rw [hcd]; simp))
        · exact ha _ (by rw [hab]; simp)
      rw [e3]
      simp only [c5, if_true]
    · simp only [c5, if_false, Bool.false_eq_true]
      by_cases c6 : isP t [45, 62] 2 = true
      · have e4 : nestW (rowF (n + 1)) 4 [t.args.getD 0 zT, t.args.getD 1 zT, failT] = nestW (rowF n) 4 [t.args.getD 0 zT, t.args.getD 1 zT, failT] := by
          obtain ⟨a, b, hab⟩ := args_two (isP_len (m := 2) c6)
          simp only [hab, List.getD_cons_zero, List.getD_cons_succ]
          have hA := height_mem (l := t.args) (x := a) (by rw [hab]; simp)
          have hA1 := height_pos a
          rw [height_eq] at h
          refine nestW_congr 4 fun x hx => ?_
          simp only [List.mem_cons, List.not_mem_nil, or_false] at hx
          rcases hx with rfl | rfl | rfl
          · exact ha _ (by rw [hab]; simp)
          · exact ha _ (by rw [hab]; simp)
          · exact rowF_up n _ (by simp [failT, Tm.height, Tm.heights]; omega)
        rw [e4]
      · simp only [c6, if_false, Bool.false_eq_true]
def andT (a b : Tm) : Tm := .mk 2 0 [44] [a, b]
theorem rowF_and (a b : Tm) : rowF 64 (andT a b) = ((rowsW (rowF 63) [a, b]).1.flatten, (rowsW (rowF 63) [a, b]).2) := by
  rw [rowF.eq_2]
  simp [andT, Tm.kind, isP, Tm.name, Tm.args]
theorem joinP {a b : Tm} (h : RG 64 (andT a b)) : RG 64 a ∧ RG 64 b ∧ ofP (andT a b) = (if (ofP a).2 = 0 then (if (ofP b).2 = 0 then ((ofP a).1 ++ (ofP b).1, 0) else ([], (ofP b).2)) else ([], (ofP a).2)) := by
  have ha := RG.arg (n := 63) h (x := a) (by simp [andT, Tm.args])
  have hb := RG.arg (n := 63) h (x := b) (by simp [andT, Tm.args])
  refine ⟨ha.up, hb.up, ?_⟩
  rw [ofP_of h, ofP_of ha.up, ofP_of hb.up, rowF_and, rowF_up 63 a ha.1.1, rowF_up 63 b hb.1.1]
  simp only [rowsW]
  by_cases ea : (rowF 63 a).2 = 0
  · by_cases eb : (rowF 63 b).2 = 0
    · simp [ea, eb]
    · simp [ea, eb]
  · simp [ea]
theorem cntL_append (x y : List Gl) : cntL (x ++ y) = cntL x + cntL y := by
  have : ∀ x y : List Gl, xL (x ++ y) = xL x + xL y := by
    intro x y
    induction x with
    | nil => simp [xL]
    | cons g x ih => simp [xL, ih]; omega
  simp [cntL, this]; omega
theorem cutL_append (x y : List Gl) : cutL (x ++ y) = (cutL x || cutL y) := by simp [cutL_any]
theorem take6 (l : List Gl) : (l.map glC).flatten.take (l.length * 6) = (l.map glC).flatten := List.take_of_length_le (by rw [flat6]; omega)
theorem chunk6 (l : List Gl) : chunk 6 l.length (l.map glC).flatten = l.map glC := by
  have := chunk_flat (rows6 l)
  simpa using this
set_option maxRecDepth 10000 in
set_option maxHeartbeats 8000000 in
theorem joins_run (a b : Tm) (hfa : Fine maxLen a) (hfb : Fine maxLen b) (H : AH) : ACalls Tryz.prog 3 [tmA a, tmA b] H fun y H' => y = .bool true ∧ H' = H := by
  have hl : ∀ e ∈ [(11, pureF awakeS), (12, pureF (deepS 30)), (13, pureF bofS), (14, pureF compS), (15, pureF goodS), (17, goalsO 66 (19999 + 1)), (16, pureF (rsame2S 66 20000)), (18, pureF (cntS 20000)), (19, pureF (cutS 20000))], HookOne Tryz.prog e.1 e.2 := by
    intro e he
    simp only [List.mem_cons, List.not_mem_nil, or_false] at he
    rcases he with rfl | rfl | rfl | rfl | rfl | rfl | rfl | rfl | rfl
    · exact awake_one
    · exact deep_any14 30
    · exact bof_one
    · exact comp_one
    · exact goodF_one
    · exact goalsO_one _ _
    · exact rsame2_any _ _
    · exact cnt_any _
    · exact cut_any _
  refine ACalls.ofRun hl mixed (draws _ rfl) yBJoins_ok rfl (by simp [pureL, pure_tmA, pureA]) 0 ?_ H
  have da := deepS_eq (m := 30) (n := 30) (t := a) ⟨rfl, by omega⟩
  have db := deepS_eq (m := 30) (n := 30) (t := b) ⟨rfl, by omega⟩
  unfold tmA
  cases ha : deepP 30 a with
  | true =>
    simp (maxSteps := 1000000) (disch := omega) only [yBJoins, xinit_2, ↓axP, axQ, ↓if_true, ↓if_false, List.all_cons, List.all_nil, List.length_cons, List.length_nil, List.take_succ_cons, List.take_zero, List.take_nil, List.drop_succ_cons, List.drop_zero, List.drop_nil, List.getElem?_cons_zero, List.getElem?_cons_succ, List.getElem?_nil, List.nil_append, List.cons_append, List.append_nil, List.flatten_cons, List.flatten_nil, ite_true, ite_false, reduceIte, ne_eq, eq_self, Nat.reduceAdd, Nat.reduceSub, Nat.reduceMul, Nat.reduceLeDiff, Nat.reduceEqDiff, Nat.reduceBEq, reduceCtorEq, Int.reduceToNat, List.elem_nil, List.elem_cons, Int.reduceLT, Int.reduceLE, Int.reduceEq, Int.reduceAdd, Int.reduceSub, Int.reduceNeg, capnY, appzY, List.all_append, List.take_append, List.drop_append, List.length_append, tmC_len, tmC_0, tmC_1, tmC_2, tmC_3, tmC_take, tmC_drop, tmC_one, tmC_ne, awakeS_eq, da, ha]
    exact Ans.some (.pure rfl)
  | false =>
    cases hb : deepP 30 b with
    | true =>
      simp (maxSteps := 1000000) (disch := omega) only [yBJoins, xinit_2, ↓axP, axQ, ↓if_true, ↓if_false, List.all_cons, List.all_nil, List.length_cons, List.length_nil, List.take_succ_cons, List.take_zero, List.take_nil, List.drop_succ_cons, List.drop_zero, List.drop_nil, List.getElem?_cons_zero, List.getElem?_cons_succ, List.getElem?_nil, List.nil_append, List.cons_append, List.append_nil, List.flatten_cons, List.flatten_nil, ite_true, ite_false, reduceIte, ne_eq, eq_self, Nat.reduceAdd, Nat.reduceSub, Nat.reduceMul, Nat.reduceLeDiff, Nat.reduceEqDiff, Nat.reduceBEq, reduceCtorEq, Int.reduceToNat, List.elem_nil, List.elem_cons, Int.reduceLT, Int.reduceLE, Int.reduceEq, Int.reduceAdd, Int.reduceSub, Int.reduceNeg, capnY, appzY, List.all_append, List.take_append, List.drop_append, List.length_append, tmC_len, tmC_0, tmC_1, tmC_2, tmC_3, tmC_take, tmC_drop, tmC_one, tmC_ne, awakeS_eq, da, ha, db, hb]
      exact Ans.some (.pure rfl)
    | false =>
      have fa := fine_le' (M := 1000) (by omega) a (deep_fine 30 a ha hfa)
      have fb := fine_le' (M := 1000) (by omega) b (deep_fine 30 b hb hfb)
      have ft : Fine 1000 (andT a b) := .mk _ _ _ _ (by omega) (by omega) (by unfold maxLen; simp) (by simp) (fun x hx => by
        simp only [List.mem_cons, List.not_mem_nil, or_false] at hx
        rcases hx with rfl | rfl
        · exact fa
        · exact fb)
      have ec := compS_eq [44] [a, b] (by simp)
      simp only [List.map_cons, List.map_nil] at ec
      have eg : goodS [.agg (tmC (.mk 2 0 [44] [a, b]))] = some (.bool (andT a b).good) := goodS_eq' ft
      have eb : bofS [.agg (tmC (.mk 2 0 [44] [a, b]))] = some (.tup [glV (ofP (andT a b)).1, .int .i64 (ofP (andT a b)).2]) := bofS_eq ft
      cases hg : (andT a b).good with
      | false =>
        simp (maxSteps := 1000000) (disch := omega) only [yBJoins, xinit_2, ↓axP, axQ, ↓if_true, ↓if_false, List.all_cons, List.all_nil, List.length_cons, List.length_nil, List.take_succ_cons, List.take_zero, List.take_nil, List.drop_succ_cons, List.drop_zero, List.drop_nil, List.getElem?_cons_zero, List.getElem?_cons_succ, List.getElem?_nil, List.nil_append, List.cons_append, List.append_nil, List.flatten_cons, List.flatten_nil, ite_true, ite_false, reduceIte, ne_eq, eq_self, Nat.reduceAdd, Nat.reduceSub, Nat.reduceMul, Nat.reduceLeDiff, Nat.reduceEqDiff, Nat.reduceBEq, reduceCtorEq, Int.reduceToNat, List.elem_nil, List.elem_cons, Int.reduceLT, Int.reduceLE, Int.reduceEq, Int.reduceAdd, Int.reduceSub, Int.reduceNeg, capnY, appzY, List.all_append, List.take_append, List.drop_append, List.length_append, tmC_len, tmC_0, tmC_1, tmC_2, tmC_3, tmC_take, tmC_drop, tmC_one, tmC_ne, awakeS_eq, da, ha, db, hb, bofS_eq fa, bofS_eq fb, ec, eg, hg]
        exact Ans.some (.pure rfl)
      | true =>
        obtain ⟨ra, rb, hj⟩ := joinP (RG_good ft hg)
        by_cases ea : (ofP a).2 = 0
        · by_cases eb2 : (ofP b).2 = 0
          · rw [if_pos ea, if_pos eb2] at hj
            have oa := ofP_ok (m := 66) (by omega) fa
            have ob := ofP_ok (m := 66) (by omega) fb
            have oz := ofP_ok (m := 66) (by omega) ft
            have lx : (ofP a).1.length ≤ 2000 := by
              have := rowF_len 64 a
              rw [ofP_of ra]
              have := ra.1.2.2
              omega
            have ly : (ofP b).1.length ≤ 2000 := by
              have := rowF_len 64 b
              rw [ofP_of rb]
              have := rb.1.2.2
              omega
            rw [hj] at oz eb
            simp only at oz eb
            generalize hX : (ofP a).1 = X at *
            generalize hY : (ofP b).1 = Y at *
            have cz : cntL (X ++ Y) = cntL X + cntL Y := cntL_append X Y
            have cu : cutL (X ++ Y) = (cutL X || cutL Y) := cutL_append X Y
            have lz : (X ++ Y).length = X.length + Y.length := List.length_append
            have mz : (X ++ Y).map glC = X.map glC ++ Y.map glC := List.map_append
            generalize hZ : X ++ Y = Z at *
            have n1 : IntKind.i64.wrap ((cntL X : Int) + (cntL Y : Int)) = (cntL X : Int) + (cntL Y : Int) := by
              have h1 := xL_le X
              have h2 := xL_le Y
              have h3 := oa.1.2
              have h4 := ob.1.2
              unfold cntL
              rw [wrap_i64] <;> omega
            have wz := rsame2_eq (m := 66) (n := 20000) (l := Z) ⟨oz.1.1, oz.2⟩
            have tz := take6 Z
            have kz := chunk6 Z
            have fz := flat6 Z
            have hcu : (cutL Z == (cutL X || cutL Y)) = true := by rw [cu]; simp
            have px : (X.length * 88 ≤ 140737488355328) = True := eq_true (by omega)
            have py : (Y.length * 88 ≤ 140737488355328) = True := eq_true (by omega)
            have pxy : ((X.length + Y.length) * 88 ≤ 140737488355328) = True := eq_true (by omega)
            have qx : (X.length ≤ 9223372036854775807) = True := eq_true (by omega)
            have qy : (Y.length ≤ 9223372036854775807) = True := eq_true (by omega)
            have qxy : (X.length + Y.length ≤ 9223372036854775807) = True := eq_true (by omega)
            have sx : (X.length * 6 ≤ (X.map glC).flatten.length) = True := eq_true (by rw [flat6]; omega)
            have sy : (Y.length * 6 ≤ (Y.map glC).flatten.length) = True := eq_true (by rw [flat6]; omega)
            have sz : (Z.length * 6 ≤ (Z.map glC).flatten.length) = True := eq_true (by rw [flat6]; omega)
            have bx : cntL X ≤ 1000000 := by have h1 := xL_le X; have h3 := oa.1.2; unfold cntL; omega
            have by' : cntL Y ≤ 1000000 := by have h1 := xL_le Y; have h3 := ob.1.2; unfold cntL; omega
            have c0 : cntL [] = 0 := (rfl)
            have u0 : cutL [] = false := by simp [cutL]
            by_cases hx : X.length = 0
            · obtain rfl := List.eq_nil_of_length_eq_zero hx
              clear cz cu n1 kz fz tz hcu
              rw [List.nil_append] at hZ
              subst hZ
              by_cases hy : Y.length = 0
              · simp (maxSteps := 1000000) (disch := omega) only [yBJoins, xinit_2, ↓axP, axQ, ↓if_true, ↓if_false, List.all_cons, List.all_nil, List.length_cons, List.length_nil, List.take_succ_cons, List.take_zero, List.take_nil, List.drop_succ_cons, List.drop_zero, List.drop_nil, List.getElem?_cons_zero, List.getElem?_cons_succ, List.getElem?_nil, List.nil_append, List.cons_append, List.append_nil, List.flatten_cons, List.flatten_nil, ite_true, ite_false, reduceIte, ne_eq, eq_self, Nat.reduceAdd, Nat.reduceSub, Nat.reduceMul, Nat.reduceLeDiff, Nat.reduceEqDiff, Nat.reduceBEq, reduceCtorEq, Int.reduceToNat, List.elem_nil, List.elem_cons, Int.reduceLT, Int.reduceLE, Int.reduceEq, Int.reduceAdd, Int.reduceSub, Int.reduceNeg, capnY, appzY, List.all_append, List.take_append, List.drop_append, List.length_append, tmC_len, tmC_0, tmC_1, tmC_2, tmC_3, tmC_take, tmC_drop, tmC_one, tmC_ne, awakeS_eq, da, ha, db, hb, bofS_eq fa, bofS_eq fb, ec, eg, hg, eb, ea, eb2, hX, hY, cntS_eq oa.1.1, cntS_eq ob.1.1, cntS_eq oz.1.1, cutS_eq oa.1.1, cutS_eq ob.1.1, cutS_eq oz.1.1, beq_self_eq_true, frA_glV, goalsO_nil oa _ hx, goalsO_nil ob _ hy, rsame2_nil, c0, u0, Int.zero_add]
                exact Ans.some (.pure rfl)
              · simp (maxSteps := 1000000) (disch := omega) only [yBJoins, xinit_2, ↓axP, axQ, ↓if_true, ↓if_false, List.all_cons, List.all_nil, List.length_cons, List.length_nil, List.take_succ_cons, List.take_zero, List.take_nil, List.drop_succ_cons, List.drop_zero, List.drop_nil, List.getElem?_cons_zero, List.getElem?_cons_succ, List.getElem?_nil, List.nil_append, List.cons_append, List.append_nil, List.flatten_cons, List.flatten_nil, ite_true, ite_false, reduceIte, ne_eq, eq_self, Nat.reduceAdd, Nat.reduceSub, Nat.reduceMul, Nat.reduceLeDiff, Nat.reduceEqDiff, Nat.reduceBEq, reduceCtorEq, Int.reduceToNat, List.elem_nil, List.elem_cons, Int.reduceLT, Int.reduceLE, Int.reduceEq, Int.reduceAdd, Int.reduceSub, Int.reduceNeg, capnY, appzY, List.all_append, List.take_append, List.drop_append, List.length_append, tmC_len, tmC_0, tmC_1, tmC_2, tmC_3, tmC_take, tmC_drop, tmC_one, tmC_ne, awakeS_eq, da, ha, db, hb, bofS_eq fa, bofS_eq fb, ec, eg, hg, eb, ea, eb2, hX, hY, cntS_eq oa.1.1, cntS_eq ob.1.1, cntS_eq oz.1.1, cutS_eq oa.1.1, cutS_eq ob.1.1, cutS_eq oz.1.1, beq_self_eq_true, frA_glV, goalsO_nil oa _ hx, goalsO_row ob _ hy, rsame2_eq ⟨ob.1.1, ob.2⟩, hy, take6, chunk6, py, qy, sy, c0, u0, Int.zero_add]
                exact Ans.some (.pure rfl)
            · by_cases hy : Y.length = 0
              · obtain rfl := List.eq_nil_of_length_eq_zero hy
                clear cz cu n1 kz fz tz hcu
                rw [List.append_nil] at hZ
                subst hZ
                cases hcx : cutL X with
                | true =>
                  simp (maxSteps := 1000000) (disch := omega) only [yBJoins, xinit_2, ↓axP, axQ, ↓if_true, ↓if_false, List.all_cons, List.all_nil, List.length_cons, List.length_nil, List.take_succ_cons, List.take_zero, List.take_nil, List.drop_succ_cons, List.drop_zero, List.drop_nil, List.getElem?_cons_zero, List.getElem?_cons_succ, List.getElem?_nil, List.nil_append, List.cons_append, List.append_nil, List.flatten_cons, List.flatten_nil, ite_true, ite_false, reduceIte, ne_eq, eq_self, Nat.reduceAdd, Nat.reduceSub, Nat.reduceMul, Nat.reduceLeDiff, Nat.reduceEqDiff, Nat.reduceBEq, reduceCtorEq, Int.reduceToNat, List.elem_nil, List.elem_cons, Int.reduceLT, Int.reduceLE, Int.reduceEq, Int.reduceAdd, Int.reduceSub, Int.reduceNeg, capnY, appzY, List.all_append, List.take_append, List.drop_append, List.length_append, tmC_len, tmC_0, tmC_1, tmC_2, tmC_3, tmC_take, tmC_drop, tmC_one, tmC_ne, awakeS_eq, da, ha, db, hb, bofS_eq fa, bofS_eq fb, ec, eg, hg, eb, ea, eb2, hX, hY, cntS_eq oa.1.1, cntS_eq ob.1.1, cntS_eq oz.1.1, cutS_eq oa.1.1, cutS_eq ob.1.1, cutS_eq oz.1.1, beq_self_eq_true, frA_glV, hcx, goalsO_row oa _ hx, goalsO_nil ob _ hy, rsame2_eq ⟨oa.1.1, oa.2⟩, hx, take6, chunk6, px, qx, sx, c0, u0, Int.add_zero]
                  exact Ans.some (.pure rfl)
                | false =>
                  simp (maxSteps := 1000000) (disch := omega) only [yBJoins, xinit_2, ↓axP, axQ, ↓if_true, ↓if_false, List.all_cons, List.all_nil, List.length_cons, List.length_nil, List.take_succ_cons, List.take_zero, List.take_nil, List.drop_succ_cons, List.drop_zero, List.drop_nil, List.getElem?_cons_zero, List.getElem?_cons_succ, List.getElem?_nil, List.nil_append, List.cons_append, List.append_nil, List.flatten_cons, List.flatten_nil, ite_true, ite_false, reduceIte, ne_eq, eq_self, Nat.reduceAdd, Nat.reduceSub, Nat.reduceMul, Nat.reduceLeDiff, Nat.reduceEqDiff, Nat.reduceBEq, reduceCtorEq, Int.reduceToNat, List.elem_nil, List.elem_cons, Int.reduceLT, Int.reduceLE, Int.reduceEq, Int.reduceAdd, Int.reduceSub, Int.reduceNeg, capnY, appzY, List.all_append, List.take_append, List.drop_append, List.length_append, tmC_len, tmC_0, tmC_1, tmC_2, tmC_3, tmC_take, tmC_drop, tmC_one, tmC_ne, awakeS_eq, da, ha, db, hb, bofS_eq fa, bofS_eq fb, ec, eg, hg, eb, ea, eb2, hX, hY, cntS_eq oa.1.1, cntS_eq ob.1.1, cntS_eq oz.1.1, cutS_eq oa.1.1, cutS_eq ob.1.1, cutS_eq oz.1.1, beq_self_eq_true, frA_glV, hcx, goalsO_row oa _ hx, goalsO_nil ob _ hy, rsame2_eq ⟨oa.1.1, oa.2⟩, hx, take6, chunk6, px, qx, sx, c0, u0, Int.add_zero]
                  exact Ans.some (.pure rfl)
              · have hz : Z.length ≠ 0 := by omega
                have kk : chunk 6 (X.length + Y.length) ((X.map glC).flatten ++ (Y.map glC).flatten) = Z.map glC := by rw [← kz, lz, mz, List.flatten_append]
                have sxy : ((X.length + Y.length) * 6 ≤ (X.map glC).flatten.length + (Y.map glC).flatten.length) = True := eq_true (by rw [flat6, flat6]; omega)
                have t1 : (X.map glC).flatten.take ((X.length + Y.length) * 6) = (X.map glC).flatten := List.take_of_length_le (by rw [flat6]; omega)
                have t2 : (X.length + Y.length) * 6 - (X.map glC).flatten.length = Y.length * 6 := by rw [flat6]; omega
                cases hcx : cutL X with
                | true =>
                  simp (maxSteps := 1000000) (disch := omega) only [yBJoins, xinit_2, ↓axP, axQ, ↓if_true, ↓if_false, List.all_cons, List.all_nil, List.length_cons, List.length_nil, List.take_succ_cons, List.take_zero, List.take_nil, List.drop_succ_cons, List.drop_zero, List.drop_nil, List.getElem?_cons_zero, List.getElem?_cons_succ, List.getElem?_nil, List.nil_append, List.cons_append, List.append_nil, List.flatten_cons, List.flatten_nil, ite_true, ite_false, reduceIte, ne_eq, eq_self, Nat.reduceAdd, Nat.reduceSub, Nat.reduceMul, Nat.reduceLeDiff, Nat.reduceEqDiff, Nat.reduceBEq, reduceCtorEq, Int.reduceToNat, List.elem_nil, List.elem_cons, Int.reduceLT, Int.reduceLE, Int.reduceEq, Int.reduceAdd, Int.reduceSub, Int.reduceNeg, capnY, appzY, List.all_append, List.take_append, List.drop_append, List.length_append, tmC_len, tmC_0, tmC_1, tmC_2, tmC_3, tmC_take, tmC_drop, tmC_one, tmC_ne, awakeS_eq, da, ha, db, hb, bofS_eq fa, bofS_eq fb, ec, eg, hg, eb, ea, eb2, hX, hY, cntS_eq oa.1.1, cntS_eq ob.1.1, cntS_eq oz.1.1, cutS_eq oa.1.1, cutS_eq ob.1.1, cutS_eq oz.1.1, beq_self_eq_true, frA_glV, cz, n1, cu, hcx, goalsO_row oa _ hx, goalsO_row ob _ hy, goalsO_row oz _ hz, wz, hx, hy, take6, chunk6, kk, px, qx, sx, py, qy, sy, pxy, qxy, sz, sxy, t1, t2, Nat.zero_sub]
                  exact Ans.some (.pure rfl)
                | false =>
                  simp (maxSteps := 1000000) (disch := omega) only [yBJoins, xinit_2, ↓axP, axQ, ↓if_true, ↓if_false, List.all_cons, List.all_nil, List.length_cons, List.length_nil, List.take_succ_cons, List.take_zero, List.take_nil, List.drop_succ_cons, List.drop_zero, List.drop_nil, List.getElem?_cons_zero, List.getElem?_cons_succ, List.getElem?_nil, List.nil_append, List.cons_append, List.append_nil, List.flatten_cons, List.flatten_nil, ite_true, ite_false, reduceIte, ne_eq, eq_self, Nat.reduceAdd, Nat.reduceSub, Nat.reduceMul, Nat.reduceLeDiff, Nat.reduceEqDiff, Nat.reduceBEq, reduceCtorEq, Int.reduceToNat, List.elem_nil, List.elem_cons, Int.reduceLT, Int.reduceLE, Int.reduceEq, Int.reduceAdd, Int.reduceSub, Int.reduceNeg, capnY, appzY, List.all_append, List.take_append, List.drop_append, List.length_append, tmC_len, tmC_0, tmC_1, tmC_2, tmC_3, tmC_take, tmC_drop, tmC_one, tmC_ne, awakeS_eq, da, ha, db, hb, bofS_eq fa, bofS_eq fb, ec, eg, hg, eb, ea, eb2, hX, hY, cntS_eq oa.1.1, cntS_eq ob.1.1, cntS_eq oz.1.1, cutS_eq oa.1.1, cutS_eq ob.1.1, cutS_eq oz.1.1, beq_self_eq_true, frA_glV, cz, n1, cu, hcx, goalsO_row oa _ hx, goalsO_row ob _ hy, goalsO_row oz _ hz, wz, hx, hy, take6, chunk6, kk, px, qx, sx, py, qy, sy, pxy, qxy, sz, sxy, t1, t2, Nat.zero_sub]
                  exact Ans.some (.pure rfl)
          · rw [if_pos ea, if_neg eb2] at hj
            rw [hj] at eb
            have e1 : ((ofP b).2 = 0) = False := eq_false eb2
            simp (maxSteps := 1000000) (disch := omega) only [yBJoins, xinit_2, ↓axP, axQ, ↓if_true, ↓if_false, List.all_cons, List.all_nil, List.length_cons, List.length_nil, List.take_succ_cons, List.take_zero, List.take_nil, List.drop_succ_cons, List.drop_zero, List.drop_nil, List.getElem?_cons_zero, List.getElem?_cons_succ, List.getElem?_nil, List.nil_append, List.cons_append, List.append_nil, List.flatten_cons, List.flatten_nil, ite_true, ite_false, reduceIte, ne_eq, eq_self, Nat.reduceAdd, Nat.reduceSub, Nat.reduceMul, Nat.reduceLeDiff, Nat.reduceEqDiff, Nat.reduceBEq, reduceCtorEq, Int.reduceToNat, List.elem_nil, List.elem_cons, Int.reduceLT, Int.reduceLE, Int.reduceEq, Int.reduceAdd, Int.reduceSub, Int.reduceNeg, capnY, appzY, List.all_append, List.take_append, List.drop_append, List.length_append, tmC_len, tmC_0, tmC_1, tmC_2, tmC_3, tmC_take, tmC_drop, tmC_one, tmC_ne, awakeS_eq, da, ha, db, hb, bofS_eq fa, bofS_eq fb, ec, eg, hg, eb, ea, e1]
            exact Ans.some (.pure rfl)
        · rw [if_neg ea] at hj
          rw [hj] at eb
          have e1 : ((ofP a).2 = 0) = False := eq_false ea
          simp (maxSteps := 1000000) (disch := omega) only [yBJoins, xinit_2, ↓axP, axQ, ↓if_true, ↓if_false, List.all_cons, List.all_nil, List.length_cons, List.length_nil, List.take_succ_cons, List.take_zero, List.take_nil, List.drop_succ_cons, List.drop_zero, List.drop_nil, List.getElem?_cons_zero, List.getElem?_cons_succ, List.getElem?_nil, List.nil_append, List.cons_append, List.append_nil, List.flatten_cons, List.flatten_nil, ite_true, ite_false, reduceIte, ne_eq, eq_self, Nat.reduceAdd, Nat.reduceSub, Nat.reduceMul, Nat.reduceLeDiff, Nat.reduceEqDiff, Nat.reduceBEq, reduceCtorEq, Int.reduceToNat, List.elem_nil, List.elem_cons, Int.reduceLT, Int.reduceLE, Int.reduceEq, Int.reduceAdd, Int.reduceSub, Int.reduceNeg, capnY, appzY, List.all_append, List.take_append, List.drop_append, List.length_append, tmC_len, tmC_0, tmC_1, tmC_2, tmC_3, tmC_take, tmC_drop, tmC_one, tmC_ne, awakeS_eq, da, ha, db, hb, bofS_eq fa, bofS_eq fb, ec, eg, hg, eb, e1]
          exact Ans.some (.pure rfl)
theorem joins_any (a b : Tm) (w : World) (va vb : Value) (ha : VR (allG w) (tmA a) va) (hb : VR (allG w) (tmA b) vb) (hfa : Fine maxLen a) (hfb : Fine maxLen b) :
    Calls Tryz.prog 3 #[va, vb] w fun e w' => e = .returned (.bool true) ∧ Below w.heap.size w w' :=
  law_calls (joins_run a b hfa hfb) (by simp only [VRs]; exact ⟨_, _, rfl, ha, _, _, rfl, hb, rfl⟩)
end Go.Proofs.YtcnnobcncklgfaaGreatDoor
