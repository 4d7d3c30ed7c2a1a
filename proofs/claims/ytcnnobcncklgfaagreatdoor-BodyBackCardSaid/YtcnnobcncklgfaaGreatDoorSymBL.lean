/- The contracts of body.Goal.back, joined, Back. -/
import Derived.Test.YtcnnobcncklgfaaGreatDoorSymBK
import Derived.Test.YtcnnobcncklgfaaGreatDoorSymB4
namespace Go.Proofs.YtcnnobcncklgfaaGreatDoor
open Go Go.Abs Go.RowKit
set_option linter.unusedVariables false
set_option linter.unusedSimpArgs false
attribute [local congr] on_congr br_congr onf_congr
noncomputable def gbackS (n : Nat) : List AV → Option AV
  | [x] => (back glA x).bind fun g => only (GC n g ∧ okG g) (some (.tup [tmA (bkG g), .bool true]))
  | _ => none
theorem gbackS_eq {n : Nat} {g : Gl} (h : GC n g ∧ okG g) : gbackS n [.agg (glC g)] = some (.tup [.agg (tmC (bkG g)), .bool true]) := by
  show (back glA (glA g)).bind _ = _
  rw [back_eq glA_inj]; exact only_eq h _
noncomputable def joinedS (n : Nat) : List AV → Option AV
  | [x] => (ofRow x).bind fun l => only (WC n l ∧ okL l) (some (.tup [tmA (bkL l), .bool true]))
  | _ => none
theorem joinedS_eq {n : Nat} {l : List Gl} (h : WC n l ∧ okL l) : joinedS n [glV l] = some (.tup [.agg (tmC (bkL l)), .bool true]) := by
  simp only [joinedS, ofRow_eq, Option.bind_some]; exact only_eq h _
theorem joinedS_0 (args : List AV) : joinedS 0 args = none := by
  unfold joinedS
  split
  · rename_i x
    cases ofRow x with
    | none => rfl
    | some l => exact only_none (fun h => absurd h.1.1 (Nat.not_lt_zero _)) _
  · rfl
set_option maxRecDepth 10000 in
set_option maxHeartbeats 4000000 in
theorem gback_one {n : Nat} (hj : HookOne Tryz.prog 59 (pureF (joinedS n))) : HookOne Tryz.prog 86 (pureF (gbackS n)) := by
  refine HookOne.ofPureF (by decide +kernel) fun args y h H => ?_
  have hl : ∀ e ∈ [(59, pureF (joinedS n)), (42, pureF atomS), (14, pureF compS)], HookOne Tryz.prog e.1 e.2 := by
    intro e he
    simp only [List.mem_cons, List.not_mem_nil, or_false] at he
    rcases he with rfl | rfl | rfl
    · exact hj
    · exact atom_one
    · exact comp_one
  unfold gbackS at h; split at h
  · rename_i x
    rw [Option.bind_eq_some_iff] at h
    obtain ⟨g, h1, h2⟩ := h
    obtain ⟨⟨hw, ho⟩, h3⟩ := only_ok h2
    cases h3
    obtain rfl := back_ok h1
    refine ACalls.ofRun hl mixed (draws _ rfl) yGBack_ok rfl (by simp [pureL, pure_glA]) 4 ?_ H
    have hr := hw.rows.2
    obtain ⟨k, t, rows⟩ := g
    simp only [okG] at ho
    unfold glA tmA
    rcases ho with ⟨rfl, rfl, -⟩ | ⟨rfl, ho, ⟨rfl, rfl⟩ | ⟨rfl, h2⟩ | ⟨rfl, h2⟩ | ⟨rfl, h2⟩⟩
    · have hb : bkG (.mk 1 t []) = t := by simp [bkG]
      rw [hb]
      simp (maxSteps := 1000000) (disch := omega) only [yGBack, xinit_1, ↓axP, axQ, ↓if_true, ↓if_false, List.all_cons, List.all_nil, List.length_cons, List.length_nil, List.take_succ_cons, List.take_zero, List.take_nil, List.drop_succ_cons, List.drop_zero, List.drop_nil, List.getElem?_cons_zero, List.getElem?_cons_succ, List.getElem?_nil, List.nil_append, List.cons_append, List.append_nil, List.flatten_cons, List.flatten_nil, ite_true, ite_false, reduceIte, ne_eq, eq_self, Nat.reduceAdd, Nat.reduceSub, Nat.reduceMul, Nat.reduceLeDiff, Nat.reduceEqDiff, Nat.reduceBEq, reduceCtorEq, Int.reduceToNat, List.elem_nil, List.elem_cons, Int.reduceLT, Int.reduceLE, Int.reduceEq, Int.reduceAdd, Int.reduceSub, Int.reduceNeg, capnY, appzY, List.all_append, List.take_append, List.drop_append, List.length_append, glC_len, glC_0, glC_5, glC_t, glC_take, glC_drop, glC_one, glC_ne, glV_cells, glV_fit, glV_one, frA_glV, tmC_len, tmC_0, tmC_1, tmC_2, tmC_3, tmC_take, tmC_drop, tmC_one, tmC_ne, Gl.kind, Gl.rows, Gl.t, List.map_nil, iter_one, yGBacka_r, yGBacka_]
      exact Ans.some (.ofTup (.cons (.pure (pure_tmA _)) (.cons (.pure rfl) (.nil _))))
    · have hb : bkG (.mk 2 zT []) = .mk 2 0 [33] [] := by simp [bkG]
      rw [hb]
      simp (maxSteps := 1000000) (disch := omega) only [yGBack, xinit_1, ↓axP, axQ, ↓if_true, ↓if_false, List.all_cons, List.all_nil, List.length_cons, List.length_nil, List.take_succ_cons, List.take_zero, List.take_nil, List.drop_succ_cons, List.drop_zero, List.drop_nil, List.getElem?_cons_zero, List.getElem?_cons_succ, List.getElem?_nil, List.nil_append, List.cons_append, List.append_nil, List.flatten_cons, List.flatten_nil, ite_true, ite_false, reduceIte, ne_eq, eq_self, Nat.reduceAdd, Nat.reduceSub, Nat.reduceMul, Nat.reduceLeDiff, Nat.reduceEqDiff, Nat.reduceBEq, reduceCtorEq, Int.reduceToNat, List.elem_nil, List.elem_cons, Int.reduceLT, Int.reduceLE, Int.reduceEq, Int.reduceAdd, Int.reduceSub, Int.reduceNeg, capnY, appzY, List.all_append, List.take_append, List.drop_append, List.length_append, glC_len, glC_0, glC_5, glC_t, glC_take, glC_drop, glC_one, glC_ne, glV_cells, glV_fit, glV_one, frA_glV, tmC_len, tmC_0, tmC_1, tmC_2, tmC_3, tmC_take, tmC_drop, tmC_one, tmC_ne, Gl.kind, Gl.rows, Gl.t, List.map_nil, iter_one, yGBacka_r, yGBacka_, atomS_eq]
      exact Ans.some (.ofTup (.cons (.pure (pure_tmA _)) (.cons (.pure rfl) (.nil _))))
    · obtain ⟨r1, r2, rfl⟩ : ∃ r1 r2, rows = [r1, r2] := by
        match rows, h2 with
        | [a, b], _ => exact ⟨a, b, rfl⟩
      have e1 := joinedS_eq (n := n) (l := r1) ⟨hr r1 (by simp [Gl.rows]), okRs_iff.1 ho r1 (by simp)⟩
      have e2 := joinedS_eq (n := n) (l := r2) ⟨hr r2 (by simp [Gl.rows]), okRs_iff.1 ho r2 (by simp)⟩
      have ec := compS_eq [59] [bkL r1, bkL r2] (by simp)
      simp only [List.map_cons, List.map_nil] at ec
      have hb : bkG (.mk 3 zT [r1, r2]) = .mk 2 0 [59] [bkL r1, bkL r2] := by simp [bkG, bkRs]
      rw [hb]
      simp (maxSteps := 1000000) (disch := omega) only [yGBack, xinit_1, ↓axP, axQ, ↓if_true, ↓if_false, List.all_cons, List.all_nil, List.length_cons, List.length_nil, List.take_succ_cons, List.take_zero, List.take_nil, List.drop_succ_cons, List.drop_zero, List.drop_nil, List.getElem?_cons_zero, List.getElem?_cons_succ, List.getElem?_nil, List.nil_append, List.cons_append, List.append_nil, List.flatten_cons, List.flatten_nil, ite_true, ite_false, reduceIte, ne_eq, eq_self, Nat.reduceAdd, Nat.reduceSub, Nat.reduceMul, Nat.reduceLeDiff, Nat.reduceEqDiff, Nat.reduceBEq, reduceCtorEq, Int.reduceToNat, List.elem_nil, List.elem_cons, Int.reduceLT, Int.reduceLE, Int.reduceEq, Int.reduceAdd, Int.reduceSub, Int.reduceNeg, capnY, appzY, List.all_append, List.take_append, List.drop_append, List.length_append, glC_len, glC_0, glC_5, glC_t, glC_take, glC_drop, glC_one, glC_ne, glV_cells, glV_fit, glV_one, frA_glV, tmC_len, tmC_0, tmC_1, tmC_2, tmC_3, tmC_take, tmC_drop, tmC_one, tmC_ne, Gl.kind, Gl.rows, Gl.t, List.map_cons, List.map_nil, iter_one, yGBacka_r, yGBacka_, e1, e2, ec]
      exact Ans.some (.ofTup (.cons (.pure (pure_tmA _)) (.cons (.pure rfl) (.nil _))))
    · obtain ⟨r1, r2, r3, rfl⟩ : ∃ r1 r2 r3, rows = [r1, r2, r3] := by
        match rows, h2 with
        | [a, b, c], _ => exact ⟨a, b, c, rfl⟩
      have e1 := joinedS_eq (n := n) (l := r1) ⟨hr r1 (by simp [Gl.rows]), okRs_iff.1 ho r1 (by simp)⟩
      have e2 := joinedS_eq (n := n) (l := r2) ⟨hr r2 (by simp [Gl.rows]), okRs_iff.1 ho r2 (by simp)⟩
      have e3 := joinedS_eq (n := n) (l := r3) ⟨hr r3 (by simp [Gl.rows]), okRs_iff.1 ho r3 (by simp)⟩
      have ec := compS_eq [45, 62] [bkL r1, bkL r2] (by simp)
      have ed := compS_eq [59] [.mk 2 0 [45, 62] [bkL r1, bkL r2], bkL r3] (by simp)
      simp only [List.map_cons, List.map_nil] at ec ed
      have hb : bkG (.mk 4 zT [r1, r2, r3]) = .mk 2 0 [59] [.mk 2 0 [45, 62] [bkL r1, bkL r2], bkL r3] := by simp [bkG, bkRs]
      rw [hb]
      simp (maxSteps := 1000000) (disch := omega) only [yGBack, xinit_1, ↓axP, axQ, ↓if_true, ↓if_false, List.all_cons, List.all_nil, List.length_cons, List.length_nil, List.take_succ_cons, List.take_zero, List.take_nil, List.drop_succ_cons, List.drop_zero, List.drop_nil, List.getElem?_cons_zero, List.getElem?_cons_succ, List.getElem?_nil, List.nil_append, List.cons_append, List.append_nil, List.flatten_cons, List.flatten_nil, ite_true, ite_false, reduceIte, ne_eq, eq_self, Nat.reduceAdd, Nat.reduceSub, Nat.reduceMul, Nat.reduceLeDiff, Nat.reduceEqDiff, Nat.reduceBEq, reduceCtorEq, Int.reduceToNat, List.elem_nil, List.elem_cons, Int.reduceLT, Int.reduceLE, Int.reduceEq, Int.reduceAdd, Int.reduceSub, Int.reduceNeg, capnY, appzY, List.all_append, List.take_append, List.drop_append, List.length_append, glC_len, glC_0, glC_5, glC_t, glC_take, glC_drop, glC_one, glC_ne, glV_cells, glV_fit, glV_one, frA_glV, tmC_len, tmC_0, tmC_1, tmC_2, tmC_3, tmC_take, tmC_drop, tmC_one, tmC_ne, Gl.kind, Gl.rows, Gl.t, List.map_cons, List.map_nil, iter_one, yGBacka_r, yGBacka_, e1, e2, e3, ec, ed]
      exact Ans.some (.ofTup (.cons (.pure (pure_tmA _)) (.cons (.pure rfl) (.nil _))))
    · obtain ⟨r1, rfl⟩ : ∃ r1, rows = [r1] := by
        match rows, h2 with
        | [a], _ => exact ⟨a, rfl⟩
      have e1 := joinedS_eq (n := n) (l := r1) ⟨hr r1 (by simp [Gl.rows]), okRs_iff.1 ho r1 (by simp)⟩
      have ec := compS_eq [92, 43] [bkL r1] (by simp)
      simp only [List.map_cons, List.map_nil] at ec
      have hb : bkG (.mk 5 zT [r1]) = .mk 2 0 [92, 43] [bkL r1] := by simp [bkG, bkRs]
      rw [hb]
      simp (maxSteps := 1000000) (disch := omega) only [yGBack, xinit_1, ↓axP, axQ, ↓if_true, ↓if_false, List.all_cons, List.all_nil, List.length_cons, List.length_nil, List.take_succ_cons, List.take_zero, List.take_nil, List.drop_succ_cons, List.drop_zero, List.drop_nil, List.getElem?_cons_zero, List.getElem?_cons_succ, List.getElem?_nil, List.nil_append, List.cons_append, List.append_nil, List.flatten_cons, List.flatten_nil, ite_true, ite_false, reduceIte, ne_eq, eq_self, Nat.reduceAdd, Nat.reduceSub, Nat.reduceMul, Nat.reduceLeDiff, Nat.reduceEqDiff, Nat.reduceBEq, reduceCtorEq, Int.reduceToNat, List.elem_nil, List.elem_cons, Int.reduceLT, Int.reduceLE, Int.reduceEq, Int.reduceAdd, Int.reduceSub, Int.reduceNeg, capnY, appzY, List.all_append, List.take_append, List.drop_append, List.length_append, glC_len, glC_0, glC_5, glC_t, glC_take, glC_drop, glC_one, glC_ne, glV_cells, glV_fit, glV_one, frA_glV, tmC_len, tmC_0, tmC_1, tmC_2, tmC_3, tmC_take, tmC_drop, tmC_one, tmC_ne, Gl.kind, Gl.rows, Gl.t, List.map_cons, List.map_nil, iter_one, yGBacka_r, yGBacka_, e1, ec]
      exact Ans.some (.ofTup (.cons (.pure (pure_tmA _)) (.cons (.pure rfl) (.nil _))))
  · cases h
def zC : List AV := [.int .i64 0, .int .i64 0, .str [], .nils]
/-- What holds of memory in joined. -/
def JoJ (H : AH) (c : List AV) : Prop := H.wf ∧ 2 ≤ H.next ∧ H.gs.get 0 = some ⟨0, 0, zC⟩ ∧ H.gs.get 1 = some ⟨0, 0, c⟩
theorem bkL_cons (g : Gl) (l : List Gl) (h : l ≠ []) : bkL (g :: l) = cmT (bkG g) (bkL l) := by
  cases l with
  | nil => exact absurd rfl h
  | cons a b => simp [bkL]
theorem bkL_one (g : Gl) : bkL [g] = bkG g := by simp [bkL]
theorem jo_wf {nx : Nat} {gs : Tr Grp} {ms : Tr (List (AV × AV))} (h : AH.wf ⟨nx, gs, ms⟩) {gs' : Tr Grp} {k : Nat} (hg : ∀ g, nx + k ≤ g → gs'.get g = gs.get g) : AH.wf ⟨nx + k, gs', ms⟩ := fun g hg' => by
  have h1 : nx + k ≤ g := hg'
  show gs'.get g = none
  rw [hg g h1]; exact h g (by show nx ≤ g; omega)
set_option maxRecDepth 10000 in
set_option maxHeartbeats 4000000 in
theorem jo_loop {n : Nat} (F0 : Nat) (l : List Gl) (hsz : l.length ≤ 100000000) (hl : ∀ g ∈ l, GC n g ∧ okG g) : ∀ (k : Nat) (l1 l2 : List Gl) (c : List AV) (i : Int) (H : AH) (F : Nat), l1.length = k → l = l1 ++ l2 → i = (l1.length : Int) - 1 → (c = if l2 = [] then zC else tmC (bkL l2)) → JoJ H c → k < F →
    ∃ H', iter (ycode (tcall [(86, pureF (gbackS n)), (42, pureF atomS), (14, pureF compS)]) F0 yJoineda) F (mk [(0, .vals 6 (l.map glC)), (2, .ptr 0 0 0), (4, .ptr 1 0 0), (5, .int .i64 i)]) H = some (.exit 0, mk [(2, .ptr 0 0 0), (4, .ptr 1 0 0)], H') ∧ JoJ H' (if l = [] then zC else tmC (bkL l)) := by
  intro k
  induction k with
  | zero =>
    intro l1 l2 c i H F h1 h2 h3 h4 h5 h6
    obtain ⟨m, rfl⟩ := iter_pos (f := fun _ _ => none) (n := F) (by omega)
    obtain rfl := List.eq_nil_of_length_eq_zero h1
    have hi : (0 ≤ i) = False := eq_false (by simp at h3; omega)
    refine ⟨H, ?_, ?_⟩
    · rw [iter_one]
      simp (maxSteps := 1000000) (disch := omega) only [yJoineda_r, yJoineda_, ↓axP, axQ, ↓if_true, ↓if_false, List.all_cons, List.all_nil, List.length_cons, List.length_nil, List.take_succ_cons, List.take_zero, List.take_nil, List.drop_succ_cons, List.drop_zero, List.drop_nil, List.getElem?_cons_zero, List.getElem?_cons_succ, List.getElem?_nil, List.nil_append, List.cons_append, List.append_nil, List.flatten_cons, List.flatten_nil, ite_true, ite_false, reduceIte, ne_eq, eq_self, Nat.reduceAdd, Nat.reduceSub, Nat.reduceMul, Nat.reduceLeDiff, Nat.reduceEqDiff, Nat.reduceBEq, reduceCtorEq, Int.reduceToNat, List.elem_nil, List.elem_cons, Int.reduceLT, Int.reduceLE, Int.reduceEq, Int.reduceAdd, Int.reduceSub, Int.reduceNeg, capnY, appzY, List.all_append, List.take_append, List.drop_append, List.length_append, hi]
    · rw [List.nil_append] at h2
      rw [h2, ← h4]; exact h5
  | succ k ih =>
    intro l1 l2 c i H F h1 h2 h3 h4 h5 h6
    obtain ⟨m, rfl⟩ := iter_pos (f := fun _ _ => none) (n := F) (by omega)
    rcases List.eq_nil_or_concat l1 with rfl | ⟨L, g, rfl⟩
    · simp at h1
    · rw [List.concat_eq_append] at h1 h2 h3
      have hL : L.length = k := by simpa using h1
      have hi : i = (L.length : Int) := by rw [h3]; simp
      subst hi
      have h2' : l = L ++ g :: l2 := by rw [h2]; simp
      have hge : ((0 : Int) ≤ (L.length : Int)) = True := eq_true (by omega)
      have hget : (l.map glC)[L.length]? = some (glC g) := by rw [h2']; exact mid_get _ _ _ _
      have hll : l.length = L.length + (l2.length + 1) := by rw [h2']; simp
      have hr := gbackS_eq (hl g (by rw [h2']; simp))
      obtain ⟨w1, w2, g0, g1⟩ := h5
      obtain ⟨nx, gs, ms⟩ := H
      simp only at g0 g1 w2
      have f0 := w1 nx (Nat.le_refl _)
      have f1 := w1 (nx + 1) (Nat.le_succ _)
      simp only at f0 f1
      have q1 : (1 = nx) = False := eq_false (by omega)
      have q2 : (1 = nx + 1) = False := eq_false (by omega)
      have q3 : (nx = nx + 1) = False := eq_false (by omega)
      have q4 : (nx + 1 = nx) = False := eq_false (by omega)
      have q5 : (nx = 1) = False := eq_false (by omega)
      by_cases hn : l2 = []
      · subst hn
        simp only [if_true] at h4
        have hlt : ((L.length : Int) < (l.length : Int) - 1) = False := eq_false (by simp at hll; omega)
        have J : JoJ ⟨nx + 1, (gs.set nx ⟨0, 0, tmC (bkG g)⟩).set 1 ⟨0, 0, tmC (bkG g)⟩, ms⟩ (tmC (bkG g)) := by
          refine ⟨jo_wf w1 fun j hj => ?_, by show 2 ≤ nx + 1; omega, ?_, Tr.get_set_same _ _ _⟩
          · rw [Tr.get_set_ne _ _ (by omega), Tr.get_set_ne _ _ (by omega)]
          · show ((gs.set nx _).set 1 _).get 0 = _
            rw [Tr.get_set_ne _ _ (by omega), Tr.get_set_ne _ _ (by omega)]; exact g0
        obtain ⟨H', k1, k2⟩ := ih L [g] (tmC (bkG g)) ((L.length : Int) - 1) _ m hL (by rw [h2']) rfl (by simp [bkL_one]) J (by omega)
        refine ⟨H', ?_, k2⟩
        subst h4
        unfold zC at g1
        rw [iter_one]
        simp (maxSteps := 1000000) (disch := omega) only [yJoineda_r, yJoineda_, ↓axP, axQ, ↓if_true, ↓if_false, List.all_cons, List.all_nil, List.length_cons, List.length_nil, List.take_succ_cons, List.take_zero, List.take_nil, List.drop_succ_cons, List.drop_zero, List.drop_nil, List.getElem?_cons_zero, List.getElem?_cons_succ, List.getElem?_nil, List.nil_append, List.cons_append, List.append_nil, List.flatten_cons, List.flatten_nil, ite_true, ite_false, reduceIte, ne_eq, eq_self, Nat.reduceAdd, Nat.reduceSub, Nat.reduceMul, Nat.reduceLeDiff, Nat.reduceEqDiff, Nat.reduceBEq, reduceCtorEq, Int.reduceToNat, List.elem_nil, List.elem_cons, Int.reduceLT, Int.reduceLE, Int.reduceEq, Int.reduceAdd, Int.reduceSub, Int.reduceNeg, capnY, appzY, List.all_append, List.take_append, List.drop_append, List.length_append, tmC_len, tmC_0, tmC_1, tmC_2, tmC_3, tmC_take, tmC_drop, tmC_one, tmC_ne, glC_len, glC_0, glC_5, glC_t, glC_take, glC_drop, glC_one, glC_ne, glV_cells, glV_fit, glV_one, frA_glV, hge, hget, hlt, Int.toNat_natCast, List.length_map, hr, f0, f1, g1, q1, q2, q3, q4, q5, k1]
      · simp only [if_neg hn] at h4
        have hp := List.length_pos_iff.2 hn
        have hlt : ((L.length : Int) < (l.length : Int) - 1) = True := eq_true (by omega)
        have ec := compS_eq [44] [bkG g, bkL l2] (by simp)
        simp only [List.map_cons, List.map_nil] at ec
        have J : JoJ ⟨nx + 2, (((gs.set nx ⟨0, 0, tmC (bkG g)⟩).set (nx + 1) ⟨0, 8, tmC (bkG g) ++ tmC (bkL l2)⟩).set nx ⟨0, 0, tmC (.mk 2 0 [44] [bkG g, bkL l2])⟩).set 1 ⟨0, 0, tmC (.mk 2 0 [44] [bkG g, bkL l2])⟩, ms⟩ (tmC (.mk 2 0 [44] [bkG g, bkL l2])) := by
          refine ⟨jo_wf w1 fun j hj => ?_, by show 2 ≤ nx + 2; omega, ?_, Tr.get_set_same _ _ _⟩
          · rw [Tr.get_set_ne _ _ (by omega), Tr.get_set_ne _ _ (by omega), Tr.get_set_ne _ _ (by omega), Tr.get_set_ne _ _ (by omega)]
          · show ((((gs.set nx _).set (nx + 1) _).set nx _).set 1 _).get 0 = _
            rw [Tr.get_set_ne _ _ (by omega), Tr.get_set_ne _ _ (by omega), Tr.get_set_ne _ _ (by omega), Tr.get_set_ne _ _ (by omega)]; exact g0
        obtain ⟨H', k1, k2⟩ := ih L (g :: l2) (tmC (.mk 2 0 [44] [bkG g, bkL l2])) ((L.length : Int) - 1) _ m hL h2' rfl (by rw [if_neg (by simp), bkL_cons g l2 hn]; rfl) J (by omega)
        refine ⟨H', ?_, k2⟩
        subst h4
        rw [iter_one]
        simp (maxSteps := 1000000) (disch := omega) only [yJoineda_r, yJoineda_, ↓axP, axQ, ↓if_true, ↓if_false, List.all_cons, List.all_nil, List.length_cons, List.length_nil, List.take_succ_cons, List.take_zero, List.take_nil, List.drop_succ_cons, List.drop_zero, List.drop_nil, List.getElem?_cons_zero, List.getElem?_cons_succ, List.getElem?_nil, List.nil_append, List.cons_append, List.append_nil, List.flatten_cons, List.flatten_nil, ite_true, ite_false, reduceIte, ne_eq, eq_self, Nat.reduceAdd, Nat.reduceSub, Nat.reduceMul, Nat.reduceLeDiff, Nat.reduceEqDiff, Nat.reduceBEq, reduceCtorEq, Int.reduceToNat, List.elem_nil, List.elem_cons, Int.reduceLT, Int.reduceLE, Int.reduceEq, Int.reduceAdd, Int.reduceSub, Int.reduceNeg, capnY, appzY, List.all_append, List.take_append, List.drop_append, List.length_append, tmC_len, tmC_0, tmC_1, tmC_2, tmC_3, tmC_take, tmC_drop, tmC_one, tmC_ne, glC_len, glC_0, glC_5, glC_t, glC_take, glC_drop, glC_one, glC_ne, glV_cells, glV_fit, glV_one, frA_glV, hge, hget, hlt, Int.toNat_natCast, List.length_map, hr, f0, f1, g1, q1, q2, q3, q4, q5, ec, k1]
theorem joined_step {n : Nat} (hj : HookOne Tryz.prog 59 (pureF (joinedS n))) : HookOne Tryz.prog 59 (pureF (joinedS (n + 1))) := by
  refine HookOne.ofPureF (by decide +kernel) fun args y h H => ?_
  have hl : ∀ e ∈ [(86, pureF (gbackS n)), (42, pureF atomS), (14, pureF compS)], HookOne Tryz.prog e.1 e.2 := by
    intro e he
    simp only [List.mem_cons, List.not_mem_nil, or_false] at he
    rcases he with rfl | rfl | rfl
    · exact gback_one hj
    · exact atom_one
    · exact comp_one
  unfold joinedS at h; split at h
  · rename_i x
    rw [Option.bind_eq_some_iff] at h
    obtain ⟨l, h1, h2⟩ := h
    obtain ⟨⟨hw, ho⟩, h3⟩ := only_ok h2
    cases h3
    obtain rfl := back_ok h1
    have hlen := len_wt l
    have h100 := hw.2
    refine ACalls.ofRun hl mixed (draws _ rfl) yJoined_ok rfl (by simp [pureL, pure_glV]) (l.length + 1) ?_ H
    unfold glV tmA
    by_cases hn : l = []
    · subst hn
      have hb : bkL [] = .mk 2 0 [116, 114, 117, 101] [] := by simp [bkL, trueT]
      rw [hb]
      simp (maxSteps := 1000000) (disch := omega) only [yJoined, xinit_1, ↓axP, axQ, ↓if_true, ↓if_false, List.all_cons, List.all_nil, List.length_cons, List.length_nil, List.take_succ_cons, List.take_zero, List.take_nil, List.drop_succ_cons, List.drop_zero, List.drop_nil, List.getElem?_cons_zero, List.getElem?_cons_succ, List.getElem?_nil, List.nil_append, List.cons_append, List.append_nil, List.flatten_cons, List.flatten_nil, ite_true, ite_false, reduceIte, ne_eq, eq_self, Nat.reduceAdd, Nat.reduceSub, Nat.reduceMul, Nat.reduceLeDiff, Nat.reduceEqDiff, Nat.reduceBEq, reduceCtorEq, Int.reduceToNat, List.elem_nil, List.elem_cons, Int.reduceLT, Int.reduceLE, Int.reduceEq, Int.reduceAdd, Int.reduceSub, Int.reduceNeg, capnY, appzY, List.all_append, List.take_append, List.drop_append, List.length_append, tmC_len, tmC_0, tmC_1, tmC_2, tmC_3, tmC_take, tmC_drop, tmC_one, tmC_ne, List.map_nil, atomS_eq]
      exact Ans.some (.ofTup (.cons (.pure (pure_tmA _)) (.cons (.pure rfl) (.nil _))))
    · have hp := List.length_pos_iff.2 hn
      have h0 : ((l.length : Int) = 0) = False := eq_false (by omega)
      have J : JoJ ⟨2, (Tr.nil.set 0 ⟨0, 0, zC⟩).set 1 ⟨0, 0, zC⟩, .nil⟩ zC := ⟨wf_add (wf_add wf_empty _) _, Nat.le_refl _, by show ((Tr.nil.set 0 _).set 1 _).get 0 = _; rw [Tr.get_set_ne _ _ (by omega), Tr.get_set_same], Tr.get_set_same _ _ _⟩
      obtain ⟨H', q, w1, w2, g0, g1⟩ := jo_loop (n := n) (l.length + 1) l (by omega) (fun g hg => ⟨hw.gc hg, okL_iff.1 ho g hg⟩) l.length l [] zC ((l.length : Int) - 1) _ (l.length + 1) rfl (by simp) rfl (by simp) J (Nat.lt_succ_self _)
      rw [if_neg hn] at g1
      unfold zC at q g0
      obtain ⟨nx, gs, ms⟩ := H'
      simp only at g0 g1
      simp (maxSteps := 1000000) (disch := omega) only [yJoined, xinit_1, ↓axP, axQ, ↓if_true, ↓if_false, List.all_cons, List.all_nil, List.length_cons, List.length_nil, List.take_succ_cons, List.take_zero, List.take_nil, List.drop_succ_cons, List.drop_zero, List.drop_nil, List.getElem?_cons_zero, List.getElem?_cons_succ, List.getElem?_nil, List.nil_append, List.cons_append, List.append_nil, List.flatten_cons, List.flatten_nil, ite_true, ite_false, reduceIte, ne_eq, eq_self, Nat.reduceAdd, Nat.reduceSub, Nat.reduceMul, Nat.reduceLeDiff, Nat.reduceEqDiff, Nat.reduceBEq, reduceCtorEq, Int.reduceToNat, List.elem_nil, List.elem_cons, Int.reduceLT, Int.reduceLE, Int.reduceEq, Int.reduceAdd, Int.reduceSub, Int.reduceNeg, capnY, appzY, List.all_append, List.take_append, List.drop_append, List.length_append, tmC_len, tmC_0, tmC_1, tmC_2, tmC_3, tmC_take, tmC_drop, tmC_one, tmC_ne, List.length_map, h0, q, g0, g1]
      exact Ans.some (.ofTup (.cons (.pure (pure_tmA _)) (.cons (.pure rfl) (.nil _))))
  · cases h
theorem joined_any : ∀ n, HookOne Tryz.prog 59 (pureF (joinedS n)) := lev_any _ (fun h => joined_step h) joinedS_0 (by decide +kernel)
noncomputable def bbackS (n : Nat) : List AV → Option AV
  | [x] => (ofRow x).bind fun l => only (WC n l ∧ okL l) (some (tmA (bkL l)))
  | _ => none
theorem bbackS_eq {n : Nat} {l : List Gl} (h : WC n l ∧ okL l) : bbackS n [glV l] = some (.agg (tmC (bkL l))) := by
  simp only [bbackS, ofRow_eq, Option.bind_some]; exact only_eq h _
theorem bback_one (n : Nat) : HookOne Tryz.prog 31 (pureF (bbackS n)) := by
  refine HookOne.ofPureF (by decide +kernel) fun args y h H => ?_
  have hl : ∀ e ∈ [(59, pureF (joinedS n))], HookOne Tryz.prog e.1 e.2 := by
    intro e he; simp at he; subst he; exact joined_any n
  unfold bbackS at h; split at h
  · rename_i x
    rw [Option.bind_eq_some_iff] at h
    obtain ⟨l, h1, h2⟩ := h
    obtain ⟨hw, h3⟩ := only_ok h2
    cases h3
    obtain rfl := back_ok h1
    refine ACalls.ofRun hl mixed (draws _ rfl) yBack_ok rfl (by simp [pureL, pure_glV]) 0 ?_ H
    unfold tmA
    simp (maxSteps := 1000000) (disch := omega) only [yBack, xinit_1, ↓axP, axQ, ↓if_true, ↓if_false, List.all_cons, List.all_nil, List.length_cons, List.length_nil, List.take_succ_cons, List.take_zero, List.take_nil, List.drop_succ_cons, List.drop_zero, List.drop_nil, List.getElem?_cons_zero, List.getElem?_cons_succ, List.getElem?_nil, List.nil_append, List.cons_append, List.append_nil, List.flatten_cons, List.flatten_nil, ite_true, ite_false, reduceIte, ne_eq, eq_self, Nat.reduceAdd, Nat.reduceSub, Nat.reduceMul, Nat.reduceLeDiff, Nat.reduceEqDiff, Nat.reduceBEq, reduceCtorEq, Int.reduceToNat, List.elem_nil, List.elem_cons, Int.reduceLT, Int.reduceLE, Int.reduceEq, Int.reduceAdd, Int.reduceSub, Int.reduceNeg, capnY, appzY, List.all_append, List.take_append, List.drop_append, List.length_append, tmC_len, tmC_0, tmC_1, tmC_2, tmC_3, tmC_take, tmC_drop, tmC_one, tmC_ne, frA_glV, joinedS_eq hw]
    exact Ans.some (.pure (pure_tmA _))
  · cases h
end Go.Proofs.YtcnnobcncklgfaaGreatDoor
