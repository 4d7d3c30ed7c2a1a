/- The contract of the law's goals. -/
import Derived.Test.YtcnnobcncklgfaaGreatDoorSymB9
import Derived.Test.YtcnnobcncklgfaaGreatDoorSymOwn14
import Derived.Test.YtcnnobcncklgfaaGreatDoorAbsS
namespace Go.Proofs.YtcnnobcncklgfaaGreatDoor
open Go Go.Abs Go.RowKit
set_option linter.unusedVariables false
set_option linter.unusedSimpArgs false
attribute [local congr] on_congr br_congr onf_congr
def InG (v : AV) (g : Nat) : Prop := ∃ e i n z, v = .slc g e i n z
theorem own_app_in {H : AH} {v x : AV} {z b n m : Nat} {cs xs : List AV} {v' : AV} {H' : AH} (h : Ows H v z cs n) (hx : listCells H z x = some (m, xs)) (hm : m ≠ 0) (e : iapp z b v x H = some (v', H')) {g : Nat} (hg : InG v' g) : InG v g ∨ g = H.next := by
  obtain ⟨-, h⟩ := h
  obtain ⟨e1, i1, n1, z1, rfl⟩ := hg
  rcases h with ⟨rfl, -⟩ | ⟨g2, e2, rfl, hg, -⟩
  · rw [app_nils, hx, on_some, if_neg hm] at e
    split at e
    · cases e; exact .inr rfl
    · cases e
  · rw [app_slc, hx, on_some, if_neg hm, hg, on_some] at e
    split at e
    · cases e; exact .inl ⟨_, _, _, _, rfl⟩
    · cases e
theorem FzSL.own {S : Nat → Prop} {H : AH} {o : AV} {R : List (List Gl)} (h : Ows H o 1 (R.map glV) R.length) (hs : ∀ g, InG o g → S g) : FzSL S H [o] [.vals 1 (R.map fun r => [glV r])] := by
  intro H' h'
  refine .cons ?_ (.nil _)
  have hf : (R.map fun r => [glV r]).flatten = R.map glV := by
    clear h
    induction R with
    | nil => rfl
    | cons a b ih => simp [ih]
  have hp : FzL H' (R.map glV) (R.map fun r => [glV r]).flatten := by
    rw [hf]
    refine FzL.pure ?_
    rw [pureL_all]
    intro x hx
    obtain ⟨r, _, rfl⟩ := List.mem_map.1 hx
    exact pure_glV r
  obtain ⟨hlen, h⟩ := h
  rcases h with ⟨rfl, h0⟩ | ⟨g, e, rfl, h2, h3⟩
  · have : R = [] := List.eq_nil_of_length_eq_zero h0
    subst this
    exact .nils 1
  · exact Fz.ofSlc (by rw [h' g (hs g ⟨_, _, _, _, rfl⟩)]; exact h2) (by simp) (by simp) hp
noncomputable def goalsS (m n : Nat) : List AV → Option AV
  | [x] => (ofRow x).bind fun l => only ((WC n l ∧ wtL l ≤ 1000000) ∧ tfL m l) (some (glV l))
  | _ => none
theorem goalsS_eq {m n : Nat} {l : List Gl} (h : (WC n l ∧ wtL l ≤ 1000000) ∧ tfL m l) : goalsS m n [glV l] = some (glV l) := by
  simp only [goalsS, ofRow_eq, Option.bind_some]; exact only_eq h _
theorem goalsS_0 (m : Nat) (args : List AV) : goalsS m 0 args = none := by
  unfold goalsS
  split
  · rename_i x
    cases ofRow x with
    | none => rfl
    | some l => exact only_none (fun h => absurd h.1.1.1 (Nat.not_lt_zero _)) _
  · rfl
def GlJ (H : AH) (gp : Nat) (k : Int) (t : Tm) (o : AV) (R : List (List Gl)) : Prop :=
  H.wf ∧ gp < H.next ∧ H.gs.get gp = some ⟨0, 0, .int .i64 k :: (tmC t ++ [o])⟩ ∧ Ows H o 1 (R.map glV) R.length ∧ OB (gp + 1) o
theorem tmCo_4 (t : Tm) (o : AV) : (tmC t ++ [o])[4]? = some o := by rw [tmC_eq]; exact (rfl)
theorem tmCo_len (t : Tm) (o : AV) : (tmC t ++ [o]).length = 5 := by rw [tmC_eq]; exact (rfl)
theorem tmCo_take4 (t : Tm) (o : AV) : (tmC t ++ [o]).take 4 = tmC t := by rw [tmC_eq]; exact (rfl)
theorem tmCo_take5 (t : Tm) (o : AV) : (tmC t ++ [o]).take 5 = tmC t ++ [o] := by rw [tmC_eq]; exact (rfl)
theorem tmCo_drop5 (t : Tm) (o : AV) : (tmC t ++ [o]).drop 5 = [] := by rw [tmC_eq]; exact (rfl)
set_option maxHeartbeats 1000000 in
theorem gl_loop {m n : Nat} (F0 : Nat) (W : AV) (l : List Gl) (hl : l.length ≤ 1000000) (l1 l3 : List Gl) (g : Gl) (he : l = l1 ++ g :: l3) (hb : g.rows.length ≤ 1000000) (gp : Nat) : ∀ (r2 r1 : List (List Gl)) (o : AV) (H : AH) (F : Nat), g.rows = r1 ++ r2 → (∀ r ∈ r2, (WC n r ∧ wtL r ≤ 1000000) ∧ tfL m r) → GlJ H gp g.kind g.t o r1 → r2.length < F →
    ∃ o' H', iter (ycode (tcall [(20, pureF (ownS m)), (17, pureF (goalsS m n))]) F0 yGoalsa) F (mk [(0, .vals 6 (l.map glC)), (3, W), (4, .int .i64 l1.length), (5, .ptr gp 0 0), (6, .int .i64 r1.length)]) H = some (.exit 2, mk [(0, .vals 6 (l.map glC)), (3, W), (4, .int .i64 l1.length), (5, .ptr gp 0 0)], H') ∧ GlJ H' gp g.kind g.t o' g.rows ∧ H.next ≤ H'.next ∧ (∀ j, j < gp → H'.gs.get j = H.gs.get j) := by
  intro r2
  have hget0 : (l.map glC)[l1.length]? = some (glC g) := by rw [he]; exact mid_get _ _ _ _
  have hi0 : (0 : Int) ≤ (l1.length : Int) := by omega
  induction r2 with
  | nil =>
    intro r1 o H F h1 h2 h3 h6
    obtain ⟨k, rfl⟩ := iter_pos (f := fun _ _ => none) (n := F) (by omega)
    rw [List.append_nil] at h1
    have hlt : ((r1.length : Int) < (g.rows.length : Int)) = False := by rw [h1]; simp
    refine ⟨o, H, ?_, by rw [h1]; exact h3, Nat.le_refl _, fun _ _ => rfl⟩
    rw [iter_one]
    simp (maxSteps := 1000000) (disch := omega) only [yGoalsa_r, yGoalsa_, ↓axP, axQ, ↓if_true, ↓if_false, List.all_cons, List.all_nil, List.length_cons, List.length_nil, List.take_succ_cons, List.take_zero, List.take_nil, List.drop_succ_cons, List.drop_zero, List.drop_nil, List.getElem?_cons_zero, List.getElem?_cons_succ, List.getElem?_nil, List.nil_append, List.cons_append, List.append_nil, List.flatten_cons, List.flatten_nil, ite_true, ite_false, reduceIte, ne_eq, eq_self, Nat.reduceAdd, Nat.reduceSub, Nat.reduceMul, Nat.reduceLeDiff, Nat.reduceEqDiff, Nat.reduceBEq, reduceCtorEq, Int.reduceToNat, List.elem_nil, List.elem_cons, Int.reduceLT, Int.reduceLE, Int.reduceEq, Int.reduceAdd, Int.reduceSub, Int.reduceNeg, capnY, appzY, List.all_append, List.take_append, List.drop_append, List.length_append, glC_len, glC_0, glC_5, glC_t, glC_take, glC_drop, glC_one, glC_ne, glV_cells, glV_fit, glV_one, frA_glV, hlt, List.length_map, hi0, hget0, Int.toNat_natCast]
  | cons r r2 ih =>
    intro r1 o H F h1 h2 h3 h6
    obtain ⟨k, rfl⟩ := iter_pos (f := fun _ _ => none) (n := F) (by omega)
    have hR : r1.length + 1 ≤ 1000000 := by rw [h1] at hb; simp at hb; omega
    have hlt : ((r1.length : Int) < (g.rows.length : Int)) = True := eq_true (by rw [h1]; simp; omega)
    have hget : (g.rows.map fun r => [glV r])[r1.length]? = some [glV r] := by rw [h1]; exact mid_get _ _ _ _
    have hi : (0 : Int) ≤ (r1.length : Int) := by omega
    have hr := goalsS_eq (h2 r (List.mem_cons_self ..))
    obtain ⟨w1, w2, g0, w3, w4⟩ := h3
    obtain ⟨nx, gs, ms⟩ := H
    simp only at g0 w2
    have e8 : gs.get (nx + 11) = none := w1 (nx + 11) (by simp)
    have q0 : (gp = nx + 11) = False := eq_false (by omega)
    have wfA : AH.wf ⟨nx + 15, gs.set (nx + 11) ⟨0, 0, [glV r]⟩, ms⟩ := fun g hg => by
      show (gs.set (nx + 11) _).get g = none
      have : nx + 15 ≤ g := hg
      rw [Tr.get_set_ne _ _ (by omega)]; exact w1 g (by show nx ≤ g; omega)
    have owA : Ows ⟨nx + 15, gs.set (nx + 11) ⟨0, 0, [glV r]⟩, ms⟩ o 1 (r1.map glV) r1.length := w3.keep (by simp) fun g hg => Tr.get_set_ne _ _ (by have : g < nx := hg; omega)
    obtain ⟨v', H', e1, e2, e3, e4, e5, e6⟩ := own_app (x := .slc (nx + 11) 0 0 1 1) (z := 1) (b := 24) (m := 1) (xs := [glV r]) owA wfA (by simp only [↓axP, axQ, ↓if_true, ↓if_false, List.all_cons, List.all_nil, List.length_cons, List.length_nil, List.take_succ_cons, List.take_zero, List.take_nil, List.drop_succ_cons, List.drop_zero, List.drop_nil, List.getElem?_cons_zero, List.getElem?_cons_succ, List.getElem?_nil, List.nil_append, List.cons_append, List.append_nil, List.flatten_cons, List.flatten_nil, ite_true, ite_false, reduceIte, ne_eq, eq_self, Nat.reduceAdd, Nat.reduceSub, Nat.reduceMul, Nat.reduceLeDiff, Nat.reduceEqDiff, Nat.reduceBEq, reduceCtorEq, Int.reduceToNat, List.elem_nil, List.elem_cons, Int.reduceLT, Int.reduceLE, Int.reduceEq, Int.reduceAdd, Int.reduceSub, Int.reduceNeg, capnY, appzY, List.all_append, List.take_append, List.drop_append, List.length_append]) rfl (by omega) (by omega) (by omega)
    have f0 : H'.gs.get gp = some ⟨0, 0, .int .i64 g.kind :: (tmC g.t ++ [o])⟩ := by rw [e4.get w4 (by omega) (by show gp < nx + 15; omega)]; show (gs.set (nx + 11) _).get gp = _; rw [Tr.get_set_ne _ _ (by omega)]; exact g0
    have o' := e6 (gp + 1) (by show gp + 1 ≤ nx + 15; omega) w4
    have hn3 : nx + 15 ≤ H'.next := e4.1
    have hL : r1.length + 1 = (r1 ++ [r]).length := by simp
    have hC : r1.map glV ++ [glV r] = (r1 ++ [r]).map glV := by simp
    rw [hL, hC] at e2
    obtain ⟨o2, H2, k1, k2, k3, k4⟩ := ih (r1 ++ [r]) v' ⟨H'.next, H'.gs.set gp ⟨0, 0, .int .i64 g.kind :: (tmC g.t ++ [v'])⟩, H'.ms⟩ k (by simp [h1]) (fun x hx => h2 x (List.mem_cons_of_mem _ hx))
      ⟨wf_set' e3 (by omega) _, by show gp < H'.next; omega, Tr.get_set_same _ _ _, e2.set o' (by omega) _, o'⟩ (by simp at h6; omega)
    refine ⟨o2, H2, ?_, k2, Nat.le_trans (by show nx ≤ H'.next; omega) k3, fun j hj => ?_⟩
    · rw [iter_one]
      rw [← hL] at k1
      simp only [Int.natCast_add, Int.natCast_one] at k1
      simp (maxSteps := 1000000) (disch := omega) only [yGoalsa_r, yGoalsa_, ↓axP, axQ, ↓if_true, ↓if_false, List.all_cons, List.all_nil, List.length_cons, List.length_nil, List.take_succ_cons, List.take_zero, List.take_nil, List.drop_succ_cons, List.drop_zero, List.drop_nil, List.getElem?_cons_zero, List.getElem?_cons_succ, List.getElem?_nil, List.nil_append, List.cons_append, List.append_nil, List.flatten_cons, List.flatten_nil, ite_true, ite_false, reduceIte, ne_eq, eq_self, Nat.reduceAdd, Nat.reduceSub, Nat.reduceMul, Nat.reduceLeDiff, Nat.reduceEqDiff, Nat.reduceBEq, reduceCtorEq, Int.reduceToNat, List.elem_nil, List.elem_cons, Int.reduceLT, Int.reduceLE, Int.reduceEq, Int.reduceAdd, Int.reduceSub, Int.reduceNeg, capnY, appzY, List.all_append, List.take_append, List.drop_append, List.length_append, glC_len, glC_0, glC_5, glC_t, glC_take, glC_drop, glC_one, glC_ne, glV_cells, glV_fit, glV_one, frA_glV, tmC_len, tmC_0, tmC_1, tmC_2, tmC_3, tmC_take, tmC_drop, tmC_one, tmC_ne, tmCo_4, tmCo_len, tmCo_take4, tmCo_take5, tmCo_drop5, hlt, hi, hget, hi0, hget0, Int.toNat_natCast, List.length_map, hr, g0, q0, e8, e1, f0, e2.fit, e2.cell, k1]
    · rw [k4 j hj]
      show (H'.gs.set gp _).get j = _
      rw [Tr.get_set_ne _ _ (by omega), e4.get w4 (by omega) (by show j < nx + 15; omega)]
      show (gs.set (nx + 11) _).get j = _
      rw [Tr.get_set_ne _ _ (by omega)]
def GoJ (H : AH) (w : AV) (D : List Gl) : Prop :=
  H.wf ∧ ∃ cs, Ows H w 6 cs D.length ∧ FzSL (fun g => g < H.next ∧ ¬InG w g) H cs (D.map glC).flatten
theorem ing_lt {H : AH} {v : AV} {z n : Nat} {cs : List AV} (h : Ows H v z cs n) {g : Nat} (hg : InG v g) : g < H.next := by
  obtain ⟨-, h⟩ := h
  obtain ⟨e, i, k, z', rfl⟩ := hg
  rcases h with ⟨h, -⟩ | ⟨g2, e2, h, -, hlt⟩
  · cases h
  · cases h; exact hlt
set_option maxHeartbeats 2000000 in
theorem go_loop {m n : Nat} (F0 : Nat) (l : List Gl) (hw : WC (n + 1) l) (hsm : wtL l ≤ 1000000) (ht : tfL m l) (hF : ∀ g ∈ l, g.rows.length < F0) : ∀ (l2 l1 : List Gl) (w : AV) (H : AH) (F : Nat), l = l1 ++ l2 → GoJ H w l1 → l2.length < F →
    ∃ w' H', iter (ycode (tcall [(20, pureF (ownS m)), (17, pureF (goalsS m n))]) F0 yGoalsb) F (mk [(0, .vals 6 (l.map glC)), (3, w), (4, .int .i64 l1.length)]) H = some (.exit 0, mk [(3, w')], H') ∧ GoJ H' w' l := by
  intro l2
  have hL := xL_le l
  induction l2 with
  | nil =>
    intro l1 w H F h1 h2 h5
    obtain ⟨k, rfl⟩ := iter_pos (f := fun _ _ => none) (n := F) (by omega)
    rw [List.append_nil] at h1
    have hlt : ((l1.length : Int) < (l.length : Int)) = False := by rw [h1]; simp
    refine ⟨w, H, ?_, by rw [h1]; exact h2⟩
    rw [iter_one]
    simp (maxSteps := 1000000) (disch := omega) only [yGoalsb_r, yGoalsb_, ↓axP, axQ, ↓if_true, ↓if_false, List.all_cons, List.all_nil, List.length_cons, List.length_nil, List.take_succ_cons, List.take_zero, List.take_nil, List.drop_succ_cons, List.drop_zero, List.drop_nil, List.getElem?_cons_zero, List.getElem?_cons_succ, List.getElem?_nil, List.nil_append, List.cons_append, List.append_nil, List.flatten_cons, List.flatten_nil, ite_true, ite_false, reduceIte, ne_eq, eq_self, Nat.reduceAdd, Nat.reduceSub, Nat.reduceMul, Nat.reduceLeDiff, Nat.reduceEqDiff, Nat.reduceBEq, reduceCtorEq, Int.reduceToNat, List.elem_nil, List.elem_cons, Int.reduceLT, Int.reduceLE, Int.reduceEq, Int.reduceAdd, Int.reduceSub, Int.reduceNeg, capnY, appzY, List.all_append, List.take_append, List.drop_append, List.length_append, hlt, List.length_map]
  | cons g l2 ih =>
    intro l1 w H F h1 h2 h5
    obtain ⟨k, rfl⟩ := iter_pos (f := fun _ _ => none) (n := F) (by omega)
    have hg : g ∈ l := by rw [h1]; simp
    have hR : l1.length + 1 ≤ 1000000 := by have : l.length = l1.length + (l2.length + 1) := by rw [h1]; simp
                                            omega
    have hlt : ((l1.length : Int) < (l.length : Int)) = True := eq_true (by rw [h1]; simp; omega)
    have hget : (l.map glC)[l1.length]? = some (glC g) := by rw [h1]; exact mid_get _ _ _ _
    have hi : (0 : Int) ≤ (l1.length : Int) := by omega
    have hrl : g.rows.length ≤ 1000000 := by
      have a := wt_mem hg
      rw [wt_eq] at a
      have := rows_wt g.rows
      omega
    have hr := ownS_eq (tf_t ht hg)
    obtain ⟨w1, cs, w2, w3⟩ := h2
    obtain ⟨nx, gs, ms⟩ := H
    have e8 : gs.get (nx + 12) = none := w1 (nx + 12) (by simp)
    have wfA : AH.wf ⟨nx + 14, gs.set (nx + 12) ⟨0, 0, .int .i64 g.kind :: (tmC g.t ++ [.nils])⟩, ms⟩ := fun g hg => by
      show (gs.set (nx + 12) _).get g = none
      have : nx + 14 ≤ g := hg
      rw [Tr.get_set_ne _ _ (by omega)]; exact w1 g (by show nx ≤ g; omega)
    obtain ⟨o, H2, q, ⟨j1, j2, j3, j4, j5⟩, q2, q3⟩ := gl_loop (m := m) (n := n) F0 w l (by omega) l1 l2 g h1 hrl (nx + 12) g.rows [] .nils ⟨nx + 14, gs.set (nx + 12) ⟨0, 0, .int .i64 g.kind :: (tmC g.t ++ [.nils])⟩, ms⟩ F0 rfl (fun r hr => ⟨⟨hw.row hg hr, by have h1 := wt_mem hg; have h2 := wt_row hr; rw [wt_eq] at h1; omega⟩, tf_row ht hg hr⟩) ⟨wfA, by show nx + 12 < nx + 14; omega, Tr.get_set_same _ _ _, own_nil _ _, ob_nil _⟩ (hF g hg)
    simp only [List.length_nil, Int.natCast_zero] at q
    have q2 : nx + 14 ≤ H2.next := q2
    have q3' : ∀ j, j < nx → H2.gs.get j = gs.get j := fun j hj => by
      rw [q3 j (by omega)]
      show (gs.set (nx + 12) _).get j = _
      rw [Tr.get_set_ne _ _ (by omega)]
    have ho : o.one = true := by
      obtain ⟨-, q⟩ := j4
      rcases q with ⟨rfl, -⟩ | ⟨g, e, rfl, -⟩ <;> rfl
    obtain ⟨nx2, gs2, ms2⟩ := H2
    simp only at j2 j3 q2 q3'
    have e9 := wf_mk j1
    have q9 : (nx + 12 = nx2) = False := eq_false (by omega)
    have owA : Ows ⟨nx2 + 1, gs2.set nx2 ⟨0, 0, .int .i64 g.kind :: (tmC g.t ++ [o])⟩, ms2⟩ w 6 cs l1.length := w2.keep (by show nx ≤ nx2 + 1; omega) fun j hj => by
      have hj : j < nx := hj
      show (gs2.set nx2 _).get j = _
      rw [Tr.get_set_ne _ _ (by omega)]; exact q3' j hj
    have hx : listCells ⟨nx2 + 1, gs2.set nx2 ⟨0, 0, .int .i64 g.kind :: (tmC g.t ++ [o])⟩, ms2⟩ 6 (.slc nx2 0 0 1 6) = some (1, .int .i64 g.kind :: (tmC g.t ++ [o])) := by
      simp (maxSteps := 1000000) (disch := omega) only [↓axP, axQ, ↓if_true, ↓if_false, List.all_cons, List.all_nil, List.length_cons, List.length_nil, List.take_succ_cons, List.take_zero, List.take_nil, List.drop_succ_cons, List.drop_zero, List.drop_nil, List.getElem?_cons_zero, List.getElem?_cons_succ, List.getElem?_nil, List.nil_append, List.cons_append, List.append_nil, List.flatten_cons, List.flatten_nil, ite_true, ite_false, reduceIte, ne_eq, eq_self, Nat.reduceAdd, Nat.reduceSub, Nat.reduceMul, Nat.reduceLeDiff, Nat.reduceEqDiff, Nat.reduceBEq, reduceCtorEq, Int.reduceToNat, List.elem_nil, List.elem_cons, Int.reduceLT, Int.reduceLE, Int.reduceEq, Int.reduceAdd, Int.reduceSub, Int.reduceNeg, capnY, appzY, List.all_append, List.take_append, List.drop_append, List.length_append, tmC_len, tmC_0, tmC_1, tmC_2, tmC_3, tmC_take, tmC_drop, tmC_one, tmC_ne, tmCo_len, tmCo_take5, tmCo_drop5]
    have hxl : (AV.int .i64 g.kind :: (tmC g.t ++ [o])).length = 1 * 6 := by simp [tmC_len]
    obtain ⟨v', H3, e1, e2, e3, e4, e5, e6⟩ := own_app (b := 88) owA (wf_add j1 _) hx hxl (by omega) (by omega) (by omega)
    have hin := fun {g : Nat} => own_app_in (g := g) owA hx (by omega) e1
    have hn3 : nx2 + 1 ≤ H3.next := e4.1
    have hwl : ∀ {j : Nat}, InG w j → j < nx := fun h => ing_lt w2 h
    have hkeep : ∀ j, j < nx2 + 1 → ¬InG w j → H3.gs.get j = (gs2.set nx2 ⟨0, 0, .int .i64 g.kind :: (tmC g.t ++ [o])⟩).get j := fun j hj hn => e4.2 j hj fun e i n z he => hn ⟨e, i, n, z, he⟩
    have hL2 : l1.length + 1 = (l1 ++ [g]).length := by simp
    have F1 : FzSL (fun j => j < H3.next ∧ ¬InG v' j) H3 cs (l1.map glC).flatten := by
      refine w3.move (fun j hj => ?_) fun j hj => ⟨?_, fun h => ?_⟩
      · have h1 : j < nx := hj.1
        rw [hkeep j (by omega) hj.2, Tr.get_set_ne _ _ (by omega)]
        exact q3' j h1
      · have h1 : j < nx := hj.1
        omega
      · have h1 : j < nx := hj.1
        rcases hin h with h | h
        · exact hj.2 h
        · have h : j = nx2 + 1 := h
          omega
    have F2 : FzSL (fun j => j < H3.next ∧ ¬InG v' j) H3 (.int .i64 g.kind :: (tmC g.t ++ [o])) (glC g) := by
      rw [glC_eq]
      have a1 : FzSL (fun j => j < H3.next ∧ ¬InG v' j) H3 [.int .i64 g.kind] [.int .i64 g.kind] := fun H' _ => .pure rfl
      have a2 : FzSL (fun j => j < H3.next ∧ ¬InG v' j) H3 (tmC g.t) (tmC g.t) := fun H' _ => .pure (pure_tmC _)
      have hog : ∀ {j : Nat}, InG o j → nx + 13 ≤ j ∧ j < nx2 := fun {j} h => by
        have h1 := ing_lt j4 h
        obtain ⟨e, i, k, z, he⟩ := h
        exact ⟨j5 _ _ _ _ _ he, h1⟩
      have a3 : FzSL (fun j => InG o j) ⟨nx2, gs2, ms2⟩ [o] [.vals 1 (g.rows.map fun r => [glV r])] := FzSL.own j4 fun j h => h
      have a4 : FzSL (fun j => j < H3.next ∧ ¬InG v' j) H3 [o] [.vals 1 (g.rows.map fun r => [glV r])] := a3.move (fun j hj => by
          have h1 := hog hj
          rw [hkeep j (by omega) (fun h => by have := hwl h; omega), Tr.get_set_ne _ _ (by omega)]) fun j hj => by
          have h1 := hog hj
          refine ⟨by omega, fun h => ?_⟩
          rcases hin h with h | h
          · have := hwl h; omega
          · have h : j = nx2 + 1 := h
            omega
      exact a1.append (a2.append a4)
    have F3 := F1.append F2
    have hfl : (l1.map glC).flatten ++ glC g = ((l1 ++ [g]).map glC).flatten := by simp
    rw [hfl] at F3
    obtain ⟨w', H', IH, IJ⟩ := ih (l1 ++ [g]) v' H3 k (by simp [h1]) ⟨e3, _, by rw [← hL2]; exact e2, F3⟩ (by simp at h5; omega)
    refine ⟨w', H', ?_, IJ⟩
    rw [← hL2] at IH
    simp only [Int.natCast_add, Int.natCast_one] at IH
    rw [iter_one]
    simp (maxSteps := 1000000) (disch := omega) only [yGoalsb_r, yGoalsb_, ↓axP, axQ, ↓if_true, ↓if_false, List.all_cons, List.all_nil, List.length_cons, List.length_nil, List.take_succ_cons, List.take_zero, List.take_nil, List.drop_succ_cons, List.drop_zero, List.drop_nil, List.getElem?_cons_zero, List.getElem?_cons_succ, List.getElem?_nil, List.nil_append, List.cons_append, List.append_nil, List.flatten_cons, List.flatten_nil, ite_true, ite_false, reduceIte, ne_eq, eq_self, Nat.reduceAdd, Nat.reduceSub, Nat.reduceMul, Nat.reduceLeDiff, Nat.reduceEqDiff, Nat.reduceBEq, reduceCtorEq, Int.reduceToNat, List.elem_nil, List.elem_cons, Int.reduceLT, Int.reduceLE, Int.reduceEq, Int.reduceAdd, Int.reduceSub, Int.reduceNeg, capnY, appzY, List.all_append, List.take_append, List.drop_append, List.length_append, glC_len, glC_0, glC_5, glC_t, glC_take, glC_drop, glC_one, glC_ne, glV_cells, glV_fit, glV_one, frA_glV, tmC_len, tmC_0, tmC_1, tmC_2, tmC_3, tmC_take, tmC_drop, tmC_one, tmC_ne, tmCo_4, tmCo_len, tmCo_take4, tmCo_take5, tmCo_drop5, hlt, hi, hget, Int.toNat_natCast, List.length_map, hr, e8, q, j3, q9, ho, e9, e1, IH]
theorem goals_step {m n : Nat} (hs : HookOne Tryz.prog 17 (pureF (goalsS m n))) : HookOne Tryz.prog 17 (pureF (goalsS m (n + 1))) := by
  refine HookOne.ofPureF (by decide +kernel) fun args y h H => ?_
  have hl : ∀ e ∈ [(20, pureF (ownS m)), (17, pureF (goalsS m n))], HookOne Tryz.prog e.1 e.2 := by
    intro e he
    simp only [List.mem_cons, List.not_mem_nil, or_false] at he
    rcases he with rfl | rfl
    · exact own_any14 m
    · exact hs
  unfold goalsS at h; split at h
  · rename_i x
    rw [Option.bind_eq_some_iff] at h
    obtain ⟨l, h1, h2⟩ := h
    obtain ⟨⟨⟨hw, hsm⟩, ht⟩, h3⟩ := only_ok h2
    cases h3
    obtain rfl := back_ok h1
    refine ACalls.ofRun hl mixed (draws _ rfl) yGoals_ok rfl (by simp [pureL, pure_glV]) (wtL l + 1) ?_ H
    have w0 : GoJ AH.empty .nils [] := ⟨wf_empty, [], own_nil _ _, fun H' _ => .nil _⟩
    obtain ⟨w', H', q, q1, cs, q2, q3⟩ := go_loop (m := m) (wtL l + 1) l hw hsm ht rows_lt l [] .nils AH.empty (wtL l + 1) rfl w0 (by have := len_wt l; omega)
    simp only [List.length_nil, Int.natCast_zero, empty_mk] at q
    unfold glV
    simp (maxSteps := 1000000) (disch := omega) only [yGoals, xinit_1, ↓axP, axQ, ↓if_true, ↓if_false, List.all_cons, List.all_nil, List.length_cons, List.length_nil, List.take_succ_cons, List.take_zero, List.take_nil, List.drop_succ_cons, List.drop_zero, List.drop_nil, List.getElem?_cons_zero, List.getElem?_cons_succ, List.getElem?_nil, List.nil_append, List.cons_append, List.append_nil, List.flatten_cons, List.flatten_nil, ite_true, ite_false, reduceIte, ne_eq, eq_self, Nat.reduceAdd, Nat.reduceSub, Nat.reduceMul, Nat.reduceLeDiff, Nat.reduceEqDiff, Nat.reduceBEq, reduceCtorEq, Int.reduceToNat, List.elem_nil, List.elem_cons, Int.reduceLT, Int.reduceLE, Int.reduceEq, Int.reduceAdd, Int.reduceSub, Int.reduceNeg, capnY, appzY, List.all_append, List.take_append, List.drop_append, List.length_append, List.length_map, q]
    exact Ans.some (q2.fz (by simp) (rows6 l) q3.here)
  · cases h
theorem goals_any (m : Nat) : ∀ n, HookOne Tryz.prog 17 (pureF (goalsS m n)) := lev_any _ (fun h => goals_step h) (goalsS_0 m) (by decide +kernel)
end Go.Proofs.YtcnnobcncklgfaaGreatDoor
