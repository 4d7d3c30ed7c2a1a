/- Goals as trees and as values; what body.row answers. -/
import Derived.Test.YtcnnobcncklgfaaGreatDoorSymC
import Derived.Test.YtcnnobcncklgfaaGreatDoorSymBody
namespace Go.Proofs.YtcnnobcncklgfaaGreatDoor
open Go Go.Abs Go.RowKit
set_option linter.unusedVariables false
set_option linter.unusedSimpArgs false
inductive Gl where
  | mk (kind : Int) (t : Tm) (l : List (List Gl))
mutual
def glC : Gl → List AV
  | .mk k t l => .int .i64 k :: (tmC t ++ [.vals 1 (glRs l)])
def glRw : List Gl → List (List AV)
  | [] => []
  | g :: gs => glC g :: glRw gs
def glRs : List (List Gl) → List (List AV)
  | [] => []
  | r :: rs => [.vals 6 (glRw r)] :: glRs rs
end
theorem glRw_map : ∀ l : List Gl, glRw l = l.map glC
  | [] => by simp [glRw]
  | g :: gs => by simp [glRw, glRw_map gs]
def glV (r : List Gl) : AV := .vals 6 (r.map glC)
theorem glV_cells (r : List Gl) : (glV r).cells = [glV r] := (rfl)
theorem glV_fit (r : List Gl) : (glV r).fit = true := (rfl)
theorem glRs_map : ∀ l : List (List Gl), glRs l = l.map fun r => [glV r]
  | [] => by simp [glRs]
  | r :: rs => by simp [glRs, glRs_map rs, glV, glRw_map]
mutual
theorem glC_inj : ∀ (a b : Gl), glC a = glC b → a = b
  | .mk k t l, .mk k' t' l', h => by
    simp only [glC, List.cons.injEq, AV.int.injEq, true_and] at h
    obtain ⟨rfl, h⟩ := h
    obtain ⟨h1, h2⟩ := List.append_inj h (by rw [tmC_len, tmC_len])
    have ht := tmC_inj h1
    simp only [List.cons.injEq, AV.vals.injEq, true_and, and_true] at h2
    have hl := glRs_inj l l' h2
    subst ht; subst hl; rfl
theorem glRw_inj : ∀ (a b : List Gl), glRw a = glRw b → a = b
  | [], [], h => rfl
  | [], _ :: _, h => by simp [glRw] at h
  | _ :: _, [], h => by simp [glRw] at h
  | a :: xs, b :: ys, h => by
    simp only [glRw, List.cons.injEq] at h
    rw [glC_inj a b h.1, glRw_inj xs ys h.2]
theorem glRs_inj : ∀ (a b : List (List Gl)), glRs a = glRs b → a = b
  | [], [], h => rfl
  | [], _ :: _, h => by simp [glRs] at h
  | _ :: _, [], h => by simp [glRs] at h
  | a :: xs, b :: ys, h => by
    simp only [glRs, List.cons.injEq, AV.vals.injEq, true_and, and_true] at h
    rw [glRw_inj a b h.1, glRs_inj xs ys h.2]
end
mutual
theorem pure_glC : ∀ g : Gl, pureL (glC g) = true
  | .mk k t l => by
    rw [pureL_all]
    intro x hx
    simp only [glC, List.mem_cons, List.mem_append, List.not_mem_nil, or_false] at hx
    rcases hx with rfl | hx | rfl
    · rfl
    · exact (pureL_all _).1 (pure_tmC t) x hx
    · simp [pureA, pure_glRs l]
theorem pure_glRw : ∀ l : List Gl, pureR (glRw l) = true
  | [] => by simp [glRw, pureR]
  | g :: gs => by simp [glRw, pureR, pure_glC g, pure_glRw gs]
theorem pure_glRs : ∀ l : List (List Gl), pureR (glRs l) = true
  | [] => by simp [glRs, pureR]
  | r :: rs => by simp [glRs, pureR, pureL, pureA, pure_glRw r, pure_glRs rs]
end
theorem glC_len (g : Gl) : (glC g).length = 6 := by cases g; simp [glC, tmC_len]
theorem pure_glV (r : List Gl) : pureA (glV r) = true := by simp [glV, pureA, ← glRw_map, pure_glRw]
theorem glV_inj (a b : List Gl) (h : glV a = glV b) : a = b := by
  unfold glV at h
  injection h with _ h
  exact glRw_inj a b (by rw [glRw_map, glRw_map]; exact h)
/-- Rows of rows. -/
def glsV (l : List (List Gl)) : AV := .vals 1 (l.map fun r => [glV r])
theorem glsV_inj (a b : List (List Gl)) (h : glsV a = glsV b) : a = b := by
  unfold glsV at h
  injection h with _ h
  exact glRs_inj a b (by rw [glRs_map, glRs_map]; exact h)
theorem pure_glsV (l : List (List Gl)) : pureA (glsV l) = true := by simp only [glsV, pureA]; rw [← glRs_map]; exact pure_glRs l
noncomputable def ofRow : AV → Option (List Gl) := back glV
noncomputable def ofRws : AV → Option (List (List Gl)) := back glsV
theorem ofRow_eq (r : List Gl) : ofRow (glV r) = some r := back_eq glV_inj r
theorem ofRws_eq (r : List (List Gl)) : ofRws (glsV r) = some r := back_eq glsV_inj r
/-- What rows answer, what a row answers. -/
def rowsW (f : Tm → List Gl × Int) : List Tm → List (List Gl) × Int
  | [] => ([], 0)
  | t :: ts => if (f t).2 = 0 then (if (rowsW f ts).2 = 0 then ((f t).1 :: (rowsW f ts).1, 0) else ([], (rowsW f ts).2)) else ([], (f t).2)
def zT : Tm := .mk 0 0 [] []
def nestW (f : Tm → List Gl × Int) (k : Int) (l : List Tm) : List Gl × Int := if (rowsW f l).2 = 0 then ([.mk k zT (rowsW f l).1], 0) else ([], (rowsW f l).2)
def failT : Tm := .mk 2 0 [102, 97, 105, 108] []
def rowF : Nat → Tm → List Gl × Int
  | 0, _ => ([], 0)
  | n + 1, t =>
    if t.kind = 0 then ([.mk 1 (.mk 2 0 [99, 97, 108, 108] [t]) []], 0)
    else if t.kind = 1 then ([], 5)
    else if isP t [116, 114, 117, 101] 0 then ([], 0)
    else if isP t [33] 0 then ([.mk 2 zT []], 0)
    else if isP t [44] 2 then ((rowsW (rowF n) t.args).1.flatten, (rowsW (rowF n) t.args).2)
    else if isP t [59] 2 && isP (t.args.getD 0 zT) [45, 62] 2 then nestW (rowF n) 4 [(t.args.getD 0 zT).args.getD 0 zT, (t.args.getD 0 zT).args.getD 1 zT, t.args.getD 1 zT]
    else if isP t [59] 2 then nestW (rowF n) 3 t.args
    else if isP t [45, 62] 2 then nestW (rowF n) 4 [t.args.getD 0 zT, t.args.getD 1 zT, failT]
    else if isP t [92, 43] 1 then nestW (rowF n) 5 t.args
    else ([.mk 1 t []], 0)
/-- What may be asked of row. -/
def RC (n : Nat) (t : Tm) : Prop := t.height ≤ n ∧ Fine 1000 t ∧ t.size ≤ 2000
noncomputable def rowS (n : Nat) : List AV → Option AV
  | [x] => (ofT x).bind fun t => only (RC n t) (some (.tup [glV (rowF n t).1, .int .i64 (rowF n t).2]))
  | _ => none
theorem rowS_eq {n : Nat} {t : Tm} (h : RC n t) : rowS n [.agg (tmC t)] = some (.tup [glV (rowF n t).1, .int .i64 (rowF n t).2]) := by
  show (ofT (tmA t)).bind _ = _
  rw [ofT_tm]; exact only_eq h _
noncomputable def rowsS (n : Nat) : List AV → Option AV
  | [x] => (ofLs x).bind fun l => only (l.length ≤ 1000 ∧ ∀ t ∈ l, RC n t) (some (.tup [glsV (rowsW (rowF n) l).1, .int .i64 (rowsW (rowF n) l).2]))
  | _ => none
theorem rowsS_eq {n : Nat} {l : List Tm} (h : l.length ≤ 1000 ∧ ∀ t ∈ l, RC n t) : rowsS n [.vals 4 (l.map tmC)] = some (.tup [glsV (rowsW (rowF n) l).1, .int .i64 (rowsW (rowF n) l).2]) := by
  simp only [rowsS, ofLs_eq, Option.bind_some]; exact only_eq h _
attribute [local congr] on_congr br_congr onf_congr
set_option maxHeartbeats 1000000 in
theorem rows_loop {n : Nat} (F0 : Nat) (l : List Tm) (hl : l.length ≤ 1000) : ∀ (l2 l1 : List Tm) (R : List (List Gl)) (o : AV) (H : AH) (F : Nat), l1.length = R.length → l = l1 ++ l2 → (∀ t ∈ l2, RC n t) → Ows H o 1 (R.map glV) R.length → H.wf → l2.length < F →
    ((rowsW (rowF n) l2).2 = 0 → ∃ o' H', iter (ycode (tcall [(43, pureF (rowS n))]) F0 yRowsa) F (mk [(4, o), (9, .vals 4 (l.map tmC)), (10, .int .i64 l.length), (11, .int .i64 R.length)]) H = some (.exit 0, mk [(4, o')], H') ∧ Ows H' o' 1 ((R ++ (rowsW (rowF n) l2).1).map glV) (R ++ (rowsW (rowF n) l2).1).length ∧ H'.wf) ∧
    ((rowsW (rowF n) l2).2 ≠ 0 → ∃ H', iter (ycode (tcall [(43, pureF (rowS n))]) F0 yRowsa) F (mk [(4, o), (9, .vals 4 (l.map tmC)), (10, .int .i64 l.length), (11, .int .i64 R.length)]) H = some (.ret, mk [(2, .nils), (3, .int .i64 (rowsW (rowF n) l2).2)], H')) := by
  intro l2
  induction l2 with
  | nil =>
    intro l1 R o H F h1 h2 h3 h4 h5 h6
    obtain ⟨m, rfl⟩ := iter_pos (f := fun _ _ => none) (n := F) (by omega)
    have hlt : ((R.length : Int) < (l.length : Int)) = False := by subst h2; simp; omega
    refine ⟨fun _ => ⟨o, H, ?_, by simpa [rowsW] using h4, h5⟩, fun h => absurd rfl h⟩
    rw [iter_one]
    simp only [yRowsa_r, yRowsa_, ↓axP, axQ, ↓if_true, ↓if_false, List.all_cons, List.all_nil, List.length_cons, List.length_nil, List.take_succ_cons, List.take_zero, List.take_nil, List.drop_succ_cons, List.drop_zero, List.drop_nil, List.getElem?_cons_zero, List.getElem?_cons_succ, List.getElem?_nil, List.nil_append, List.cons_append, List.append_nil, List.flatten_cons, List.flatten_nil, ite_true, ite_false, reduceIte, ne_eq, eq_self, Nat.reduceAdd, Nat.reduceSub, Nat.reduceMul, Nat.reduceLeDiff, Nat.reduceEqDiff, Nat.reduceBEq, reduceCtorEq, Int.reduceToNat, List.elem_nil, List.elem_cons, Int.reduceLT, Int.reduceLE, Int.reduceEq, Int.reduceAdd, Int.reduceSub, Int.reduceNeg, capnY, appzY, List.all_append, List.take_append, List.drop_append, List.length_append, hlt]
  | cons t l2 ih =>
    intro l1 R o H F h1 h2 h3 h4 h5 h6
    obtain ⟨m, rfl⟩ := iter_pos (f := fun _ _ => none) (n := F) (by omega)
    have hlt : ((R.length : Int) < (l.length : Int)) = True := by subst h2; simp; omega
    have hget : (l.map tmC)[R.length]? = some (tmC t) := by subst h2; rw [← h1]; simp
    have h0 : (0 : Int) ≤ (R.length : Int) := by omega
    have hR : R.length + 1 ≤ 1000 := by subst h2; simp at hl; omega
    have hw : IntKind.i64.wrap ((R.length : Int) + 1) = ((R.length + 1 : Nat) : Int) := by rw [wrap_i64] <;> omega
    obtain ⟨nx, gs, ms⟩ := H
    have g0 := wf_mk h5
    have g1 : gs.get (nx + 1) = none := h5 (nx + 1) (Nat.le_succ nx)
    have n1 : (nx = nx + 1) = False := by simp
    have n2 : (nx + 1 = nx) = False := by simp
    have hr := rowS_eq (h3 t (List.mem_cons_self ..))
    obtain ⟨v', H', e1, e2, e3, e4, e5⟩ := own_app (x := .slc (nx + 1) 0 0 1 1) (z := 1) (b := 24) (m := 1) (xs := [glV (rowF n t).1]) ((h4.add ⟨0, 0, tmC t⟩).add ⟨0, 0, [glV (rowF n t).1]⟩) (wf_add (wf_add h5 _) _) (by simp only [↓axP, axQ, ↓if_true, ↓if_false, List.all_cons, List.all_nil, List.length_cons, List.length_nil, List.take_succ_cons, List.take_zero, List.take_nil, List.drop_succ_cons, List.drop_zero, List.drop_nil, List.getElem?_cons_zero, List.getElem?_cons_succ, List.getElem?_nil, List.nil_append, List.cons_append, List.append_nil, List.flatten_cons, List.flatten_nil, ite_true, ite_false, reduceIte, ne_eq, eq_self, Nat.reduceAdd, Nat.reduceSub, Nat.reduceMul, Nat.reduceLeDiff, Nat.reduceEqDiff, Nat.reduceBEq, reduceCtorEq, Int.reduceToNat, List.elem_nil, List.elem_cons, Int.reduceLT, Int.reduceLE, Int.reduceEq, Int.reduceAdd, Int.reduceSub, Int.reduceNeg, capnY, appzY, List.all_append, List.take_append, List.drop_append, List.length_append]) rfl (by omega) (by omega) (by omega)
    have hL : R.length + 1 = (R ++ [(rowF n t).1]).length := by simp
    have hC : R.map glV ++ [glV (rowF n t).1] = (R ++ [(rowF n t).1]).map glV := by simp
    rw [hL, hC] at e2
    have IH := ih (l1 ++ [t]) (R ++ [(rowF n t).1]) v' H' m (by simp [h1]) (by simp [h2]) (fun x hx => h3 x (List.mem_cons_of_mem _ hx)) e2 e3 (by simp at h6; omega)
    rw [← hL] at IH
    rw [iter_one]
    by_cases hz : (rowF n t).2 = 0
    · simp only [yRowsa_r, yRowsa_, ↓axP, axQ, ↓if_true, ↓if_false, List.all_cons, List.all_nil, List.length_cons, List.length_nil, List.take_succ_cons, List.take_zero, List.take_nil, List.drop_succ_cons, List.drop_zero, List.drop_nil, List.getElem?_cons_zero, List.getElem?_cons_succ, List.getElem?_nil, List.nil_append, List.cons_append, List.append_nil, List.flatten_cons, List.flatten_nil, ite_true, ite_false, reduceIte, ne_eq, eq_self, Nat.reduceAdd, Nat.reduceSub, Nat.reduceMul, Nat.reduceLeDiff, Nat.reduceEqDiff, Nat.reduceBEq, reduceCtorEq, Int.reduceToNat, List.elem_nil, List.elem_cons, Int.reduceLT, Int.reduceLE, Int.reduceEq, Int.reduceAdd, Int.reduceSub, Int.reduceNeg, capnY, appzY, List.all_append, List.take_append, List.drop_append, List.length_append, tmC_len, tmC_0, tmC_1, tmC_2, tmC_3, tmC_take, tmC_drop, tmC_one, tmC_ne, glV_cells, glV_fit, hlt, h0, hget, Int.toNat_natCast, g0, g1, n1, n2, hr, hz, e1, hw]
      have hW1 : (rowsW (rowF n) (t :: l2)).2 = (rowsW (rowF n) l2).2 := by
        simp only [rowsW, hz, if_true]
        split
        · rename_i h; exact h.symm
        · rfl
      refine ⟨fun h => ?_, fun h => ?_⟩
      · rw [hW1] at h
        obtain ⟨o', H2, k1, k2, k3⟩ := IH.1 h
        have : (rowsW (rowF n) (t :: l2)).1 = (rowF n t).1 :: (rowsW (rowF n) l2).1 := by simp [rowsW, hz, h]
        exact ⟨o', H2, k1, by rw [this]; simpa [Nat.add_assoc, Nat.add_comm] using k2, k3⟩
      · obtain ⟨H2, k1⟩ := IH.2 (by rw [← hW1]; exact h)
        exact ⟨H2, by rw [hW1]; exact k1⟩
    · have hW : rowsW (rowF n) (t :: l2) = ([], (rowF n t).2) := by simp [rowsW, hz]
      rw [hW]
      refine ⟨fun h => absurd h hz, fun _ => ?_⟩
      simp only [yRowsa_r, yRowsa_, ↓axP, axQ, ↓if_true, ↓if_false, List.all_cons, List.all_nil, List.length_cons, List.length_nil, List.take_succ_cons, List.take_zero, List.take_nil, List.drop_succ_cons, List.drop_zero, List.drop_nil, List.getElem?_cons_zero, List.getElem?_cons_succ, List.getElem?_nil, List.nil_append, List.cons_append, List.append_nil, List.flatten_cons, List.flatten_nil, ite_true, ite_false, reduceIte, ne_eq, eq_self, Nat.reduceAdd, Nat.reduceSub, Nat.reduceMul, Nat.reduceLeDiff, Nat.reduceEqDiff, Nat.reduceBEq, reduceCtorEq, Int.reduceToNat, List.elem_nil, List.elem_cons, Int.reduceLT, Int.reduceLE, Int.reduceEq, Int.reduceAdd, Int.reduceSub, Int.reduceNeg, capnY, appzY, List.all_append, List.take_append, List.drop_append, List.length_append, tmC_len, tmC_0, tmC_1, tmC_2, tmC_3, tmC_take, tmC_drop, tmC_one, tmC_ne, glV_cells, glV_fit, hlt, h0, hget, Int.toNat_natCast, g0, g1, n1, n2, hr, hz, hw]
      exact ⟨_, rfl⟩
theorem rows_one {n : Nat} (hrow : HookOne Tryz.prog 43 (pureF (rowS n))) : HookOne Tryz.prog 69 (pureF (rowsS n)) := by
  refine HookOne.ofPureF (by decide +kernel) fun args y h H => ?_
  have hl : ∀ e ∈ [(43, pureF (rowS n))], HookOne Tryz.prog e.1 e.2 := by
    intro e he; simp at he; subst he; exact hrow
  unfold rowsS at h; split at h
  · rename_i x
    rw [Option.bind_eq_some_iff] at h
    obtain ⟨l, h1, h2⟩ := h
    obtain ⟨⟨hn, hR⟩, h3⟩ := only_ok h2
    cases h3
    obtain rfl := back_ok h1
    unfold lsA
    refine ACalls.ofRun hl mixed (draws _ rfl) yRows_ok rfl (by simp [pureL, pureA, pure_rows]) (l.length + 1) ?_ H
    obtain ⟨q1, q2⟩ := rows_loop (n := n) (l.length + 1) l hn l [] [] .nils AH.empty (l.length + 1) rfl rfl hR (own_nil _ _) wf_empty (Nat.lt_succ_self _)
    simp only [List.length_nil, Int.natCast_zero, Int.ofNat_zero, empty_mk, Int.cast_ofNat_Int] at q1 q2
    by_cases hz : (rowsW (rowF n) l).2 = 0
    · obtain ⟨o', H', k1, k2, k3⟩ := q1 hz
      simp only [yRows, xinit_1, ↓axP, axQ, ↓if_true, ↓if_false, List.all_cons, List.all_nil, List.length_cons, List.length_nil, List.take_succ_cons, List.take_zero, List.take_nil, List.drop_succ_cons, List.drop_zero, List.drop_nil, List.getElem?_cons_zero, List.getElem?_cons_succ, List.getElem?_nil, List.nil_append, List.cons_append, List.append_nil, List.flatten_cons, List.flatten_nil, ite_true, ite_false, reduceIte, ne_eq, eq_self, Nat.reduceAdd, Nat.reduceSub, Nat.reduceMul, Nat.reduceLeDiff, Nat.reduceEqDiff, Nat.reduceBEq, reduceCtorEq, Int.reduceToNat, List.elem_nil, List.elem_cons, Int.reduceLT, Int.reduceLE, Int.reduceEq, Int.reduceAdd, Int.reduceSub, Int.reduceNeg, capnY, appzY, List.all_append, List.take_append, List.drop_append, List.length_append, List.length_map, k1, hz]
      refine Ans.some (.ofTup (.cons ?_ (.cons (.pure rfl) (.nil _))))
      refine k2.fz (by simp) (by simp) ?_
      have : (List.map (fun r => [glV r]) (rowsW (rowF n) l).1).flatten = ([] ++ (rowsW (rowF n) l).1).map glV := by
        rw [List.nil_append]
        induction (rowsW (rowF n) l).1 with
        | nil => rfl
        | cons a b ih => simp [ih]
      rw [this]
      refine FzL.pure ?_
      rw [pureL_all]
      intro x hx
      obtain ⟨r, _, rfl⟩ := List.mem_map.1 hx
      exact pure_glV r
    · obtain ⟨H', k1⟩ := q2 hz
      have hW : ∀ l : List Tm, (rowsW (rowF n) l).2 ≠ 0 → (rowsW (rowF n) l).1 = [] := by
        intro l
        induction l with
        | nil => intro h; exact absurd rfl h
        | cons t l ih =>
          intro h
          simp only [rowsW] at h ⊢
          split
          · rename_i h1; simp only [h1, if_true] at h
            split
            · rename_i h2; simp [h2] at h
            · rfl
          · rfl
      simp only [yRows, xinit_1, ↓axP, axQ, ↓if_true, ↓if_false, List.all_cons, List.all_nil, List.length_cons, List.length_nil, List.take_succ_cons, List.take_zero, List.take_nil, List.drop_succ_cons, List.drop_zero, List.drop_nil, List.getElem?_cons_zero, List.getElem?_cons_succ, List.getElem?_nil, List.nil_append, List.cons_append, List.append_nil, List.flatten_cons, List.flatten_nil, ite_true, ite_false, reduceIte, ne_eq, eq_self, Nat.reduceAdd, Nat.reduceSub, Nat.reduceMul, Nat.reduceLeDiff, Nat.reduceEqDiff, Nat.reduceBEq, reduceCtorEq, Int.reduceToNat, List.elem_nil, List.elem_cons, Int.reduceLT, Int.reduceLE, Int.reduceEq, Int.reduceAdd, Int.reduceSub, Int.reduceNeg, capnY, appzY, List.all_append, List.take_append, List.drop_append, List.length_append, List.length_map, k1, hz, hW l hz]
      exact Ans.some (.ofTup (.cons (.nils 1) (.cons (.pure rfl) (.nil _))))
  · cases h
end Go.Proofs.YtcnnobcncklgfaaGreatDoor
