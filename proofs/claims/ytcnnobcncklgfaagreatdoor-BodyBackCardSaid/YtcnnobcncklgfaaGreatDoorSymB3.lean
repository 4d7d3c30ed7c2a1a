/- The contracts of body.Count, Cuts and of the document's. -/
import Derived.Test.YtcnnobcncklgfaaGreatDoorSymRR
import Derived.Test.YtcnnobcncklgfaaGreatDoorYB2
namespace Go.Proofs.YtcnnobcncklgfaaGreatDoor
open Go Go.Abs Go.RowKit
set_option linter.unusedVariables false
set_option linter.unusedSimpArgs false
attribute [local congr] on_congr br_congr onf_congr
def Gl.kind : Gl → Int | .mk k _ _ => k
def Gl.t : Gl → Tm | .mk _ t _ => t
def Gl.rows : Gl → List (List Gl) | .mk _ _ l => l
theorem glC_eq (g : Gl) : glC g = .int .i64 g.kind :: (tmC g.t ++ [.vals 1 (g.rows.map fun r => [glV r])]) := by
  cases g; simp [glC, Gl.kind, Gl.t, Gl.rows, glRs_map]
theorem glC_0 (g : Gl) : (glC g)[0]? = some (.int .i64 g.kind) := by rw [glC_eq]; exact (rfl)
theorem glC_5 (g : Gl) : (glC g)[5]? = some (.vals 1 (g.rows.map fun r => [glV r])) := by rw [glC_eq, tmC_eq]; exact (rfl)
theorem glC_t (g : Gl) : ((glC g).drop 1).take 4 = tmC g.t := by rw [glC_eq, tmC_eq]; exact (rfl)
theorem glC_take (g : Gl) {n : Nat} (h : 6 ≤ n) : (glC g).take n = glC g := List.take_of_length_le (by rw [glC_len]; omega)
theorem glC_drop (g : Gl) {n : Nat} (h : 6 ≤ n) : (glC g).drop n = [] := List.drop_eq_nil_of_le (by rw [glC_len]; omega)
theorem glC_one (g : Gl) : (glC g).all AV.one = true := by rw [glC_eq, tmC_eq]; exact (rfl)
theorem glC_ne (g : Gl) : (glC g = []) = False := by rw [glC_eq]; simp
theorem glV_one (r : List Gl) : (glV r).one = true := (rfl)
theorem frA_glV (r : List Gl) (H : AH) : frA (glV r) H = some (glV r, H) := (rfl)
mutual
def wt : Gl → Nat
  | .mk _ _ l => 1 + wtRs l
def wtL : List Gl → Nat
  | [] => 0
  | g :: gs => wt g + wtL gs
def wtRs : List (List Gl) → Nat
  | [] => 0
  | r :: rs => 1 + wtL r + wtRs rs
end
mutual
def xG : Gl → Nat
  | .mk _ _ l => xRs l
def xL : List Gl → Nat
  | [] => 0
  | g :: gs => xG g + xL gs
def xRs : List (List Gl) → Nat
  | [] => 0
  | r :: rs => (r.length + xL r) + xRs rs
end
def cntL (l : List Gl) : Nat := l.length + xL l
theorem xRs_cons (r : List Gl) (rs : List (List Gl)) : xRs (r :: rs) = cntL r + xRs rs := by simp [xRs, cntL]
theorem xG_eq (g : Gl) : xG g = xRs g.rows := by cases g; simp [xG, Gl.rows]
theorem wt_eq (g : Gl) : wt g = 1 + wtRs g.rows := by cases g; simp [wt, Gl.rows]
mutual
theorem xG_le : ∀ g : Gl, xG g + 1 ≤ wt g
  | .mk k t l => by have := xRs_le l; simp only [xG, wt]; omega
theorem xL_le : ∀ l : List Gl, l.length + xL l ≤ wtL l
  | [] => by simp [xL]
  | g :: gs => by have := xG_le g; have := xL_le gs; simp only [xL, wtL, List.length_cons]; omega
theorem xRs_le : ∀ l : List (List Gl), xRs l ≤ wtRs l
  | [] => by simp [xRs]
  | r :: rs => by have := xL_le r; have := xRs_le rs; simp only [xRs, wtRs]; omega
end
theorem wt_mem {l : List Gl} {g : Gl} (h : g ∈ l) : wt g ≤ wtL l := by
  induction l with
  | nil => cases h
  | cons x l ih =>
    simp only [wtL]
    rcases List.mem_cons.1 h with rfl | h
    · omega
    · have := ih h; omega
theorem wt_row {l : List (List Gl)} {r : List Gl} (h : r ∈ l) : wtL r + 1 ≤ wtRs l := by
  induction l with
  | nil => cases h
  | cons x l ih =>
    simp only [wtRs]
    rcases List.mem_cons.1 h with rfl | h
    · omega
    · have := ih h; omega
def WC (n : Nat) (l : List Gl) : Prop := wtL l < n ∧ wtL l ≤ 100000000
theorem WC.row {n : Nat} {l : List Gl} (h : WC (n + 1) l) {g : Gl} (hg : g ∈ l) {r : List Gl} (hr : r ∈ g.rows) : WC n r := by
  have h1 := wt_mem hg
  have h2 := wt_row hr
  have h3 := h.1; have h4 := h.2
  rw [wt_eq] at h1
  exact ⟨by omega, by omega⟩
noncomputable def cntS (n : Nat) : List AV → Option AV
  | [x] => (ofRow x).bind fun l => only (WC n l) (some (.int .i64 (cntL l)))
  | _ => none
theorem cntS_eq {n : Nat} {l : List Gl} (h : WC n l) : cntS n [glV l] = some (.int .i64 (cntL l)) := by
  simp only [cntS, ofRow_eq, Option.bind_some]; exact only_eq h _
theorem mid_get {α β : Type} (f : α → β) (l1 l2 : List α) (x : α) : ((l1 ++ x :: l2).map f)[l1.length]? = some (f x) := by simp
theorem cnta_loop {n : Nat} (F0 : Nat) (A B C : AV) (H : AH) (rs : List (List Gl)) : ∀ (r2 r1 : List (List Gl)) (c : Int) (F : Nat), rs = r1 ++ r2 → (∀ r ∈ r2, WC n r) → 0 ≤ c → c + xRs r2 ≤ 100000000 → rs.length ≤ 100000000 → r2.length < F →
    iter (ycode (tcall [(18, pureF (cntS n))]) F0 yCounta) F (mk [(3, .int .i64 c), (10, A), (11, B), (12, C), (17, .vals 1 (rs.map fun r => [glV r])), (18, .int .i64 rs.length), (19, .int .i64 r1.length)]) H = some (.exit 2, mk [(3, .int .i64 (c + xRs r2)), (10, A), (11, B), (12, C)], H) := by
  intro r2
  induction r2 with
  | nil =>
    intro r1 c F h1 h2 h3 h4 h5 h6
    obtain ⟨k, rfl⟩ := iter_pos (f := fun _ _ => none) (n := F) (by omega)
    rw [List.append_nil] at h1
    have hlt : ((r1.length : Int) < (rs.length : Int)) = False := by rw [h1]; simp
    have e0 : c + ((xRs [] : Nat) : Int) = c := by simp [xRs]
    rw [iter_one, e0]
    simp (maxSteps := 1000000) (disch := omega) only [yCounta_r, yCounta_, ↓axP, axQ, ↓if_true, ↓if_false, List.all_cons, List.all_nil, List.length_cons, List.length_nil, List.take_succ_cons, List.take_zero, List.take_nil, List.drop_succ_cons, List.drop_zero, List.drop_nil, List.getElem?_cons_zero, List.getElem?_cons_succ, List.getElem?_nil, List.nil_append, List.cons_append, List.append_nil, List.flatten_cons, List.flatten_nil, ite_true, ite_false, reduceIte, ne_eq, eq_self, Nat.reduceAdd, Nat.reduceSub, Nat.reduceMul, Nat.reduceLeDiff, Nat.reduceEqDiff, Nat.reduceBEq, reduceCtorEq, Int.reduceToNat, List.elem_nil, List.elem_cons, Int.reduceLT, Int.reduceLE, Int.reduceEq, Int.reduceAdd, Int.reduceSub, Int.reduceNeg, capnY, appzY, List.all_append, List.take_append, List.drop_append, List.length_append, hlt, List.length_map]
  | cons r r2 ih =>
    intro r1 c F h1 h2 h3 h4 h5 h6
    obtain ⟨k, rfl⟩ := iter_pos (f := fun _ _ => none) (n := F) (by omega)
    have hR : r1.length + 1 ≤ 100000000 := by rw [h1] at h5; simp at h5; omega
    have hlt : ((r1.length : Int) < (rs.length : Int)) = True := eq_true (by rw [h1]; simp; omega)
    have hget : (rs.map fun r => [glV r])[r1.length]? = some [glV r] := by rw [h1]; exact mid_get _ _ _ _
    have hi : (0 : Int) ≤ (r1.length : Int) := by omega
    have hr := cntS_eq (h2 r (List.mem_cons_self ..))
    have e0 : c + ((xRs (r :: r2) : Nat) : Int) = c + (cntL r : Int) + (xRs r2 : Int) := by rw [xRs_cons]; simp only [Int.natCast_add]; omega
    have hb : c + (cntL r : Int) + (xRs r2 : Int) ≤ 100000000 := by omega
    have IH := ih (r1 ++ [r]) (c + (cntL r : Int)) k (by simp [h1]) (fun x hx => h2 x (List.mem_cons_of_mem _ hx)) (by omega) hb h5 (by simp at h6; omega)
    have hls : (r1 ++ [r]).length = r1.length + 1 := by simp
    rw [hls] at IH
    simp only [Int.natCast_add, Int.natCast_one] at IH
    rw [iter_one, e0]
    simp (maxSteps := 1000000) (disch := omega) only [yCounta_r, yCounta_, ↓axP, axQ, ↓if_true, ↓if_false, List.all_cons, List.all_nil, List.length_cons, List.length_nil, List.take_succ_cons, List.take_zero, List.take_nil, List.drop_succ_cons, List.drop_zero, List.drop_nil, List.getElem?_cons_zero, List.getElem?_cons_succ, List.getElem?_nil, List.nil_append, List.cons_append, List.append_nil, List.flatten_cons, List.flatten_nil, ite_true, ite_false, reduceIte, ne_eq, eq_self, Nat.reduceAdd, Nat.reduceSub, Nat.reduceMul, Nat.reduceLeDiff, Nat.reduceEqDiff, Nat.reduceBEq, reduceCtorEq, Int.reduceToNat, List.elem_nil, List.elem_cons, Int.reduceLT, Int.reduceLE, Int.reduceEq, Int.reduceAdd, Int.reduceSub, Int.reduceNeg, capnY, appzY, List.all_append, List.take_append, List.drop_append, List.length_append, glC_len, glC_0, glC_5, glC_t, glC_take, glC_drop, glC_one, glC_ne, glV_cells, glV_fit, glV_one, frA_glV, hlt, hi, hget, Int.toNat_natCast, List.length_map, hr, IH]
theorem cntb_loop {n : Nat} (F0 : Nat) (l : List Gl) (hw : WC (n + 1) l) (hF : ∀ g ∈ l, g.rows.length < F0) : ∀ (l2 l1 : List Gl) (c : Int) (H : AH) (F : Nat), l = l1 ++ l2 → 0 ≤ c → c + xL l2 ≤ 100000000 → H.wf → l2.length < F →
    ∃ H', iter (ycode (tcall [(18, pureF (cntS n))]) F0 yCountb) F (mk [(3, .int .i64 c), (10, .vals 6 (l.map glC)), (11, .int .i64 l.length), (12, .int .i64 l1.length)]) H = some (.exit 0, mk [(3, .int .i64 (c + xL l2))], H') := by
  intro l2
  induction l2 with
  | nil =>
    intro l1 c H F h1 h2 h3 h4 h5
    obtain ⟨k, rfl⟩ := iter_pos (f := fun _ _ => none) (n := F) (by omega)
    rw [List.append_nil] at h1
    have hlt : ((l1.length : Int) < (l.length : Int)) = False := by rw [h1]; simp
    have e0 : c + ((xL [] : Nat) : Int) = c := by simp [xL]
    rw [e0]
    refine ⟨H, ?_⟩
    rw [iter_one]
    simp (maxSteps := 1000000) (disch := omega) only [yCountb_r, yCountb_, ↓axP, axQ, ↓if_true, ↓if_false, List.all_cons, List.all_nil, List.length_cons, List.length_nil, List.take_succ_cons, List.take_zero, List.take_nil, List.drop_succ_cons, List.drop_zero, List.drop_nil, List.getElem?_cons_zero, List.getElem?_cons_succ, List.getElem?_nil, List.nil_append, List.cons_append, List.append_nil, List.flatten_cons, List.flatten_nil, ite_true, ite_false, reduceIte, ne_eq, eq_self, Nat.reduceAdd, Nat.reduceSub, Nat.reduceMul, Nat.reduceLeDiff, Nat.reduceEqDiff, Nat.reduceBEq, reduceCtorEq, Int.reduceToNat, List.elem_nil, List.elem_cons, Int.reduceLT, Int.reduceLE, Int.reduceEq, Int.reduceAdd, Int.reduceSub, Int.reduceNeg, capnY, appzY, List.all_append, List.take_append, List.drop_append, List.length_append, hlt, List.length_map]
  | cons g l2 ih =>
    intro l1 c H F h1 h2 h3 h4 h5
    obtain ⟨k, rfl⟩ := iter_pos (f := fun _ _ => none) (n := F) (by omega)
    have hg : g ∈ l := by rw [h1]; simp
    have hL := xL_le l
    have hW := hw.2
    have hR : l1.length + 1 ≤ 100000000 := by have : l.length = l1.length + (l2.length + 1) := by rw [h1]; simp
                                              omega
    have hlt : ((l1.length : Int) < (l.length : Int)) = True := eq_true (by rw [h1]; simp; omega)
    have hget : (l.map glC)[l1.length]? = some (glC g) := by rw [h1]; exact mid_get _ _ _ _
    have hi : (0 : Int) ≤ (l1.length : Int) := by omega
    have hx : xL (g :: l2) = xRs g.rows + xL l2 := by simp [xL, xG_eq]
    have e0 : c + ((xL (g :: l2) : Nat) : Int) = c + (xRs g.rows : Int) + (xL l2 : Int) := by rw [hx]; simp only [Int.natCast_add]; omega
    have hb : c + (xRs g.rows : Int) + (xL l2 : Int) ≤ 100000000 := by omega
    have hrl : g.rows.length ≤ 100000000 := by
      have a := wt_mem hg
      rw [wt_eq] at a
      have : ∀ rs : List (List Gl), rs.length ≤ wtRs rs := by
        intro rs
        induction rs with
        | nil => simp
        | cons r rs ih => simp only [wtRs, List.length_cons]; omega
      have := this g.rows
      omega
    obtain ⟨nx, gs, ms⟩ := H
    have g0 := wf_mk h4
    have q := cnta_loop (n := n) F0 (.vals 6 (l.map glC)) (.int .i64 l.length) (.int .i64 l1.length) ⟨nx + 1, gs.set nx ⟨0, 0, glC g⟩, ms⟩ g.rows g.rows [] c F0 rfl (fun r hr => hw.row hg hr) h2 (by omega) hrl (hF g hg)
    simp only [List.length_nil, Int.natCast_zero] at q
    obtain ⟨H', IH⟩ := ih (l1 ++ [g]) (c + (xRs g.rows : Int)) ⟨nx + 1, gs.set nx ⟨0, 0, glC g⟩, ms⟩ k (by simp [h1]) (by omega) hb (wf_add h4 _) (by simp at h5; omega)
    refine ⟨H', ?_⟩
    have hls : (l1 ++ [g]).length = l1.length + 1 := by simp
    rw [hls] at IH
    simp only [Int.natCast_add, Int.natCast_one] at IH
    rw [iter_one, e0]
    simp (maxSteps := 1000000) (disch := omega) only [yCountb_r, yCountb_, ↓axP, axQ, ↓if_true, ↓if_false, List.all_cons, List.all_nil, List.length_cons, List.length_nil, List.take_succ_cons, List.take_zero, List.take_nil, List.drop_succ_cons, List.drop_zero, List.drop_nil, List.getElem?_cons_zero, List.getElem?_cons_succ, List.getElem?_nil, List.nil_append, List.cons_append, List.append_nil, List.flatten_cons, List.flatten_nil, ite_true, ite_false, reduceIte, ne_eq, eq_self, Nat.reduceAdd, Nat.reduceSub, Nat.reduceMul, Nat.reduceLeDiff, Nat.reduceEqDiff, Nat.reduceBEq, reduceCtorEq, Int.reduceToNat, List.elem_nil, List.elem_cons, Int.reduceLT, Int.reduceLE, Int.reduceEq, Int.reduceAdd, Int.reduceSub, Int.reduceNeg, capnY, appzY, List.all_append, List.take_append, List.drop_append, List.length_append, glC_len, glC_0, glC_5, glC_t, glC_take, glC_drop, glC_one, glC_ne, glV_cells, glV_fit, glV_one, frA_glV, hlt, hi, hget, Int.toNat_natCast, List.length_map, g0, q, IH]
theorem rows_lt {l : List Gl} : ∀ g ∈ l, g.rows.length < wtL l + 1 := by
  intro g hg
  have a := wt_mem hg
  rw [wt_eq] at a
  have : ∀ rs : List (List Gl), rs.length ≤ wtRs rs := by
    intro rs
    induction rs with
    | nil => simp
    | cons r rs ih => simp only [wtRs, List.length_cons]; omega
  have := this g.rows
  omega
theorem len_wt (l : List Gl) : l.length ≤ wtL l := by have := xL_le l; omega
theorem cnt_step {n : Nat} (hc : HookOne Tryz.prog 18 (pureF (cntS n))) : HookOne Tryz.prog 18 (pureF (cntS (n + 1))) := by
  refine HookOne.ofPureF (by decide +kernel) fun args y h H => ?_
  have hl : ∀ e ∈ [(18, pureF (cntS n))], HookOne Tryz.prog e.1 e.2 := by
    intro e he; simp at he; subst he; exact hc
  unfold cntS at h; split at h
  · rename_i x
    rw [Option.bind_eq_some_iff] at h
    obtain ⟨l, h1, h2⟩ := h
    obtain ⟨hw, h3⟩ := only_ok h2
    cases h3
    obtain rfl := back_ok h1
    have a := xL_le l
    have b := hw.2
    refine ACalls.ofRun hl mixed (draws _ rfl) yCount_ok rfl (by simp [pureL, pure_glV]) (wtL l + 1) ?_ H
    obtain ⟨H', q⟩ := cntb_loop (wtL l + 1) l hw rows_lt l [] l.length AH.empty (wtL l + 1) rfl (by omega) (by omega) wf_empty (by omega)
    simp only [List.length_nil, Int.natCast_zero, empty_mk] at q
    unfold glV
    simp (maxSteps := 1000000) (disch := omega) only [yCount, xinit_1, ↓axP, axQ, ↓if_true, ↓if_false, List.all_cons, List.all_nil, List.length_cons, List.length_nil, List.take_succ_cons, List.take_zero, List.take_nil, List.drop_succ_cons, List.drop_zero, List.drop_nil, List.getElem?_cons_zero, List.getElem?_cons_succ, List.getElem?_nil, List.nil_append, List.cons_append, List.append_nil, List.flatten_cons, List.flatten_nil, ite_true, ite_false, reduceIte, ne_eq, eq_self, Nat.reduceAdd, Nat.reduceSub, Nat.reduceMul, Nat.reduceLeDiff, Nat.reduceEqDiff, Nat.reduceBEq, reduceCtorEq, Int.reduceToNat, List.elem_nil, List.elem_cons, Int.reduceLT, Int.reduceLE, Int.reduceEq, Int.reduceAdd, Int.reduceSub, Int.reduceNeg, capnY, appzY, List.all_append, List.take_append, List.drop_append, List.length_append, List.length_map, q]
    refine Ans.some ?_
    have : ((l.length : Int) + (xL l : Int)) = ((cntL l : Nat) : Int) := by simp [cntL]
    rw [this]
    exact .pure rfl
  · cases h
theorem lev_any (f : Nat) {S : Nat → List AV → Option AV} (hf : ∀ {n : Nat}, HookOne Tryz.prog f (pureF (S n)) → HookOne Tryz.prog f (pureF (S (n + 1)))) (h0 : ∀ args, S 0 args = none) (hd : callableB Tryz.prog f = true) : ∀ n, HookOne Tryz.prog f (pureF (S n))
  | 0 => HookOne.ofPureF hd fun args y h H => by rw [h0] at h; cases h
  | n + 1 => hf (lev_any f (S := S) hf h0 hd n)
theorem only_none {p : Prop} (h : ¬p) {α : Type} (x : Option α) : only p x = none := by unfold only; rw [if_neg h]
theorem cntS_0 (args : List AV) : cntS 0 args = none := by
  unfold cntS
  split
  · rename_i x
    cases ofRow x with
    | none => rfl
    | some l => exact only_none (fun h => absurd h.1 (Nat.not_lt_zero _)) _
  · rfl
theorem cnt_any : ∀ n, HookOne Tryz.prog 18 (pureF (cntS n)) := lev_any _ (fun h => cnt_step h) cntS_0 (by decide +kernel)
theorem rcnta_loop {n : Nat} (F0 : Nat) (H : AH) (l : List Gl) (hl : l.length ≤ 100000000) (l1 l3 : List Gl) (g : Gl) (he : l = l1 ++ g :: l3) : ∀ (r2 r1 : List (List Gl)) (c : Int) (F : Nat), g.rows = r1 ++ r2 → (∀ r ∈ r2, WC n r) → 0 ≤ c → c + xRs r2 ≤ 100000000 → g.rows.length ≤ 100000000 → r2.length < F →
    iter (ycode (tcall [(25, pureF (cntS n))]) F0 yRCounta) F (mk [(0, .vals 6 (l.map glC)), (3, .int .i64 c), (4, .int .i64 l1.length), (5, .int .i64 r1.length)]) H = some (.exit 2, mk [(0, .vals 6 (l.map glC)), (3, .int .i64 (c + xRs r2)), (4, .int .i64 l1.length)], H) := by
  intro r2
  have hget0 : (l.map glC)[l1.length]? = some (glC g) := by rw [he]; exact mid_get _ _ _ _
  have hi0 : (0 : Int) ≤ (l1.length : Int) := by omega
  induction r2 with
  | nil =>
    intro r1 c F h1 h2 h3 h4 h5 h6
    obtain ⟨k, rfl⟩ := iter_pos (f := fun _ _ => none) (n := F) (by omega)
    rw [List.append_nil] at h1
    have hlt : ((r1.length : Int) < (g.rows.length : Int)) = False := by rw [h1]; simp
    have e0 : c + ((xRs [] : Nat) : Int) = c := by simp [xRs]
    rw [iter_one, e0]
    simp (maxSteps := 1000000) (disch := omega) only [yRCounta_r, yRCounta_, ↓axP, axQ, ↓if_true, ↓if_false, List.all_cons, List.all_nil, List.length_cons, List.length_nil, List.take_succ_cons, List.take_zero, List.take_nil, List.drop_succ_cons, List.drop_zero, List.drop_nil, List.getElem?_cons_zero, List.getElem?_cons_succ, List.getElem?_nil, List.nil_append, List.cons_append, List.append_nil, List.flatten_cons, List.flatten_nil, ite_true, ite_false, reduceIte, ne_eq, eq_self, Nat.reduceAdd, Nat.reduceSub, Nat.reduceMul, Nat.reduceLeDiff, Nat.reduceEqDiff, Nat.reduceBEq, reduceCtorEq, Int.reduceToNat, List.elem_nil, List.elem_cons, Int.reduceLT, Int.reduceLE, Int.reduceEq, Int.reduceAdd, Int.reduceSub, Int.reduceNeg, capnY, appzY, List.all_append, List.take_append, List.drop_append, List.length_append, glC_len, glC_0, glC_5, glC_t, glC_take, glC_drop, glC_one, glC_ne, glV_cells, glV_fit, glV_one, frA_glV, hlt, List.length_map, hi0, hget0, Int.toNat_natCast]
  | cons r r2 ih =>
    intro r1 c F h1 h2 h3 h4 h5 h6
    obtain ⟨k, rfl⟩ := iter_pos (f := fun _ _ => none) (n := F) (by omega)
    have hR : r1.length + 1 ≤ 100000000 := by rw [h1] at h5; simp at h5; omega
    have hlt : ((r1.length : Int) < (g.rows.length : Int)) = True := eq_true (by rw [h1]; simp; omega)
    have hget : (g.rows.map fun r => [glV r])[r1.length]? = some [glV r] := by rw [h1]; exact mid_get _ _ _ _
    have hi : (0 : Int) ≤ (r1.length : Int) := by omega
    have hr := cntS_eq (h2 r (List.mem_cons_self ..))
    have e0 : c + ((xRs (r :: r2) : Nat) : Int) = c + (cntL r : Int) + (xRs r2 : Int) := by rw [xRs_cons]; simp only [Int.natCast_add]; omega
    have hb : c + (cntL r : Int) + (xRs r2 : Int) ≤ 100000000 := by omega
    have IH := ih (r1 ++ [r]) (c + (cntL r : Int)) k (by simp [h1]) (fun x hx => h2 x (List.mem_cons_of_mem _ hx)) (by omega) hb h5 (by simp at h6; omega)
    have hls : (r1 ++ [r]).length = r1.length + 1 := by simp
    rw [hls] at IH
    simp only [Int.natCast_add, Int.natCast_one] at IH
    rw [iter_one, e0]
    simp (maxSteps := 1000000) (disch := omega) only [yRCounta_r, yRCounta_, ↓axP, axQ, ↓if_true, ↓if_false, List.all_cons, List.all_nil, List.length_cons, List.length_nil, List.take_succ_cons, List.take_zero, List.take_nil, List.drop_succ_cons, List.drop_zero, List.drop_nil, List.getElem?_cons_zero, List.getElem?_cons_succ, List.getElem?_nil, List.nil_append, List.cons_append, List.append_nil, List.flatten_cons, List.flatten_nil, ite_true, ite_false, reduceIte, ne_eq, eq_self, Nat.reduceAdd, Nat.reduceSub, Nat.reduceMul, Nat.reduceLeDiff, Nat.reduceEqDiff, Nat.reduceBEq, reduceCtorEq, Int.reduceToNat, List.elem_nil, List.elem_cons, Int.reduceLT, Int.reduceLE, Int.reduceEq, Int.reduceAdd, Int.reduceSub, Int.reduceNeg, capnY, appzY, List.all_append, List.take_append, List.drop_append, List.length_append, glC_len, glC_0, glC_5, glC_t, glC_take, glC_drop, glC_one, glC_ne, glV_cells, glV_fit, glV_one, frA_glV, hlt, hi, hget, hi0, hget0, Int.toNat_natCast, List.length_map, hr, IH]
theorem rows_wt (rs : List (List Gl)) : rs.length ≤ wtRs rs := by
  induction rs with
  | nil => simp
  | cons r rs ih => simp only [wtRs, List.length_cons]; omega
theorem rcntb_loop {n : Nat} (F0 : Nat) (H : AH) (l : List Gl) (hw : WC (n + 1) l) (hF : ∀ g ∈ l, g.rows.length < F0) : ∀ (l2 l1 : List Gl) (c : Int) (F : Nat), l = l1 ++ l2 → 0 ≤ c → c + xL l2 ≤ 100000000 → l2.length < F →
    iter (ycode (tcall [(25, pureF (cntS n))]) F0 yRCountb) F (mk [(0, .vals 6 (l.map glC)), (3, .int .i64 c), (4, .int .i64 l1.length)]) H = some (.exit 0, mk [(3, .int .i64 (c + xL l2))], H) := by
  intro l2
  have hL := xL_le l
  have hW := hw.2
  induction l2 with
  | nil =>
    intro l1 c F h1 h2 h3 h5
    obtain ⟨k, rfl⟩ := iter_pos (f := fun _ _ => none) (n := F) (by omega)
    rw [List.append_nil] at h1
    have hlt : ((l1.length : Int) < (l.length : Int)) = False := by rw [h1]; simp
    have e0 : c + ((xL [] : Nat) : Int) = c := by simp [xL]
    rw [iter_one, e0]
    simp (maxSteps := 1000000) (disch := omega) only [yRCountb_r, yRCountb_, ↓axP, axQ, ↓if_true, ↓if_false, List.all_cons, List.all_nil, List.length_cons, List.length_nil, List.take_succ_cons, List.take_zero, List.take_nil, List.drop_succ_cons, List.drop_zero, List.drop_nil, List.getElem?_cons_zero, List.getElem?_cons_succ, List.getElem?_nil, List.nil_append, List.cons_append, List.append_nil, List.flatten_cons, List.flatten_nil, ite_true, ite_false, reduceIte, ne_eq, eq_self, Nat.reduceAdd, Nat.reduceSub, Nat.reduceMul, Nat.reduceLeDiff, Nat.reduceEqDiff, Nat.reduceBEq, reduceCtorEq, Int.reduceToNat, List.elem_nil, List.elem_cons, Int.reduceLT, Int.reduceLE, Int.reduceEq, Int.reduceAdd, Int.reduceSub, Int.reduceNeg, capnY, appzY, List.all_append, List.take_append, List.drop_append, List.length_append, hlt, List.length_map]
  | cons g l2 ih =>
    intro l1 c F h1 h2 h3 h5
    obtain ⟨k, rfl⟩ := iter_pos (f := fun _ _ => none) (n := F) (by omega)
    have hg : g ∈ l := by rw [h1]; simp
    have hR : l1.length + 1 ≤ 100000000 := by have : l.length = l1.length + (l2.length + 1) := by rw [h1]; simp
                                              omega
    have hlt : ((l1.length : Int) < (l.length : Int)) = True := eq_true (by rw [h1]; simp; omega)
    have hx : xL (g :: l2) = xRs g.rows + xL l2 := by simp [xL, xG_eq]
    have e0 : c + ((xL (g :: l2) : Nat) : Int) = c + (xRs g.rows : Int) + (xL l2 : Int) := by rw [hx]; simp only [Int.natCast_add]; omega
    have hb : c + (xRs g.rows : Int) + (xL l2 : Int) ≤ 100000000 := by omega
    have hrl : g.rows.length ≤ 100000000 := by
      have a := wt_mem hg
      rw [wt_eq] at a
      have := rows_wt g.rows
      omega
    have q := rcnta_loop (n := n) F0 H l (by omega) l1 l2 g h1 g.rows [] c F0 rfl (fun r hr => hw.row hg hr) h2 (by omega) hrl (hF g hg)
    simp only [List.length_nil, Int.natCast_zero] at q
    have IH := ih (l1 ++ [g]) (c + (xRs g.rows : Int)) k (by simp [h1]) (by omega) hb (by simp at h5; omega)
    have hls : (l1 ++ [g]).length = l1.length + 1 := by simp
    rw [hls] at IH
    simp only [Int.natCast_add, Int.natCast_one] at IH
    rw [iter_one, e0]
    simp (maxSteps := 1000000) (disch := omega) only [yRCountb_r, yRCountb_, ↓axP, axQ, ↓if_true, ↓if_false, List.all_cons, List.all_nil, List.length_cons, List.length_nil, List.take_succ_cons, List.take_zero, List.take_nil, List.drop_succ_cons, List.drop_zero, List.drop_nil, List.getElem?_cons_zero, List.getElem?_cons_succ, List.getElem?_nil, List.nil_append, List.cons_append, List.append_nil, List.flatten_cons, List.flatten_nil, ite_true, ite_false, reduceIte, ne_eq, eq_self, Nat.reduceAdd, Nat.reduceSub, Nat.reduceMul, Nat.reduceLeDiff, Nat.reduceEqDiff, Nat.reduceBEq, reduceCtorEq, Int.reduceToNat, List.elem_nil, List.elem_cons, Int.reduceLT, Int.reduceLE, Int.reduceEq, Int.reduceAdd, Int.reduceSub, Int.reduceNeg, capnY, appzY, List.all_append, List.take_append, List.drop_append, List.length_append, glC_len, glC_0, glC_5, glC_t, glC_take, glC_drop, glC_one, glC_ne, glV_cells, glV_fit, glV_one, frA_glV, hlt, List.length_map, q, IH]
theorem rcnt_step {n : Nat} (hc : HookOne Tryz.prog 25 (pureF (cntS n))) : HookOne Tryz.prog 25 (pureF (cntS (n + 1))) := by
  refine HookOne.ofPureF (by decide +kernel) fun args y h H => ?_
  have hl : ∀ e ∈ [(25, pureF (cntS n))], HookOne Tryz.prog e.1 e.2 := by
    intro e he; simp at he; subst he; exact hc
  unfold cntS at h; split at h
  · rename_i x
    rw [Option.bind_eq_some_iff] at h
    obtain ⟨l, h1, h2⟩ := h
    obtain ⟨hw, h3⟩ := only_ok h2
    cases h3
    obtain rfl := back_ok h1
    have a := xL_le l
    have b := hw.2
    refine ACalls.ofRun hl mixed (draws _ rfl) yRCount_ok rfl (by simp [pureL, pure_glV]) (wtL l + 1) ?_ H
    have q := rcntb_loop (wtL l + 1) AH.empty l hw rows_lt l [] l.length (wtL l + 1) rfl (by omega) (by omega) (by omega)
    simp only [List.length_nil, Int.natCast_zero, empty_mk] at q
    unfold glV
    simp (maxSteps := 1000000) (disch := omega) only [yRCount, xinit_1, ↓axP, axQ, ↓if_true, ↓if_false, List.all_cons, List.all_nil, List.length_cons, List.length_nil, List.take_succ_cons, List.take_zero, List.take_nil, List.drop_succ_cons, List.drop_zero, List.drop_nil, List.getElem?_cons_zero, List.getElem?_cons_succ, List.getElem?_nil, List.nil_append, List.cons_append, List.append_nil, List.flatten_cons, List.flatten_nil, ite_true, ite_false, reduceIte, ne_eq, eq_self, Nat.reduceAdd, Nat.reduceSub, Nat.reduceMul, Nat.reduceLeDiff, Nat.reduceEqDiff, Nat.reduceBEq, reduceCtorEq, Int.reduceToNat, List.elem_nil, List.elem_cons, Int.reduceLT, Int.reduceLE, Int.reduceEq, Int.reduceAdd, Int.reduceSub, Int.reduceNeg, capnY, appzY, List.all_append, List.take_append, List.drop_append, List.length_append, List.length_map, q]
    refine Ans.some ?_
    have : ((l.length : Int) + (xL l : Int)) = ((cntL l : Nat) : Int) := by simp [cntL]
    rw [this]
    exact .pure rfl
  · cases h
theorem rcnt_any : ∀ n, HookOne Tryz.prog 25 (pureF (cntS n)) := lev_any _ (fun h => rcnt_step h) cntS_0 (by decide +kernel)
mutual
def cutG : Gl → Bool
  | .mk k _ l => decide (k = 2) || (!decide (k = 5) && (if k = 4 then cutTl l else cutRs l))
def cutL : List Gl → Bool
  | [] => false
  | g :: gs => cutG g || cutL gs
def cutRs : List (List Gl) → Bool
  | [] => false
  | r :: rs => cutL r || cutRs rs
def cutTl : List (List Gl) → Bool
  | [] => false
  | _ :: rs => cutRs rs
end
theorem cutL_any (l : List Gl) : cutL l = l.any cutG := by
  induction l with
  | nil => simp [cutL]
  | cons g l ih => simp [cutL, ih]
theorem cutRs_any (l : List (List Gl)) : cutRs l = l.any cutL := by
  induction l with
  | nil => simp [cutRs]
  | cons g l ih => simp [cutRs, ih]
theorem cutTl_any (l : List (List Gl)) : cutTl l = (l.drop 1).any cutL := by
  cases l with
  | nil => simp [cutTl]
  | cons g l => simp [cutTl, cutRs_any]
theorem cutG_eq (g : Gl) : cutG g = (decide (g.kind = 2) || (!decide (g.kind = 5) && (if g.kind = 4 then (g.rows.drop 1).any cutL else g.rows.any cutL))) := by
  obtain ⟨k, t, l⟩ := g; simp only [cutG, Gl.kind, Gl.rows, cutTl_any, cutRs_any]; all_goals congr
noncomputable def cutS (n : Nat) : List AV → Option AV
  | [x] => (ofRow x).bind fun l => only (WC n l) (some (.bool (cutL l)))
  | _ => none
theorem cutS_eq {n : Nat} {l : List Gl} (h : WC n l) : cutS n [glV l] = some (.bool (cutL l)) := by
  simp only [cutS, ofRow_eq, Option.bind_some]; exact only_eq h _
theorem cutS_0 (args : List AV) : cutS 0 args = none := by
  unfold cutS
  split
  · rename_i x
    cases ofRow x with
    | none => rfl
    | some l => exact only_none (fun h => absurd h.1 (Nat.not_lt_zero _)) _
  · rfl
/-- The place of the first, or -1. -/
def ixOf {α : Type} (p : α → Bool) : List α → Int → Int
  | [], _ => -1
  | x :: l, i => if p x = true then i else ixOf p l (i + 1)
theorem ixOf_any {α : Type} (p : α → Bool) : ∀ (l : List α) (i : Int), 0 ≤ i → (0 ≤ ixOf p l i) = (l.any p = true)
  | [], i, h => by simp [ixOf]
  | x :: l, i, h => by
    simp only [ixOf, List.any_cons]
    cases p x with
    | true => simp [h]
    | false => simpa using ixOf_any p l (i + 1) (by omega)
noncomputable def rxS (n : Nat) : List AV → Option AV
  | [x, .fn (.func f) []] => (ofRws x).bind fun l => only (f = 19 ∧ l.length ≤ 100000000 ∧ ∀ r ∈ l, WC n r) (some (.int .i64 (ixOf cutL l 0)))
  | _ => none
theorem rxS_eq {n : Nat} {l : List (List Gl)} (h : l.length ≤ 100000000 ∧ ∀ r ∈ l, WC n r) : rxS n [glsV l, .fn (.func 19) []] = some (.int .i64 (ixOf cutL l 0)) := by
  simp only [rxS, ofRws_eq, Option.bind_some]; exact only_eq (by exact ⟨trivial, h⟩) _
theorem rx_loop {n : Nat} (F0 : Nat) (H : AH) (rs : List (List Gl)) (hb : rs.length ≤ 100000000) : ∀ (r2 r1 : List (List Gl)) (F : Nat), rs = r1 ++ r2 → (∀ r ∈ r2, WC n r) → r2.length < F →
    iter (ycode (tcall [(19, pureF (cutS n))]) F0 yIxRa) F (mk [(0, .vals 1 (rs.map fun r => [glV r])), (1, .fn (.func 19) []), (7, .int .i64 rs.length), (8, .int .i64 r1.length)]) H =
      if r2.any cutL = true then some (.ret, mk [(4, .int .i64 (ixOf cutL r2 r1.length))], H) else some (.exit 0, mk [], H) := by
  intro r2
  induction r2 with
  | nil =>
    intro r1 F h1 h2 h6
    obtain ⟨k, rfl⟩ := iter_pos (f := fun _ _ => none) (n := F) (by omega)
    rw [List.append_nil] at h1
    have hlt : ((r1.length : Int) < (rs.length : Int)) = False := by rw [h1]; simp
    rw [iter_one]
    simp (maxSteps := 1000000) (disch := omega) only [yIxRa_r, yIxRa_, ↓axP, axQ, ↓if_true, ↓if_false, List.all_cons, List.all_nil, List.length_cons, List.length_nil, List.take_succ_cons, List.take_zero, List.take_nil, List.drop_succ_cons, List.drop_zero, List.drop_nil, List.getElem?_cons_zero, List.getElem?_cons_succ, List.getElem?_nil, List.nil_append, List.cons_append, List.append_nil, List.flatten_cons, List.flatten_nil, ite_true, ite_false, reduceIte, ne_eq, eq_self, Nat.reduceAdd, Nat.reduceSub, Nat.reduceMul, Nat.reduceLeDiff, Nat.reduceEqDiff, Nat.reduceBEq, reduceCtorEq, Int.reduceToNat, List.elem_nil, List.elem_cons, Int.reduceLT, Int.reduceLE, Int.reduceEq, Int.reduceAdd, Int.reduceSub, Int.reduceNeg, capnY, appzY, List.all_append, List.take_append, List.drop_append, List.length_append, hlt, List.length_map, List.any_nil, Bool.false_eq_true]
  | cons r r2 ih =>
    intro r1 F h1 h2 h6
    obtain ⟨k, rfl⟩ := iter_pos (f := fun _ _ => none) (n := F) (by omega)
    have hR : r1.length + 1 ≤ 100000000 := by rw [h1] at hb; simp at hb; omega
    have hlt : ((r1.length : Int) < (rs.length : Int)) = True := eq_true (by rw [h1]; simp; omega)
    have hget : (rs.map fun r => [glV r])[r1.length]? = some [glV r] := by rw [h1]; exact mid_get _ _ _ _
    have hi : (0 : Int) ≤ (r1.length : Int) := by omega
    have hr := cutS_eq (h2 r (List.mem_cons_self ..))
    have IH := ih (r1 ++ [r]) k (by simp [h1]) (fun x hx => h2 x (List.mem_cons_of_mem _ hx)) (by simp at h6; omega)
    have hls : (r1 ++ [r]).length = r1.length + 1 := by simp
    rw [hls] at IH
    simp only [Int.natCast_add, Int.natCast_one] at IH
    rw [iter_one, List.any_cons]
    simp only [ixOf]
    cases hc : cutL r with
    | true => simp (maxSteps := 1000000) (disch := omega) only [yIxRa_r, yIxRa_, ↓axP, axQ, ↓if_true, ↓if_false, List.all_cons, List.all_nil, List.length_cons, List.length_nil, List.take_succ_cons, List.take_zero, List.take_nil, List.drop_succ_cons, List.drop_zero, List.drop_nil, List.getElem?_cons_zero, List.getElem?_cons_succ, List.getElem?_nil, List.nil_append, List.cons_append, List.append_nil, List.flatten_cons, List.flatten_nil, ite_true, ite_false, reduceIte, ne_eq, eq_self, Nat.reduceAdd, Nat.reduceSub, Nat.reduceMul, Nat.reduceLeDiff, Nat.reduceEqDiff, Nat.reduceBEq, reduceCtorEq, Int.reduceToNat, List.elem_nil, List.elem_cons, Int.reduceLT, Int.reduceLE, Int.reduceEq, Int.reduceAdd, Int.reduceSub, Int.reduceNeg, capnY, appzY, List.all_append, List.take_append, List.drop_append, List.length_append, glC_len, glC_0, glC_5, glC_t, glC_take, glC_drop, glC_one, glC_ne, glV_cells, glV_fit, glV_one, frA_glV, hlt, hi, hget, Int.toNat_natCast, List.length_map, hr, hc]
    | false => simp (maxSteps := 1000000) (disch := omega) only [yIxRa_r, yIxRa_, ↓axP, axQ, ↓if_true, ↓if_false, List.all_cons, List.all_nil, List.length_cons, List.length_nil, List.take_succ_cons, List.take_zero, List.take_nil, List.drop_succ_cons, List.drop_zero, List.drop_nil, List.getElem?_cons_zero, List.getElem?_cons_succ, List.getElem?_nil, List.nil_append, List.cons_append, List.append_nil, List.flatten_cons, List.flatten_nil, ite_true, ite_false, reduceIte, ne_eq, eq_self, Nat.reduceAdd, Nat.reduceSub, Nat.reduceMul, Nat.reduceLeDiff, Nat.reduceEqDiff, Nat.reduceBEq, reduceCtorEq, Int.reduceToNat, List.elem_nil, List.elem_cons, Int.reduceLT, Int.reduceLE, Int.reduceEq, Int.reduceAdd, Int.reduceSub, Int.reduceNeg, capnY, appzY, List.all_append, List.take_append, List.drop_append, List.length_append, glC_len, glC_0, glC_5, glC_t, glC_take, glC_drop, glC_one, glC_ne, glV_cells, glV_fit, glV_one, frA_glV, hlt, hi, hget, Int.toNat_natCast, List.length_map, hr, hc, IH, Bool.false_eq_true]
theorem rx_one {n : Nat} (hc : HookOne Tryz.prog 19 (pureF (cutS n))) : HookOne Tryz.prog 76 (pureF (rxS n)) := by
  refine HookOne.ofPureF (by decide +kernel) fun args y h H => ?_
  have hl : ∀ e ∈ [(19, pureF (cutS n))], HookOne Tryz.prog e.1 e.2 := by
    intro e he; simp at he; subst he; exact hc
  unfold rxS at h; split at h
  · rename_i x f
    rw [Option.bind_eq_some_iff] at h
    obtain ⟨l, h1, h2⟩ := h
    obtain ⟨⟨rfl, hb, hw⟩, h3⟩ := only_ok h2
    cases h3
    obtain rfl := back_ok h1
    refine ACalls.ofRun hl mixed (draws _ rfl) yIxR_ok rfl (by simp [pureL, pure_glsV, pureA]) (l.length + 1) ?_ H
    have q := rx_loop (n := n) (l.length + 1) AH.empty l hb l [] (l.length + 1) rfl hw (by omega)
    simp only [List.length_nil, Int.natCast_zero, empty_mk] at q
    unfold glsV
    cases ha : l.any cutL with
    | true =>
      simp only [ha, if_true] at q
      simp (maxSteps := 1000000) (disch := omega) only [yIxR, xinit_2, ↓axP, axQ, ↓if_true, ↓if_false, List.all_cons, List.all_nil, List.length_cons, List.length_nil, List.take_succ_cons, List.take_zero, List.take_nil, List.drop_succ_cons, List.drop_zero, List.drop_nil, List.getElem?_cons_zero, List.getElem?_cons_succ, List.getElem?_nil, List.nil_append, List.cons_append, List.append_nil, List.flatten_cons, List.flatten_nil, ite_true, ite_false, reduceIte, ne_eq, eq_self, Nat.reduceAdd, Nat.reduceSub, Nat.reduceMul, Nat.reduceLeDiff, Nat.reduceEqDiff, Nat.reduceBEq, reduceCtorEq, Int.reduceToNat, List.elem_nil, List.elem_cons, Int.reduceLT, Int.reduceLE, Int.reduceEq, Int.reduceAdd, Int.reduceSub, Int.reduceNeg, capnY, appzY, List.all_append, List.take_append, List.drop_append, List.length_append, List.length_map, q]
      exact Ans.some (.pure rfl)
    | false =>
      have e : ixOf cutL l 0 = -1 := by
        have : ∀ (l : List (List Gl)) (i : Int), l.any cutL = false → ixOf cutL l i = -1 := by
          intro l
          induction l with
          | nil => intros; rfl
          | cons x l ih => intro i h; simp only [List.any_cons, Bool.or_eq_false_iff] at h; simp [ixOf, h.1, ih _ h.2]
        exact this l 0 ha
      simp only [ha, if_false, Bool.false_eq_true] at q
      simp (maxSteps := 1000000) (disch := omega) only [yIxR, xinit_2, ↓axP, axQ, ↓if_true, ↓if_false, List.all_cons, List.all_nil, List.length_cons, List.length_nil, List.take_succ_cons, List.take_zero, List.take_nil, List.drop_succ_cons, List.drop_zero, List.drop_nil, List.getElem?_cons_zero, List.getElem?_cons_succ, List.getElem?_nil, List.nil_append, List.cons_append, List.append_nil, List.flatten_cons, List.flatten_nil, ite_true, ite_false, reduceIte, ne_eq, eq_self, Nat.reduceAdd, Nat.reduceSub, Nat.reduceMul, Nat.reduceLeDiff, Nat.reduceEqDiff, Nat.reduceBEq, reduceCtorEq, Int.reduceToNat, List.elem_nil, List.elem_cons, Int.reduceLT, Int.reduceLE, Int.reduceEq, Int.reduceAdd, Int.reduceSub, Int.reduceNeg, capnY, appzY, List.all_append, List.take_append, List.drop_append, List.length_append, List.length_map, q, e]
      exact Ans.some (.pure rfl)
  · cases h
noncomputable def rcS (n : Nat) : List AV → Option AV
  | [x, .fn (.func f) []] => (ofRws x).bind fun l => only (f = 19 ∧ l.length ≤ 100000000 ∧ ∀ r ∈ l, WC n r) (some (.bool (l.any cutL)))
  | _ => none
theorem rcS_eq {n : Nat} {l : List (List Gl)} (h : l.length ≤ 100000000 ∧ ∀ r ∈ l, WC n r) : rcS n [glsV l, .fn (.func 19) []] = some (.bool (l.any cutL)) := by
  simp only [rcS, ofRws_eq, Option.bind_some]; exact only_eq (by exact ⟨trivial, h⟩) _
theorem rc_one {n : Nat} (hc : HookOne Tryz.prog 19 (pureF (cutS n))) : HookOne Tryz.prog 51 (pureF (rcS n)) := by
  refine HookOne.ofPureF (by decide +kernel) fun args y h H => ?_
  have hl : ∀ e ∈ [(76, pureF (rxS n))], HookOne Tryz.prog e.1 e.2 := by
    intro e he; simp at he; subst he; exact rx_one hc
  unfold rcS at h; split at h
  · rename_i x f
    rw [Option.bind_eq_some_iff] at h
    obtain ⟨l, h1, h2⟩ := h
    obtain ⟨⟨rfl, hw⟩, h3⟩ := only_ok h2
    cases h3
    obtain rfl := back_ok h1
    refine ACalls.ofRun hl mixed (draws _ rfl) yCtR_ok rfl (by simp [pureL, pure_glsV, pureA]) 1 ?_ H
    have e := ixOf_any cutL l 0 (by omega)
    cases ha : l.any cutL with
    | true =>
      have e1 : (0 ≤ ixOf cutL l 0) = True := eq_true (e.mpr ha)
      simp (maxSteps := 1000000) (disch := omega) only [yCtR, xinit_2, ↓axP, axQ, ↓if_true, ↓if_false, List.all_cons, List.all_nil, List.length_cons, List.length_nil, List.take_succ_cons, List.take_zero, List.take_nil, List.drop_succ_cons, List.drop_zero, List.drop_nil, List.getElem?_cons_zero, List.getElem?_cons_succ, List.getElem?_nil, List.nil_append, List.cons_append, List.append_nil, List.flatten_cons, List.flatten_nil, ite_true, ite_false, reduceIte, ne_eq, eq_self, Nat.reduceAdd, Nat.reduceSub, Nat.reduceMul, Nat.reduceLeDiff, Nat.reduceEqDiff, Nat.reduceBEq, reduceCtorEq, Int.reduceToNat, List.elem_nil, List.elem_cons, Int.reduceLT, Int.reduceLE, Int.reduceEq, Int.reduceAdd, Int.reduceSub, Int.reduceNeg, capnY, appzY, List.all_append, List.take_append, List.drop_append, List.length_append, frA_glsV, rxS_eq hw, e1]
      exact Ans.some (.pure rfl)
    | false =>
      have e1 : (0 ≤ ixOf cutL l 0) = False := eq_false (fun h => by rw [e] at h; rw [h] at ha; cases ha)
      simp (maxSteps := 1000000) (disch := omega) only [yCtR, xinit_2, ↓axP, axQ, ↓if_true, ↓if_false, List.all_cons, List.all_nil, List.length_cons, List.length_nil, List.take_succ_cons, List.take_zero, List.take_nil, List.drop_succ_cons, List.drop_zero, List.drop_nil, List.getElem?_cons_zero, List.getElem?_cons_succ, List.getElem?_nil, List.nil_append, List.cons_append, List.append_nil, List.flatten_cons, List.flatten_nil, ite_true, ite_false, reduceIte, ne_eq, eq_self, Nat.reduceAdd, Nat.reduceSub, Nat.reduceMul, Nat.reduceLeDiff, Nat.reduceEqDiff, Nat.reduceBEq, reduceCtorEq, Int.reduceToNat, List.elem_nil, List.elem_cons, Int.reduceLT, Int.reduceLE, Int.reduceEq, Int.reduceAdd, Int.reduceSub, Int.reduceNeg, capnY, appzY, List.all_append, List.take_append, List.drop_append, List.length_append, frA_glsV, rxS_eq hw, e1]
      exact Ans.some (.pure rfl)
  · cases h
end Go.Proofs.YtcnnobcncklgfaaGreatDoor
