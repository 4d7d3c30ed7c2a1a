/- The contract of the document's Same of goals; what terms stand in goals; how many. -/
import Derived.Test.YtcnnobcncklgfaaGreatDoorSymB8
namespace Go.Proofs.YtcnnobcncklgfaaGreatDoor
open Go Go.Abs Go.RowKit
set_option linter.unusedVariables false
set_option linter.unusedSimpArgs false
attribute [local congr] on_congr br_congr onf_congr
mutual
def tfG (m : Nat) : Gl → Prop
  | .mk _ t l => (t.height ≤ m ∧ Fine 1000 t) ∧ tfRs m l
def tfL (m : Nat) : List Gl → Prop
  | [] => True
  | g :: gs => tfG m g ∧ tfL m gs
def tfRs (m : Nat) : List (List Gl) → Prop
  | [] => True
  | r :: rs => tfL m r ∧ tfRs m rs
end
theorem tfG_eq (m : Nat) (g : Gl) : tfG m g = ((g.t.height ≤ m ∧ Fine 1000 g.t) ∧ tfRs m g.rows) := by cases g; simp [tfG, Gl.t, Gl.rows]
theorem tfL_iff {m : Nat} {l : List Gl} : tfL m l ↔ ∀ g ∈ l, tfG m g := by
  induction l with
  | nil => simp [tfL]
  | cons g l ih => simp [tfL, ih]
theorem tfRs_iff {m : Nat} {l : List (List Gl)} : tfRs m l ↔ ∀ r ∈ l, tfL m r := by
  induction l with
  | nil => simp [tfRs]
  | cons g l ih => simp [tfRs, ih]
theorem tf_row {m : Nat} {l : List Gl} (h : tfL m l) {g : Gl} (hg : g ∈ l) {r : List Gl} (hr : r ∈ g.rows) : tfL m r := by
  have := tfL_iff.1 h g hg
  rw [tfG_eq] at this
  exact tfRs_iff.1 this.2 r hr
theorem tf_t {m : Nat} {l : List Gl} (h : tfL m l) {g : Gl} (hg : g ∈ l) : g.t.height ≤ m ∧ Fine 1000 g.t := by
  have := tfL_iff.1 h g hg
  rw [tfG_eq] at this
  exact this.1
theorem rowsW_tf {m : Nat} {f : Tm → List Gl × Int} : ∀ l : List Tm, (∀ t ∈ l, tfL m (f t).1) → tfRs m (rowsW f l).1
  | [], _ => by simp [rowsW, tfRs]
  | t :: ts, h => by
    simp only [rowsW]
    split
    · split
      · exact ⟨h t (List.mem_cons_self ..), rowsW_tf ts fun x hx => h x (List.mem_cons_of_mem _ hx)⟩
      · trivial
    · trivial
theorem fine_zT : Fine 1000 zT := .mk _ _ _ _ (by omega) (by omega) (by unfold maxLen; simp) (by simp) (fun x hx => by cases hx)
theorem nestW_tf {m : Nat} (hm : 1 ≤ m) {f : Tm → List Gl × Int} (k : Int) (l : List Tm) (h : ∀ t ∈ l, tfL m (f t).1) : tfL m (nestW f k l).1 := by
  unfold nestW
  split
  · exact ⟨⟨⟨by simp [zT, Tm.height, Tm.heights]; omega, fine_zT⟩, rowsW_tf l h⟩, trivial⟩
  · trivial
theorem tf_flat {m : Nat} {l : List (List Gl)} (h : tfRs m l) : tfL m l.flatten := by
  rw [tfL_iff]
  intro g hg
  obtain ⟨r, hr, hgr⟩ := List.mem_flatten.1 hg
  exact tfL_iff.1 (tfRs_iff.1 h r hr) g hgr
theorem rowF_tf {M : Nat} : ∀ (n : Nat) (t : Tm), RC n t → n + 1 ≤ M → tfL M (rowF n t).1
  | 0, t, h, _ => by simp [rowF, tfL]
  | n + 1, t, h, hM => by
    have ha : ∀ x ∈ t.args, tfL M (rowF n x).1 := fun x hx => rowF_tf n x (h.arg hx) (by omega)
    have h1 := h.1
    have h2 := h.2.1
    have hone : ∀ u : Tm, u.height ≤ M → Fine 1000 u → tfL M [.mk 1 u []] := fun u hu hf => ⟨⟨⟨hu, hf⟩, trivial⟩, trivial⟩
    have hz : zT.height ≤ M := by simp [zT, Tm.height, Tm.heights]; omega
    simp only [rowF]
    split
    · refine hone _ ?_ ?_
      · simp [Tm.height, Tm.heights]; omega
      · exact .mk _ _ _ _ (by omega) (by omega) (by unfold maxLen; simp) (by simp) (fun x hx => by simp at hx; subst hx; exact h2)
    · split
      · trivial
      · split
        · trivial
        · split
          · exact ⟨⟨⟨hz, fine_zT⟩, trivial⟩, trivial⟩
          · split
            · exact tf_flat (rowsW_tf _ ha)
            · split
              · rename_i hc
                simp only [Bool.and_eq_true] at hc
                obtain ⟨a, b, hab⟩ := args_two (isP_len (m := 2) hc.1)
                simp only [hab, List.getD_cons_zero, List.getD_cons_succ] at hc ⊢
                obtain ⟨c, d, hcd⟩ := args_two (isP_len (m := 2) hc.2)
                simp only [hcd, List.getD_cons_zero, List.getD_cons_succ]
                have hA := h.arg (x := a) (by rw [hab]; simp)
                obtain ⟨k, rfl⟩ : ∃ k, n = k + 1 := ⟨n - 1, by have := hA.1; have := height_pos a; omega⟩
                refine nestW_tf (by omega) 4 _ fun x hx => ?_
                simp only [List.mem_cons, List.not_mem_nil, or_false] at hx
                rcases hx with rfl | rfl | rfl
                · exact rowF_tf (k + 1) _ (hA.arg (by rw [hcd]; simp)).up (by omega)
                · exact rowF_tf (k + 1) _ (hA.arg (by rw [hcd]; simp)).up (by omega)
                · exact ha _ (by rw [hab]; simp)
              · split
                · exact nestW_tf (by omega) 3 _ ha
                · split
                  · rename_i hc
                    obtain ⟨a, b, hab⟩ := args_two (isP_len (m := 2) hc)
                    simp only [hab, List.getD_cons_zero, List.getD_cons_succ]
                    have hA := h.arg (x := a) (by rw [hab]; simp)
                    refine nestW_tf (by omega) 4 _ fun x hx => ?_
                    simp only [List.mem_cons, List.not_mem_nil, or_false] at hx
                    rcases hx with rfl | rfl | rfl
                    · exact ha _ (by rw [hab]; simp)
                    · exact ha _ (by rw [hab]; simp)
                    · exact rowF_tf n _ ⟨by have := hA.1; have := height_pos a; simp [failT, Tm.height, Tm.heights]; omega, fine_fail, by simp [failT, Tm.size, Tm.sizes]⟩ (by omega)
                  · split
                    · exact nestW_tf (by omega) 5 _ ha
                    · exact hone _ (by omega) h2
theorem wtL_append (a b : List Gl) : wtL (a ++ b) = wtL a + wtL b := by
  induction a with
  | nil => simp [wtL]
  | cons g a ih => simp [wtL, ih]; omega
theorem wtL_flat (l : List (List Gl)) : wtL l.flatten ≤ wtRs l := by
  induction l with
  | nil => simp [wtL, wtRs]
  | cons r l ih => simp only [List.flatten_cons, wtL_append, wtRs]; omega
theorem wtL_flat' (l : List (List Gl)) : wtL l.flatten + l.length = wtRs l := by
  induction l with
  | nil => simp [wtL, wtRs]
  | cons r l ih => simp only [List.flatten_cons, wtL_append, wtRs, List.length_cons]; omega
theorem rowsW_wt {f : Tm → List Gl × Int} : ∀ l : List Tm, wtRs (rowsW f l).1 ≤ l.length + (l.map fun t => wtL (f t).1).sum ∧ wtL (rowsW f l).1.flatten ≤ (l.map fun t => wtL (f t).1).sum
  | [] => by simp [rowsW, wtRs, wtL]
  | t :: ts => by
    obtain ⟨h1, h2⟩ := rowsW_wt (f := f) ts
    simp only [rowsW, List.length_cons, List.map_cons, List.sum_cons]
    split
    · split
      · simp only [wtRs, List.flatten_cons, wtL_append]; omega
      · simp [wtRs, wtL]
    · simp [wtRs, wtL]
theorem nestW_wt {f : Tm → List Gl × Int} (k : Int) (l : List Tm) : wtL (nestW f k l).1 ≤ 1 + l.length + (l.map fun t => wtL (f t).1).sum := by
  unfold nestW
  have := (rowsW_wt (f := f) l).1
  split
  · simp only [wtL, wt]; omega
  · simp [wtL]
theorem sum_le {f : Tm → List Gl × Int} {c : Nat} : ∀ l : List Tm, (∀ t ∈ l, wtL (f t).1 ≤ c * t.size) → (l.map fun t => wtL (f t).1).sum ≤ c * Tm.sizes l
  | [], _ => by simp
  | t :: ts, h => by
    have h1 := h t (List.mem_cons_self ..)
    have h2 := sum_le ts fun x hx => h x (List.mem_cons_of_mem _ hx)
    simp only [List.map_cons, List.sum_cons, Tm.sizes, Nat.mul_add]
    omega
theorem wt_fail : ∀ n, wtL (rowF n failT).1 ≤ 1
  | 0 => by simp [rowF, wtL]
  | n + 1 => by simp [rowF, failT, Tm.kind, isP, Tm.name, Tm.args, wtL, wt, wtRs]
theorem rowF_wt : ∀ (n : Nat) (t : Tm), wtL (rowF n t).1 ≤ 5 * t.size
  | 0, t => by simp [rowF, wtL]
  | n + 1, t => by
    have hp := size_pos t
    have hs := size_eq t
    have ha : ∀ l : List Tm, (l.map fun t => wtL (rowF n t).1).sum ≤ 5 * Tm.sizes l := fun l => sum_le l fun t _ => rowF_wt n t
    have h1 : ∀ u : Tm, wtL [Gl.mk 1 u []] = 1 := fun u => by simp [wtL, wt, wtRs]
    simp only [rowF]
    split
    · rw [h1]; omega
    · split
      · simp [wtL]
      · split
        · simp [wtL]
        · split
          · simp [wtL, wt, wtRs]; omega
          · split
            · have := (rowsW_wt (f := rowF n) t.args).2
              have := ha t.args
              show wtL (rowsW (rowF n) t.args).1.flatten ≤ _
              omega
            · split
              · rename_i hc
                simp only [Bool.and_eq_true] at hc
                obtain ⟨a, b, hab⟩ := args_two (isP_len (m := 2) hc.1)
                simp only [hab, List.getD_cons_zero, List.getD_cons_succ] at hc ⊢
                obtain ⟨c, d, hcd⟩ := args_two (isP_len (m := 2) hc.2)
                simp only [hcd, List.getD_cons_zero, List.getD_cons_succ]
                have := nestW_wt (f := rowF n) 4 [c, d, b]
                have := ha [c, d, b]
                have sa := size_eq a
                rw [hcd] at sa
                rw [hab] at hs
                simp only [Tm.sizes] at *
                simp only [List.length_cons, List.length_nil] at *
                omega
              · split
                · rename_i hc
                  obtain ⟨a, b, hab⟩ := args_two (isP_len (m := 2) hc)
                  have := nestW_wt (f := rowF n) 3 t.args
                  have := ha t.args
                  have hl : t.args.length = 2 := by rw [hab]; rfl
                  omega
                · split
                  · rename_i hc
                    obtain ⟨a, b, hab⟩ := args_two (isP_len (m := 2) hc)
                    simp only [hab, List.getD_cons_zero, List.getD_cons_succ]
                    have h3 := nestW_wt (f := rowF n) 4 [a, b, failT]
                    have h4 := ha [a, b]
                    have h5 := wt_fail n
                    rw [hab] at hs
                    simp only [List.map_cons, List.map_nil, List.sum_cons, List.sum_nil, List.length_cons, List.length_nil, Tm.sizes] at *
                    omega
                  · split
                    · rename_i hc
                      have hl := isP_len (m := 1) hc
                      have := nestW_wt (f := rowF n) 5 t.args
                      have := ha t.args
                      omega
                    · rw [h1]; omega
noncomputable def rsameS (m n : Nat) : List AV → Option AV
  | [x, y] => (ofRow x).bind fun l => only (y = glV l ∧ WC n l ∧ tfL m l) (some (.bool true))
  | _ => none
theorem rsameS_eq {m n : Nat} {l : List Gl} (h : WC n l ∧ tfL m l) : rsameS m n [glV l, glV l] = some (.bool true) := by
  simp only [rsameS, ofRow_eq, Option.bind_some]; exact only_eq (by first | exact ⟨trivial, h⟩ | exact ⟨rfl, h⟩) _
theorem rsameS_0 (m : Nat) (args : List AV) : rsameS m 0 args = none := by
  unfold rsameS
  split
  · rename_i x y
    cases ofRow x with
    | none => rfl
    | some l => exact only_none (fun h => absurd h.2.1.1 (Nat.not_lt_zero _)) _
  · rfl
theorem rsa_loop {m n : Nat} (F0 : Nat) (gs : Tr Grp) (ms : Tr (List (AV × AV))) (l : List Gl) (hl : l.length ≤ 100000000) (l1 l3 : List Gl) (g : Gl) (he : l = l1 ++ g :: l3) (hb : g.rows.length ≤ 100000000) : ∀ (r2 r1 : List (List Gl)) (nx F : Nat), g.rows = r1 ++ r2 → (∀ r ∈ r2, WC n r ∧ tfL m r) → r2.length < F →
    ∃ nx', iter (ycode (tcall [(24, pureF (tsameS m)), (16, pureF (rsameS m n))]) F0 yRSamea) F (mk [(0, .vals 6 (l.map glC)), (1, .vals 6 (l.map glC)), (5, .int .i64 l1.length), (6, .int .i64 r1.length)]) ⟨nx, gs, ms⟩ = some (.exit 2, mk [(0, .vals 6 (l.map glC)), (1, .vals 6 (l.map glC)), (5, .int .i64 l1.length)], ⟨nx', gs, ms⟩) := by
  intro r2
  have hget0 : (l.map glC)[l1.length]? = some (glC g) := by rw [he]; exact mid_get _ _ _ _
  have hi0 : (0 : Int) ≤ (l1.length : Int) := by omega
  induction r2 with
  | nil =>
    intro r1 nx F h1 h2 h6
    obtain ⟨k, rfl⟩ := iter_pos (f := fun _ _ => none) (n := F) (by omega)
    rw [List.append_nil] at h1
    have hlt : ((r1.length : Int) < (g.rows.length : Int)) = False := by rw [h1]; simp
    refine ⟨nx, ?_⟩
    rw [iter_one]
    simp (maxSteps := 1000000) (disch := omega) only [yRSamea_r, yRSamea_, ↓axP, axQ, ↓if_true, ↓if_false, List.all_cons, List.all_nil, List.length_cons, List.length_nil, List.take_succ_cons, List.take_zero, List.take_nil, List.drop_succ_cons, List.drop_zero, List.drop_nil, List.getElem?_cons_zero, List.getElem?_cons_succ, List.getElem?_nil, List.nil_append, List.cons_append, List.append_nil, List.flatten_cons, List.flatten_nil, ite_true, ite_false, reduceIte, ne_eq, eq_self, Nat.reduceAdd, Nat.reduceSub, Nat.reduceMul, Nat.reduceLeDiff, Nat.reduceEqDiff, Nat.reduceBEq, reduceCtorEq, Int.reduceToNat, List.elem_nil, List.elem_cons, Int.reduceLT, Int.reduceLE, Int.reduceEq, Int.reduceAdd, Int.reduceSub, Int.reduceNeg, capnY, appzY, List.all_append, List.take_append, List.drop_append, List.length_append, glC_len, glC_0, glC_5, glC_t, glC_take, glC_drop, glC_one, glC_ne, glV_cells, glV_fit, glV_one, frA_glV, hlt, List.length_map, hi0, hget0, Int.toNat_natCast]
  | cons r r2 ih =>
    intro r1 nx F h1 h2 h6
    obtain ⟨k, rfl⟩ := iter_pos (f := fun _ _ => none) (n := F) (by omega)
    have hR : r1.length + 1 ≤ 100000000 := by rw [h1] at hb; simp at hb; omega
    have hlt : ((r1.length : Int) < (g.rows.length : Int)) = True := eq_true (by rw [h1]; simp; omega)
    have hget : (g.rows.map fun r => [glV r])[r1.length]? = some [glV r] := by rw [h1]; exact mid_get _ _ _ _
    have hi : (0 : Int) ≤ (r1.length : Int) := by omega
    have hr := rsameS_eq (h2 r (List.mem_cons_self ..))
    obtain ⟨nx', IH⟩ := ih (r1 ++ [r]) (nx + 18) k (by simp [h1]) (fun x hx => h2 x (List.mem_cons_of_mem _ hx)) (by simp at h6; omega)
    have hls : (r1 ++ [r]).length = r1.length + 1 := by simp
    rw [hls] at IH
    simp only [Int.natCast_add, Int.natCast_one] at IH
    refine ⟨nx', ?_⟩
    rw [iter_one]
    simp (maxSteps := 1000000) (disch := omega) only [yRSamea_r, yRSamea_, ↓axP, axQ, ↓if_true, ↓if_false, List.all_cons, List.all_nil, List.length_cons, List.length_nil, List.take_succ_cons, List.take_zero, List.take_nil, List.drop_succ_cons, List.drop_zero, List.drop_nil, List.getElem?_cons_zero, List.getElem?_cons_succ, List.getElem?_nil, List.nil_append, List.cons_append, List.append_nil, List.flatten_cons, List.flatten_nil, ite_true, ite_false, reduceIte, ne_eq, eq_self, Nat.reduceAdd, Nat.reduceSub, Nat.reduceMul, Nat.reduceLeDiff, Nat.reduceEqDiff, Nat.reduceBEq, reduceCtorEq, Int.reduceToNat, List.elem_nil, List.elem_cons, Int.reduceLT, Int.reduceLE, Int.reduceEq, Int.reduceAdd, Int.reduceSub, Int.reduceNeg, capnY, appzY, List.all_append, List.take_append, List.drop_append, List.length_append, glC_len, glC_0, glC_5, glC_t, glC_take, glC_drop, glC_one, glC_ne, glV_cells, glV_fit, glV_one, frA_glV, hlt, hi, hget, hi0, hget0, Int.toNat_natCast, List.length_map, hr, IH]
set_option maxHeartbeats 1000000 in
theorem rsb_loop {m n : Nat} (F0 : Nat) (gs : Tr Grp) (ms : Tr (List (AV × AV))) (l : List Gl) (hw : WC (n + 1) l) (ht : tfL m l) (hF : ∀ g ∈ l, g.rows.length < F0) : ∀ (l2 l1 : List Gl) (nx F : Nat), l = l1 ++ l2 → l2.length < F →
    ∃ nx', iter (ycode (tcall [(24, pureF (tsameS m)), (16, pureF (rsameS m n))]) F0 yRSameb) F (mk [(0, .vals 6 (l.map glC)), (1, .vals 6 (l.map glC)), (5, .int .i64 l1.length)]) ⟨nx, gs, ms⟩ = some (.exit 0, mk [], ⟨nx', gs, ms⟩) := by
  intro l2
  have hL := xL_le l
  have hW := hw.2
  induction l2 with
  | nil =>
    intro l1 nx F h1 h5
    obtain ⟨k, rfl⟩ := iter_pos (f := fun _ _ => none) (n := F) (by omega)
    rw [List.append_nil] at h1
    have hlt : ((l1.length : Int) < (l.length : Int)) = False := by rw [h1]; simp
    refine ⟨nx, ?_⟩
    rw [iter_one]
    simp (maxSteps := 1000000) (disch := omega) only [yRSameb_r, yRSameb_, ↓axP, axQ, ↓if_true, ↓if_false, List.all_cons, List.all_nil, List.length_cons, List.length_nil, List.take_succ_cons, List.take_zero, List.take_nil, List.drop_succ_cons, List.drop_zero, List.drop_nil, List.getElem?_cons_zero, List.getElem?_cons_succ, List.getElem?_nil, List.nil_append, List.cons_append, List.append_nil, List.flatten_cons, List.flatten_nil, ite_true, ite_false, reduceIte, ne_eq, eq_self, Nat.reduceAdd, Nat.reduceSub, Nat.reduceMul, Nat.reduceLeDiff, Nat.reduceEqDiff, Nat.reduceBEq, reduceCtorEq, Int.reduceToNat, List.elem_nil, List.elem_cons, Int.reduceLT, Int.reduceLE, Int.reduceEq, Int.reduceAdd, Int.reduceSub, Int.reduceNeg, capnY, appzY, List.all_append, List.take_append, List.drop_append, List.length_append, hlt, List.length_map]
  | cons g l2 ih =>
    intro l1 nx F h1 h5
    obtain ⟨k, rfl⟩ := iter_pos (f := fun _ _ => none) (n := F) (by omega)
    have hg : g ∈ l := by rw [h1]; simp
    have hR : l1.length + 1 ≤ 100000000 := by have : l.length = l1.length + (l2.length + 1) := by rw [h1]; simp
                                              omega
    have hlt : ((l1.length : Int) < (l.length : Int)) = True := eq_true (by rw [h1]; simp; omega)
    have hget : (l.map glC)[l1.length]? = some (glC g) := by rw [h1]; exact mid_get _ _ _ _
    have hi : (0 : Int) ≤ (l1.length : Int) := by omega
    have hrl : g.rows.length ≤ 100000000 := by
      have a := wt_mem hg
      rw [wt_eq] at a
      have := rows_wt g.rows
      omega
    have hs := tsameS_eq (tf_t ht hg)
    obtain ⟨nx1, q⟩ := rsa_loop (m := m) (n := n) F0 gs ms l (by omega) l1 l2 g h1 hrl g.rows [] (nx + 40) F0 rfl (fun r hr => ⟨hw.row hg hr, tf_row ht hg hr⟩) (hF g hg)
    simp only [List.length_nil, Int.natCast_zero] at q
    obtain ⟨nx', IH⟩ := ih (l1 ++ [g]) nx1 k (by simp [h1]) (by simp at h5; omega)
    have hls : (l1 ++ [g]).length = l1.length + 1 := by simp
    rw [hls] at IH
    simp only [Int.natCast_add, Int.natCast_one] at IH
    refine ⟨nx', ?_⟩
    rw [iter_one]
    simp (maxSteps := 1000000) (disch := omega) only [yRSameb_r, yRSameb_, ↓axP, axQ, ↓if_true, ↓if_false, List.all_cons, List.all_nil, List.length_cons, List.length_nil, List.take_succ_cons, List.take_zero, List.take_nil, List.drop_succ_cons, List.drop_zero, List.drop_nil, List.getElem?_cons_zero, List.getElem?_cons_succ, List.getElem?_nil, List.nil_append, List.cons_append, List.append_nil, List.flatten_cons, List.flatten_nil, ite_true, ite_false, reduceIte, ne_eq, eq_self, Nat.reduceAdd, Nat.reduceSub, Nat.reduceMul, Nat.reduceLeDiff, Nat.reduceEqDiff, Nat.reduceBEq, reduceCtorEq, Int.reduceToNat, List.elem_nil, List.elem_cons, Int.reduceLT, Int.reduceLE, Int.reduceEq, Int.reduceAdd, Int.reduceSub, Int.reduceNeg, capnY, appzY, List.all_append, List.take_append, List.drop_append, List.length_append, glC_len, glC_0, glC_5, glC_t, glC_take, glC_drop, glC_one, glC_ne, glV_cells, glV_fit, glV_one, frA_glV, hlt, hi, hget, Int.toNat_natCast, List.length_map, hs, q, IH]
theorem rsame_step {m n : Nat} (hs : HookOne Tryz.prog 16 (pureF (rsameS m n))) : HookOne Tryz.prog 16 (pureF (rsameS m (n + 1))) := by
  refine HookOne.ofPureF (by decide +kernel) fun args y h H => ?_
  have hl : ∀ e ∈ [(24, pureF (tsameS m)), (16, pureF (rsameS m n))], HookOne Tryz.prog e.1 e.2 := by
    intro e he
    simp only [List.mem_cons, List.not_mem_nil, or_false] at he
    rcases he with rfl | rfl
    · exact tsame_any m
    · exact hs
  unfold rsameS at h; split at h
  · rename_i x y
    rw [Option.bind_eq_some_iff] at h
    obtain ⟨l, h1, h2⟩ := h
    obtain ⟨⟨rfl, hw, ht⟩, h3⟩ := only_ok h2
    cases h3
    obtain rfl := back_ok h1
    refine ACalls.ofRun hl mixed (draws _ rfl) yRSame_ok rfl (by simp [pureL, pure_glV]) (wtL l + 1) ?_ H
    obtain ⟨nx', q⟩ := rsb_loop (m := m) (wtL l + 1) .nil .nil l hw ht rows_lt l [] 0 (wtL l + 1) rfl (by have := len_wt l; omega)
    simp only [List.length_nil, Int.natCast_zero] at q
    unfold glV
    simp (maxSteps := 1000000) (disch := omega) only [yRSame, xinit_2, ↓axP, axQ, ↓if_true, ↓if_false, List.all_cons, List.all_nil, List.length_cons, List.length_nil, List.take_succ_cons, List.take_zero, List.take_nil, List.drop_succ_cons, List.drop_zero, List.drop_nil, List.getElem?_cons_zero, List.getElem?_cons_succ, List.getElem?_nil, List.nil_append, List.cons_append, List.append_nil, List.flatten_cons, List.flatten_nil, ite_true, ite_false, reduceIte, ne_eq, eq_self, Nat.reduceAdd, Nat.reduceSub, Nat.reduceMul, Nat.reduceLeDiff, Nat.reduceEqDiff, Nat.reduceBEq, reduceCtorEq, Int.reduceToNat, List.elem_nil, List.elem_cons, Int.reduceLT, Int.reduceLE, Int.reduceEq, Int.reduceAdd, Int.reduceSub, Int.reduceNeg, capnY, appzY, List.all_append, List.take_append, List.drop_append, List.length_append, List.length_map, q]
    exact Ans.some (.pure rfl)
  · cases h
theorem rsame_any (m : Nat) : ∀ n, HookOne Tryz.prog 16 (pureF (rsameS m n)) := lev_any _ (fun h => rsame_step h) (rsameS_0 m) (by decide +kernel)
end Go.Proofs.YtcnnobcncklgfaaGreatDoor
