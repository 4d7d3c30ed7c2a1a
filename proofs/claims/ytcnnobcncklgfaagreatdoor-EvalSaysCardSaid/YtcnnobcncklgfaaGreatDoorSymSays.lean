/- 'sizarlaw20.EvalSays': at every two terms and every name it returns true. -/
import Derived.Test.YtcnnobcncklgfaaGreatDoorSymOwn20
import Derived.Test.YtcnnobcncklgfaaGreatDoorSymOpen
import Derived.Test.YtcnnobcncklgfaaGreatDoorRefS
import Derived.Test.YtcnnobcncklgfaaGreatDoorEvAw
namespace Go.Proofs.YtcnnobcncklgfaaGreatDoor
open Go Go.Abs Go.RowKit
set_option linter.unusedVariables false
set_option linter.unusedSimpArgs false
attribute [local congr] on_congr br_congr onf_congr
def awakeS : List AV → Option AV
  | [] => some (.bool true)
  | _ => none
theorem awakeS_eq : awakeS [] = some (.bool true) := (rfl)
/-- A contract of the walks, its answer without memory. -/
theorem plain_calls {P : Program} {f : FuncId} {args : List AV} {y : AV} (h : ∀ (G : Gh) (vs : Array Value) (w : World), (∀ b o v, G.M b o = some v → w.cell? ⟨b, o, none⟩ = some v) → VRs G args vs.toList → Calls P f vs w fun e w' => ∃ u, e = .returned u ∧ VR G y u ∧ Below w.heap.size w w') (H : AH) :
    ACalls P f args H fun y' H' => y' = y ∧ H' = H := fun K G vs w hr hv =>
  (h G vs w hr.mem hv).mono fun e w' ⟨u, h1, h2, h3⟩ => ⟨u, y, G, H, h1, Gh.le.refl _, hr.stay h3, h2, rfl, rfl⟩
theorem awake_one : HookOne Tryz.prog 27 (pureF awakeS) := by
  refine HookOne.ofPureF (by decide +kernel) fun args y h H => ?_
  unfold awakeS at h; split at h
  · cases h
    refine plain_calls (fun G vs w hM hv => ?_) H
    obtain rfl : vs = #[] := by cases vs; simpa [VRs] using hv
    exact (awake_any w).mono fun e w' ⟨he, hb⟩ => ⟨_, he, by simp [VR], hb⟩
  · cases h
theorem fine_le {N M : Nat} (h : N ≤ M) : ∀ t : Tm, Fine N t → Fine M t
  | t, hf => by
    induction hf with
    | mk k n s l hk hn hs hl hx ih => exact .mk k n s l hk hn hs (by omega) ih
/-- A function of one term, one that is known by its walk. -/
noncomputable def ev1S (g : Tm → AV) : List AV → Option AV
  | [x] => (ofT x).bind fun t => only (Fine 12 t) (some (g t))
  | _ => none
theorem ev1S_eq {g : Tm → AV} {t : Tm} (h : Fine 12 t) : ev1S g [.agg (tmC t)] = some (g t) := by
  show (ofT (tmA t)).bind _ = _
  rw [ofT_tm]; exact only_eq h _
theorem ev1_hook {P : Program} {f : FuncId} {g : Tm → AV} (hb : callableB P f = true) (h : ∀ (t : Tm) (w : World) (v : Value), Fine 12 t → Holds w (fun _ => True) t v → Calls P f #[v] w fun e w' => ∃ u, e = .returned u ∧ (∀ G, VR G (g t) u) ∧ Below w.heap.size w w') : HookOne P f (pureF (ev1S g)) := by
  refine HookOne.ofPureF hb fun args y h0 H => ?_
  unfold ev1S at h0; split at h0
  · rename_i x
    rw [Option.bind_eq_some_iff] at h0
    obtain ⟨t, h1, h2⟩ := h0
    obtain ⟨hf, h3⟩ := only_ok h2
    cases h3
    obtain rfl := ofT_ok h1
    refine plain_calls (fun G vs w hM hv => ?_) H
    obtain ⟨u, hu, hv1⟩ := hv.one
    obtain rfl : vs = #[u] := by cases vs; simpa using hu
    exact (h t w u hf (tm_one (by unfold maxLen; omega) hf hM hv1)).mono fun e w' ⟨u, k1, k2, k3⟩ => ⟨u, k1, k2 G, k3⟩
  · cases h0
noncomputable def ev2S (g : List UInt8 → Tm → Tm → AV) : List AV → Option AV
  | [.str s, x, y] => (ofT x).bind fun t => (ofT y).bind fun r => only (Fine 12 t ∧ Fine 12 r) (some (g s t r))
  | _ => none
theorem ev2S_eq {g : List UInt8 → Tm → Tm → AV} {s : List UInt8} {t r : Tm} (h : Fine 12 t) (h' : Fine 12 r) : ev2S g [.str s, .agg (tmC t), .agg (tmC r)] = some (g s t r) := by
  show (ofT (tmA t)).bind (fun t => (ofT (tmA r)).bind _) = _
  rw [ofT_tm, Option.bind_some, ofT_tm]; exact only_eq ⟨h, h'⟩ _
theorem ev2_hook {P : Program} {f : FuncId} {g : List UInt8 → Tm → Tm → AV} (hb : callableB P f = true) (h : ∀ (s : List UInt8) (t r : Tm) (w : World) (v v' : Value), Fine 12 t → Fine 12 r → Holds w (fun _ => True) t v → Holds w (fun _ => True) r v' → Calls P f #[.string ⟨s.toArray⟩, v, v'] w fun e w' => ∃ u, e = .returned u ∧ (∀ G, VR G (g s t r) u) ∧ Below w.heap.size w w') : HookOne P f (pureF (ev2S g)) := by
  refine HookOne.ofPureF hb fun args y h0 H => ?_
  unfold ev2S at h0; split at h0
  · rename_i s x y
    rw [Option.bind_eq_some_iff] at h0
    obtain ⟨t, h1, h2⟩ := h0
    rw [Option.bind_eq_some_iff] at h2
    obtain ⟨r, h3, h4⟩ := h2
    obtain ⟨⟨hf, hf'⟩, h5⟩ := only_ok h4
    cases h5
    obtain rfl := ofT_ok h1
    obtain rfl := ofT_ok h3
    refine plain_calls (fun G vs w hM hv => ?_) H
    simp only [VRs] at hv
    obtain ⟨u0, _, e0, q0, u1, _, rfl, q1, u2, _, rfl, q2, rfl⟩ := hv
    simp only [VR] at q0
    subst q0
    obtain rfl : vs = #[.string ⟨s.toArray⟩, u1, u2] := by cases vs; simpa using e0
    exact (h s t r w u1 u2 hf hf' (tm_one (by unfold maxLen; omega) hf hM q1) (tm_one (by unfold maxLen; omega) hf' hM q2)).mono fun e w' ⟨u, k1, k2, k3⟩ => ⟨u, k1, k2 G, k3⟩
  · cases h0
def evA (t : Tm) : AV := .tup [.int .i64 t.evT.1, .int .i64 t.evT.2]
def stA (t : Tm) : AV := .int .i64 ((if t.good = true then t.steps else 0 : Nat) : Int)
def teA (s : List UInt8) (a b : Tm) : AV := .tup [.bool (testP s a.evT b.evT).1, .int .i64 (testP s a.evT b.evT).2]
theorem vr_two (G : Gh) (p : Int × Int) : ∃ u, Ending.returned (Value.tuple #[.int .i64 p.1, .int .i64 p.2]) = .returned u ∧ VR G (.tup [.int .i64 p.1, .int .i64 p.2]) u := ⟨_, rfl, by simp [VR, VRs]⟩
theorem of_one : HookOne Tryz.prog 29 (pureF (ev1S evA)) := ev1_hook (by decide +kernel) fun t w v hf hh =>
  (Of_any 12 (by omega) t hf w v hh).mono fun e w' ⟨he, hb⟩ => ⟨_, he, fun G => by simp [evA, two64, VR, VRs], hb⟩
theorem rof_one : HookOne Tryz.prog 36 (pureF (ev1S evA)) := ev1_hook (by decide +kernel) fun t w v hf hh =>
  (rEval_any 12 (by omega) t hf w v hh).mono fun e w' ⟨he, hb⟩ => ⟨_, he, fun G => by simp [evA, two64, VR, VRs], hb⟩
theorem steps_one : HookOne Tryz.prog 35 (pureF (ev1S stA)) := ev1_hook (by decide +kernel) fun t w v hf hh =>
  (Steps_any 12 (by omega) t hf w v hh).mono fun e w' ⟨he, hb⟩ => ⟨_, he, fun G => by simp [stA, VR], hb⟩
theorem rsteps_one : HookOne Tryz.prog 39 (pureF (ev1S stA)) := ev1_hook (by decide +kernel) fun t w v hf hh =>
  (rsteps_any 12 (by omega) t hf w v hh).mono fun e w' ⟨he, hb⟩ => ⟨_, he, fun G => by simp [stA, VR], hb⟩
theorem test_one : HookOne Tryz.prog 33 (pureF (ev2S teA)) := ev2_hook (by decide +kernel) fun s t r w v v' hf hf' hh hh' =>
  (test_any 12 (by omega) s t r hf hf' w v v' hh hh').mono fun e w' ⟨he, hb⟩ => ⟨_, he, fun G => by simp [teA, VR, VRs], hb⟩
theorem rtest_one : HookOne Tryz.prog 38 (pureF (ev2S teA)) := ev2_hook (by decide +kernel) fun s t r w v v' hf hf' hh hh' =>
  (rtest_any 12 (by omega) s t r hf hf' w v v' hh hh').mono fun e w' ⟨he, hb⟩ => ⟨_, he, fun G => by simp [teA, VR, VRs], hb⟩
set_option maxHeartbeats 4000000 in
theorem says_run (a b : Tm) (op : List UInt8) (hfa : Fine maxLen a) (hfb : Fine maxLen b) (H : AH) : ACalls Tryz.prog 8 [tmA a, tmA b, .str op] H fun y H' => y = .bool true ∧ H' = H := by
  have hl : ∀ e ∈ [(27, pureF awakeS), (28, pureF (deepS 70)), (37, pureF (ownS (max a.height b.height))), (29, pureF (ev1S evA)), (36, pureF (ev1S evA)), (33, pureF (ev2S teA)), (38, pureF (ev2S teA)), (35, pureF (ev1S stA)), (39, pureF (ev1S stA))], HookOne Tryz.prog e.1 e.2 := by
    intro e he
    simp only [List.mem_cons, List.not_mem_nil, or_false] at he
    rcases he with rfl | rfl | rfl | rfl | rfl | rfl | rfl | rfl | rfl
    · exact awake_one
    · exact deep_any14 70
    · exact own_any14 _
    · exact of_one
    · exact rof_one
    · exact test_one
    · exact rtest_one
    · exact steps_one
    · exact rsteps_one
  refine ACalls.ofRun hl mixed (draws _ rfl) ySays_ok rfl (by simp [pureL, pure_tmA, pureA]) 0 ?_ H
  have da := deepS_eq (m := 70) (n := 70) (t := a) ⟨rfl, by omega⟩
  have db := deepS_eq (m := 70) (n := 70) (t := b) ⟨rfl, by omega⟩
  unfold tmA
  cases ha : deepP 70 a with
  | true =>
    simp (maxSteps := 1000000) (disch := omega) only [ySays, xinit_3, ↓y_skip, ↓y_exit, ↓y_ret, ↓y_ops0, ↓y_ops1, ↓y_opsg, ↓y_seq, ↓y_cond, ↓y_block, ↓y_loop, ↓y_tb, ↓y_ta, ↓x_op, ↓x_call, ↓onf_fn, ↓on_some, ↓br_t, ↓br_f, ↓bl_n, ↓bl_r, bl_e, ↓iev_sv, ↓iev_sc, ↓xput_sd, ↓xput_sn, ↓fget_cons, ievs_nil, ievs_cons, iparts_nil, iparts_cons, ievo_none, ievo_some, tgets_nil, tgets_cons, i_ev, i_pick, i_new, i_build, i_bslice, i_mkif, i_empty, i_mksl, i_load, i_store, i_nilck, i_bin, i_un, i_conv, i_convs, i_s2b, i_b2s, i_i2s, i_fn, i_slice, i_faddr, i_field, i_iaddr, i_iaddrA, i_index, i_ext, i_len, i_app, i_mm, i_capn, i_appz, b_add, b_sub, b_mul, b_lss, b_leq, b_gtr, b_geq, b_eql, b_neq, c_eql, c_neq, c_add, c_lss, l_eql, l_neq, n_eql, n_neq, m_eql, m_neq, o_eql, o_neq, u_not, iload_p, iload_v, iload_ps, iload_vs, istore_p, newsl_eq, abox_eq, add_mk, empty_mk, lc_nils, lc_zslc, lc_vals, lc_slc, app_nils, app_zslc, app_slc, nilck_p, nilck_v, nilck_f, conv_i, convs_s, s2b_s, i2s_i, faddr_p, faddr_v, field_s, field_o, iaddr_s, iaddr_v, iaddrA_p, index_s, ext_t, len_s, len_l, len_v, len_n, len_z, natOf_n, natOf_s, slice_str, slice_vals, slice_slc, ifill_nil, ifill_cons, iress_nil, iress_sr, iress_sk, ires_eq, tupd_1, tupd_2, tupd_3, tupd_4, ↓yend_n, ↓yend_r, y_dops, ↓dq_some, d_nil, d_cons, d_consg, e_pure, e_load, chk_t, e_k2, e_alloc, w_nil, w_cons, w_none, avSame_refl, Tr.get_set, Tr.get_nil, Tr.set_set, ce_agg, ce_int, ce_str, ce_bool, ce_nils, ce_zslc, ce_nilp, ce_nilm, ce_nilf, ce_nili, ce_slc, ce_vals, ce_ptr, ce_vptr, ce_fn, ce_mapp, ce_iface, fi_agg, fi_int, fi_str, fi_bool, fi_nils, fi_zslc, fi_nilp, fi_nilm, fi_nilf, fi_nili, fi_slc, fi_vals, fi_ptr, fi_vptr, fi_fn, fi_mapp, fi_iface, on_int, on_str, on_bool, on_nils, on_zslc, on_nilp, on_nilm, on_nilf, on_nili, on_slc, on_vals, on_ptr, on_vptr, on_fn, on_mapp, on_iface, List.all_cons, List.all_nil, List.length_cons, List.length_nil, List.take_succ_cons, List.take_zero, List.take_nil, List.drop_succ_cons, List.drop_zero, List.drop_nil, List.getElem?_cons_zero, List.getElem?_cons_succ, List.getElem?_nil, List.nil_append, List.cons_append, List.append_nil, List.flatten_cons, List.flatten_nil, Bool.and_true, Bool.true_and, Bool.and_false, Bool.false_and, Bool.not_true, Bool.not_false, Bool.or_true, Bool.true_or, Bool.or_false, Bool.false_or, decide_true, decide_false, and_true, true_and, and_self, and_false, false_and, not_true_eq_false, not_false_eq_true, ↓if_true, ↓if_false, ite_true, ite_false, reduceIte, ne_eq, eq_self, Nat.reduceAdd, Nat.reduceSub, Nat.reduceMul, Nat.reduceLeDiff, Nat.reduceEqDiff, Nat.zero_add, Nat.add_zero, Nat.zero_le, Nat.le_refl, Nat.reduceBEq, Nat.succ_ne_zero, reduceCtorEq, Int.reduceToNat, Nat.zero_mul, Nat.one_mul, List.elem_nil, List.elem_cons, ↓opk_some, ↓gdk_tt, ↓gdk_ff, ↓gdk_tf, ↓gdk_ft, ↓gdk_u, ↓sqk_n, ↓sqk_r, ↓sqk_e, ↓brk_t, ↓brk_f, ↓tbk_some, tak_n, ↓tak_r, ↓tak_e, itk_n, itk_r, itk_e, ↓dok_some, ↓dgk_tt, ↓dgk_ff, ↓dgk_tf, ↓dgk_ft, ↓dgk_u, tcall_eq, pureH_on, pureF_on, frAs_nil, frAs_cons, frA_slc, frA_agg, frA_int, frA_str, frA_bool, frA_vals, frA_nils, frA_zslc, frA_nilp, frA_nilm, frA_ptr, frA_vptr, frA_fn, Int.natCast_one, Int.cast_ofNat_Int, Int.natCast_zero, Int.natCast_add, Int.reduceLT, Int.reduceLE, Int.reduceEq, Int.reduceAdd, Int.reduceSub, Int.reduceNeg, wrap_i64, capnY, appzY, List.all_append, chunk_zero, chunk_succ, List.take_append, List.drop_append, Nat.max_self, List.length_append, tmC_len, tmC_0, tmC_1, tmC_2, tmC_3, tmC_take, tmC_drop, tmC_one, tmC_ne, awakeS_eq, da, ha]
    exact Ans.some (.pure rfl)
  | false =>
    cases hb : deepP 70 b with
    | true =>
      simp (maxSteps := 1000000) (disch := omega) only [ySays, xinit_3, ↓y_skip, ↓y_exit, ↓y_ret, ↓y_ops0, ↓y_ops1, ↓y_opsg, ↓y_seq, ↓y_cond, ↓y_block, ↓y_loop, ↓y_tb, ↓y_ta, ↓x_op, ↓x_call, ↓onf_fn, ↓on_some, ↓br_t, ↓br_f, ↓bl_n, ↓bl_r, bl_e, ↓iev_sv, ↓iev_sc, ↓xput_sd, ↓xput_sn, ↓fget_cons, ievs_nil, ievs_cons, iparts_nil, iparts_cons, ievo_none, ievo_some, tgets_nil, tgets_cons, i_ev, i_pick, i_new, i_build, i_bslice, i_mkif, i_empty, i_mksl, i_load, i_store, i_nilck, i_bin, i_un, i_conv, i_convs, i_s2b, i_b2s, i_i2s, i_fn, i_slice, i_faddr, i_field, i_iaddr, i_iaddrA, i_index, i_ext, i_len, i_app, i_mm, i_capn, i_appz, b_add, b_sub, b_mul, b_lss, b_leq, b_gtr, b_geq, b_eql, b_neq, c_eql, c_neq, c_add, c_lss, l_eql, l_neq, n_eql, n_neq, m_eql, m_neq, o_eql, o_neq, u_not, iload_p, iload_v, iload_ps, iload_vs, istore_p, newsl_eq, abox_eq, add_mk, empty_mk, lc_nils, lc_zslc, lc_vals, lc_slc, app_nils, app_zslc, app_slc, nilck_p, nilck_v, nilck_f, conv_i, convs_s, s2b_s, i2s_i, faddr_p, faddr_v, field_s, field_o, iaddr_s, iaddr_v, iaddrA_p, index_s, ext_t, len_s, len_l, len_v, len_n, len_z, natOf_n, natOf_s, slice_str, slice_vals, slice_slc, ifill_nil, ifill_cons, iress_nil, iress_sr, iress_sk, ires_eq, tupd_1, tupd_2, tupd_3, tupd_4, ↓yend_n, ↓yend_r, y_dops, ↓dq_some, d_nil, d_cons, d_consg, e_pure, e_load, chk_t, e_k2, e_alloc, w_nil, w_cons, w_none, avSame_refl, Tr.get_set, Tr.get_nil, Tr.set_set, ce_agg, ce_int, ce_str, ce_bool, ce_nils, ce_zslc, ce_nilp, ce_nilm, ce_nilf, ce_nili, ce_slc, ce_vals, ce_ptr, ce_vptr, ce_fn, ce_mapp, ce_iface, fi_agg, fi_int, fi_str, fi_bool, fi_nils, fi_zslc, fi_nilp, fi_nilm, fi_nilf, fi_nili, fi_slc, fi_vals, fi_ptr, fi_vptr, fi_fn, fi_mapp, fi_iface, on_int, on_str, on_bool, on_nils, on_zslc, on_nilp, on_nilm, on_nilf, on_nili, on_slc, on_vals, on_ptr, on_vptr, on_fn, on_mapp, on_iface, List.all_cons, List.all_nil, List.length_cons, List.length_nil, List.take_succ_cons, List.take_zero, List.take_nil, List.drop_succ_cons, List.drop_zero, List.drop_nil, List.getElem?_cons_zero, List.getElem?_cons_succ, List.getElem?_nil, List.nil_append, List.cons_append, List.append_nil, List.flatten_cons, List.flatten_nil, Bool.and_true, Bool.true_and, Bool.and_false, Bool.false_and, Bool.not_true, Bool.not_false, Bool.or_true, Bool.true_or, Bool.or_false, Bool.false_or, decide_true, decide_false, and_true, true_and, and_self, and_false, false_and, not_true_eq_false, not_false_eq_true, ↓if_true, ↓if_false, ite_true, ite_false, reduceIte, ne_eq, eq_self, Nat.reduceAdd, Nat.reduceSub, Nat.reduceMul, Nat.reduceLeDiff, Nat.reduceEqDiff, Nat.zero_add, Nat.add_zero, Nat.zero_le, Nat.le_refl, Nat.reduceBEq, Nat.succ_ne_zero, reduceCtorEq, Int.reduceToNat, Nat.zero_mul, Nat.one_mul, List.elem_nil, List.elem_cons, ↓opk_some, ↓gdk_tt, ↓gdk_ff, ↓gdk_tf, ↓gdk_ft, ↓gdk_u, ↓sqk_n, ↓sqk_r, ↓sqk_e, ↓brk_t, ↓brk_f, ↓tbk_some, tak_n, ↓tak_r, ↓tak_e, itk_n, itk_r, itk_e, ↓dok_some, ↓dgk_tt, ↓dgk_ff, ↓dgk_tf, ↓dgk_ft, ↓dgk_u, tcall_eq, pureH_on, pureF_on, frAs_nil, frAs_cons, frA_slc, frA_agg, frA_int, frA_str, frA_bool, frA_vals, frA_nils, frA_zslc, frA_nilp, frA_nilm, frA_ptr, frA_vptr, frA_fn, Int.natCast_one, Int.cast_ofNat_Int, Int.natCast_zero, Int.natCast_add, Int.reduceLT, Int.reduceLE, Int.reduceEq, Int.reduceAdd, Int.reduceSub, Int.reduceNeg, wrap_i64, capnY, appzY, List.all_append, chunk_zero, chunk_succ, List.take_append, List.drop_append, Nat.max_self, List.length_append, tmC_len, tmC_0, tmC_1, tmC_2, tmC_3, tmC_take, tmC_drop, tmC_one, tmC_ne, awakeS_eq, da, ha, db, hb]
      exact Ans.some (.pure rfl)
    | false =>
      have fa := deep_fine 70 a ha hfa
      have fb := deep_fine 70 b hb hfb
      have oa := ownS_eq (n := max a.height b.height) (t := a) ⟨by omega, fine_le (by omega) a fa⟩
      have ob := ownS_eq (n := max a.height b.height) (t := b) ⟨by omega, fine_le (by omega) b fb⟩
      simp (maxSteps := 1000000) (disch := omega) only [ySays, xinit_3, ↓y_skip, ↓y_exit, ↓y_ret, ↓y_ops0, ↓y_ops1, ↓y_opsg, ↓y_seq, ↓y_cond, ↓y_block, ↓y_loop, ↓y_tb, ↓y_ta, ↓x_op, ↓x_call, ↓onf_fn, ↓on_some, ↓br_t, ↓br_f, ↓bl_n, ↓bl_r, bl_e, ↓iev_sv, ↓iev_sc, ↓xput_sd, ↓xput_sn, ↓fget_cons, ievs_nil, ievs_cons, iparts_nil, iparts_cons, ievo_none, ievo_some, tgets_nil, tgets_cons, i_ev, i_pick, i_new, i_build, i_bslice, i_mkif, i_empty, i_mksl, i_load, i_store, i_nilck, i_bin, i_un, i_conv, i_convs, i_s2b, i_b2s, i_i2s, i_fn, i_slice, i_faddr, i_field, i_iaddr, i_iaddrA, i_index, i_ext, i_len, i_app, i_mm, i_capn, i_appz, b_add, b_sub, b_mul, b_lss, b_leq, b_gtr, b_geq, b_eql, b_neq, c_eql, c_neq, c_add, c_lss, l_eql, l_neq, n_eql, n_neq, m_eql, m_neq, o_eql, o_neq, u_not, iload_p, iload_v, iload_ps, iload_vs, istore_p, newsl_eq, abox_eq, add_mk, empty_mk, lc_nils, lc_zslc, lc_vals, lc_slc, app_nils, app_zslc, app_slc, nilck_p, nilck_v, nilck_f, conv_i, convs_s, s2b_s, i2s_i, faddr_p, faddr_v, field_s, field_o, iaddr_s, iaddr_v, iaddrA_p, index_s, ext_t, len_s, len_l, len_v, len_n, len_z, natOf_n, natOf_s, slice_str, slice_vals, slice_slc, ifill_nil, ifill_cons, iress_nil, iress_sr, iress_sk, ires_eq, tupd_1, tupd_2, tupd_3, tupd_4, ↓yend_n, ↓yend_r, y_dops, ↓dq_some, d_nil, d_cons, d_consg, e_pure, e_load, chk_t, e_k2, e_alloc, w_nil, w_cons, w_none, avSame_refl, Tr.get_set, Tr.get_nil, Tr.set_set, ce_agg, ce_int, ce_str, ce_bool, ce_nils, ce_zslc, ce_nilp, ce_nilm, ce_nilf, ce_nili, ce_slc, ce_vals, ce_ptr, ce_vptr, ce_fn, ce_mapp, ce_iface, fi_agg, fi_int, fi_str, fi_bool, fi_nils, fi_zslc, fi_nilp, fi_nilm, fi_nilf, fi_nili, fi_slc, fi_vals, fi_ptr, fi_vptr, fi_fn, fi_mapp, fi_iface, on_int, on_str, on_bool, on_nils, on_zslc, on_nilp, on_nilm, on_nilf, on_nili, on_slc, on_vals, on_ptr, on_vptr, on_fn, on_mapp, on_iface, List.all_cons, List.all_nil, List.length_cons, List.length_nil, List.take_succ_cons, List.take_zero, List.take_nil, List.drop_succ_cons, List.drop_zero, List.drop_nil, List.getElem?_cons_zero, List.getElem?_cons_succ, List.getElem?_nil, List.nil_append, List.cons_append, List.append_nil, List.flatten_cons, List.flatten_nil, Bool.and_true, Bool.true_and, Bool.and_false, Bool.false_and, Bool.not_true, Bool.not_false, Bool.or_true, Bool.true_or, Bool.or_false, Bool.false_or, decide_true, decide_false, and_true, true_and, and_self, and_false, false_and, not_true_eq_false, not_false_eq_true, ↓if_true, ↓if_false, ite_true, ite_false, reduceIte, ne_eq, eq_self, Nat.reduceAdd, Nat.reduceSub, Nat.reduceMul, Nat.reduceLeDiff, Nat.reduceEqDiff, Nat.zero_add, Nat.add_zero, Nat.zero_le, Nat.le_refl, Nat.reduceBEq, Nat.succ_ne_zero, reduceCtorEq, Int.reduceToNat, Nat.zero_mul, Nat.one_mul, List.elem_nil, List.elem_cons, ↓opk_some, ↓gdk_tt, ↓gdk_ff, ↓gdk_tf, ↓gdk_ft, ↓gdk_u, ↓sqk_n, ↓sqk_r, ↓sqk_e, ↓brk_t, ↓brk_f, ↓tbk_some, tak_n, ↓tak_r, ↓tak_e, itk_n, itk_r, itk_e, ↓dok_some, ↓dgk_tt, ↓dgk_ff, ↓dgk_tf, ↓dgk_ft, ↓dgk_u, tcall_eq, pureH_on, pureF_on, frAs_nil, frAs_cons, frA_slc, frA_agg, frA_int, frA_str, frA_bool, frA_vals, frA_nils, frA_zslc, frA_nilp, frA_nilm, frA_ptr, frA_vptr, frA_fn, Int.natCast_one, Int.cast_ofNat_Int, Int.natCast_zero, Int.natCast_add, Int.reduceLT, Int.reduceLE, Int.reduceEq, Int.reduceAdd, Int.reduceSub, Int.reduceNeg, wrap_i64, capnY, appzY, List.all_append, chunk_zero, chunk_succ, List.take_append, List.drop_append, Nat.max_self, List.length_append, tmC_len, tmC_0, tmC_1, tmC_2, tmC_3, tmC_take, tmC_drop, tmC_one, tmC_ne, awakeS_eq, da, ha, db, hb, oa, ob, ev1S_eq fa, ev1S_eq fb, ev2S_eq fa fb, evA, teA, stA, beq_self_eq_true]
      exact Ans.some (.pure rfl)
theorem says_any2 (a b : Tm) (op : List UInt8) (w : World) (va vb : Value) (ha : VR (allG w) (tmA a) va) (hb : VR (allG w) (tmA b) vb) (hfa : Fine maxLen a) (hfb : Fine maxLen b) :
    Calls Tryz.prog 8 #[va, vb, .string ⟨op.toArray⟩] w fun e w' => e = .returned (.bool true) ∧ Below w.heap.size w w' :=
  law_calls (says_run a b op hfa hfb) (by simp only [VRs, VR]; exact ⟨_, _, rfl, ha, _, _, rfl, hb, _, _, rfl, rfl, rfl⟩)
end Go.Proofs.YtcnnobcncklgfaaGreatDoor
