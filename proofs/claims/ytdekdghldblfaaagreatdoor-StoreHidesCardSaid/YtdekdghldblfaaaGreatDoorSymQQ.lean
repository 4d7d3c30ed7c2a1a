/- 'sizarlaw18.StoreQuota': true at every input.   'sizarlaw18.StoreQuota': true at every input.   Labels as bits; who may see more; walking along a list.   'sizarlaw18.StoreSees': true at every input.   The contracts of term.same, Same, of one and the same.   Two stores, alike as far as a label sees.   'sizarlaw18.StoreHides': true at every input.   'sizarlaw18.StoreHides': true at every input.   A term that came in, as a value that stands for good.   Acts that came in, as rows that stand for good. -/
import Derived.Test.YtdekdghldblfaaaGreatDoorSymWW
import Derived.Test.YtdekdghldblfaaaGreatDoorYSm
import Derived.Test.YtdekdghldblfaaaGreatDoorSymB
import Derived.Test.YtdekdghldblfaaaGreatDoorSymA
namespace Go.Proofs.YtdekdghldblfaaaGreatDoor
open Go Go.Abs Go.RowKit
set_option linter.unusedVariables false
set_option linter.unusedSimpArgs false
attribute [local congr] on_congr br_congr onf_congr
/-- An Add(T, L, First), or (Op 1) a Drop(ID). -/
structure Ac where
  op : Int
  id : Int
  t : Tm
  l : Int
  first : Bool
def acC (a : Ac) : List AV := .int .i64 a.op :: .int .i64 a.id :: (tmC a.t ++ [.int .u64 a.l, .bool a.first])
theorem acC_len (a : Ac) : (acC a).length = 8 := by simp [acC, tmC_len]
theorem pure_acs (l : List Ac) : pureR (l.map acC) = true := by
  rw [pureR_all]
  intro r hr
  simp only [List.mem_map] at hr
  obtain ⟨a, -, rfl⟩ := hr
  rw [pureL_all]
  intro x hx
  simp only [acC, List.mem_cons, List.mem_append, List.not_mem_nil, or_false] at hx
  rcases hx with rfl | rfl | hx | rfl | rfl
  · rfl
  · rfl
  · exact (pureL_all _).1 (pure_tmC a.t) x hx
  · rfl
  · rfl
theorem tmC_4 (t : Tm) (x : AV) (xs : List AV) : (tmC t ++ x :: xs)[4]? = some x := by
  rw [List.getElem?_append_right (by rw [tmC_len]; omega), tmC_len]; rfl
theorem tmC_5 (t : Tm) (x y : AV) (xs : List AV) : (tmC t ++ x :: y :: xs)[5]? = some y := by
  rw [List.getElem?_append_right (by rw [tmC_len]; omega), tmC_len]; rfl
theorem and3 (x : Int) : 0 ≤ andI x 3 ∧ andI x 3 < 4 := by
  unfold andI
  have h : (BitVec.ofInt 64 x &&& BitVec.ofInt 64 3).toNat ≤ 3 := by
    rw [BitVec.toNat_and]
    exact Nat.le_trans Nat.and_le_right (by decide)
  generalize (BitVec.ofInt 64 x &&& BitVec.ofInt 64 3).toNat = n at h
  have : n = 0 ∨ n = 1 ∨ n = 2 ∨ n = 3 := by omega
  rcases this with rfl | rfl | rfl | rfl <;> decide
/-- What holds of memory behind some Adds. -/
def QJ (q : Int) (H : AH) (s : St) (k : Nat) : Prop := Good H 0 s k ∧ SInv s q ∧ H.gs.get 3 = some ⟨0, 0, [.int .i64 (cntOf s 0), .int .i64 (cntOf s 1), .int .i64 (cntOf s 2), .int .i64 (cntOf s 3)]⟩
def QuEnd (q : Int) (n : Nat) (r : XR) : Prop := (∃ H', r = some (.ret, mk [(4, .bool true)], H')) ∨ (∃ s' nx gs ms, r = some (.exit 0, mk [(5, .ptr 0 0 0), (7, .ptr 3 0 0)], ⟨nx, gs, ms⟩) ∧ QJ q ⟨nx, gs, ms⟩ s' n)
theorem QuEnd_congr {q : Int} {n : Nat} {r r' : XR} (h : r = r') : QuEnd q n r = QuEnd q n r' := by rw [h]
attribute [local congr] QuEnd_congr
theorem Good.list {nx0 nx g k : Nat} {gs : Tr Grp} {ms : Tr MapA} {s : St} (h : Good ⟨nx0, gs, ms⟩ g s k) (cl : Int) : relH (readR listQ) [.ptr g 0 0, .int .u64 cl] ⟨nx, gs, ms⟩ = some (.vals 10 ((listF s cl s.ps).map clC), ⟨nx, gs, ms⟩) :=
  readR_eq listQ_one ⟨g, s, cl, rfl, h.at'.move rfl rfl, h.ok, rfl⟩
theorem Good.set {nx g k g' : Nat} {gs : Tr Grp} {ms : Tr MapA} {s : St} {r : Grp} (h : Good ⟨nx, gs, ms⟩ g s k) (hg : g ≠ g') : Good ⟨nx, gs.set g' r, ms⟩ g s k := ⟨h.at'.move (Tr.get_set_ne _ _ hg) rfl, h.ok, h.full, h.la⟩
end Go.Proofs.YtdekdghldblfaaaGreatDoor
namespace Go.Proofs.YtdekdghldblfaaaGreatDoor
open Go Go.Abs Go.RowKit
set_option linter.unusedVariables false
set_option linter.unusedSimpArgs false
attribute [local congr] on_congr br_congr onf_congr
theorem leq3 {l : Int} (h : 0 ≤ l ∧ l < 4) : leqB l 3 = true := by
  have : l = 0 ∨ l = 1 ∨ l = 2 ∨ l = 3 := by omega
  rcases this with rfl | rfl | rfl | rfl <;> decide
theorem SInv.all {s : St} {q : Int} (h : SInv s q) (nm : List UInt8) (ar : Int) : viewF s nm ar 3 = clsOf s nm ar := by
  unfold viewF
  rw [List.filter_eq_self]
  intro c hc
  unfold clsOf at hc
  cases hlk : lookG (nm, ar) s.m with
  | none => rw [hlk] at hc; cases hc
  | some v =>
    rw [hlk] at hc
    obtain ⟨e', k1, k2, k3⟩ := look_mem hlk
    subst k3
    exact leq3 (h.lab e' k1 c hc)
theorem SInv.len {s : St} {q : Int} (h : SInv s q) : ((listF s 3 s.ps).length : Int) = cntOf s 0 + cntOf s 1 + cntOf s 2 + cntOf s 3 := by
  rw [← h.tot, h.ps]
  simp only [listF, preds3, List.flatMap_cons, List.flatMap_nil, List.append_nil, List.length_append, h.all]
  omega
end Go.Proofs.YtdekdghldblfaaaGreatDoor
namespace Go.Proofs.YtdekdghldblfaaaGreatDoor
open Go Go.Abs Go.RowKit
set_option linter.unusedVariables false
set_option linter.unusedSimpArgs false
end Go.Proofs.YtdekdghldblfaaaGreatDoor
namespace Go.Proofs.YtdekdghldblfaaaGreatDoor
open Go Go.Abs Go.RowKit
set_option linter.unusedVariables false
set_option linter.unusedSimpArgs false
attribute [local congr] on_congr br_congr onf_congr
def SeEnd (a b : Int) (r : XR) : Prop := (∃ H', r = some (.ret, mk [(6, .bool true)], H')) ∨ (∃ s' nx gs ms, r = some (.exit 0, mk [(1, .int .u64 a), (2, .int .u64 b), (7, .ptr 0 0 0)], ⟨nx, gs, ms⟩) ∧ Good ⟨nx, gs, ms⟩ 0 s' 30 ∧ SInv s' 20)
theorem SeEnd_congr {a b : Int} {r r' : XR} (h : r = r') : SeEnd a b r = SeEnd a b r' := by rw [h]
attribute [local congr] SeEnd_congr
theorem SInv.le {s : St} {q : Int} (h : SInv s q) (c : Int) : ((listF s c s.ps).length : Int) ≤ q * 4 := by
  have hv : ∀ nm ar, (viewF s nm ar c).length ≤ (clsOf s nm ar).length := fun nm ar => List.length_filter_le _ _
  have h1 := hv [112] 1
  have h2 := hv [113] 2
  have h3 := hv [114] 0
  have ht := h.tot
  have c0 := h.cnt 0 (by omega) (by omega)
  have c1 := h.cnt 1 (by omega) (by omega)
  have c2 := h.cnt 2 (by omega) (by omega)
  have c3 := h.cnt 3 (by omega) (by omega)
  rw [h.ps]
  simp only [listF, preds3, List.flatMap_cons, List.flatMap_nil, List.append_nil, List.length_append]
  omega
end Go.Proofs.YtdekdghldblfaaaGreatDoor
namespace Go.Proofs.YtdekdghldblfaaaGreatDoor
open Go Go.Abs Go.RowKit
set_option linter.unusedVariables false
set_option linter.unusedSimpArgs false
attribute [local congr] on_congr br_congr onf_congr
noncomputable def smS (n : Nat) : List AV → Option AV
  | [x, y] => (ofT x).bind fun a => only (y = tmA a ∧ a.height ≤ n ∧ Fine 1000 a) (some (.bool true))
  | _ => none
theorem smS_eq {n : Nat} {a : Tm} (h : a.height ≤ n ∧ Fine 1000 a) : smS n [.agg (tmC a), .agg (tmC a)] = some (.bool true) := by
  show (ofT (tmA a)).bind _ = _
  rw [ofT_tm]; exact only_eq (by exact ⟨rfl, h⟩) _
noncomputable def eqfS (n : Nat) : List AV → Option AV
  | [x, y, .fn (.func f) []] => (ofLs x).bind fun l => only (y = lsA l ∧ f = 43 ∧ l.length ≤ 1000 ∧ ∀ t ∈ l, t.height ≤ n ∧ Fine 1000 t) (some (.bool true))
  | _ => none
theorem eqfS_eq {n : Nat} {l : List Tm} (h : l.length ≤ 1000 ∧ ∀ t ∈ l, t.height ≤ n ∧ Fine 1000 t) : eqfS n [.vals 4 (l.map tmC), .vals 4 (l.map tmC), .fn (.func 43) []] = some (.bool true) := by
  show (ofLs (.vals 4 (l.map tmC))).bind _ = _
  rw [ofLs_eq, Option.bind_some]
  exact only_eq (by exact ⟨rfl, rfl, h⟩) _
set_option maxHeartbeats 1000000 in
theorem eqf_loop {n : Nat} (F0 : Nat) (l : List Tm) (hl : l.length ≤ 1000) : ∀ (l2 l1 : List Tm) (H : AH) (F : Nat), l = l1 ++ l2 → (∀ x ∈ l2, x.height ≤ n ∧ Fine 1000 x) → H.wf → l2.length < F →
    ∃ H', iter (ycode (tcall [(43, pureF (smS n))]) F0 yEqFa) F (mk [(1, .vals 4 (l.map tmC)), (2, .fn (.func 43) []), (15, .vals 4 (l.map tmC)), (16, .int .i64 l.length), (17, .int .i64 l1.length)]) H = some (.exit 0, mk [], H') := by
  intro l2
  induction l2 with
  | nil =>
    intro l1 H F h1 h2 hw h4
    obtain ⟨k, rfl⟩ := iter_pos (f := fun _ _ => none) (n := F) (by omega)
    rw [List.append_nil] at h1
    subst h1
    have hlt : ((l.length : Int) < (l.length : Int)) = False := by simp
    refine ⟨H, ?_⟩
    rw [iter_one]
    simp (maxSteps := 1000000) (disch := omega) only [yEqFa_r, yEqFa_, ↓axP, axQ, ↓if_true, ↓if_false, ite_true, ite_false, reduceIte, ne_eq, eq_self, Nat.reduceAdd, Nat.reduceSub, Nat.reduceMul, Nat.reduceLeDiff, Nat.reduceEqDiff, Nat.reduceBEq, reduceCtorEq, Int.reduceToNat, Int.reduceLT, Int.reduceLE, Int.reduceEq, Int.reduceAdd, Int.reduceSub, Int.reduceNeg, capnY, appzY, tmC_len, tmC_0, tmC_1, tmC_2, tmC_3, tmC_take, tmC_drop, tmC_one, tmC_ne, hlt]
  | cons x l2 ih =>
    intro l1 H F h1 h2 hw h4
    obtain ⟨k, rfl⟩ := iter_pos (f := fun _ _ => none) (n := F) (by omega)
    obtain ⟨nx, gs, ms⟩ := H
    have hR : l1.length + 1 ≤ 1000 := by rw [h1] at hl; simp at hl; omega
    have hlt : ((l1.length : Int) < (l.length : Int)) = True := eq_true (by rw [h1]; simp; omega)
    have hget : (l.map tmC)[l1.length]? = some (tmC x) := by rw [h1]; simp
    have hi : (0 : Int) ≤ (l1.length : Int) := by omega
    have hww : IntKind.i64.wrap ((l1.length : Int) + 1) = (l1.length : Int) + 1 := by rw [wrap_i64] <;> omega
    have e0 := wf_mk hw
    have e1 : gs.get (nx + 1) = none := hw (nx + 1) (Nat.le_succ nx)
    have q1 : (nx + 1 = nx) = False := by simp
    have q2 : (nx = nx + 1) = False := by simp
    have wfA : AH.wf ⟨nx + 2, (gs.set nx ⟨0, 0, tmC x⟩).set (nx + 1) ⟨0, 0, tmC x⟩, ms⟩ := fun g hg => by
      have : nx + 2 ≤ g := hg
      show ((gs.set nx _).set (nx + 1) _).get g = none
      rw [Tr.get_set_ne _ _ (by omega), Tr.get_set_ne _ _ (by omega)]; exact hw g (by show nx ≤ g; omega)
    obtain ⟨H', k1⟩ := ih (l1 ++ [x]) _ k (by simp [h1]) (fun y hy => h2 y (List.mem_cons_of_mem _ hy)) wfA (by simp at h4; omega)
    have hls : (l1 ++ [x]).length = l1.length + 1 := by simp
    rw [hls] at k1
    simp (maxSteps := 1000000) (disch := omega) only [↓axP, axQ, ↓if_true, ↓if_false, ite_true, ite_false, reduceIte, ne_eq, eq_self, Nat.reduceAdd, Nat.reduceSub, Nat.reduceMul, Nat.reduceLeDiff, Nat.reduceEqDiff, Nat.reduceBEq, reduceCtorEq, Int.reduceToNat, Int.reduceLT, Int.reduceLE, Int.reduceEq, Int.reduceAdd, Int.reduceSub, Int.reduceNeg, capnY, appzY] at k1
    have hr := smS_eq (n := n) (h2 x (List.mem_cons_self ..))
    refine ⟨H', ?_⟩
    rw [iter_one]
    simp (maxSteps := 1000000) (disch := omega) only [yEqFa_r, yEqFa_, ↓axP, axQ, ↓if_true, ↓if_false, ite_true, ite_false, reduceIte, ne_eq, eq_self, Nat.reduceAdd, Nat.reduceSub, Nat.reduceMul, Nat.reduceLeDiff, Nat.reduceEqDiff, Nat.reduceBEq, reduceCtorEq, Int.reduceToNat, Int.reduceLT, Int.reduceLE, Int.reduceEq, Int.reduceAdd, Int.reduceSub, Int.reduceNeg, capnY, appzY, tmC_len, tmC_0, tmC_1, tmC_2, tmC_3, tmC_take, tmC_drop, tmC_one, tmC_ne, hlt, hi, hget, hww, e0, e1, q1, q2, Int.toNat_natCast, List.length_map, hr, k1, Nat.add_assoc]
theorem eqf_one {n : Nat} (hs : HookOne Tryz.prog 43 (pureF (smS n))) : HookOne Tryz.prog 96 (pureF (eqfS n)) := by
  refine HookOne.ofPureF (by decide +kernel) fun args y h H => ?_
  have hl : ∀ e ∈ [(43, pureF (smS n))], HookOne Tryz.prog e.1 e.2 := by
    intro e he; simp at he; subst he; exact hs
  unfold eqfS at h; split at h
  · rename_i x y f
    rw [Option.bind_eq_some_iff] at h
    obtain ⟨l, h1, h2⟩ := h
    obtain ⟨⟨rfl, rfl, hlen, hA⟩, h3⟩ := only_ok h2
    cases h3
    obtain rfl := back_ok h1
    unfold lsA
    refine ACalls.ofRun hl mixed (draws _ rfl) yEqF_ok rfl (by simp [pureL, pureA, pure_rows]) (l.length + 1) ?_ H
    obtain ⟨H', q⟩ := eqf_loop (n := n) (l.length + 1) l hlen l [] ⟨0, .nil, .nil⟩ (l.length + 1) rfl hA (fun g _ => Tr.get_nil g) (Nat.lt_succ_self _)
    have hml : (l.map tmC).length = l.length := by simp
    have hne : ((l.length : Int) = (l.length : Int)) = True := by simp
    obtain ⟨nx, gs, ms⟩ := H'
    simp (maxSteps := 1000000) (disch := omega) only [↓axP, axQ, ↓if_true, ↓if_false, ite_true, ite_false, reduceIte, ne_eq, eq_self, Nat.reduceAdd, Nat.reduceSub, Nat.reduceMul, Nat.reduceLeDiff, Nat.reduceEqDiff, Nat.reduceBEq, reduceCtorEq, Int.reduceToNat, Int.reduceLT, Int.reduceLE, Int.reduceEq, Int.reduceAdd, Int.reduceSub, Int.reduceNeg, capnY, appzY] at q
    simp (maxSteps := 1000000) (disch := omega) only [yEqF, xinit_3, ↓axP, axQ, ↓if_true, ↓if_false, ite_true, ite_false, reduceIte, ne_eq, eq_self, Nat.reduceAdd, Nat.reduceSub, Nat.reduceMul, Nat.reduceLeDiff, Nat.reduceEqDiff, Nat.reduceBEq, reduceCtorEq, Int.reduceToNat, Int.reduceLT, Int.reduceLE, Int.reduceEq, Int.reduceAdd, Int.reduceSub, Int.reduceNeg, capnY, appzY, tmC_len, tmC_0, tmC_1, tmC_2, tmC_3, tmC_take, tmC_drop, tmC_one, tmC_ne, hml, hne, q]
    exact Ans.some (.pure rfl)
  · cases h
theorem sm_step {n : Nat} (hs : HookOne Tryz.prog 43 (pureF (smS n))) : HookOne Tryz.prog 43 (pureF (smS (n + 1))) := by
  refine HookOne.ofPureF (by decide +kernel) fun args y h H => ?_
  have hl : ∀ e ∈ [(96, pureF (eqfS n))], HookOne Tryz.prog e.1 e.2 := by
    intro e he; simp at he; subst he; exact eqf_one hs
  unfold smS at h; split at h
  · rename_i x y
    rw [Option.bind_eq_some_iff] at h
    obtain ⟨t, h1, h2⟩ := h
    obtain ⟨⟨rfl, hc⟩, h3⟩ := only_ok h2
    cases h3
    obtain rfl := ofT_ok h1
    refine ACalls.ofRun hl mixed (draws _ rfl) ysame_ok rfl (by simp [pureL, pure_tmA]) 5 ?_ H
    have hA : ∀ x ∈ t.args, x.height ≤ n ∧ Fine 1000 x := fun x hx => by
      have := height_mem hx
      have h0 := hc.1
      rw [height_eq] at h0
      exact ⟨by omega, hc.2.args.2.1 _ hx⟩
    have he := eqfS_eq (n := n) (l := t.args) ⟨hc.2.args.1, hA⟩
    unfold tmA
    simp (maxSteps := 1000000) (disch := omega) only [ysame, xinit_2, ↓axP, axQ, ↓if_true, ↓if_false, ite_true, ite_false, reduceIte, ne_eq, eq_self, Nat.reduceAdd, Nat.reduceSub, Nat.reduceMul, Nat.reduceLeDiff, Nat.reduceEqDiff, Nat.reduceBEq, reduceCtorEq, Int.reduceToNat, Int.reduceLT, Int.reduceLE, Int.reduceEq, Int.reduceAdd, Int.reduceSub, Int.reduceNeg, capnY, appzY, tmC_len, tmC_0, tmC_1, tmC_2, tmC_3, tmC_take, tmC_drop, tmC_one, tmC_ne, he, beq_self_eq_true]
    exact Ans.some (.pure rfl)
  · cases h
theorem sm_any : ∀ n, HookOne Tryz.prog 43 (pureF (smS n))
  | 0 => by
    refine HookOne.ofPureF (by decide +kernel) fun args y h H => ?_
    unfold smS at h; split at h
    · rename_i x y
      rw [Option.bind_eq_some_iff] at h
      obtain ⟨t, h1, h2⟩ := h
      obtain ⟨⟨rfl, hc, -⟩, h3⟩ := only_ok h2
      rw [height_eq] at hc
      omega
    · cases h
  | n + 1 => sm_step (sm_any n)
noncomputable def sameS : List AV → Option AV
  | [x, y] => (ofT x).bind fun a => only (y = tmA a ∧ a.good = true ∧ Fine 1000 a) (some (.bool true))
  | _ => none
theorem sameS_eq {a : Tm} (h : a.good = true ∧ Fine 1000 a) : sameS [.agg (tmC a), .agg (tmC a)] = some (.bool true) := by
  show (ofT (tmA a)).bind _ = _
  rw [ofT_tm]; exact only_eq (by exact ⟨rfl, h⟩) _
theorem same_one : HookOne Tryz.prog 14 (pureF sameS) := by
  refine HookOne.ofPureF (by decide +kernel) fun args y h H => ?_
  have hl : ∀ e ∈ [(42, pureF goodS), (43, pureF (smS 64))], HookOne Tryz.prog e.1 e.2 := by
    intro e he
    simp only [List.mem_cons, List.not_mem_nil, or_false] at he
    rcases he with rfl | rfl
    · exact goodF_one
    · exact sm_any 64
  unfold sameS at h; split at h
  · rename_i x y
    rw [Option.bind_eq_some_iff] at h
    obtain ⟨t, h1, h2⟩ := h
    obtain ⟨⟨rfl, hg, hf⟩, h3⟩ := only_ok h2
    cases h3
    obtain rfl := ofT_ok h1
    refine ACalls.ofRun hl mixed (draws _ rfl) ySame_ok rfl (by simp [pureL, pure_tmA]) 5 ?_ H
    have he := smS_eq (n := 64) (a := t) ⟨(RC_good hf hg).1, hf⟩
    have h0 : goodS [.agg (tmC t)] = some (.bool true) := by rw [goodS_eq' hf, hg]
    unfold tmA
    simp (maxSteps := 1000000) (disch := omega) only [ySame, xinit_2, ↓axP, axQ, ↓if_true, ↓if_false, ite_true, ite_false, reduceIte, ne_eq, eq_self, Nat.reduceAdd, Nat.reduceSub, Nat.reduceMul, Nat.reduceLeDiff, Nat.reduceEqDiff, Nat.reduceBEq, reduceCtorEq, Int.reduceToNat, Int.reduceLT, Int.reduceLE, Int.reduceEq, Int.reduceAdd, Int.reduceSub, Int.reduceNeg, capnY, appzY, tmC_len, tmC_0, tmC_1, tmC_2, tmC_3, tmC_take, tmC_drop, tmC_one, tmC_ne, he, h0]
    exact Ans.some (.pure rfl)
  · cases h
end Go.Proofs.YtdekdghldblfaaaGreatDoor
namespace Go.Proofs.YtdekdghldblfaaaGreatDoor
open Go Go.Abs Go.RowKit
set_option linter.unusedVariables false
set_option linter.unusedSimpArgs false
def strip (c : Cl) : Int × Tm × Tm := (c.lab, c.hd, c.bd)
/-- Alike as far as c sees. -/
structure HR (c : Int) (s t : St) : Prop where
  view : ∀ nm ar, (viewF s nm ar c).map strip = (viewF t nm ar c).map strip
  cnt : ∀ l, leqB l c = true → cntOf s l = cntOf t l
theorem view_add (s : St) (p : Pr) (hd bd : Tm) (l : Int) (first : Bool) (c : Int) (nm : List UInt8) (ar : Int) :
    (viewF (addSt s p hd bd l first) nm ar c).map strip = if (nm, ar) = (p.nm, p.ar) ∧ leqB l c = true then (if first = true then (l, hd, bd) :: (viewF s nm ar c).map strip else (viewF s nm ar c).map strip ++ [(l, hd, bd)]) else (viewF s nm ar c).map strip := by
  unfold viewF
  rw [cls_add]
  by_cases hk : (nm, ar) = (p.nm, p.ar)
  · rw [if_pos hk]
    obtain ⟨rfl, rfl⟩ : nm = p.nm ∧ ar = p.ar := by simpa using hk
    unfold newL
    cases hl : leqB l c with
    | true =>
      rw [if_pos (show (p.nm, p.ar) = (p.nm, p.ar) ∧ true = true from ⟨rfl, rfl⟩)]
      cases first with
      | true => simp [hl, strip]
      | false => simp [hl, strip, List.filter_append]
    | false =>
      rw [if_neg (show ¬ ((p.nm, p.ar) = (p.nm, p.ar) ∧ false = true) by simp)]
      cases first with
      | true => simp [hl]
      | false => simp [hl, List.filter_append]
  · rw [if_neg hk, if_neg (fun h => hk h.1)]
theorem HR.symm {c : Int} {s t : St} (h : HR c s t) : HR c t s := ⟨fun nm ar => (h.view nm ar).symm, fun l hl => (h.cnt l hl).symm⟩
/-- What c does not see changes nothing for it. -/
theorem HR.skip {c : Int} {s t : St} (h : HR c s t) {T : Tm} {l : Int} (hl : leqB l c = false) (first : Bool) : HR c s (addP t T l first).2.2 := by
  rcases addP_cases t T l first with ⟨h1, h2, -⟩ | ⟨h1, h2, h3, h4, h5⟩
  · rw [h2]; exact h
  · rw [h5]
    refine ⟨fun nm ar => ?_, fun j hj => ?_⟩
    · rw [view_add, if_neg (fun hh => by rw [hl] at hh; cases hh.2)]
      exact h.view nm ar
    · rw [cnt_add, if_neg (fun hh => by rw [hh, hl] at hj; cases hj)]
      exact h.cnt j hj
/-- What c sees comes to both, or to none. -/
theorem HR.both {c q : Int} {s t : St} (h : HR c s t) (hs : SInv s q) (ht : SInv t q) {T : Tm} {l : Int} (hl : leqB l c = true) (first : Bool) : (addP s T l first).2.1 = (addP t T l first).2.1 ∧ HR c (addP s T l first).2.2 (addP t T l first).2.2 := by
  have hps : s.ps = t.ps := by rw [hs.ps, ht.ps]
  have hq : s.q = t.q := by rw [hs.quo, ht.quo]
  have hc := h.cnt l hl
  unfold addP
  rw [← hps, ← hq, ← hc]
  repeat' split
  all_goals first | exact ⟨rfl, h⟩ | skip
  refine ⟨rfl, fun nm ar => ?_, fun j hj => ?_⟩
  · simp only
    rw [view_add, view_add, h.view nm ar]
  · simp only
    rw [cnt_add, cnt_add, hc, h.cnt j hj]
theorem HR.list {c : Int} {s t : St} (h : HR c s t) : ∀ ps : List Pr, (listF s c ps).map strip = (listF t c ps).map strip
  | [] => rfl
  | p :: ps => by
    have e : ∀ s, listF s c (p :: ps) = viewF s p.nm p.ar c ++ listF s c ps := fun s => by simp [listF]
    rw [e, e, List.map_append, List.map_append, h.view, h.list ps]
theorem hr0 (c q : Int) (n m : Nat) : HR c (st0 q n) (st0 q m) := ⟨fun nm ar => rfl, fun l _ => rfl⟩
theorem or_leq : ∀ c l : Int, (0 ≤ c ∧ c < 4) → (0 ≤ l ∧ l < 4) → (decide (orI l c = c) = leqB l c) := by
  intro c l hc hl
  have h1 : c = 0 ∨ c = 1 ∨ c = 2 ∨ c = 3 := by omega
  have h2 : l = 0 ∨ l = 1 ∨ l = 2 ∨ l = 3 := by omega
  rcases h1 with rfl | rfl | rfl | rfl <;> rcases h2 with rfl | rfl | rfl | rfl <;> decide
/-- Terms kept are good. -/
def GInv (s : St) : Prop := ∀ e ∈ s.m, ∀ c ∈ e.2.2, c.hd.good = true ∧ c.bd.good = true
theorem allsG_mem {l : List Tm} (h : Tm.allsG l = true) : ∀ x ∈ l, x.allG = true := by
  induction l with
  | nil => intro x hx; cases hx
  | cons y l ih =>
    intro x hx
    simp only [Tm.allsG, Bool.and_eq_true] at h
    rcases List.mem_cons.1 hx with rfl | hx
    · exact h.1
    · exact ih h.2 x hx
theorem sizes_mem {l : List Tm} {x : Tm} (h : x ∈ l) : x.size ≤ Tm.sizes l := by
  induction l with
  | nil => cases h
  | cons y l ih =>
    rcases List.mem_cons.1 h with rfl | h
    · simp [Tm.sizes]
    · have := ih h; simp [Tm.sizes]; omega
theorem good_arg {t x : Tm} (h : t.good = true) (hx : x ∈ t.args) : x.good = true := by
  unfold Tm.good at h ⊢
  simp only [Bool.and_eq_true, decide_eq_true_eq] at h ⊢
  obtain ⟨⟨h1, h2⟩, h3⟩ := h
  rw [size_eq] at h1
  rw [height_eq] at h2
  rw [allG_eq, Bool.and_eq_true] at h3
  have a := sizes_mem hx
  have b := height_mem hx
  exact ⟨⟨by omega, by omega⟩, allsG_mem h3.2 x hx⟩
theorem clause_parts {t : Tm} (h : (clauseP t).2.2 = 0) : (clauseP t).1.good = true ∧ (clauseP t).2.1.good = true := by
  have hg := clause_good h
  have key : ∀ a b : Tm, a.good = true → b.good = true → (clauseW t a b).2.2 = 0 → (clauseW t a b).1.good = true ∧ (clauseW t a b).2.1.good = true := by
    intro a b ha hb
    simp only [clauseW]
    generalize (if a.kind = 0 then (6 : Int) else if a.kind = 1 then 5 else if ctlP a = true then 8 else (ofP b).2) = e
    by_cases h0 : e = 0
    · rw [if_pos h0]; intro _; exact ⟨ha, hb⟩
    · rw [if_neg h0]; intro h; exact absurd h h0
  unfold clauseP at h ⊢
  rw [if_pos hg] at h ⊢
  split at h
  · rename_i hc
    rw [if_pos hc]
    obtain ⟨a, b, hab⟩ := args_two (isP_len (m := 2) hc)
    rw [hab] at h ⊢
    exact key a b (good_arg hg (by rw [hab]; simp)) (good_arg hg (by rw [hab]; simp)) h
  · rename_i hc
    rw [if_neg hc]
    exact key t trueT hg rfl h
theorem sof_z (ps : List Pr) : (sofP ps zT).2 ≠ 0 := by
  have hg : zT.good = true := rfl
  have hk : zT.kind = 0 := rfl
  unfold sofP
  rw [if_pos hg, if_pos hk]
  simp
theorem sof_clause {ps : List Pr} {t : Tm} (h : (sofP ps (clauseP t).1).2 = 0) : (clauseP t).2.2 = 0 := by
  have key : ∀ a b : Tm, (sofP ps (clauseW t a b).1).2 = 0 → (clauseW t a b).2.2 = 0 := by
    intro a b
    simp only [clauseW]
    generalize (if a.kind = 0 then (6 : Int) else if a.kind = 1 then 5 else if ctlP a = true then 8 else (ofP b).2) = e
    by_cases h0 : e = 0
    · rw [if_pos h0]; intro _; rfl
    · rw [if_neg h0]; intro h; exact absurd h (sof_z ps)
  unfold clauseP at h ⊢
  split at h
  · rename_i hg
    rw [if_pos hg]
    split at h
    · rename_i hc
      rw [if_pos hc]
      exact key _ _ h
    · rename_i hc
      rw [if_neg hc]
      exact key _ _ h
  · exact absurd h (sof_z ps)
theorem GInv.add {s : St} (h : GInv s) (t : Tm) (l : Int) (first : Bool) : GInv (addP s t l first).2.2 := by
  rcases addP_cases s t l first with ⟨h1, h2, -⟩ | ⟨h1, h2, h3, h4, h5⟩
  · rw [h2]; exact h
  · rw [h5]
    have hp := clause_parts (sof_clause h2)
    intro e he c hc
    rcases set_mem he with he | ⟨-, he⟩
    · exact h e he c hc
    · rw [he] at hc
      rcases new_mem hc with rfl | hc
      · exact hp
      · unfold clsOf at hc
        generalize (sofP s.ps (clauseP (plainT t)).1).1 = p at hc
        cases hlk : lookG (p.nm, p.ar) s.m with
        | none => rw [hlk] at hc; cases hc
        | some v =>
          rw [hlk] at hc
          obtain ⟨e', k1, k2, k3⟩ := look_mem hlk
          subst k3
          exact h e' k1 c hc
theorem GInv.list {s : St} (h : GInv s) (hok : OkSt s) (c : Int) : ∀ ps : List Pr, ∀ x ∈ listF s c ps, (x.hd.good = true ∧ x.bd.good = true) ∧ OkCl x
  | [], x, hx => by simp [listF] at hx
  | p :: ps, x, hx => by
    have e : listF s c (p :: ps) = viewF s p.nm p.ar c ++ listF s c ps := by simp [listF]
    rw [e, List.mem_append] at hx
    rcases hx with hx | hx
    · have hx := (List.mem_filter.1 hx).1
      refine ⟨?_, (hok.cls p.nm p.ar).2 x hx⟩
      unfold clsOf at hx
      cases hlk : lookG (p.nm, p.ar) s.m with
      | none => rw [hlk] at hx; cases hx
      | some v =>
        rw [hlk] at hx
        obtain ⟨e', k1, k2, k3⟩ := look_mem hlk
        subst k3
        exact h e' k1 x hx
    · exact h.list hok c ps x hx
end Go.Proofs.YtdekdghldblfaaaGreatDoor
namespace Go.Proofs.YtdekdghldblfaaaGreatDoor
open Go Go.Abs Go.RowKit
set_option linter.unusedVariables false
set_option linter.unusedSimpArgs false
attribute [local congr] on_congr br_congr onf_congr
/-- Two stores in one memory. -/
structure Two (gs : Tr Grp) (ms : Tr MapA) (s t : St) (k : Nat) : Prop where
  gS : ∀ nx, Good ⟨nx, gs, ms⟩ 0 s k
  gT : ∀ nx, Good ⟨nx, gs, ms⟩ 3 t k
  vs : SInv s 20
  vt : SInv t 20
  is : GInv s
  it : GInv t
  nums : s.g1 = 1 ∧ s.g2 = 2 ∧ t.g1 = 4 ∧ t.g2 = 5
theorem Good.more {H : AH} {g k k' : Nat} {s : St} (h : Good H g s k) (hk : k ≤ k') : Good H g s k' := ⟨h.at', h.ok, h.full, by have := h.la; omega⟩
theorem Good.eqA {g k : Nat} {gs : Tr Grp} {ms : Tr MapA} {s : St} (h : ∀ nx, Good ⟨nx, gs, ms⟩ g s k) (hk : k < 1000000) {t : Tm} (hf : Fine 1000 t) {l : Int} (hl : 0 ≤ l ∧ l < 4) (first : Bool) : ∃ gs' ms', (∀ nx, relH addR [.ptr g 0 0, .agg (tmC t), .int .u64 l, .bool first] ⟨nx, gs, ms⟩ = some (.tup [.int .i64 (addP s t l first).1, .int .i64 (addP s t l first).2.1], ⟨nx, gs', ms'⟩)) ∧ (∀ nx, Good ⟨nx, gs', ms'⟩ g (addP s t l first).2.2 (k + 1)) ∧ (∀ g', g' ≠ g → gs'.get g' = gs.get g') ∧ (∀ g', g' ≠ s.g1 → g' ≠ s.g2 → ms'.get g' = ms.get g') ∧ (addP s t l first).2.2.g1 = s.g1 ∧ (addP s t l first).2.2.g2 = s.g2 := by
  have h1 := fun nx => (h nx).eq hk hf hl first
  have h2 := fun nx => (h nx).add hk hf l first
  by_cases hc : (addP s t l first).2.1 = 0
  · simp only [hc, if_true] at h1 h2 ⊢
    have hg : (addP s t l first).2.2.g1 = s.g1 ∧ (addP s t l first).2.2.g2 = s.g2 := by
      rcases addP_cases s t l first with ⟨-, h2, -⟩ | ⟨-, -, -, -, h5⟩
      · rw [h2]; exact ⟨rfl, rfl⟩
      · rw [h5]; exact ⟨rfl, rfl⟩
    refine ⟨(putSt ⟨0, gs, ms⟩ g (addP s t l first).2.2).gs, (putSt ⟨0, gs, ms⟩ g (addP s t l first).2.2).ms, h1, h2, fun g' hg' => Tr.get_set_ne _ _ hg', fun g' e1 e2 => ?_, hg.1, hg.2⟩
    show ((ms.set (addP s t l first).2.2.g1 _).set (addP s t l first).2.2.g2 _).get g' = _
    rw [Tr.get_set_ne _ _ (by rw [hg.2]; exact e2), Tr.get_set_ne _ _ (by rw [hg.1]; exact e1)]
  · simp only [hc, if_false] at h1 h2
    have hs : (addP s t l first).2.2 = s := by
      rcases addP_cases s t l first with ⟨-, h2, -⟩ | ⟨-, -, -, -, h5⟩
      · exact h2
      · rw [h5] at hc; exact absurd rfl hc
    exact ⟨gs, ms, h1, h2, fun _ _ => rfl, fun _ _ _ => rfl, by rw [hs], by rw [hs]⟩
theorem Good.other {nx g k : Nat} {gs gs' : Tr Grp} {ms ms' : Tr MapA} {s : St} (h : Good ⟨nx, gs, ms⟩ g s k) (h1 : gs'.get g = gs.get g) (h2 : ms'.get s.g1 = ms.get s.g1) (h3 : ms'.get s.g2 = ms.get s.g2) : Good ⟨nx, gs', ms'⟩ g s k := by
  obtain ⟨⟨a, b, c, d⟩, e, f, i⟩ := h
  exact ⟨⟨a, h1.trans b, h2.trans c, h3.trans d⟩, e, f, i⟩
theorem Two.addS {gs : Tr Grp} {ms : Tr MapA} {s t : St} {k : Nat} (h : Two gs ms s t k) (hk : k < 1000000) {T : Tm} (hf : Fine 1000 T) {l : Int} (hl : 0 ≤ l ∧ l < 4) (first : Bool) :
    ∃ gs' ms', (∀ nx, relH addR [.ptr 0 0 0, .agg (tmC T), .int .u64 l, .bool first] ⟨nx, gs, ms⟩ = some (.tup [.int .i64 (addP s T l first).1, .int .i64 (addP s T l first).2.1], ⟨nx, gs', ms'⟩)) ∧ Two gs' ms' (addP s T l first).2.2 t (k + 1) := by
  obtain ⟨gs', ms', a1, a2, a3, a4, a5, a6⟩ := Good.eqA h.gS hk hf hl first
  obtain ⟨n1, n2, n3, n4⟩ := h.nums
  refine ⟨gs', ms', a1, a2, fun nx => ((h.gT nx).other (a3 3 (by omega)) (a4 _ (by omega) (by omega)) (a4 _ (by omega) (by omega))).more (Nat.le_succ k), h.vs.add hl first, h.vt, h.is.add T l first, h.it, by omega, by omega, n3, n4⟩
theorem Two.addT {gs : Tr Grp} {ms : Tr MapA} {s t : St} {k : Nat} (h : Two gs ms s t k) (hk : k < 1000000) {T : Tm} (hf : Fine 1000 T) {l : Int} (hl : 0 ≤ l ∧ l < 4) (first : Bool) :
    ∃ gs' ms', (∀ nx, relH addR [.ptr 3 0 0, .agg (tmC T), .int .u64 l, .bool first] ⟨nx, gs, ms⟩ = some (.tup [.int .i64 (addP t T l first).1, .int .i64 (addP t T l first).2.1], ⟨nx, gs', ms'⟩)) ∧ Two gs' ms' s (addP t T l first).2.2 (k + 1) := by
  obtain ⟨gs', ms', a1, a2, a3, a4, a5, a6⟩ := Good.eqA h.gT hk hf hl first
  obtain ⟨n1, n2, n3, n4⟩ := h.nums
  refine ⟨gs', ms', a1, fun nx => ((h.gS nx).other (a3 0 (by omega)) (a4 _ (by omega) (by omega)) (a4 _ (by omega) (by omega))).more (Nat.le_succ k), a2, h.vs, h.vt.add hl first, h.is, h.it.add T l first, n1, n2, by omega, by omega⟩
/-- The same to both. -/
theorem Two.both {c : Int} {gs : Tr Grp} {ms : Tr MapA} {s t : St} {k : Nat} (h : Two gs ms s t k) (hr : HR c s t) (hk : k + 1 < 1000000) {T : Tm} (hf : Fine 1000 T) {l : Int} (hl : 0 ≤ l ∧ l < 4) (first : Bool) :
    ∃ gs' ms' gs2 ms2 i e j f s' t', (∀ nx, relH addR [.ptr 0 0 0, .agg (tmC T), .int .u64 l, .bool first] ⟨nx, gs, ms⟩ = some (.tup [.int .i64 i, .int .i64 e], ⟨nx, gs', ms'⟩)) ∧ (∀ nx, relH addR [.ptr 3 0 0, .agg (tmC T), .int .u64 l, .bool first] ⟨nx, gs', ms'⟩ = some (.tup [.int .i64 j, .int .i64 f], ⟨nx, gs2, ms2⟩)) ∧ Two gs2 ms2 s' t' (k + 2) ∧ HR c s' t' ∧ (leqB l c = true → e = f) := by
  obtain ⟨gs', ms', a1, a2⟩ := h.addS (by omega) hf hl first
  obtain ⟨gs2, ms2, b1, b2⟩ := a2.addT (by omega) hf hl first
  refine ⟨gs', ms', gs2, ms2, _, _, _, _, _, _, a1, b1, b2, ?_, fun hc => (hr.both h.vs h.vt hc first).1⟩
  cases hc : leqB l c with
  | true => exact (hr.both h.vs h.vt hc first).2
  | false => exact ((hr.skip hc first).symm.skip hc first).symm
def HiEnd (c : Int) (r : XR) : Prop := (∃ H', r = some (.ret, mk [(6, .bool true)], H')) ∨ (∃ s' t' nx gs ms, r = some (.exit 0, mk [(7, .int .u64 c), (8, .ptr 0 0 0), (10, .ptr 3 0 0)], ⟨nx, gs, ms⟩) ∧ Two gs ms s' t' 90 ∧ HR c s' t')
theorem HiEnd_congr {c : Int} {r r' : XR} (h : r = r') : HiEnd c r = HiEnd c r' := by rw [h]
attribute [local congr] HiEnd_congr
theorem Two.more {gs : Tr Grp} {ms : Tr MapA} {s t : St} {k k' : Nat} (h : Two gs ms s t k) (hk : k ≤ k') : Two gs ms s t k' := ⟨fun nx => (h.gS nx).more hk, fun nx => (h.gT nx).more hk, h.vs, h.vt, h.is, h.it, h.nums⟩
noncomputable abbrev lsHi : List (FuncId × (List AV → AH → Option (AV × AH))) := [(9, pureF awakeS18), (10, relH madeR), (11, pureF (deepS 40)), (12, relH addR), (13, relH (readR listQ)), (14, pureF sameS)]
theorem lsHi_ok : ∀ e ∈ lsHi, HookOne Tryz.prog e.1 e.2 := by
  intro e he
  simp only [lsHi, List.mem_cons, List.not_mem_nil, or_false] at he
  rcases he with rfl | rfl | rfl | rfl | rfl | rfl
  · exact awake18_one
  · exact made_one
  · exact deep_any18 40
  · exact add_one
  · exact list_one
  · exact same_one
set_option maxHeartbeats 8000000 in
theorem hi_loop (F0 : Nat) (c : Int) (hc : 0 ≤ c ∧ c < 4) (acs mor : List Ac) (hlen : acs.length ≤ 30) (hlm : mor.length ≤ 30) (hfi : ∀ a ∈ acs, Fine maxLen a.t) (hfm : ∀ a ∈ mor, Fine maxLen a.t) : ∀ (l2 l1 : List Ac) (s t : St) (nx : Nat) (gs : Tr Grp) (ms : Tr MapA) (F : Nat), acs = l1 ++ l2 → Two gs ms s t (3 * l1.length) → HR c s t → l2.length < F →
    HiEnd c (iter (ycode (tcall lsHi) F0 yHidesa) F (mk [(0, .vals 8 (acs.map acC)), (1, .vals 8 (mor.map acC)), (7, .int .u64 c), (8, .ptr 0 0 0), (10, .ptr 3 0 0), (12, .int .i64 l1.length)]) ⟨nx, gs, ms⟩) := by
  intro l2
  induction l2 with
  | nil =>
    intro l1 s t nx gs ms F h1 hg hr h4
    obtain ⟨k, rfl⟩ := iter_pos (f := fun _ _ => none) (n := F) (by omega)
    rw [List.append_nil] at h1
    subst h1
    have hlt : ((acs.length : Int) < (acs.length : Int)) = False := by simp
    rw [iter_one]
    simp (maxSteps := 1000000) (disch := omega) only [yHidesa_r, yHidesa_, ↓axP, axQ, ↓if_true, ↓if_false, ite_true, ite_false, reduceIte, ne_eq, eq_self, Nat.reduceAdd, Nat.reduceSub, Nat.reduceMul, Nat.reduceLeDiff, Nat.reduceEqDiff, Nat.reduceBEq, reduceCtorEq, Int.reduceToNat, Int.reduceLT, Int.reduceLE, Int.reduceEq, Int.reduceAdd, Int.reduceSub, Int.reduceNeg, capnY, appzY, tmC_len, tmC_0, tmC_1, tmC_2, tmC_3, tmC_take, tmC_drop, tmC_one, tmC_ne, hlt, List.length_map]
    exact .inr ⟨s, t, nx, gs, ms, rfl, hg.more (by omega), hr⟩
  | cons a l2 ih =>
    intro l1 s t nx gs ms F h1 hg hr h4
    obtain ⟨k, rfl⟩ := iter_pos (f := fun _ _ => none) (n := F) (by omega)
    have hR : l1.length + 1 ≤ 30 := by rw [h1] at hlen; simp at hlen; omega
    have hlt : ((l1.length : Int) < (acs.length : Int)) = True := eq_true (by rw [h1]; simp; omega)
    have hget : (acs.map acC)[l1.length]? = some (.int .i64 a.op :: .int .i64 a.id :: (tmC a.t ++ [.int .u64 a.l, .bool a.first])) := by rw [h1]; simp [acC]
    have hi : (0 : Int) ≤ (l1.length : Int) := by omega
    have hw : IntKind.i64.wrap ((l1.length : Int) + 1) = (l1.length : Int) + 1 := by rw [wrap_i64] <;> omega
    have hdp := deepS_eq (m := 40) (n := 40) (t := a.t) ⟨rfl, by omega⟩
    rw [iter_one]
    cases hd : deepP 40 a.t with
    | true =>
      rw [hd] at hdp
      simp (maxSteps := 1000000) (disch := omega) only [yHidesa_r, yHidesa_, ↓axP, axQ, ↓if_true, ↓if_false, ite_true, ite_false, reduceIte, ne_eq, eq_self, Nat.reduceAdd, Nat.reduceSub, Nat.reduceMul, Nat.reduceLeDiff, Nat.reduceEqDiff, Nat.reduceBEq, reduceCtorEq, Int.reduceToNat, Int.reduceLT, Int.reduceLE, Int.reduceEq, Int.reduceAdd, Int.reduceSub, Int.reduceNeg, capnY, appzY, tmC_len, tmC_0, tmC_1, tmC_2, tmC_3, tmC_take, tmC_drop, tmC_one, tmC_ne, hlt, hi, hget, hdp, Int.toNat_natCast, List.length_map]
      exact .inl ⟨_, rfl⟩
    | false =>
      rw [hd] at hdp
      have hft : Fine 1000 a.t := fine_le (by omega) _ (deep_fine 40 a.t hd (hfi a (by rw [h1]; simp)))
      have hl3 := and3 a.l
      generalize hle : andI a.l 3 = l at hl3
      have hor := or_leq c l hc hl3
      have hs : (l1 ++ [a]).length = l1.length + 1 := by simp
      by_cases hm : l1.length < mor.length
      · obtain ⟨b, hb⟩ : ∃ b, mor[l1.length]? = some b := ⟨_, List.getElem?_eq_getElem hm⟩
        have hm1 : ((l1.length : Int) < (mor.length : Int)) = True := eq_true (by omega)
        have hgm : (mor.map acC)[l1.length]? = some (.int .i64 b.op :: .int .i64 b.id :: (tmC b.t ++ [.int .u64 b.l, .bool b.first])) := by rw [List.getElem?_map, hb]; rfl
        have hdb := deepS_eq (m := 40) (n := 40) (t := b.t) ⟨rfl, by omega⟩
        cases hdd : deepP 40 b.t with
        | true =>
          rw [hdd] at hdb
          obtain ⟨gs1, ms1, gs2, ms2, i, e, j, f, s', t', a1, a2, a3, a4, a5⟩ := hg.both hr (by omega) hft hl3 a.first
          have IH := fun nx => ih (l1 ++ [a]) s' t' nx gs2 ms2 k (by simp [h1]) (by rw [hs]; exact a3.more (by omega)) a4 (by simp at h4; omega)
          rw [hs] at IH
          simp (maxSteps := 1000000) (disch := omega) only [↓axP, axQ, ↓if_true, ↓if_false, ite_true, ite_false, reduceIte, ne_eq, eq_self, Nat.reduceAdd, Nat.reduceSub, Nat.reduceMul, Nat.reduceLeDiff, Nat.reduceEqDiff, Nat.reduceBEq, reduceCtorEq, Int.reduceToNat, Int.reduceLT, Int.reduceLE, Int.reduceEq, Int.reduceAdd, Int.reduceSub, Int.reduceNeg, capnY, appzY] at IH
          cases hq : leqB l c with
          | true =>
            obtain rfl := a5 hq
            have hoc : (orI l c = c) = True := eq_true (by rw [hq] at hor; exact of_decide_eq_true hor)
            simp (maxSteps := 1000000) (disch := omega) only [yHidesa_r, yHidesa_, ↓axP, axQ, ↓if_true, ↓if_false, ite_true, ite_false, reduceIte, ne_eq, eq_self, Nat.reduceAdd, Nat.reduceSub, Nat.reduceMul, Nat.reduceLeDiff, Nat.reduceEqDiff, Nat.reduceBEq, reduceCtorEq, Int.reduceToNat, Int.reduceLT, Int.reduceLE, Int.reduceEq, Int.reduceAdd, Int.reduceSub, Int.reduceNeg, capnY, appzY, tmC_len, tmC_0, tmC_1, tmC_2, tmC_3, tmC_take, tmC_drop, tmC_one, tmC_ne, hlt, hi, hget, hdp, hw, tmC_4, tmC_5, b_and, b_or, hle, hm1, hgm, hdb, a1, a2, hoc, Int.toNat_natCast, List.length_map]
            exact IH _
          | false =>
            have hoc : (orI l c = c) = False := eq_false (by rw [hq] at hor; exact of_decide_eq_false hor)
            simp (maxSteps := 1000000) (disch := omega) only [yHidesa_r, yHidesa_, ↓axP, axQ, ↓if_true, ↓if_false, ite_true, ite_false, reduceIte, ne_eq, eq_self, Nat.reduceAdd, Nat.reduceSub, Nat.reduceMul, Nat.reduceLeDiff, Nat.reduceEqDiff, Nat.reduceBEq, reduceCtorEq, Int.reduceToNat, Int.reduceLT, Int.reduceLE, Int.reduceEq, Int.reduceAdd, Int.reduceSub, Int.reduceNeg, capnY, appzY, tmC_len, tmC_0, tmC_1, tmC_2, tmC_3, tmC_take, tmC_drop, tmC_one, tmC_ne, hlt, hi, hget, hdp, hw, tmC_4, tmC_5, b_and, b_or, hle, hm1, hgm, hdb, a1, a2, hoc, Int.toNat_natCast, List.length_map]
            exact IH _
        | false =>
          rw [hdd] at hdb
          have hfb : Fine 1000 b.t := fine_le (by omega) _ (deep_fine 40 b.t hdd (hfm b (List.mem_of_getElem? hb)))
          have hl3b := and3 b.l
          generalize hleb : andI b.l 3 = lb at hl3b
          have horb := or_leq c lb hc hl3b
          cases hqb : leqB lb c with
          | true =>
            have hob : (orI lb c = c) = True := eq_true (by rw [hqb] at horb; exact of_decide_eq_true horb)
            obtain ⟨gs1, ms1, gs2, ms2, i, e, j, f, s', t', a1, a2, a3, a4, a5⟩ := hg.both hr (by omega) hft hl3 a.first
            have IH := fun nx => ih (l1 ++ [a]) s' t' nx gs2 ms2 k (by simp [h1]) (by rw [hs]; exact a3.more (by omega)) a4 (by simp at h4; omega)
            rw [hs] at IH
            simp (maxSteps := 1000000) (disch := omega) only [↓axP, axQ, ↓if_true, ↓if_false, ite_true, ite_false, reduceIte, ne_eq, eq_self, Nat.reduceAdd, Nat.reduceSub, Nat.reduceMul, Nat.reduceLeDiff, Nat.reduceEqDiff, Nat.reduceBEq, reduceCtorEq, Int.reduceToNat, Int.reduceLT, Int.reduceLE, Int.reduceEq, Int.reduceAdd, Int.reduceSub, Int.reduceNeg, capnY, appzY] at IH
            cases hq : leqB l c with
            | true =>
              obtain rfl := a5 hq
              have hoc : (orI l c = c) = True := eq_true (by rw [hq] at hor; exact of_decide_eq_true hor)
              simp (maxSteps := 1000000) (disch := omega) only [yHidesa_r, yHidesa_, ↓axP, axQ, ↓if_true, ↓if_false, ite_true, ite_false, reduceIte, ne_eq, eq_self, Nat.reduceAdd, Nat.reduceSub, Nat.reduceMul, Nat.reduceLeDiff, Nat.reduceEqDiff, Nat.reduceBEq, reduceCtorEq, Int.reduceToNat, Int.reduceLT, Int.reduceLE, Int.reduceEq, Int.reduceAdd, Int.reduceSub, Int.reduceNeg, capnY, appzY, tmC_len, tmC_0, tmC_1, tmC_2, tmC_3, tmC_take, tmC_drop, tmC_one, tmC_ne, hlt, hi, hget, hdp, hw, tmC_4, tmC_5, b_and, b_or, hle, hleb, hm1, hgm, hdb, hob, a1, a2, hoc, Int.toNat_natCast, List.length_map]
              exact IH _
            | false =>
              have hoc : (orI l c = c) = False := eq_false (by rw [hq] at hor; exact of_decide_eq_false hor)
              simp (maxSteps := 1000000) (disch := omega) only [yHidesa_r, yHidesa_, ↓axP, axQ, ↓if_true, ↓if_false, ite_true, ite_false, reduceIte, ne_eq, eq_self, Nat.reduceAdd, Nat.reduceSub, Nat.reduceMul, Nat.reduceLeDiff, Nat.reduceEqDiff, Nat.reduceBEq, reduceCtorEq, Int.reduceToNat, Int.reduceLT, Int.reduceLE, Int.reduceEq, Int.reduceAdd, Int.reduceSub, Int.reduceNeg, capnY, appzY, tmC_len, tmC_0, tmC_1, tmC_2, tmC_3, tmC_take, tmC_drop, tmC_one, tmC_ne, hlt, hi, hget, hdp, hw, tmC_4, tmC_5, b_and, b_or, hle, hleb, hm1, hgm, hdb, hob, a1, a2, hoc, Int.toNat_natCast, List.length_map]
              exact IH _
          | false =>
            have hob : (orI lb c = c) = False := eq_false (by rw [hqb] at horb; exact of_decide_eq_false horb)
            obtain ⟨gs0, ms0, z1, z2⟩ := hg.addT (by omega) hfb hl3b b.first
            have hr2 := hr.skip hqb (T := b.t) b.first
            generalize addP t b.t lb b.first = r0 at z1 z2 hr2
            obtain ⟨i0, e0, t0⟩ := r0
            simp only at z1 z2 hr2
            obtain ⟨gs1, ms1, gs2, ms2, i, e, j, f, s', t', a1, a2, a3, a4, a5⟩ := z2.both hr2 (by omega) hft hl3 a.first
            have IH := fun nx => ih (l1 ++ [a]) s' t' nx gs2 ms2 k (by simp [h1]) (by rw [hs]; exact a3.more (by omega)) a4 (by simp at h4; omega)
            rw [hs] at IH
            simp (maxSteps := 1000000) (disch := omega) only [↓axP, axQ, ↓if_true, ↓if_false, ite_true, ite_false, reduceIte, ne_eq, eq_self, Nat.reduceAdd, Nat.reduceSub, Nat.reduceMul, Nat.reduceLeDiff, Nat.reduceEqDiff, Nat.reduceBEq, reduceCtorEq, Int.reduceToNat, Int.reduceLT, Int.reduceLE, Int.reduceEq, Int.reduceAdd, Int.reduceSub, Int.reduceNeg, capnY, appzY] at IH
            cases hq : leqB l c with
            | true =>
              obtain rfl := a5 hq
              have hoc : (orI l c = c) = True := eq_true (by rw [hq] at hor; exact of_decide_eq_true hor)
              simp (maxSteps := 1000000) (disch := omega) only [yHidesa_r, yHidesa_, ↓axP, axQ, ↓if_true, ↓if_false, ite_true, ite_false, reduceIte, ne_eq, eq_self, Nat.reduceAdd, Nat.reduceSub, Nat.reduceMul, Nat.reduceLeDiff, Nat.reduceEqDiff, Nat.reduceBEq, reduceCtorEq, Int.reduceToNat, Int.reduceLT, Int.reduceLE, Int.reduceEq, Int.reduceAdd, Int.reduceSub, Int.reduceNeg, capnY, appzY, tmC_len, tmC_0, tmC_1, tmC_2, tmC_3, tmC_take, tmC_drop, tmC_one, tmC_ne, hlt, hi, hget, hdp, hw, tmC_4, tmC_5, b_and, b_or, hle, hleb, hm1, hgm, hdb, hob, z1, a1, a2, hoc, Int.toNat_natCast, List.length_map]
              exact IH _
            | false =>
              have hoc : (orI l c = c) = False := eq_false (by rw [hq] at hor; exact of_decide_eq_false hor)
              simp (maxSteps := 1000000) (disch := omega) only [yHidesa_r, yHidesa_, ↓axP, axQ, ↓if_true, ↓if_false, ite_true, ite_false, reduceIte, ne_eq, eq_self, Nat.reduceAdd, Nat.reduceSub, Nat.reduceMul, Nat.reduceLeDiff, Nat.reduceEqDiff, Nat.reduceBEq, reduceCtorEq, Int.reduceToNat, Int.reduceLT, Int.reduceLE, Int.reduceEq, Int.reduceAdd, Int.reduceSub, Int.reduceNeg, capnY, appzY, tmC_len, tmC_0, tmC_1, tmC_2, tmC_3, tmC_take, tmC_drop, tmC_one, tmC_ne, hlt, hi, hget, hdp, hw, tmC_4, tmC_5, b_and, b_or, hle, hleb, hm1, hgm, hdb, hob, z1, a1, a2, hoc, Int.toNat_natCast, List.length_map]
              exact IH _
      · have hm1 : ((l1.length : Int) < (mor.length : Int)) = False := eq_false (by omega)
        obtain ⟨gs1, ms1, gs2, ms2, i, e, j, f, s', t', a1, a2, a3, a4, a5⟩ := hg.both hr (by omega) hft hl3 a.first
        have IH := fun nx => ih (l1 ++ [a]) s' t' nx gs2 ms2 k (by simp [h1]) (by rw [hs]; exact a3.more (by omega)) a4 (by simp at h4; omega)
        rw [hs] at IH
        simp (maxSteps := 1000000) (disch := omega) only [↓axP, axQ, ↓if_true, ↓if_false, ite_true, ite_false, reduceIte, ne_eq, eq_self, Nat.reduceAdd, Nat.reduceSub, Nat.reduceMul, Nat.reduceLeDiff, Nat.reduceEqDiff, Nat.reduceBEq, reduceCtorEq, Int.reduceToNat, Int.reduceLT, Int.reduceLE, Int.reduceEq, Int.reduceAdd, Int.reduceSub, Int.reduceNeg, capnY, appzY] at IH
        cases hq : leqB l c with
        | true =>
          obtain rfl := a5 hq
          have hoc : (orI l c = c) = True := eq_true (by rw [hq] at hor; exact of_decide_eq_true hor)
          simp (maxSteps := 1000000) (disch := omega) only [yHidesa_r, yHidesa_, ↓axP, axQ, ↓if_true, ↓if_false, ite_true, ite_false, reduceIte, ne_eq, eq_self, Nat.reduceAdd, Nat.reduceSub, Nat.reduceMul, Nat.reduceLeDiff, Nat.reduceEqDiff, Nat.reduceBEq, reduceCtorEq, Int.reduceToNat, Int.reduceLT, Int.reduceLE, Int.reduceEq, Int.reduceAdd, Int.reduceSub, Int.reduceNeg, capnY, appzY, tmC_len, tmC_0, tmC_1, tmC_2, tmC_3, tmC_take, tmC_drop, tmC_one, tmC_ne, hlt, hi, hget, hdp, hw, tmC_4, tmC_5, b_and, b_or, hle, hm1, a1, a2, hoc, Int.toNat_natCast, List.length_map]
          exact IH _
        | false =>
          have hoc : (orI l c = c) = False := eq_false (by rw [hq] at hor; exact of_decide_eq_false hor)
          simp (maxSteps := 1000000) (disch := omega) only [yHidesa_r, yHidesa_, ↓axP, axQ, ↓if_true, ↓if_false, ite_true, ite_false, reduceIte, ne_eq, eq_self, Nat.reduceAdd, Nat.reduceSub, Nat.reduceMul, Nat.reduceLeDiff, Nat.reduceEqDiff, Nat.reduceBEq, reduceCtorEq, Int.reduceToNat, Int.reduceLT, Int.reduceLE, Int.reduceEq, Int.reduceAdd, Int.reduceSub, Int.reduceNeg, capnY, appzY, tmC_len, tmC_0, tmC_1, tmC_2, tmC_3, tmC_take, tmC_drop, tmC_one, tmC_ne, hlt, hi, hget, hdp, hw, tmC_4, tmC_5, b_and, b_or, hle, hm1, a1, a2, hoc, Int.toNat_natCast, List.length_map]
          exact IH _
end Go.Proofs.YtdekdghldblfaaaGreatDoor
namespace Go.Proofs.YtdekdghldblfaaaGreatDoor
open Go Go.Abs Go.RowKit
set_option linter.unusedVariables false
set_option linter.unusedSimpArgs false
attribute [local congr] on_congr br_congr onf_congr
set_option maxHeartbeats 4000000 in
theorem hib_loop (F0 : Nat) (xs ys : List Cl) (hx : xs.length ≤ 1000000) (he : xs.map strip = ys.map strip) (hxo : ∀ x ∈ xs, (x.hd.good = true ∧ x.bd.good = true) ∧ OkCl x) (gs : Tr Grp) (ms : Tr MapA) : ∀ (x2 x1 y2 y1 : List Cl) (nx F : Nat), xs = x1 ++ x2 → ys = y1 ++ y2 → x1.length = y1.length → x2.length < F →
    ∃ nx', iter (ycode (tcall lsHi) F0 yHidesb) F (mk [(17, .vals 10 (xs.map clC)), (18, .vals 10 (ys.map clC)), (19, .int .i64 x1.length)]) ⟨nx, gs, ms⟩ = some (.exit 2, mk [], ⟨nx', gs, ms⟩) := by
  intro x2
  induction x2 with
  | nil =>
    intro x1 y2 y1 nx F h1 h2 h3 h4
    obtain ⟨k, rfl⟩ := iter_pos (f := fun _ _ => none) (n := F) (by omega)
    rw [List.append_nil] at h1
    subst h1
    have hlt : ((xs.length : Int) < (xs.length : Int)) = False := by simp
    refine ⟨nx, ?_⟩
    rw [iter_one]
    simp (maxSteps := 1000000) (disch := omega) only [yHidesb_r, yHidesb_, ↓axP, axQ, ↓if_true, ↓if_false, ite_true, ite_false, reduceIte, ne_eq, eq_self, Nat.reduceAdd, Nat.reduceSub, Nat.reduceMul, Nat.reduceLeDiff, Nat.reduceEqDiff, Nat.reduceBEq, reduceCtorEq, Int.reduceToNat, Int.reduceLT, Int.reduceLE, Int.reduceEq, Int.reduceAdd, Int.reduceSub, Int.reduceNeg, capnY, appzY, tmC_len, tmC_0, tmC_1, tmC_2, tmC_3, tmC_take, tmC_drop, tmC_one, tmC_ne, hlt, List.length_map]
  | cons c x2 ih =>
    intro x1 y2 y1 nx F h1 h2 h3 h4
    obtain ⟨k, rfl⟩ := iter_pos (f := fun _ _ => none) (n := F) (by omega)
    have hR : x1.length + 1 ≤ 1000000 := by rw [h1] at hx; simp at hx; omega
    have hlt : ((x1.length : Int) < (xs.length : Int)) = True := eq_true (by rw [h1]; simp; omega)
    have hgx : (xs.map clC)[x1.length]? = some (.int .i64 c.id :: .int .u64 c.lab :: (tmC c.hd ++ tmC c.bd)) := by rw [h1]; simp [clC]
    have he' := he
    rw [h1, h2, List.map_append, List.map_append] at he'
    have he2 := (List.append_inj he' (by simp [h3])).2
    cases y2 with
    | nil => simp at he2
    | cons d y2 =>
      simp only [List.map_cons, List.cons.injEq, strip, Prod.mk.injEq] at he2
      obtain ⟨⟨e1, e2, e3⟩, -⟩ := he2
      have hgy : (ys.map clC)[x1.length]? = some (.int .i64 d.id :: .int .u64 c.lab :: (tmC c.hd ++ tmC c.bd)) := by rw [h2, h3, e1, e2, e3]; simp [clC]
      obtain ⟨⟨g1, g2⟩, o1, o2⟩ := hxo c (by rw [h1]; simp)
      have s1 := sameS_eq ⟨g1, o1.2⟩
      have s2 := sameS_eq ⟨g2, o2.2⟩
      have hi : (0 : Int) ≤ (x1.length : Int) := by omega
      have hw : IntKind.i64.wrap ((x1.length : Int) + 1) = (x1.length : Int) + 1 := by rw [wrap_i64] <;> omega
      obtain ⟨nx2, k3⟩ := ih (x1 ++ [c]) y2 (y1 ++ [d]) (nx + 39) k (by simp [h1]) (by simp [h2]) (by simp [h3]) (by simp at h4; omega)
      have hs : (x1 ++ [c]).length = x1.length + 1 := by simp
      rw [hs] at k3
      refine ⟨nx2, ?_⟩
      rw [iter_one]
      simp (maxSteps := 1000000) (disch := omega) only [↓axP, axQ, ↓if_true, ↓if_false, ite_true, ite_false, reduceIte, ne_eq, eq_self, Nat.reduceAdd, Nat.reduceSub, Nat.reduceMul, Nat.reduceLeDiff, Nat.reduceEqDiff, Nat.reduceBEq, reduceCtorEq, Int.reduceToNat, Int.reduceLT, Int.reduceLE, Int.reduceEq, Int.reduceAdd, Int.reduceSub, Int.reduceNeg, capnY, appzY] at k3
      simp (maxSteps := 1000000) (disch := omega) only [yHidesb_r, yHidesb_, ↓axP, axQ, ↓if_true, ↓if_false, ite_true, ite_false, reduceIte, ne_eq, eq_self, Nat.reduceAdd, Nat.reduceSub, Nat.reduceMul, Nat.reduceLeDiff, Nat.reduceEqDiff, Nat.reduceBEq, reduceCtorEq, Int.reduceToNat, Int.reduceLT, Int.reduceLE, Int.reduceEq, Int.reduceAdd, Int.reduceSub, Int.reduceNeg, capnY, appzY, tmC_len, tmC_0, tmC_1, tmC_2, tmC_3, tmC_take, tmC_drop, tmC_one, tmC_ne, hlt, hi, hgx, hgy, hw, s1, s2, Int.toNat_natCast, List.length_map, k3]
set_option maxHeartbeats 4000000 in
theorem hides_run (acs mor : List Ac) (vc : Int) (hlen : acs.length ≤ 9223372036854775807) (hfi : ∀ a ∈ acs, Fine maxLen a.t) (hlm : mor.length ≤ 9223372036854775807) (hfm : ∀ a ∈ mor, Fine maxLen a.t) (H : AH) : ACalls Tryz.prog 3 [.vals 8 (acs.map acC), .vals 8 (mor.map acC), .int .u64 vc] H fun y H' => y = .bool true ∧ H' = H := by
  refine ACalls.ofRun lsHi_ok mixed (draws _ rfl) yHides_ok rfl (by simp [pureL, pureA, pure_acs, acC_len]) 100 ?_ H
  have hml : (acs.map acC).length = acs.length := by simp
  have hmm : (mor.map acC).length = mor.length := by simp
  by_cases q3 : 30 < (acs.length : Int)
  · have q3' : (30 < (acs.length : Int)) = True := eq_true q3
    simp (maxSteps := 1000000) (disch := omega) only [yHides, xinit_3, ↓axP, axQ, ↓if_true, ↓if_false, ite_true, ite_false, reduceIte, ne_eq, eq_self, Nat.reduceAdd, Nat.reduceSub, Nat.reduceMul, Nat.reduceLeDiff, Nat.reduceEqDiff, Nat.reduceBEq, reduceCtorEq, Int.reduceToNat, Int.reduceLT, Int.reduceLE, Int.reduceEq, Int.reduceAdd, Int.reduceSub, Int.reduceNeg, capnY, appzY, tmC_len, tmC_0, tmC_1, tmC_2, tmC_3, tmC_take, tmC_drop, tmC_one, tmC_ne, awake18_eq, hml, q3']
    exact Ans.some (.pure rfl)
  · have q3' : (30 < (acs.length : Int)) = False := eq_false q3
    by_cases q4 : 30 < (mor.length : Int)
    · have q4' : (30 < (mor.length : Int)) = True := eq_true q4
      simp (maxSteps := 1000000) (disch := omega) only [yHides, xinit_3, ↓axP, axQ, ↓if_true, ↓if_false, ite_true, ite_false, reduceIte, ne_eq, eq_self, Nat.reduceAdd, Nat.reduceSub, Nat.reduceMul, Nat.reduceLeDiff, Nat.reduceEqDiff, Nat.reduceBEq, reduceCtorEq, Int.reduceToNat, Int.reduceLT, Int.reduceLE, Int.reduceEq, Int.reduceAdd, Int.reduceSub, Int.reduceNeg, capnY, appzY, tmC_len, tmC_0, tmC_1, tmC_2, tmC_3, tmC_take, tmC_drop, tmC_one, tmC_ne, awake18_eq, hml, hmm, q3', q4']
      exact Ans.some (.pure rfl)
    · have q4' : (30 < (mor.length : Int)) = False := eq_false q4
      have hc := and3 vc
      generalize hce : andI vc 3 = c at hc
      have hm : relH madeR [.int .i64 20] ⟨0, .nil, .nil⟩ = some (.tup [.ptr 0 0 0, .vptr [] 0], ⟨3, (madeH ⟨0, .nil, .nil⟩ 20).gs, (madeH ⟨0, .nil, .nil⟩ 20).ms⟩) := made_eq 20 (by omega) (Tr.get_nil _) (Tr.get_nil _) (Tr.get_nil _)
      have g0 : ∀ nx, Good ⟨nx, (madeH ⟨0, .nil, .nil⟩ 20).gs, (madeH ⟨0, .nil, .nil⟩ 20).ms⟩ 0 (st0 20 0) 0 := fun nx => (good0 ⟨0, .nil, .nil⟩ 20).next (nx0 := 3)
      have f1 : (madeH ⟨0, .nil, .nil⟩ 20).gs.get 3 = none := by
        show (Tr.nil.set 0 _).get 3 = none
        rw [Tr.get_set_ne _ _ (by omega)]; exact Tr.get_nil _
      have f2 : (madeH ⟨0, .nil, .nil⟩ 20).ms.get 4 = none := by
        show ((Tr.nil.set 1 _).set 2 _).get 4 = none
        rw [Tr.get_set_ne _ _ (by omega), Tr.get_set_ne _ _ (by omega)]; exact Tr.get_nil _
      have f3 : (madeH ⟨0, .nil, .nil⟩ 20).ms.get 5 = none := by
        show ((Tr.nil.set 1 _).set 2 _).get 5 = none
        rw [Tr.get_set_ne _ _ (by omega), Tr.get_set_ne _ _ (by omega)]; exact Tr.get_nil _
      generalize (madeH ⟨0, .nil, .nil⟩ 20).gs = gs0 at hm g0 f1
      generalize (madeH ⟨0, .nil, .nil⟩ 20).ms = ms0 at hm g0 f2 f3
      have hm2 : relH madeR [.int .i64 20] ⟨3, gs0, ms0⟩ = some (.tup [.ptr 3 0 0, .vptr [] 0], ⟨6, (madeH ⟨3, gs0, ms0⟩ 20).gs, (madeH ⟨3, gs0, ms0⟩ 20).ms⟩) := made_eq 20 (by omega) f1 f2 f3
      have gT : ∀ nx, Good ⟨nx, (madeH ⟨3, gs0, ms0⟩ 20).gs, (madeH ⟨3, gs0, ms0⟩ 20).ms⟩ 3 (st0 20 3) 0 := fun nx => (good0 ⟨3, gs0, ms0⟩ 20).next (nx0 := 6)
      have gS : ∀ nx, Good ⟨nx, (madeH ⟨3, gs0, ms0⟩ 20).gs, (madeH ⟨3, gs0, ms0⟩ 20).ms⟩ 0 (st0 20 0) 0 := fun nx => (g0 nx).other (by
        show (gs0.set 3 _).get 0 = _
        rw [Tr.get_set_ne _ _ (by omega)]) (by
        show ((ms0.set 4 _).set 5 _).get 1 = _
        rw [Tr.get_set_ne _ _ (by omega), Tr.get_set_ne _ _ (by omega)]; rfl) (by
        show ((ms0.set 4 _).set 5 _).get 2 = _
        rw [Tr.get_set_ne _ _ (by omega), Tr.get_set_ne _ _ (by omega)]; rfl)
      have h2 : Two (madeH ⟨3, gs0, ms0⟩ 20).gs (madeH ⟨3, gs0, ms0⟩ 20).ms (st0 20 0) (st0 20 3) 0 := ⟨gS, gT, sinv0 20 (by omega) 0, sinv0 20 (by omega) 3, fun e he => (by cases he), fun e he => (by cases he), rfl, rfl, rfl, rfl⟩
      generalize (madeH ⟨3, gs0, ms0⟩ 20).gs = gs1 at hm2 h2
      generalize (madeH ⟨3, gs0, ms0⟩ 20).ms = ms1 at hm2 h2
      have ha : acs.length ≤ 30 := by omega
      have hb : mor.length ≤ 30 := by omega
      have hE := hi_loop 100 c hc acs mor ha hb hfi hfm acs [] (st0 20 0) (st0 20 3) 6 gs1 ms1 100 rfl h2 (hr0 c 20 0 3) (by show acs.length < 100; omega)
      simp (maxSteps := 1000000) (disch := omega) only [↓axP, axQ, ↓if_true, ↓if_false, ite_true, ite_false, reduceIte, ne_eq, eq_self, Nat.reduceAdd, Nat.reduceSub, Nat.reduceMul, Nat.reduceLeDiff, Nat.reduceEqDiff, Nat.reduceBEq, reduceCtorEq, Int.reduceToNat, Int.reduceLT, Int.reduceLE, Int.reduceEq, Int.reduceAdd, Int.reduceSub, Int.reduceNeg, capnY, appzY] at hE
      rcases hE with ⟨H', k1⟩ | ⟨s', t', nx, gs, ms, k1, hg, hr⟩
      · simp (maxSteps := 1000000) (disch := omega) only [yHides, xinit_3, ↓axP, axQ, ↓if_true, ↓if_false, ite_true, ite_false, reduceIte, ne_eq, eq_self, Nat.reduceAdd, Nat.reduceSub, Nat.reduceMul, Nat.reduceLeDiff, Nat.reduceEqDiff, Nat.reduceBEq, reduceCtorEq, Int.reduceToNat, Int.reduceLT, Int.reduceLE, Int.reduceEq, Int.reduceAdd, Int.reduceSub, Int.reduceNeg, capnY, appzY, tmC_len, tmC_0, tmC_1, tmC_2, tmC_3, tmC_take, tmC_drop, tmC_one, tmC_ne, awake18_eq, hml, hmm, q3', q4', b_and, hce, hm, hm2, k1]
        exact Ans.some (.pure rfl)
      · have hL := fun nx => (hg.gS 0).list (nx := nx) c
        have hL2 := fun nx => (hg.gT 0).list (nx := nx) c
        have hps : t'.ps = s'.ps := by rw [hg.vs.ps, hg.vt.ps]
        rw [hps] at hL2
        have hst := hr.list s'.ps
        have hll : (listF s' c s'.ps).length = (listF t' c s'.ps).length := by
          have := congrArg List.length hst
          simpa using this
        have l1 := hg.vs.le c
        have hmx : ((listF s' c s'.ps).map clC).length = (listF t' c s'.ps).length := by rw [List.length_map]; exact hll
        have hmy : ((listF t' c s'.ps).map clC).length = (listF t' c s'.ps).length := by rw [List.length_map]
        obtain ⟨nx', k2⟩ := hib_loop 100 (listF s' c s'.ps) (listF t' c s'.ps) (by omega) hst (hg.is.list (hg.gS 0).ok c s'.ps) gs ms (listF s' c s'.ps) [] (listF t' c s'.ps) [] nx 100 rfl rfl rfl (by omega)
        have hne : (((listF t' c s'.ps).length : Int) = ((listF t' c s'.ps).length : Int)) = True := by simp
        simp (maxSteps := 1000000) (disch := omega) only [↓axP, axQ, ↓if_true, ↓if_false, ite_true, ite_false, reduceIte, ne_eq, eq_self, Nat.reduceAdd, Nat.reduceSub, Nat.reduceMul, Nat.reduceLeDiff, Nat.reduceEqDiff, Nat.reduceBEq, reduceCtorEq, Int.reduceToNat, Int.reduceLT, Int.reduceLE, Int.reduceEq, Int.reduceAdd, Int.reduceSub, Int.reduceNeg, capnY, appzY] at k2
        simp (maxSteps := 1000000) (disch := omega) only [yHides, xinit_3, ↓axP, axQ, ↓if_true, ↓if_false, ite_true, ite_false, reduceIte, ne_eq, eq_self, Nat.reduceAdd, Nat.reduceSub, Nat.reduceMul, Nat.reduceLeDiff, Nat.reduceEqDiff, Nat.reduceBEq, reduceCtorEq, Int.reduceToNat, Int.reduceLT, Int.reduceLE, Int.reduceEq, Int.reduceAdd, Int.reduceSub, Int.reduceNeg, capnY, appzY, tmC_len, tmC_0, tmC_1, tmC_2, tmC_3, tmC_take, tmC_drop, tmC_one, tmC_ne, awake18_eq, hml, hmm, q3', q4', b_and, hce, hm, hm2, k1, hL, hL2, hmx, hmy, hne, k2]
        exact Ans.some (.pure rfl)
end Go.Proofs.YtdekdghldblfaaaGreatDoor
namespace Go.Proofs.YtdekdghldblfaaaGreatDoor
open Go Go.Abs Go.ChangeShapes Go.WideShapes Go.ChangeAt Go.RowKit
set_option linter.unusedVariables false
theorem spot_none {w : World} {a : Addr} {v : Value} (h : w.cell? a = some v) : a = ⟨a.block, a.off, none⟩ := by
  obtain ⟨b, o, s⟩ := a
  cases s with
  | none => rfl
  | some n =>
    unfold World.cell? at h
    simp only at h
    split at h
    · simp at h
    · cases h
theorem rows_vr {G : Gh} {b : Nat} : ∀ (ts : List Tm) (o : Nat), (∀ i (hi : i < ts.length), ∃ us : List Value, VRs G (tmC ts[i]) us ∧ ∀ j u, us[j]? = some u → G.M b (o + i * 4 + j) = some u) → VRows G 4 (tmRs ts) b o
  | [], o, h => by simp [tmRs, VRows]
  | t :: ts, o, h => by
    simp only [tmRs, VRows]
    refine ⟨tmC_len t, VRow.of_get fun j x hj => ?_, rows_vr ts (o + 4) fun i hi => ?_⟩
    · obtain ⟨us, h1, h2⟩ := h 0 (by simp)
      obtain ⟨u, h3, h4⟩ := h1.get j x hj
      exact ⟨u, by have := h2 j u h3; simpa using this, h4⟩
    · obtain ⟨us, h1, h2⟩ := h (i + 1) (by simpa using hi)
      exact ⟨us, h1, fun j u hj => by rw [← h2 j u hj]; congr 1; omega⟩
theorem open_vr {H : Type} {enc : TypeId × Value → H} {w : World} {base : Nat} {sp : Nat → Bool} {held : Bool} : ∀ (fuel : Nat) (cs : List Value) (x : DataW H × List MemPlace), DataW.trod enc Tryz.prog w base sp held fuel 32 cs = some x →
    ∃ (t : Tm), VRs (allG w) (tmC t) cs ∧ Fine maxLen t := by
  intro fuel
  induction fuel using Nat.strongRecOn with
  | _ fuel ih =>
    intro cs x h
    obtain ⟨xs, n, rfl, rfl, hl, hlen, hf⟩ := DataW.trod_struct Tryz.underlying32 h
    rw [cellsTerm] at hl
    obtain ⟨c0, c1, c2, c3, rfl⟩ := len_four hl
    obtain ⟨x0, x1, x2, x3, rfl⟩ := len_four (show xs.length = 4 from hlen)
    have q0 := hf 0 _ rfl
    have q1 := hf 1 _ rfl
    have q2 := hf 2 _ rfl
    have q3 := hf 3 _ rfl
    obtain ⟨k, e0, -, wk⟩ := DataW.trod_int Tryz.underlying3 q0
    obtain ⟨m, e1, -, wm⟩ := DataW.trod_int Tryz.underlying2 q1
    obtain ⟨s, e2, -, ws⟩ := DataW.trod_string Tryz.underlying9 q2
    replace e0 : (([c0, c1, c2, c3].drop 0).take (Tryz.prog.cellsOf 3)) = [.int .i64 k] := e0
    rw [cellsInt] at e0
    replace e1 : (([c0, c1, c2, c3].drop 1).take (Tryz.prog.cellsOf 2)) = [.int .i64 m] := e1
    rw [cellsI64] at e1
    replace e2 : (([c0, c1, c2, c3].drop 2).take (Tryz.prog.cellsOf 9)) = [.string s] := e2
    rw [cellsString] at e2
    cases e0; cases e1; cases e2
    rcases DataW.trod_slice Tryz.underlying30 q3 with ⟨e3, -⟩ | ⟨a, len, cap, elems, rest, n2, hn2, e3, -, -, hlc, hcm, hel, hall, -, -⟩
    · replace e3 : (([Value.int .i64 k, .int .i64 m, .string s, c3].drop 3).take (Tryz.prog.cellsOf 30)) = [.slice none 0 0] := e3
      rw [cellsTerms] at e3
      cases e3
      refine ⟨.mk k m s.data.toList [], ?_, .mk _ _ _ _ (wf_i64 wk) (wf_i64 wm) (name_len ws) (Nat.zero_le _) (fun x hx => by cases hx)⟩
      simp only [tmC, tmRs, VRs, VR]
      exact ⟨_, _, rfl, rfl, _, _, rfl, rfl, _, _, rfl, by rw [bytes_list s], _, _, rfl, ⟨none, 0, rfl, Nat.le_refl _, .inl trivial⟩, rfl⟩
    · replace e3 : (([Value.int .i64 k, .int .i64 m, .string s, c3].drop 3).take (Tryz.prog.cellsOf 30)) = [.slice (some a) len cap] := e3
      rw [cellsTerms] at e3
      cases e3
      have each : ∀ i, ∃ p : Tm × List Value, i < len → (VRs (allG w) (tmC p.1) p.2 ∧ (∀ j u, p.2[j]? = some u → w.cell? (a.add (i * 4 + j)) = some u) ∧ (∀ u ∈ p.2, u.oneCell' = true) ∧ Fine maxLen p.1 ∧ p.2.length = 4) := by
        intro i
        by_cases hi : i < len
        · have h1 := hall i hi
          have hi' : i < elems.length := by omega
          rw [List.getElem?_eq_getElem hi', cellsTerm, Option.bind_eq_some_iff] at h1
          obtain ⟨cs', hc, ht⟩ := h1
          obtain ⟨t', hv, hfi⟩ := ih n2 (by omega) cs' _ ht
          obtain ⟨-, hcl, hcell⟩ := World.cells?_some hc
          refine ⟨(t', cs'), fun _ => ⟨hv, fun j u hj => ?_, fun u hu => ?_, hfi, hcl⟩⟩
          · have hj4 : j < 4 := by rw [← hcl]; exact (List.getElem?_eq_some_iff.1 hj).1
            have := hcell j hj4
            rw [Addr.add_add] at this
            rw [this]; exact hj
          · rw [tmC_eq] at hv
            simp only [VRs, VR] at hv
            obtain ⟨_, _, rfl, rfl, _, _, rfl, rfl, _, _, rfl, rfl, _, _, rfl, ⟨_, _, rfl, _⟩, rfl⟩ := hv
            simp only [List.mem_cons, List.not_mem_nil, or_false] at hu
            rcases hu with rfl | rfl | rfl | rfl <;> rfl
        · exact ⟨(.mk 0 0 [] [], []), fun h => absurd h hi⟩
      obtain ⟨F, hF⟩ := Classical.axiomOfChoice each
      have hln : ((List.range len).map fun i => (F i).1).length = len := by simp
      have hgi : ∀ i (hi : i < ((List.range len).map fun i => (F i).1).length), ((List.range len).map fun i => (F i).1)[i] = (F i).1 := by intro i hi; simp
      refine ⟨.mk k m s.data.toList ((List.range len).map fun i => (F i).1), ?_, .mk _ _ _ _ (wf_i64 wk) (wf_i64 wm) (name_len ws) (by rw [hln]; omega) (fun x hx => by
        obtain ⟨i, hi, rfl⟩ := List.mem_map.1 hx
        exact (hF i (List.mem_range.1 hi)).2.2.2.1)⟩
      have hrl : (tmRs ((List.range len).map fun i => (F i).1)).length = len := by rw [tmRs_map]; simp
      simp only [tmC, VRs, VR]
      refine ⟨_, _, rfl, rfl, _, _, rfl, rfl, _, _, rfl, by rw [bytes_list s], _, _, rfl, ⟨some a, cap, by rw [hrl], by rw [hrl]; exact hlc, ?_⟩, rfl⟩
      by_cases h0 : len = 0
      · left; subst h0; rfl
      · right
        have a0 : w.cell? (a.add (0 * 4 + 0)) = some ((F 0).2[0]'(by rw [(hF 0 (by omega)).2.2.2.2]; omega)) := (hF 0 (by omega)).2.1 0 _ (List.getElem?_eq_getElem _)
        rw [show a.add (0 * 4 + 0) = a from by unfold Addr.add; rfl] at a0
        have hsp := spot_none a0
        refine ⟨a.block, a.off, by rw [← hsp], rows_vr _ _ fun i hi => ?_⟩
        rw [hln] at hi
        obtain ⟨q1, q2, q3, q4, q5⟩ := hF i hi
        refine ⟨(F i).2, by rw [hgi i (by rw [hln]; exact hi)]; exact q1, fun j u hj => ?_⟩
        have := q2 j u hj
        rw [hsp, addr_add] at this
        refine allG_cell ?_ (q3 u (List.mem_of_getElem? hj))
        rw [Nat.add_assoc]; exact this
end Go.Proofs.YtdekdghldblfaaaGreatDoor
namespace Go.Proofs.YtdekdghldblfaaaGreatDoor
open Go Go.Abs Go.ChangeShapes Go.WideShapes Go.ChangeAt Go.RowKit
set_option linter.unusedVariables false
theorem cellsAct : Tryz.prog.cellsOf 34 = 8 := by kernel_rfl
theorem cellsU64 : Tryz.prog.cellsOf 23 = 1 := by kernel_rfl
theorem cellsBool : Tryz.prog.cellsOf 4 = 1 := by kernel_rfl
theorem len_eight {α : Type} {l : List α} (h : l.length = 8) : ∃ a b c d e f g k, l = [a, b, c, d, e, f, g, k] := by
  match l, h with
  | [a, b, c, d, e, f, g, k], _ => exact ⟨a, b, c, d, e, f, g, k, rfl⟩
theorem len_five {α : Type} {l : List α} (h : l.length = 5) : ∃ a b c d e, l = [a, b, c, d, e] := by
  match l, h with
  | [a, b, c, d, e], _ => exact ⟨a, b, c, d, e, rfl⟩
set_option maxRecDepth 100000 in
theorem open_act {H : Type} {enc : TypeId × Value → H} {w : World} {base : Nat} {sp : Nat → Bool} {held : Bool} (fuel : Nat) (cs : List Value) (x : DataW H × List MemPlace) (h : DataW.trod enc Tryz.prog w base sp held fuel 34 cs = some x) :
    ∃ a : Ac, VRs (allG w) (acC a) cs ∧ Fine maxLen a.t ∧ (∀ u ∈ cs, u.oneCell' = true) ∧ cs.length = 8 := by
  obtain ⟨xs, n, rfl, rfl, hl, hlen, hf⟩ := DataW.trod_struct Tryz.underlying34 h
  rw [cellsAct] at hl
  obtain ⟨c0, c1, c2, c3, c4, c5, c6, c7, rfl⟩ := len_eight hl
  obtain ⟨x0, x1, x2, x3, x4, rfl⟩ := len_five (show xs.length = 5 from hlen)
  have q0 := hf 0 _ rfl
  have q1 := hf 1 _ rfl
  have q2 := hf 2 _ rfl
  have q3 := hf 3 _ rfl
  have q4 := hf 4 _ rfl
  obtain ⟨k, e0, -, wk⟩ := DataW.trod_int Tryz.underlying3 q0
  obtain ⟨m, e1, -, wm⟩ := DataW.trod_int Tryz.underlying3 q1
  obtain ⟨t, ht, hft⟩ := open_vr _ _ _ q2
  obtain ⟨l, e3, -, wl⟩ := DataW.trod_int Tryz.underlying23 q3
  obtain ⟨b, e4, -⟩ := DataW.trod_bool Tryz.underlying4 q4
  replace e0 : (([c0, c1, c2, c3, c4, c5, c6, c7].drop 0).take (Tryz.prog.cellsOf 3)) = [.int .i64 k] := e0
  rw [cellsInt] at e0
  replace e1 : (([c0, c1, c2, c3, c4, c5, c6, c7].drop 1).take (Tryz.prog.cellsOf 3)) = [.int .i64 m] := e1
  rw [cellsInt] at e1
  replace ht : VRs (allG w) (tmC t) (([c0, c1, c2, c3, c4, c5, c6, c7].drop 2).take (Tryz.prog.cellsOf 32)) := ht
  rw [cellsTerm] at ht
  replace ht : VRs (allG w) (tmC t) [c2, c3, c4, c5] := ht
  replace e3 : (([c0, c1, c2, c3, c4, c5, c6, c7].drop 6).take (Tryz.prog.cellsOf 23)) = [.int .u64 l] := e3
  rw [cellsU64] at e3
  replace e4 : (([c0, c1, c2, c3, c4, c5, c6, c7].drop 7).take (Tryz.prog.cellsOf 4)) = [.bool b] := e4
  rw [cellsBool] at e4
  cases e0; cases e1; cases e3; cases e4
  have one : ∀ u ∈ [c2, c3, c4, c5], u.oneCell' = true := by
    intro u hu
    rw [tmC_eq] at ht
    simp only [VRs, VR] at ht
    obtain ⟨_, _, h0, rfl, _, _, h1, rfl, _, _, h2, rfl, _, _, h3, ⟨_, _, rfl, _⟩, rfl⟩ := ht
    cases h0; cases h1; cases h2; cases h3
    simp only [List.mem_cons, List.not_mem_nil, or_false] at hu
    rcases hu with rfl | rfl | rfl | rfl <;> rfl
  refine ⟨⟨k, m, t, l, b⟩, ?_, hft, fun u hu => ?_, rfl⟩
  · show VRs (allG w) (.int .i64 k :: .int .i64 m :: (tmC t ++ [.int .u64 l, .bool b])) _
    rw [tmC_eq] at ht ⊢
    simp only [VRs, VR, List.cons_append, List.nil_append] at ht ⊢
    obtain ⟨u0, r0, h0, g0, u1, r1, h1, g1, u2, r2, h2, g2, u3, r3, h3, g3, h4⟩ := ht
    cases h0; cases h1; cases h2; cases h3
    exact ⟨_, _, rfl, rfl, _, _, rfl, rfl, _, _, rfl, g0, _, _, rfl, g1, _, _, rfl, g2, _, _, rfl, g3, _, _, rfl, rfl, _, _, rfl, rfl, rfl⟩
  · simp only [List.mem_cons, List.not_mem_nil, or_false] at hu
    rcases hu with rfl | rfl | rfl | rfl | rfl | rfl | rfl | rfl
    · rfl
    · rfl
    · exact one _ (by simp)
    · exact one _ (by simp)
    · exact one _ (by simp)
    · exact one _ (by simp)
    · rfl
    · rfl
theorem acts_vr {G : Gh} {b : Nat} : ∀ (ts : List Ac) (o : Nat), (∀ i (hi : i < ts.length), ∃ us : List Value, VRs G (acC ts[i]) us ∧ ∀ j u, us[j]? = some u → G.M b (o + i * 8 + j) = some u) → VRows G 8 (ts.map acC) b o
  | [], o, h => by simp [VRows]
  | t :: ts, o, h => by
    simp only [List.map_cons, VRows]
    refine ⟨acC_len t, VRow.of_get fun j x hj => ?_, acts_vr ts (o + 8) fun i hi => ?_⟩
    · obtain ⟨us, h1, h2⟩ := h 0 (by simp)
      obtain ⟨u, h3, h4⟩ := h1.get j x hj
      exact ⟨u, by have := h2 j u h3; simpa using this, h4⟩
    · obtain ⟨us, h1, h2⟩ := h (i + 1) (by simpa using hi)
      exact ⟨us, h1, fun j u hj => by rw [← h2 j u hj]; congr 1; omega⟩
set_option maxRecDepth 100000 in
theorem open_acts {H : Type} {enc : TypeId × Value → H} {w : World} {r : Reach} {b0 base : Nat} {sp : Nat → Bool} {held : Bool} {v : Value} {d : DataW H} {ps : List MemPlace} (hval : Value.okWide Tryz.prog w r b0 22 v) (hd : DataW.Trod enc Tryz.prog w base sp held 22 v d ps) :
    ∃ acs : List Ac, VR (allG w) (.vals 8 (acs.map acC)) v ∧ (∀ a ∈ acs, Fine maxLen a.t) ∧ acs.length ≤ 9223372036854775807 := by
  obtain ⟨fuel, hf⟩ := hd
  have hu := Tryz.underlying22
  obtain ⟨a, len, cap, rfl⟩ : ∃ a len cap, v = .slice a len cap := by
    generalize Tryz.prog = PP at hval hu
    exact okWide_slice hu hval
  have e : (Value.slice a len cap).cells.toList = [.slice a len cap] := by simp only [Value.cells]
  rw [e] at hf
  rcases DataW.trod_slice hu hf with ⟨e3, -⟩ | ⟨a', len', cap', elems, rest, n2, hn2, e3, -, -, hlc, hcm, hel, hall, -, -⟩
  · cases e3
    refine ⟨[], ?_, fun a ha => by (cases ha), by simp⟩
    simp only [VR, List.map_nil]
    exact ⟨none, 0, rfl, Nat.le_refl _, .inl trivial⟩
  · cases e3
    have each : ∀ i, ∃ p : Ac × List Value, i < len → (VRs (allG w) (acC p.1) p.2 ∧ (∀ j u, p.2[j]? = some u → w.cell? (a'.add (i * 8 + j)) = some u) ∧ (∀ u ∈ p.2, u.oneCell' = true) ∧ Fine maxLen p.1.t ∧ p.2.length = 8) := by
      intro i
      by_cases hi : i < len
      · have h1 := hall i hi
        have hi' : i < elems.length := by omega
        rw [List.getElem?_eq_getElem hi', cellsAct, Option.bind_eq_some_iff] at h1
        obtain ⟨cs', hc, ht⟩ := h1
        obtain ⟨t', hv, hfi, hone, hl8⟩ := open_act n2 cs' _ ht
        obtain ⟨-, hcl, hcell⟩ := World.cells?_some hc
        refine ⟨(t', cs'), fun _ => ⟨hv, fun j u hj => ?_, hone, hfi, hl8⟩⟩
        have hj8 : j < 8 := by rw [← hcl]; exact (List.getElem?_eq_some_iff.1 hj).1
        have := hcell j hj8
        rw [Addr.add_add] at this
        rw [this]; exact hj
      · exact ⟨(⟨0, 0, .mk 0 0 [] [], 0, false⟩, []), fun h => absurd h hi⟩
    obtain ⟨F, hF⟩ := Classical.axiomOfChoice each
    have hln : ((List.range len).map fun i => (F i).1).length = len := by simp
    have hgi : ∀ i (hi : i < ((List.range len).map fun i => (F i).1).length), ((List.range len).map fun i => (F i).1)[i] = (F i).1 := by intro i hi; simp
    refine ⟨(List.range len).map fun i => (F i).1, ?_, fun x hx => ?_, by rw [hln]; unfold maxLen at hcm; omega⟩
    · have hrl : (((List.range len).map fun i => (F i).1).map acC).length = len := by simp
      simp only [VR]
      refine ⟨some a', cap, by rw [hrl], by rw [hrl]; exact hlc, ?_⟩
      by_cases h0 : len = 0
      · left; subst h0; rfl
      · right
        have a0 : w.cell? (a'.add (0 * 8 + 0)) = some ((F 0).2[0]'(by rw [(hF 0 (by omega)).2.2.2.2]; omega)) := (hF 0 (by omega)).2.1 0 _ (List.getElem?_eq_getElem _)
        rw [show a'.add (0 * 8 + 0) = a' from by unfold Addr.add; rfl] at a0
        have hsp := spot_none a0
        refine ⟨a'.block, a'.off, by rw [← hsp], acts_vr _ _ fun i hi => ?_⟩
        rw [hln] at hi
        obtain ⟨q1, q2, q3, q4, q5⟩ := hF i hi
        refine ⟨(F i).2, by rw [hgi i (by rw [hln]; exact hi)]; exact q1, fun j u hj => ?_⟩
        have := q2 j u hj
        rw [hsp, addr_add] at this
        refine allG_cell ?_ (q3 u (List.mem_of_getElem? hj))
        rw [Nat.add_assoc]; exact this
    · obtain ⟨i, hi, rfl⟩ := List.mem_map.1 hx
      exact (hF i (List.mem_range.1 hi)).2.2.2.1
/-- The last call of a law. -/
theorem law_callsG {P : Program} {f : FuncId} {args : List AV} {w : World} {vs : Array Value} (h : ∀ H, ACalls P f args H fun y H' => y = .bool true ∧ H' = H) (hv : VRs (allG w) args vs.toList) (gl : Glob w w.heap.size) :
    Calls P f vs w fun e w' => e = .returned (.bool true) ∧ Below w.heap.size w w' :=
  (h AH.empty _ _ vs w (allG_rel w gl) hv).mono fun e w' ⟨u, x', G', H', k1, k2, k3, k4, k5, k6⟩ => by
    subst k5
    simp only [VR] at k4
    subst k4
    exact ⟨k1, k3.below⟩
end Go.Proofs.YtdekdghldblfaaaGreatDoor
