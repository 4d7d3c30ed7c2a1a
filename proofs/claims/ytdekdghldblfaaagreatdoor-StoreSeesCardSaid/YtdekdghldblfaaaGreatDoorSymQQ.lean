/- 'sizarlaw18.StoreQuota': true at every input.   'sizarlaw18.StoreQuota': true at every input.   Labels as bits; who may see more; walking along a list.   'sizarlaw18.StoreSees': true at every input.   A term that came in, as a value that stands for good.   Acts that came in, as rows that stand for good. -/
import Derived.Test.YtdekdghldblfaaaGreatDoorSymWW
import Derived.Test.YtdekdghldblfaaaGreatDoorSymA
namespace Go.Proofs.YtdekdghldblfaaaGreatDoor
open Go Go.Abs Go.RowKit
set_option linter.unusedVariables false
set_option linter.unusedSimpArgs false
attribute [local congr] on_congr br_congr onf_congr
/-- An Add(T, L, First), or (Op 1) a Drop(ID). -/
structure Ac where
  op : Int
  id : Int
  t : Tm
  l : Int
  first : Bool
def acC (a : Ac) : List AV := .int .i64 a.op :: .int .i64 a.id :: (tmC a.t ++ [.int .u64 a.l, .bool a.first])
theorem acC_len (a : Ac) : (acC a).length = 8 := by simp [acC, tmC_len]
theorem pure_acs (l : List Ac) : pureR (l.map acC) = true := by
  rw [pureR_all]
  intro r hr
  simp only [List.mem_map] at hr
  obtain ⟨a, -, rfl⟩ := hr
  rw [pureL_all]
  intro x hx
  simp only [acC, List.mem_cons, List.mem_append, List.not_mem_nil, or_false] at hx
  rcases hx with rfl | rfl | hx | rfl | rfl
  · rfl
  · rfl
  · exact (pureL_all _).1 (pure_tmC a.t) x hx
  · rfl
  · rfl
theorem tmC_4 (t : Tm) (x : AV) (xs : List AV) : (tmC t ++ x :: xs)[4]? = some x := by
  rw [List.getElem?_append_right (by rw [tmC_len]; omega), tmC_len]; rfl
theorem tmC_5 (t : Tm) (x y : AV) (xs : List AV) : (tmC t ++ x :: y :: xs)[5]? = some y := by
  rw [List.getElem?_append_right (by rw [tmC_len]; omega), tmC_len]; rfl
theorem and3 (x : Int) : 0 ≤ andI x 3 ∧ andI x 3 < 4 := by
  unfold andI
  have h : (BitVec.ofInt 64 x &&& BitVec.ofInt 64 3).toNat ≤ 3 := by
    rw [BitVec.toNat_and]
    exact Nat.le_trans Nat.and_le_right (by decide)
  generalize (BitVec.ofInt 64 x &&& BitVec.ofInt 64 3).toNat = n at h
  have : n = 0 ∨ n = 1 ∨ n = 2 ∨ n = 3 := by omega
  rcases this with rfl | rfl | rfl | rfl <;> decide
/-- What holds of memory behind some Adds. -/
def QJ (q : Int) (H : AH) (s : St) (k : Nat) : Prop := Good H 0 s k ∧ SInv s q ∧ H.gs.get 3 = some ⟨0, 0, [.int .i64 (cntOf s 0), .int .i64 (cntOf s 1), .int .i64 (cntOf s 2), .int .i64 (cntOf s 3)]⟩
def QuEnd (q : Int) (n : Nat) (r : XR) : Prop := (∃ H', r = some (.ret, mk [(4, .bool true)], H')) ∨ (∃ s' nx gs ms, r = some (.exit 0, mk [(5, .ptr 0 0 0), (7, .ptr 3 0 0)], ⟨nx, gs, ms⟩) ∧ QJ q ⟨nx, gs, ms⟩ s' n)
theorem QuEnd_congr {q : Int} {n : Nat} {r r' : XR} (h : r = r') : QuEnd q n r = QuEnd q n r' := by rw [h]
attribute [local congr] QuEnd_congr
theorem Good.list {nx0 nx g k : Nat} {gs : Tr Grp} {ms : Tr MapA} {s : St} (h : Good ⟨nx0, gs, ms⟩ g s k) (cl : Int) : relH (readR listQ) [.ptr g 0 0, .int .u64 cl] ⟨nx, gs, ms⟩ = some (.vals 10 ((listF s cl s.ps).map clC), ⟨nx, gs, ms⟩) :=
  readR_eq listQ_one ⟨g, s, cl, rfl, h.at'.move rfl rfl, h.ok, rfl⟩
theorem Good.set {nx g k g' : Nat} {gs : Tr Grp} {ms : Tr MapA} {s : St} {r : Grp} (h : Good ⟨nx, gs, ms⟩ g s k) (hg : g ≠ g') : Good ⟨nx, gs.set g' r, ms⟩ g s k := ⟨h.at'.move (Tr.get_set_ne _ _ hg) rfl, h.ok, h.full, h.la⟩
end Go.Proofs.YtdekdghldblfaaaGreatDoor
namespace Go.Proofs.YtdekdghldblfaaaGreatDoor
open Go Go.Abs Go.RowKit
set_option linter.unusedVariables false
set_option linter.unusedSimpArgs false
attribute [local congr] on_congr br_congr onf_congr
theorem leq3 {l : Int} (h : 0 ≤ l ∧ l < 4) : leqB l 3 = true := by
  have : l = 0 ∨ l = 1 ∨ l = 2 ∨ l = 3 := by omega
  rcases this with rfl | rfl | rfl | rfl <;> decide
theorem SInv.all {s : St} {q : Int} (h : SInv s q) (nm : List UInt8) (ar : Int) : viewF s nm ar 3 = clsOf s nm ar := by
  unfold viewF
  rw [List.filter_eq_self]
  intro c hc
  unfold clsOf at hc
  cases hlk : lookG (nm, ar) s.m with
  | none => rw [hlk] at hc; cases hc
  | some v =>
    rw [hlk] at hc
    obtain ⟨e', k1, k2, k3⟩ := look_mem hlk
    subst k3
    exact leq3 (h.lab e' k1 c hc)
theorem SInv.len {s : St} {q : Int} (h : SInv s q) : ((listF s 3 s.ps).length : Int) = cntOf s 0 + cntOf s 1 + cntOf s 2 + cntOf s 3 := by
  rw [← h.tot, h.ps]
  simp only [listF, preds3, List.flatMap_cons, List.flatMap_nil, List.append_nil, List.length_append, h.all]
  omega
end Go.Proofs.YtdekdghldblfaaaGreatDoor
namespace Go.Proofs.YtdekdghldblfaaaGreatDoor
open Go Go.Abs Go.RowKit
set_option linter.unusedVariables false
set_option linter.unusedSimpArgs false
theorem wrap_bv (x : BitVec 64) : IntKind.u64.wrap (x.toNat : Nat) = (x.toNat : Int) := by
  have h : IntKind.u64.wrap ((x.toNat : Nat) : Int) = ((x.toNat : Nat) : Int) % 18446744073709551616 := by simp [IntKind.wrap, IntKind.bits, IntKind.signed]
  rw [h]
  have := x.isLt
  omega
theorem of_bv (x : BitVec 64) : BitVec.ofInt 64 (x.toNat : Int) = x := by
  rw [BitVec.ofInt_natCast]; simp
theorem bv_and (a b : Int) : BitVec.ofInt 64 (andI a b) = BitVec.ofInt 64 a &&& BitVec.ofInt 64 b := by
  unfold andI
  rw [wrap_bv, of_bv]
theorem leqB_iff (a b : Int) : leqB a b = true ↔ BitVec.ofInt 64 a &&& ~~~BitVec.ofInt 64 b = 0#64 := by
  unfold leqB anotI
  rw [wrap_bv, decide_eq_true_iff]
  constructor
  · intro h
    apply BitVec.eq_of_toNat_eq
    simpa using h
  · intro h
    rw [h]; rfl
theorem leqB_trans {a b c : Int} (h : leqB a b = true) (k : leqB b c = true) : leqB a c = true := by
  rw [leqB_iff] at *
  apply BitVec.eq_of_getLsbD_eq
  intro i hi
  have h1 := congrArg (fun x => x.getLsbD i) h
  have h2 := congrArg (fun x => x.getLsbD i) k
  simp [hi] at h1 h2 ⊢
  cases ha : (BitVec.ofInt 64 a).getLsbD i <;> cases hb : (BitVec.ofInt 64 b).getLsbD i <;> cases hc : (BitVec.ofInt 64 c).getLsbD i <;> simp_all
theorem leqB_meet (a b : Int) : leqB (andI (andI a b) 3) (andI b 3) = true := by
  rw [leqB_iff, bv_and, bv_and, bv_and]
  apply BitVec.eq_of_getLsbD_eq
  intro i hi
  simp only [BitVec.getLsbD_and, BitVec.getLsbD_not, hi, decide_true, Bool.true_and, BitVec.getLsbD_zero]
  cases (BitVec.ofInt 64 a).getLsbD i <;> cases (BitVec.ofInt 64 b).getLsbD i <;> cases (BitVec.ofInt 64 3).getLsbD i <;> rfl
theorem filter_sub {α : Type} {p q : α → Bool} (h : ∀ x, p x = true → q x = true) : ∀ l : List α, (l.filter p).Sublist (l.filter q)
  | [] => List.Sublist.refl _
  | x :: l => by
    have ih := filter_sub h l
    cases hp : p x with
    | true =>
      rw [List.filter_cons_of_pos hp, List.filter_cons_of_pos (h x hp)]
      exact ih.cons_cons x
    | false =>
      rw [List.filter_cons_of_neg (by simp [hp])]
      cases hq : q x with
      | true => rw [List.filter_cons_of_pos hq]; exact ih.cons x
      | false => rw [List.filter_cons_of_neg (by simp [hq])]; exact ih
theorem list_sub (s : St) {c1 c2 : Int} (h : leqB c1 c2 = true) : ∀ ps : List Pr, (listF s c1 ps).Sublist (listF s c2 ps)
  | [] => List.Sublist.refl _
  | p :: ps => by
    have e : ∀ c, listF s c (p :: ps) = viewF s p.nm p.ar c ++ listF s c ps := fun c => by simp [listF]
    rw [e, e]
    exact (filter_sub (fun x hx => leqB_trans hx h) _).append (list_sub s h ps)
theorem list_lab (s : St) (c : Int) : ∀ ps : List Pr, ∀ x ∈ listF s c ps, leqB x.lab c = true
  | [], x, h => by simp [listF] at h
  | p :: ps, x, h => by
    have e : listF s c (p :: ps) = viewF s p.nm p.ar c ++ listF s c ps := by simp [listF]
    rw [e, List.mem_append] at h
    rcases h with h | h
    · exact (List.mem_filter.1 h).2
    · exact list_lab s c ps x h
/-- Behind those of other numbers stands the first of this one. -/
theorem drop_sub {α : Type} {f : α → Int} {a : Int} {u : List Int} : ∀ {l : List α}, (a :: u).Sublist (l.map f) → ∃ d r, l.dropWhile (fun x => !decide (f x = a)) = d :: r ∧ f d = a ∧ (a :: u).Sublist ((d :: r).map f)
  | [], h => by simp at h
  | x :: l, h => by
    by_cases hx : f x = a
    · exact ⟨x, l, by simp [hx], hx, h⟩
    · rw [List.map_cons] at h
      cases h with
      | cons _ h =>
        obtain ⟨d, r, h1, h2, h3⟩ := drop_sub h
        exact ⟨d, r, by simp [hx, h1], h2, h3⟩
      | cons_cons _ h => exact absurd rfl hx
end Go.Proofs.YtdekdghldblfaaaGreatDoor
namespace Go.Proofs.YtdekdghldblfaaaGreatDoor
open Go Go.Abs Go.RowKit
set_option linter.unusedVariables false
set_option linter.unusedSimpArgs false
attribute [local congr] on_congr br_congr onf_congr
def SeEnd (a b : Int) (r : XR) : Prop := (∃ H', r = some (.ret, mk [(6, .bool true)], H')) ∨ (∃ s' nx gs ms, r = some (.exit 0, mk [(1, .int .u64 a), (2, .int .u64 b), (7, .ptr 0 0 0)], ⟨nx, gs, ms⟩) ∧ Good ⟨nx, gs, ms⟩ 0 s' 30 ∧ SInv s' 20)
theorem SeEnd_congr {a b : Int} {r r' : XR} (h : r = r') : SeEnd a b r = SeEnd a b r' := by rw [h]
attribute [local congr] SeEnd_congr
noncomputable abbrev lsSe : List (FuncId × (List AV → AH → Option (AV × AH))) := [(9, pureF awakeS18), (10, relH madeR), (11, pureF (deepS 40)), (12, relH addR), (13, relH (readR listQ)), (15, pureF leqS)]
theorem lsSe_ok : ∀ e ∈ lsSe, HookOne Tryz.prog e.1 e.2 := by
  intro e he
  simp only [lsSe, List.mem_cons, List.not_mem_nil, or_false] at he
  rcases he with rfl | rfl | rfl | rfl | rfl | rfl
  · exact awake18_one
  · exact made_one
  · exact deep_any18 40
  · exact add_one
  · exact list_one
  · exact leq_one
set_option maxHeartbeats 4000000 in
theorem se_loop (F0 : Nat) (va vb : Int) (acs : List Ac) (hlen : acs.length ≤ 30) (hfi : ∀ a ∈ acs, Fine maxLen a.t) : ∀ (l2 l1 : List Ac) (s : St) (nx : Nat) (gs : Tr Grp) (ms : Tr MapA) (F : Nat), acs = l1 ++ l2 → Good ⟨nx, gs, ms⟩ 0 s l1.length → SInv s 20 → l2.length < F →
    SeEnd va vb (iter (ycode (tcall lsSe) F0 ySeesa) F (mk [(0, .vals 8 (acs.map acC)), (1, .int .u64 va), (2, .int .u64 vb), (7, .ptr 0 0 0), (9, .int .i64 l1.length)]) ⟨nx, gs, ms⟩) := by
  intro l2
  induction l2 with
  | nil =>
    intro l1 s nx gs ms F h1 hg hv h4
    obtain ⟨k, rfl⟩ := iter_pos (f := fun _ _ => none) (n := F) (by omega)
    rw [List.append_nil] at h1
    subst h1
    have hlt : ((acs.length : Int) < (acs.length : Int)) = False := by simp
    rw [iter_one]
    simp (maxSteps := 1000000) (disch := omega) only [ySeesa_r, ySeesa_, ↓axP, axQ, ↓if_true, ↓if_false, ite_true, ite_false, reduceIte, ne_eq, eq_self, Nat.reduceAdd, Nat.reduceSub, Nat.reduceMul, Nat.reduceLeDiff, Nat.reduceEqDiff, Nat.reduceBEq, reduceCtorEq, Int.reduceToNat, Int.reduceLT, Int.reduceLE, Int.reduceEq, Int.reduceAdd, Int.reduceSub, Int.reduceNeg, capnY, appzY, tmC_len, tmC_0, tmC_1, tmC_2, tmC_3, tmC_take, tmC_drop, tmC_one, tmC_ne, hlt, List.length_map]
    exact .inr ⟨s, nx, gs, ms, rfl, ⟨hg.at', hg.ok, hg.full, by have := hg.la; omega⟩, hv⟩
  | cons a l2 ih =>
    intro l1 s nx gs ms F h1 hg hv h4
    obtain ⟨k, rfl⟩ := iter_pos (f := fun _ _ => none) (n := F) (by omega)
    have hR : l1.length + 1 ≤ 30 := by rw [h1] at hlen; simp at hlen; omega
    have hlt : ((l1.length : Int) < (acs.length : Int)) = True := eq_true (by rw [h1]; simp; omega)
    have hget : (acs.map acC)[l1.length]? = some (.int .i64 a.op :: .int .i64 a.id :: (tmC a.t ++ [.int .u64 a.l, .bool a.first])) := by rw [h1]; simp [acC]
    have hi : (0 : Int) ≤ (l1.length : Int) := by omega
    have hw : IntKind.i64.wrap ((l1.length : Int) + 1) = (l1.length : Int) + 1 := by rw [wrap_i64] <;> omega
    have hdp := deepS_eq (m := 40) (n := 40) (t := a.t) ⟨rfl, by omega⟩
    rw [iter_one]
    cases hd : deepP 40 a.t with
    | true =>
      rw [hd] at hdp
      simp (maxSteps := 1000000) (disch := omega) only [ySeesa_r, ySeesa_, ↓axP, axQ, ↓if_true, ↓if_false, ite_true, ite_false, reduceIte, ne_eq, eq_self, Nat.reduceAdd, Nat.reduceSub, Nat.reduceMul, Nat.reduceLeDiff, Nat.reduceEqDiff, Nat.reduceBEq, reduceCtorEq, Int.reduceToNat, Int.reduceLT, Int.reduceLE, Int.reduceEq, Int.reduceAdd, Int.reduceSub, Int.reduceNeg, capnY, appzY, tmC_len, tmC_0, tmC_1, tmC_2, tmC_3, tmC_take, tmC_drop, tmC_one, tmC_ne, hlt, hi, hget, hdp, Int.toNat_natCast, List.length_map]
      exact .inl ⟨_, rfl⟩
    | false =>
      rw [hd] at hdp
      have hft : Fine 1000 a.t := fine_le (by omega) _ (deep_fine 40 a.t hd (hfi a (by rw [h1]; simp)))
      have hl3 := and3 a.l
      generalize hle : andI a.l 3 = l at hl3
      obtain ⟨gs', ms', a1, g1, -⟩ := (hg.next (nx := nx + 18)).eq' (by omega) hft hl3 a.first
      have hv' := hv.add hl3 (t := a.t) a.first
      generalize addP s a.t l a.first = r at a1 g1 hv'
      obtain ⟨id, e, s'⟩ := r
      simp only at a1 g1 hv'
      have hs : (l1 ++ [a]).length = l1.length + 1 := by simp
      have IH := fun nx => ih (l1 ++ [a]) s' nx gs' ms' k (by simp [h1]) (by rw [hs]; exact g1.next) hv' (by simp at h4; omega)
      rw [hs] at IH
      simp (maxSteps := 1000000) (disch := omega) only [↓axP, axQ, ↓if_true, ↓if_false, ite_true, ite_false, reduceIte, ne_eq, eq_self, Nat.reduceAdd, Nat.reduceSub, Nat.reduceMul, Nat.reduceLeDiff, Nat.reduceEqDiff, Nat.reduceBEq, reduceCtorEq, Int.reduceToNat, Int.reduceLT, Int.reduceLE, Int.reduceEq, Int.reduceAdd, Int.reduceSub, Int.reduceNeg, capnY, appzY] at IH
      simp (maxSteps := 1000000) (disch := omega) only [ySeesa_r, ySeesa_, ↓axP, axQ, ↓if_true, ↓if_false, ite_true, ite_false, reduceIte, ne_eq, eq_self, Nat.reduceAdd, Nat.reduceSub, Nat.reduceMul, Nat.reduceLeDiff, Nat.reduceEqDiff, Nat.reduceBEq, reduceCtorEq, Int.reduceToNat, Int.reduceLT, Int.reduceLE, Int.reduceEq, Int.reduceAdd, Int.reduceSub, Int.reduceNeg, capnY, appzY, tmC_len, tmC_0, tmC_1, tmC_2, tmC_3, tmC_take, tmC_drop, tmC_one, tmC_ne, hlt, hi, hget, hdp, hw, tmC_4, tmC_5, b_and, hle, a1, Int.toNat_natCast, List.length_map]
      exact IH _
set_option maxHeartbeats 4000000 in
/-- On to the first of this number. -/
theorem seb_loop (F0 : Nat) (va vb : Int) (xs ys : List Cl) (hy : ys.length ≤ 1000000) (i : Nat) (c : Cl) (hc : xs[i]? = some c) (gs : Tr Grp) (ms : Tr MapA) : ∀ (l2 l1 : List Cl) (nx F : Nat), ys = l1 ++ l2 → l2.length < F →
    ∃ l1' nx', ys = l1' ++ l2.dropWhile (fun x => !decide (x.id = c.id)) ∧ iter (ycode (tcall lsSe) F0 ySeesb) F (mk [(1, .int .u64 va), (2, .int .u64 vb), (10, .vals 10 (xs.map clC)), (11, .vals 10 (ys.map clC)), (12, .int .i64 l1.length), (13, .int .i64 i)]) ⟨nx, gs, ms⟩ = some (.exit 4, mk [(1, .int .u64 va), (2, .int .u64 vb), (10, .vals 10 (xs.map clC)), (11, .vals 10 (ys.map clC)), (12, .int .i64 l1'.length), (13, .int .i64 i)], ⟨nx', gs, ms⟩) := by
  intro l2
  induction l2 with
  | nil =>
    intro l1 nx F h1 h4
    obtain ⟨k, rfl⟩ := iter_pos (f := fun _ _ => none) (n := F) (by omega)
    rw [List.append_nil] at h1
    subst h1
    refine ⟨ys, nx + 17, by simp, ?_⟩
    have hlt : ((ys.length : Int) < (ys.length : Int)) = False := by simp
    rw [iter_one]
    simp (maxSteps := 1000000) (disch := omega) only [ySeesb_r, ySeesb_, ↓axP, axQ, ↓if_true, ↓if_false, ite_true, ite_false, reduceIte, ne_eq, eq_self, Nat.reduceAdd, Nat.reduceSub, Nat.reduceMul, Nat.reduceLeDiff, Nat.reduceEqDiff, Nat.reduceBEq, reduceCtorEq, Int.reduceToNat, Int.reduceLT, Int.reduceLE, Int.reduceEq, Int.reduceAdd, Int.reduceSub, Int.reduceNeg, capnY, appzY, tmC_len, tmC_0, tmC_1, tmC_2, tmC_3, tmC_take, tmC_drop, tmC_one, tmC_ne, hlt, List.length_map]
  | cons d l2 ih =>
    intro l1 nx F h1 h4
    obtain ⟨k, rfl⟩ := iter_pos (f := fun _ _ => none) (n := F) (by omega)
    have hR : l1.length + 1 ≤ 1000000 := by rw [h1] at hy; simp at hy; omega
    have hlt : ((l1.length : Int) < (ys.length : Int)) = True := eq_true (by rw [h1]; simp; omega)
    have hget : (ys.map clC)[l1.length]? = some (.int .i64 d.id :: .int .u64 d.lab :: (tmC d.hd ++ tmC d.bd)) := by rw [h1]; simp [clC]
    have hgx : (xs.map clC)[i]? = some (.int .i64 c.id :: .int .u64 c.lab :: (tmC c.hd ++ tmC c.bd)) := by rw [List.getElem?_map, hc]; rfl
    have hi : (0 : Int) ≤ (l1.length : Int) := by omega
    have hi2 : (0 : Int) ≤ (i : Int) := by omega
    have hw : IntKind.i64.wrap ((l1.length : Int) + 1) = (l1.length : Int) + 1 := by rw [wrap_i64] <;> omega
    by_cases he : d.id = c.id
    · refine ⟨l1, nx + 17, by simp [he]; exact h1, ?_⟩
      have he' : (d.id = c.id) = True := eq_true he
      rw [iter_one]
      simp (maxSteps := 1000000) (disch := omega) only [ySeesb_r, ySeesb_, ↓axP, axQ, ↓if_true, ↓if_false, ite_true, ite_false, reduceIte, ne_eq, eq_self, Nat.reduceAdd, Nat.reduceSub, Nat.reduceMul, Nat.reduceLeDiff, Nat.reduceEqDiff, Nat.reduceBEq, reduceCtorEq, Int.reduceToNat, Int.reduceLT, Int.reduceLE, Int.reduceEq, Int.reduceAdd, Int.reduceSub, Int.reduceNeg, capnY, appzY, tmC_len, tmC_0, tmC_1, tmC_2, tmC_3, tmC_take, tmC_drop, tmC_one, tmC_ne, hlt, hi, hi2, hget, hgx, he', Int.toNat_natCast, List.length_map]
    · obtain ⟨l1', nx', k1, k2⟩ := ih (l1 ++ [d]) (nx + 17) k (by simp [h1]) (by simp at h4; omega)
      have he' : (d.id = c.id) = False := eq_false he
      refine ⟨l1', nx', by simp [he]; exact k1, ?_⟩
      have hs : (l1 ++ [d]).length = l1.length + 1 := by simp
      rw [hs] at k2
      rw [iter_one]
      simp (maxSteps := 1000000) (disch := omega) only [↓axP, axQ, ↓if_true, ↓if_false, ite_true, ite_false, reduceIte, ne_eq, eq_self, Nat.reduceAdd, Nat.reduceSub, Nat.reduceMul, Nat.reduceLeDiff, Nat.reduceEqDiff, Nat.reduceBEq, reduceCtorEq, Int.reduceToNat, Int.reduceLT, Int.reduceLE, Int.reduceEq, Int.reduceAdd, Int.reduceSub, Int.reduceNeg, capnY, appzY] at k2
      simp (maxSteps := 1000000) (disch := omega) only [ySeesb_r, ySeesb_, ↓axP, axQ, ↓if_true, ↓if_false, ite_true, ite_false, reduceIte, ne_eq, eq_self, Nat.reduceAdd, Nat.reduceSub, Nat.reduceMul, Nat.reduceLeDiff, Nat.reduceEqDiff, Nat.reduceBEq, reduceCtorEq, Int.reduceToNat, Int.reduceLT, Int.reduceLE, Int.reduceEq, Int.reduceAdd, Int.reduceSub, Int.reduceNeg, capnY, appzY, tmC_len, tmC_0, tmC_1, tmC_2, tmC_3, tmC_take, tmC_drop, tmC_one, tmC_ne, hlt, hi, hi2, hget, hgx, he', hw, Int.toNat_natCast, List.length_map, k2]
set_option maxHeartbeats 4000000 in
theorem sec_loop (F0 : Nat) (va vb : Int) (xs ys : List Cl) (hx : xs.length ≤ 1000000) (hy : ys.length ≤ 1000000) (hF : ys.length < F0) (hlab : ∀ c ∈ xs, leqB c.lab (andI (andI va vb) 3) = true) (gs : Tr Grp) (ms : Tr MapA) : ∀ (x2 x1 y2 y1 : List Cl) (nx F : Nat), xs = x1 ++ x2 → ys = y1 ++ y2 → (x2.map (·.id)).Sublist (y2.map (·.id)) → x2.length < F →
    ∃ nx', iter (ycode (tcall lsSe) F0 ySeesc) F (mk [(1, .int .u64 va), (2, .int .u64 vb), (10, .vals 10 (xs.map clC)), (11, .vals 10 (ys.map clC)), (12, .int .i64 y1.length), (13, .int .i64 x1.length)]) ⟨nx, gs, ms⟩ = some (.exit 2, mk [], ⟨nx', gs, ms⟩) := by
  intro x2
  induction x2 with
  | nil =>
    intro x1 y2 y1 nx F h1 h2 h3 h4
    obtain ⟨k, rfl⟩ := iter_pos (f := fun _ _ => none) (n := F) (by omega)
    rw [List.append_nil] at h1
    subst h1
    have hlt : ((xs.length : Int) < (xs.length : Int)) = False := by simp
    refine ⟨nx, ?_⟩
    rw [iter_one]
    simp (maxSteps := 1000000) (disch := omega) only [ySeesc_r, ySeesc_, ↓axP, axQ, ↓if_true, ↓if_false, ite_true, ite_false, reduceIte, ne_eq, eq_self, Nat.reduceAdd, Nat.reduceSub, Nat.reduceMul, Nat.reduceLeDiff, Nat.reduceEqDiff, Nat.reduceBEq, reduceCtorEq, Int.reduceToNat, Int.reduceLT, Int.reduceLE, Int.reduceEq, Int.reduceAdd, Int.reduceSub, Int.reduceNeg, capnY, appzY, tmC_len, tmC_0, tmC_1, tmC_2, tmC_3, tmC_take, tmC_drop, tmC_one, tmC_ne, hlt, List.length_map]
  | cons c x2 ih =>
    intro x1 y2 y1 nx F h1 h2 h3 h4
    obtain ⟨k, rfl⟩ := iter_pos (f := fun _ _ => none) (n := F) (by omega)
    have hR : x1.length + 1 ≤ 1000000 := by rw [h1] at hx; simp at hx; omega
    have hlt : ((x1.length : Int) < (xs.length : Int)) = True := eq_true (by rw [h1]; simp; omega)
    have hcx : xs[x1.length]? = some c := by rw [h1]; simp
    have hgx : (xs.map clC)[x1.length]? = some (.int .i64 c.id :: .int .u64 c.lab :: (tmC c.hd ++ tmC c.bd)) := by rw [List.getElem?_map, hcx]; rfl
    have hi : (0 : Int) ≤ (x1.length : Int) := by omega
    have hw : IntKind.i64.wrap ((x1.length : Int) + 1) = (x1.length : Int) + 1 := by rw [wrap_i64] <;> omega
    obtain ⟨d, r, e1, e2, e3⟩ := drop_sub h3
    obtain ⟨y1', nx1, k1, k2⟩ := seb_loop F0 va vb xs ys hy x1.length c hcx gs ms y2 y1 nx F0 h2 (by have := congrArg List.length h2; simp at this; omega)
    rw [e1] at k1
    have hky : ((y1'.length : Int) = (ys.length : Int)) = False := eq_false (by rw [k1]; simp; omega)
    have hlb := hlab c (by rw [h1]; simp)
    obtain ⟨nx2, k3⟩ := ih (x1 ++ [c]) (d :: r) y1' nx1 k (by simp [h1]) k1 (List.sublist_of_cons_sublist e3) (by simp at h4; omega)
    have hs : (x1 ++ [c]).length = x1.length + 1 := by simp
    rw [hs] at k3
    refine ⟨nx2, ?_⟩
    rw [iter_one]
    simp (maxSteps := 1000000) (disch := omega) only [↓axP, axQ, ↓if_true, ↓if_false, ite_true, ite_false, reduceIte, ne_eq, eq_self, Nat.reduceAdd, Nat.reduceSub, Nat.reduceMul, Nat.reduceLeDiff, Nat.reduceEqDiff, Nat.reduceBEq, reduceCtorEq, Int.reduceToNat, Int.reduceLT, Int.reduceLE, Int.reduceEq, Int.reduceAdd, Int.reduceSub, Int.reduceNeg, capnY, appzY] at k2 k3
    simp (maxSteps := 1000000) (disch := omega) only [ySeesc_r, ySeesc_, ↓axP, axQ, ↓if_true, ↓if_false, ite_true, ite_false, reduceIte, ne_eq, eq_self, Nat.reduceAdd, Nat.reduceSub, Nat.reduceMul, Nat.reduceLeDiff, Nat.reduceEqDiff, Nat.reduceBEq, reduceCtorEq, Int.reduceToNat, Int.reduceLT, Int.reduceLE, Int.reduceEq, Int.reduceAdd, Int.reduceSub, Int.reduceNeg, capnY, appzY, tmC_len, tmC_0, tmC_1, tmC_2, tmC_3, tmC_take, tmC_drop, tmC_one, tmC_ne, hlt, hi, hgx, hw, k2, hky, b_and, leqS_eq, hlb, Int.toNat_natCast, List.length_map, k3]
theorem SInv.le {s : St} {q : Int} (h : SInv s q) (c : Int) : ((listF s c s.ps).length : Int) ≤ q * 4 := by
  have hv : ∀ nm ar, (viewF s nm ar c).length ≤ (clsOf s nm ar).length := fun nm ar => List.length_filter_le _ _
  have h1 := hv [112] 1
  have h2 := hv [113] 2
  have h3 := hv [114] 0
  have ht := h.tot
  have c0 := h.cnt 0 (by omega) (by omega)
  have c1 := h.cnt 1 (by omega) (by omega)
  have c2 := h.cnt 2 (by omega) (by omega)
  have c3 := h.cnt 3 (by omega) (by omega)
  rw [h.ps]
  simp only [listF, preds3, List.flatMap_cons, List.flatMap_nil, List.append_nil, List.length_append]
  omega
set_option maxHeartbeats 4000000 in
theorem sees_run (acs : List Ac) (va vb : Int) (hlen : acs.length ≤ 9223372036854775807) (hfi : ∀ a ∈ acs, Fine maxLen a.t) (H : AH) : ACalls Tryz.prog 4 [.vals 8 (acs.map acC), .int .u64 va, .int .u64 vb] H fun y H' => y = .bool true ∧ H' = H := by
  refine ACalls.ofRun lsSe_ok mixed (draws _ rfl) ySees_ok rfl (by simp [pureL, pureA, pure_acs, acC_len]) 100 ?_ H
  have hml : (acs.map acC).length = acs.length := by simp
  by_cases q3 : 30 < (acs.length : Int)
  · have q3' : (30 < (acs.length : Int)) = True := eq_true q3
    simp (maxSteps := 1000000) (disch := omega) only [ySees, xinit_3, ↓axP, axQ, ↓if_true, ↓if_false, ite_true, ite_false, reduceIte, ne_eq, eq_self, Nat.reduceAdd, Nat.reduceSub, Nat.reduceMul, Nat.reduceLeDiff, Nat.reduceEqDiff, Nat.reduceBEq, reduceCtorEq, Int.reduceToNat, Int.reduceLT, Int.reduceLE, Int.reduceEq, Int.reduceAdd, Int.reduceSub, Int.reduceNeg, capnY, appzY, tmC_len, tmC_0, tmC_1, tmC_2, tmC_3, tmC_take, tmC_drop, tmC_one, tmC_ne, awake18_eq, hml, q3']
    exact Ans.some (.pure rfl)
  · have q3' : (30 < (acs.length : Int)) = False := eq_false q3
    have hm : relH madeR [.int .i64 20] ⟨0, .nil, .nil⟩ = some (.tup [.ptr 0 0 0, .vptr [] 0], ⟨3, (madeH ⟨0, .nil, .nil⟩ 20).gs, (madeH ⟨0, .nil, .nil⟩ 20).ms⟩) := made_eq 20 (by omega) (Tr.get_nil _) (Tr.get_nil _) (Tr.get_nil _)
    have g0 : Good ⟨3, (madeH ⟨0, .nil, .nil⟩ 20).gs, (madeH ⟨0, .nil, .nil⟩ 20).ms⟩ 0 (st0 20 0) 0 := good0 ⟨0, .nil, .nil⟩ 20
    generalize (madeH ⟨0, .nil, .nil⟩ 20).gs = gs0 at hm g0
    generalize (madeH ⟨0, .nil, .nil⟩ 20).ms = ms0 at hm g0
    have hE := se_loop 100 va vb acs (by omega) hfi acs [] (st0 20 0) 3 gs0 ms0 100 rfl g0 (sinv0 20 (by omega) 0) (by omega)
    simp (maxSteps := 1000000) (disch := omega) only [↓axP, axQ, ↓if_true, ↓if_false, ite_true, ite_false, reduceIte, ne_eq, eq_self, Nat.reduceAdd, Nat.reduceSub, Nat.reduceMul, Nat.reduceLeDiff, Nat.reduceEqDiff, Nat.reduceBEq, reduceCtorEq, Int.reduceToNat, Int.reduceLT, Int.reduceLE, Int.reduceEq, Int.reduceAdd, Int.reduceSub, Int.reduceNeg, capnY, appzY] at hE
    rcases hE with ⟨H', k1⟩ | ⟨s', nx, gs, ms, k1, hg, hv⟩
    · simp (maxSteps := 1000000) (disch := omega) only [ySees, xinit_3, ↓axP, axQ, ↓if_true, ↓if_false, ite_true, ite_false, reduceIte, ne_eq, eq_self, Nat.reduceAdd, Nat.reduceSub, Nat.reduceMul, Nat.reduceLeDiff, Nat.reduceEqDiff, Nat.reduceBEq, reduceCtorEq, Int.reduceToNat, Int.reduceLT, Int.reduceLE, Int.reduceEq, Int.reduceAdd, Int.reduceSub, Int.reduceNeg, capnY, appzY, tmC_len, tmC_0, tmC_1, tmC_2, tmC_3, tmC_take, tmC_drop, tmC_one, tmC_ne, awake18_eq, hml, q3', hm, k1]
      exact Ans.some (.pure rfl)
    · have hL := fun nx c => hg.list (nx := nx) c
      have l1 := hv.le (andI (andI va vb) 3)
      have l2 := hv.le (andI vb 3)
      obtain ⟨nx', k2⟩ := sec_loop 100 va vb (listF s' (andI (andI va vb) 3) s'.ps) (listF s' (andI vb 3) s'.ps) (by omega) (by omega) (by omega) (list_lab s' _ _) gs ms (listF s' (andI (andI va vb) 3) s'.ps) [] (listF s' (andI vb 3) s'.ps) [] nx 100 rfl rfl ((list_sub s' (leqB_meet va vb) _).map _) (by omega)
      simp (maxSteps := 1000000) (disch := omega) only [↓axP, axQ, ↓if_true, ↓if_false, ite_true, ite_false, reduceIte, ne_eq, eq_self, Nat.reduceAdd, Nat.reduceSub, Nat.reduceMul, Nat.reduceLeDiff, Nat.reduceEqDiff, Nat.reduceBEq, reduceCtorEq, Int.reduceToNat, Int.reduceLT, Int.reduceLE, Int.reduceEq, Int.reduceAdd, Int.reduceSub, Int.reduceNeg, capnY, appzY] at k2
      simp (maxSteps := 1000000) (disch := omega) only [ySees, xinit_3, ↓axP, axQ, ↓if_true, ↓if_false, ite_true, ite_false, reduceIte, ne_eq, eq_self, Nat.reduceAdd, Nat.reduceSub, Nat.reduceMul, Nat.reduceLeDiff, Nat.reduceEqDiff, Nat.reduceBEq, reduceCtorEq, Int.reduceToNat, Int.reduceLT, Int.reduceLE, Int.reduceEq, Int.reduceAdd, Int.reduceSub, Int.reduceNeg, capnY, appzY, tmC_len, tmC_0, tmC_1, tmC_2, tmC_3, tmC_take, tmC_drop, tmC_one, tmC_ne, awake18_eq, hml, q3', hm, k1, hL, b_and, k2]
      exact Ans.some (.pure rfl)
end Go.Proofs.YtdekdghldblfaaaGreatDoor
namespace Go.Proofs.YtdekdghldblfaaaGreatDoor
open Go Go.Abs Go.ChangeShapes Go.WideShapes Go.ChangeAt Go.RowKit
set_option linter.unusedVariables false
theorem spot_none {w : World} {a : Addr} {v : Value} (h : w.cell? a = some v) : a = ⟨a.block, a.off, none⟩ := by
  obtain ⟨b, o, s⟩ := a
  cases s with
  | none => rfl
  | some n =>
    unfold World.cell? at h
    simp only at h
    split at h
    · simp at h
    · cases h
theorem rows_vr {G : Gh} {b : Nat} : ∀ (ts : List Tm) (o : Nat), (∀ i (hi : i < ts.length), ∃ us : List Value, VRs G (tmC ts[i]) us ∧ ∀ j u, us[j]? = some u → G.M b (o + i * 4 + j) = some u) → VRows G 4 (tmRs ts) b o
  | [], o, h => by simp [tmRs, VRows]
  | t :: ts, o, h => by
    simp only [tmRs, VRows]
    refine ⟨tmC_len t, VRow.of_get fun j x hj => ?_, rows_vr ts (o + 4) fun i hi => ?_⟩
    · obtain ⟨us, h1, h2⟩ := h 0 (by simp)
      obtain ⟨u, h3, h4⟩ := h1.get j x hj
      exact ⟨u, by have := h2 j u h3; simpa using this, h4⟩
    · obtain ⟨us, h1, h2⟩ := h (i + 1) (by simpa using hi)
      exact ⟨us, h1, fun j u hj => by rw [← h2 j u hj]; congr 1; omega⟩
theorem open_vr {H : Type} {enc : TypeId × Value → H} {w : World} {base : Nat} {sp : Nat → Bool} {held : Bool} : ∀ (fuel : Nat) (cs : List Value) (x : DataW H × List MemPlace), DataW.trod enc Tryz.prog w base sp held fuel 32 cs = some x →
    ∃ (t : Tm), VRs (allG w) (tmC t) cs ∧ Fine maxLen t := by
  intro fuel
  induction fuel using Nat.strongRecOn with
  | _ fuel ih =>
    intro cs x h
    obtain ⟨xs, n, rfl, rfl, hl, hlen, hf⟩ := DataW.trod_struct Tryz.underlying32 h
    rw [cellsTerm] at hl
    obtain ⟨c0, c1, c2, c3, rfl⟩ := len_four hl
    obtain ⟨x0, x1, x2, x3, rfl⟩ := len_four (show xs.length = 4 from hlen)
    have q0 := hf 0 _ rfl
    have q1 := hf 1 _ rfl
    have q2 := hf 2 _ rfl
    have q3 := hf 3 _ rfl
    obtain ⟨k, e0, -, wk⟩ := DataW.trod_int Tryz.underlying3 q0
    obtain ⟨m, e1, -, wm⟩ := DataW.trod_int Tryz.underlying2 q1
    obtain ⟨s, e2, -, ws⟩ := DataW.trod_string Tryz.underlying9 q2
    replace e0 : (([c0, c1, c2, c3].drop 0).take (Tryz.prog.cellsOf 3)) = [.int .i64 k] := e0
    rw [cellsInt] at e0
    replace e1 : (([c0, c1, c2, c3].drop 1).take (Tryz.prog.cellsOf 2)) = [.int .i64 m] := e1
    rw [cellsI64] at e1
    replace e2 : (([c0, c1, c2, c3].drop 2).take (Tryz.prog.cellsOf 9)) = [.string s] := e2
    rw [cellsString] at e2
    cases e0; cases e1; cases e2
    rcases DataW.trod_slice Tryz.underlying30 q3 with ⟨e3, -⟩ | ⟨a, len, cap, elems, rest, n2, hn2, e3, -, -, hlc, hcm, hel, hall, -, -⟩
    · replace e3 : (([Value.int .i64 k, .int .i64 m, .string s, c3].drop 3).take (Tryz.prog.cellsOf 30)) = [.slice none 0 0] := e3
      rw [cellsTerms] at e3
      cases e3
      refine ⟨.mk k m s.data.toList [], ?_, .mk _ _ _ _ (wf_i64 wk) (wf_i64 wm) (name_len ws) (Nat.zero_le _) (fun x hx => by cases hx)⟩
      simp only [tmC, tmRs, VRs, VR]
      exact ⟨_, _, rfl, rfl, _, _, rfl, rfl, _, _, rfl, by rw [bytes_list s], _, _, rfl, ⟨none, 0, rfl, Nat.le_refl _, .inl trivial⟩, rfl⟩
    · replace e3 : (([Value.int .i64 k, .int .i64 m, .string s, c3].drop 3).take (Tryz.prog.cellsOf 30)) = [.slice (some a) len cap] := e3
      rw [cellsTerms] at e3
      cases e3
      have each : ∀ i, ∃ p : Tm × List Value, i < len → (VRs (allG w) (tmC p.1) p.2 ∧ (∀ j u, p.2[j]? = some u → w.cell? (a.add (i * 4 + j)) = some u) ∧ (∀ u ∈ p.2, u.oneCell' = true) ∧ Fine maxLen p.1 ∧ p.2.length = 4) := by
        intro i
        by_cases hi : i < len
        · have h1 := hall i hi
          have hi' : i < elems.length := by omega
          rw [List.getElem?_eq_getElem hi', cellsTerm, Option.bind_eq_some_iff] at h1
          obtain ⟨cs', hc, ht⟩ := h1
          obtain ⟨t', hv, hfi⟩ := ih n2 (by omega) cs' _ ht
          obtain ⟨-, hcl, hcell⟩ := World.cells?_some hc
          refine ⟨(t', cs'), fun _ => ⟨hv, fun j u hj => ?_, fun u hu => ?_, hfi, hcl⟩⟩
          · have hj4 : j < 4 := by rw [← hcl]; exact (List.getElem?_eq_some_iff.1 hj).1
            have := hcell j hj4
            rw [Addr.add_add] at this
            rw [this]; exact hj
          · rw [tmC_eq] at hv
            simp only [VRs, VR] at hv
            obtain ⟨_, _, rfl, rfl, _, _, rfl, rfl, _, _, rfl, rfl, _, _, rfl, ⟨_, _, rfl, _⟩, rfl⟩ := hv
            simp only [List.mem_cons, List.not_mem_nil, or_false] at hu
            rcases hu with rfl | rfl | rfl | rfl <;> rfl
        · exact ⟨(.mk 0 0 [] [], []), fun h => absurd h hi⟩
      obtain ⟨F, hF⟩ := Classical.axiomOfChoice each
      have hln : ((List.range len).map fun i => (F i).1).length = len := by simp
      have hgi : ∀ i (hi : i < ((List.range len).map fun i => (F i).1).length), ((List.range len).map fun i => (F i).1)[i] = (F i).1 := by intro i hi; simp
      refine ⟨.mk k m s.data.toList ((List.range len).map fun i => (F i).1), ?_, .mk _ _ _ _ (wf_i64 wk) (wf_i64 wm) (name_len ws) (by rw [hln]; omega) (fun x hx => by
        obtain ⟨i, hi, rfl⟩ := List.mem_map.1 hx
        exact (hF i (List.mem_range.1 hi)).2.2.2.1)⟩
      have hrl : (tmRs ((List.range len).map fun i => (F i).1)).length = len := by rw [tmRs_map]; simp
      simp only [tmC, VRs, VR]
      refine ⟨_, _, rfl, rfl, _, _, rfl, rfl, _, _, rfl, by rw [bytes_list s], _, _, rfl, ⟨some a, cap, by rw [hrl], by rw [hrl]; exact hlc, ?_⟩, rfl⟩
      by_cases h0 : len = 0
      · left; subst h0; rfl
      · right
        have a0 : w.cell? (a.add (0 * 4 + 0)) = some ((F 0).2[0]'(by rw [(hF 0 (by omega)).2.2.2.2]; omega)) := (hF 0 (by omega)).2.1 0 _ (List.getElem?_eq_getElem _)
        rw [show a.add (0 * 4 + 0) = a from by unfold Addr.add; rfl] at a0
        have hsp := spot_none a0
        refine ⟨a.block, a.off, by rw [← hsp], rows_vr _ _ fun i hi => ?_⟩
        rw [hln] at hi
        obtain ⟨q1, q2, q3, q4, q5⟩ := hF i hi
        refine ⟨(F i).2, by rw [hgi i (by rw [hln]; exact hi)]; exact q1, fun j u hj => ?_⟩
        have := q2 j u hj
        rw [hsp, addr_add] at this
        refine allG_cell ?_ (q3 u (List.mem_of_getElem? hj))
        rw [Nat.add_assoc]; exact this
end Go.Proofs.YtdekdghldblfaaaGreatDoor
namespace Go.Proofs.YtdekdghldblfaaaGreatDoor
open Go Go.Abs Go.ChangeShapes Go.WideShapes Go.ChangeAt Go.RowKit
set_option linter.unusedVariables false
theorem cellsAct : Tryz.prog.cellsOf 34 = 8 := by kernel_rfl
theorem cellsU64 : Tryz.prog.cellsOf 23 = 1 := by kernel_rfl
theorem cellsBool : Tryz.prog.cellsOf 4 = 1 := by kernel_rfl
theorem len_eight {α : Type} {l : List α} (h : l.length = 8) : ∃ a b c d e f g k, l = [a, b, c, d, e, f, g, k] := by
  match l, h with
  | [a, b, c, d, e, f, g, k], _ => exact ⟨a, b, c, d, e, f, g, k, rfl⟩
theorem len_five {α : Type} {l : List α} (h : l.length = 5) : ∃ a b c d e, l = [a, b, c, d, e] := by
  match l, h with
  | [a, b, c, d, e], _ => exact ⟨a, b, c, d, e, rfl⟩
set_option maxRecDepth 100000 in
theorem open_act {H : Type} {enc : TypeId × Value → H} {w : World} {base : Nat} {sp : Nat → Bool} {held : Bool} (fuel : Nat) (cs : List Value) (x : DataW H × List MemPlace) (h : DataW.trod enc Tryz.prog w base sp held fuel 34 cs = some x) :
    ∃ a : Ac, VRs (allG w) (acC a) cs ∧ Fine maxLen a.t ∧ (∀ u ∈ cs, u.oneCell' = true) ∧ cs.length = 8 := by
  obtain ⟨xs, n, rfl, rfl, hl, hlen, hf⟩ := DataW.trod_struct Tryz.underlying34 h
  rw [cellsAct] at hl
  obtain ⟨c0, c1, c2, c3, c4, c5, c6, c7, rfl⟩ := len_eight hl
  obtain ⟨x0, x1, x2, x3, x4, rfl⟩ := len_five (show xs.length = 5 from hlen)
  have q0 := hf 0 _ rfl
  have q1 := hf 1 _ rfl
  have q2 := hf 2 _ rfl
  have q3 := hf 3 _ rfl
  have q4 := hf 4 _ rfl
  obtain ⟨k, e0, -, wk⟩ := DataW.trod_int Tryz.underlying3 q0
  obtain ⟨m, e1, -, wm⟩ := DataW.trod_int Tryz.underlying3 q1
  obtain ⟨t, ht, hft⟩ := open_vr _ _ _ q2
  obtain ⟨l, e3, -, wl⟩ := DataW.trod_int Tryz.underlying23 q3
  obtain ⟨b, e4, -⟩ := DataW.trod_bool Tryz.underlying4 q4
  replace e0 : (([c0, c1, c2, c3, c4, c5, c6, c7].drop 0).take (Tryz.prog.cellsOf 3)) = [.int .i64 k] := e0
  rw [cellsInt] at e0
  replace e1 : (([c0, c1, c2, c3, c4, c5, c6, c7].drop 1).take (Tryz.prog.cellsOf 3)) = [.int .i64 m] := e1
  rw [cellsInt] at e1
  replace ht : VRs (allG w) (tmC t) (([c0, c1, c2, c3, c4, c5, c6, c7].drop 2).take (Tryz.prog.cellsOf 32)) := ht
  rw [cellsTerm] at ht
  replace ht : VRs (allG w) (tmC t) [c2, c3, c4, c5] := ht
  replace e3 : (([c0, c1, c2, c3, c4, c5, c6, c7].drop 6).take (Tryz.prog.cellsOf 23)) = [.int .u64 l] := e3
  rw [cellsU64] at e3
  replace e4 : (([c0, c1, c2, c3, c4, c5, c6, c7].drop 7).take (Tryz.prog.cellsOf 4)) = [.bool b] := e4
  rw [cellsBool] at e4
  cases e0; cases e1; cases e3; cases e4
  have one : ∀ u ∈ [c2, c3, c4, c5], u.oneCell' = true := by
    intro u hu
    rw [tmC_eq] at ht
    simp only [VRs, VR] at ht
    obtain ⟨_, _, h0, rfl, _, _, h1, rfl, _, _, h2, rfl, _, _, h3, ⟨_, _, rfl, _⟩, rfl⟩ := ht
    cases h0; cases h1; cases h2; cases h3
    simp only [List.mem_cons, List.not_mem_nil, or_false] at hu
    rcases hu with rfl | rfl | rfl | rfl <;> rfl
  refine ⟨⟨k, m, t, l, b⟩, ?_, hft, fun u hu => ?_, rfl⟩
  · show VRs (allG w) (.int .i64 k :: .int .i64 m :: (tmC t ++ [.int .u64 l, .bool b])) _
    rw [tmC_eq] at ht ⊢
    simp only [VRs, VR, List.cons_append, List.nil_append] at ht ⊢
    obtain ⟨u0, r0, h0, g0, u1, r1, h1, g1, u2, r2, h2, g2, u3, r3, h3, g3, h4⟩ := ht
    cases h0; cases h1; cases h2; cases h3
    exact ⟨_, _, rfl, rfl, _, _, rfl, rfl, _, _, rfl, g0, _, _, rfl, g1, _, _, rfl, g2, _, _, rfl, g3, _, _, rfl, rfl, _, _, rfl, rfl, rfl⟩
  · simp only [List.mem_cons, List.not_mem_nil, or_false] at hu
    rcases hu with rfl | rfl | rfl | rfl | rfl | rfl | rfl | rfl
    · rfl
    · rfl
    · exact one _ (by simp)
    · exact one _ (by simp)
    · exact one _ (by simp)
    · exact one _ (by simp)
    · rfl
    · rfl
theorem acts_vr {G : Gh} {b : Nat} : ∀ (ts : List Ac) (o : Nat), (∀ i (hi : i < ts.length), ∃ us : List Value, VRs G (acC ts[i]) us ∧ ∀ j u, us[j]? = some u → G.M b (o + i * 8 + j) = some u) → VRows G 8 (ts.map acC) b o
  | [], o, h => by simp [VRows]
  | t :: ts, o, h => by
    simp only [List.map_cons, VRows]
    refine ⟨acC_len t, VRow.of_get fun j x hj => ?_, acts_vr ts (o + 8) fun i hi => ?_⟩
    · obtain ⟨us, h1, h2⟩ := h 0 (by simp)
      obtain ⟨u, h3, h4⟩ := h1.get j x hj
      exact ⟨u, by have := h2 j u h3; simpa using this, h4⟩
    · obtain ⟨us, h1, h2⟩ := h (i + 1) (by simpa using hi)
      exact ⟨us, h1, fun j u hj => by rw [← h2 j u hj]; congr 1; omega⟩
set_option maxRecDepth 100000 in
theorem open_acts {H : Type} {enc : TypeId × Value → H} {w : World} {r : Reach} {b0 base : Nat} {sp : Nat → Bool} {held : Bool} {v : Value} {d : DataW H} {ps : List MemPlace} (hval : Value.okWide Tryz.prog w r b0 22 v) (hd : DataW.Trod enc Tryz.prog w base sp held 22 v d ps) :
    ∃ acs : List Ac, VR (allG w) (.vals 8 (acs.map acC)) v ∧ (∀ a ∈ acs, Fine maxLen a.t) ∧ acs.length ≤ 9223372036854775807 := by
  obtain ⟨fuel, hf⟩ := hd
  have hu := Tryz.underlying22
  obtain ⟨a, len, cap, rfl⟩ : ∃ a len cap, v = .slice a len cap := by
    generalize Tryz.prog = PP at hval hu
    exact okWide_slice hu hval
  have e : (Value.slice a len cap).cells.toList = [.slice a len cap] := by simp only [Value.cells]
  rw [e] at hf
  rcases DataW.trod_slice hu hf with ⟨e3, -⟩ | ⟨a', len', cap', elems, rest, n2, hn2, e3, -, -, hlc, hcm, hel, hall, -, -⟩
  · cases e3
    refine ⟨[], ?_, fun a ha => by (cases ha), by simp⟩
    simp only [VR, List.map_nil]
    exact ⟨none, 0, rfl, Nat.le_refl _, .inl trivial⟩
  · cases e3
    have each : ∀ i, ∃ p : Ac × List Value, i < len → (VRs (allG w) (acC p.1) p.2 ∧ (∀ j u, p.2[j]? = some u → w.cell? (a'.add (i * 8 + j)) = some u) ∧ (∀ u ∈ p.2, u.oneCell' = true) ∧ Fine maxLen p.1.t ∧ p.2.length = 8) := by
      intro i
      by_cases hi : i < len
      · have h1 := hall i hi
        have hi' : i < elems.length := by omega
        rw [List.getElem?_eq_getElem hi', cellsAct, Option.bind_eq_some_iff] at h1
        obtain ⟨cs', hc, ht⟩ := h1
        obtain ⟨t', hv, hfi, hone, hl8⟩ := open_act n2 cs' _ ht
        obtain ⟨-, hcl, hcell⟩ := World.cells?_some hc
        refine ⟨(t', cs'), fun _ => ⟨hv, fun j u hj => ?_, hone, hfi, hl8⟩⟩
        have hj8 : j < 8 := by rw [← hcl]; exact (List.getElem?_eq_some_iff.1 hj).1
        have := hcell j hj8
        rw [Addr.add_add] at this
        rw [this]; exact hj
      · exact ⟨(⟨0, 0, .mk 0 0 [] [], 0, false⟩, []), fun h => absurd h hi⟩
    obtain ⟨F, hF⟩ := Classical.axiomOfChoice each
    have hln : ((List.range len).map fun i => (F i).1).length = len := by simp
    have hgi : ∀ i (hi : i < ((List.range len).map fun i => (F i).1).length), ((List.range len).map fun i => (F i).1)[i] = (F i).1 := by intro i hi; simp
    refine ⟨(List.range len).map fun i => (F i).1, ?_, fun x hx => ?_, by rw [hln]; unfold maxLen at hcm; omega⟩
    · have hrl : (((List.range len).map fun i => (F i).1).map acC).length = len := by simp
      simp only [VR]
      refine ⟨some a', cap, by rw [hrl], by rw [hrl]; exact hlc, ?_⟩
      by_cases h0 : len = 0
      · left; subst h0; rfl
      · right
        have a0 : w.cell? (a'.add (0 * 8 + 0)) = some ((F 0).2[0]'(by rw [(hF 0 (by omega)).2.2.2.2]; omega)) := (hF 0 (by omega)).2.1 0 _ (List.getElem?_eq_getElem _)
        rw [show a'.add (0 * 8 + 0) = a' from by unfold Addr.add; rfl] at a0
        have hsp := spot_none a0
        refine ⟨a'.block, a'.off, by rw [← hsp], acts_vr _ _ fun i hi => ?_⟩
        rw [hln] at hi
        obtain ⟨q1, q2, q3, q4, q5⟩ := hF i hi
        refine ⟨(F i).2, by rw [hgi i (by rw [hln]; exact hi)]; exact q1, fun j u hj => ?_⟩
        have := q2 j u hj
        rw [hsp, addr_add] at this
        refine allG_cell ?_ (q3 u (List.mem_of_getElem? hj))
        rw [Nat.add_assoc]; exact this
    · obtain ⟨i, hi, rfl⟩ := List.mem_map.1 hx
      exact (hF i (List.mem_range.1 hi)).2.2.2.1
/-- The last call of a law. -/
theorem law_callsG {P : Program} {f : FuncId} {args : List AV} {w : World} {vs : Array Value} (h : ∀ H, ACalls P f args H fun y H' => y = .bool true ∧ H' = H) (hv : VRs (allG w) args vs.toList) (gl : Glob w w.heap.size) :
    Calls P f vs w fun e w' => e = .returned (.bool true) ∧ Below w.heap.size w w' :=
  (h AH.empty _ _ vs w (allG_rel w gl) hv).mono fun e w' ⟨u, x', G', H', k1, k2, k3, k4, k5, k6⟩ => by
    subst k5
    simp only [VR] at k4
    subst k4
    exact ⟨k1, k3.below⟩
end Go.Proofs.YtdekdghldblfaaaGreatDoor
