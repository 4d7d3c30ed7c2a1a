/- A region whose order is open. -/
import Derived.Test.YtcnnobcncklgfaaGreatDoorAbsDraw3
import Derived.Orders
namespace Go.Abs
open Go Go.RowKit
set_option linter.unusedVariables false
section
variable {P : Program} {nt : Nat} {ops : Array Oper} {call : ICall} {base : Nat}
/-- One that is carried out, whatever follows. -/
theorem op_sem {i : Nat} {o : Oper} {io : IOper} {T : Tr AV} {H H1 : AH} {x : AV} (hcall : CallOK P call) (ho : ops[i]? = some o) (hc : cOper P nt ops o = some io) (hw : wantedA ops T o = some true) (hx : xop call T H io.op = some (x, H1))
    {K : Kx} {G : Gh} {a : Act} {w : World} (hr : HRel K G H w) (ht : TRel G nt T a) {Kt : Act → World → Prop} {Q : Exit → Act → World → Prop} (h : ∀ G' a' w', G.le G' → HRel K G' H1 w' → TRel G' nt (xput T io.dst x) a' → Kt a' w') :
    wpOp P ops Q i Kt a w := by
  unfold cOper at hc
  split at hc
  · rename_i d g k e1 e2 e3
    cases hc
    obtain ⟨hg, _⟩ := cGuard_ok e2
    obtain ⟨T', hp, he⟩ := cDst_ok e1 T x
    unfold wpOp
    simp only [ho]
    rw [if_pos (wantedA_ok ht (guardIn_ok hg) hw)]
    refine .inl ?_
    have hop : ∀ i' : IOp, cOp P o.op = some i' → k = .op i' → o.wp P a w Kt Q := by
      intro i' h1 h2
      subst h2
      obtain ⟨nx, w', G', q1, q2, q3, q4⟩ := aop_ok hr ht (o := o) (cOp_ok h1 hx)
      unfold Oper.wp
      rw [q1]
      rcases q4 with ⟨u, rfl, hv⟩ | ⟨rfl, rfl⟩
      · rw [Oper.upon_value]
        exact h G' _ w' q2 q3 (((ht.mono q2).put hp hv).congr he)
      · rw [Oper.upon_skip]
        exact h G' _ w' q2 q3 (((ht.mono q2).put hp (by simp [VR])).congr he)
    cases hk : o.op with
    | call c =>
      rw [hk] at e3
      simp only [cK] at e3
      split at e3
      · rename_i f hf
        split at e3
        · rename_i f' xs' h1 h2
          cases e3
          simp only [xop, cO_ok h1 T, cOs_ok h2 T] at hx
          split at hx
          · rename_i gg cap h3
            split at hx
            · rename_i ys h4
              obtain ⟨q1, q2⟩ := hcall _ _ _ _ _ hx
              have hac : acallee T c = some (gg, ys ++ cap) := by unfold acallee; rw [hf]; simp only [h3, h4]
              obtain ⟨dst, op, type, pos, after, guard⟩ := o
              simp only at hk
              subst hk
              obtain ⟨vs, r1, r2⟩ := run_callee ht hac q1 dst type pos after guard w
              unfold Oper.wp
              rw [r1, Oper.upon_enter]
              refine (q2 K G vs w hr r2).mono fun e w' ⟨u, y, G', H', s1, s2, s3, s4, s5, s6⟩ => ?_
              subst s1; subst s5; subst s6
              exact h G' _ w' s2 s3 (((ht.mono s2).put hp s4).congr he)
            · cases hx
          · cases hx
        · cases e3
      · split at e3
        · rename_i i' h1; cases e3; exact hop i' (by rw [hk]; exact h1) rfl
        · cases e3
    | _ =>
      rw [hk] at e3
      simp only [cK] at e3
      split at e3
      · rename_i i' h1; cases e3; exact hop i' (by rw [hk]; exact h1) rfl
      · cases e3
  · cases hc
theorem op_skip {i : Nat} {o : Oper} {io : IOper} {T : Tr AV} {H : AH} (ho : ops[i]? = some o) (hc : cOper P nt ops o = some io) (hw : wantedA ops T o = some false)
    {K : Kx} {G : Gh} {a : Act} {w : World} (hr : HRel K G H w) (ht : TRel G nt T a) {Kt : Act → World → Prop} {Q : Exit → Act → World → Prop} (h : ∀ a', TRel G nt (xput T io.dst .und) a' → Kt a' w) :
    wpOp P ops Q i Kt a w := by
  unfold cOper at hc
  split at hc
  · rename_i d g k e1 e2 e3
    cases hc
    obtain ⟨hg, _⟩ := cGuard_ok e2
    obtain ⟨T', hp, he⟩ := cDst_ok e1 T .und
    unfold wpOp
    simp only [ho]
    rw [if_neg (by rw [wantedA_ok ht (guardIn_ok hg) hw]; simp)]
    exact h _ ((ht.put hp (by simp [VR])).congr he)
  · cases hc
/-- What an operation of a row is. -/
def dkOf : DK → IK → Prop
  | .pure i, k => k = .op i
  | .load n x, k => k = .op (.load n x)
  | .k2 k _, k' => k' = k
  | .alloc i, k => k = .op i
def dRel (P : Program) (nt : Nat) (ops : Array Oper) (d : DOp) : Prop := d.k.ok = true ∧ ∃ o io, ops[d.idx]? = some o ∧ cOper P nt ops o = some io ∧ d.dst = io.dst ∧ d.guard = io.guard ∧ dkOf d.k io.op
theorem HRel.next {K : Kx} {G : Gh} {H : AH} {w : World} (h : HRel K G H w) (n : Nat) : HRel K G ⟨n, H.gs, H.ms⟩ w :=
  ⟨h.below, h.hB, h.mem, h.ones, h.old, h.grp, h.apart, h.fresh, h.maps, h.mapart, h.mfresh, h.ages⟩
theorem HRel.he {K : Kx} {G : Gh} {H H' : AH} {w : World} (h : HRel K G H w) (he : HE H H') : HRel K G H' w :=
  ⟨h.below, h.hB, h.mem, h.ones, h.old, fun g r hg => h.grp g r (by rw [← he.2.1]; exact hg), fun g g' r r' b o n b' o' n' h1 h2 => h.apart g g' r r' b o n b' o' n' (by rw [← he.2.1]; exact h1) (by rw [← he.2.1]; exact h2),
    fun g hg => h.fresh g (by rw [← he.2.1]; exact hg), fun g es hg => h.maps g es (by rw [← he.2.2]; exact hg), fun g g' es es' b b' h1 h2 => h.mapart g g' es es' b b' (by rw [← he.2.2]; exact h1) (by rw [← he.2.2]; exact h2),
    fun g hg => h.mfresh g (by rw [← he.2.2]; exact hg), fun g r e hg => h.ages g r e (by rw [← he.2.1]; exact hg)⟩
theorem dstep_sem (hcall : CallOK P call) {d : DOp} (hd : dRel P nt ops d) {s s1 : DS} (hs : dstep call base d s = some s1) {K : Kx} {G : Gh} {a : Act} {w : World} (hr : HRel K G s.H w) (ht : TRel G nt s.T a)
    {Kt : Act → World → Prop} {Q : Exit → Act → World → Prop} (h : ∀ G' a' w', G.le G' → HRel K G' s1.H w' → TRel G' nt s1.T a' → Kt a' w') : wpOp P ops Q d.idx Kt a w := by
  obtain ⟨hok, o, io, ho, hc, e1, e2, e3⟩ := hd
  have hg := cOper_guard hc s.T
  rw [← e2] at hg
  unfold dstep at hs
  split at hs
  · cases hs
  · rename_i e4
    cases hs
    rw [e4] at hg
    exact op_skip ho hc hg hr ht fun a' ht' => h G a' w (Gh.le.refl _) hr (by rw [e1]; exact ht')
  · rename_i e4
    rw [e4] at hg
    split at hs
    · rename_i x H' W' e
      cases hs
      cases hk : d.k with
      | pure i =>
        rw [hk] at e e3 hok
        simp only [eff] at e
        split at e
        · rename_i x' H2 e5
          cases e
          obtain ⟨rfl, _⟩ := iop_pure hok e5
          exact op_sem hcall ho hc hg (by rw [e3]; exact e5) hr ht fun G' a' w' q1 q2 q3 => h G' a' w' q1 q2 (by rw [e1]; exact q3)
        · cases e
      | load n y =>
        rw [hk] at e e3
        simp only [eff] at e
        split at e
        · rename_i p e5
          split at e
          · rename_i v e6
            cases e
            have hx : xop call s.T s.H io.op = some (x, s.H) := by rw [e3]; show iop s.T (.load n y) s.H = _; simp only [iop, e5, e6]
            exact op_sem hcall ho hc hg hx hr ht fun G' a' w' q1 q2 q3 => h G' a' w' q1 q2 (by rw [e1]; exact q3)
          · cases e
        · cases e
      | k2 k watch =>
        rw [hk] at e e3
        simp only [eff] at e
        split at e
        · rename_i x' H2 e5
          cases hc2 : wcheck H2 watch s.W with
          | false => rw [hc2] at e; cases e
          | true =>
            rw [hc2] at e
            cases e
            exact op_sem hcall ho hc hg (by rw [e3]; exact e5) hr ht fun G' a' w' q1 q2 q3 => h G' a' w' q1 q2 (by rw [e1]; exact q3)
        · cases e
      | alloc i =>
        rw [hk] at e e3
        simp only [eff] at e
        split at e
        · rename_i x' H2 e5
          cases e
          exact op_sem hcall ho hc hg (by rw [e3]; exact e5) (hr.next (base + d.idx)) ht fun G' a' w' q1 q2 q3 => h G' a' w' q1 (q2.next _) (by rw [e1]; exact q3)
        · cases e
    · cases hs
/-- Those that must come before. -/
def preds (ops : Array Oper) (i : Nat) : List Nat :=
  match ops[i]? with
  | some o => (o.after.toList.filter fun e => Region.binds .any e).map (·.on)
  | none => []
/-- Those that must come before, all the way, as bits. -/
def ancs (ops : Array Oper) : Nat → List Nat
  | 0 => []
  | n + 1 => ancs ops n ++ [(preds ops n).foldl (fun m p => Nat.lor (Nat.lor m (1 <<< p)) ((ancs ops n).getD p 0)) 0]
theorem ancs_len (ops : Array Oper) : ∀ n, (ancs ops n).length = n
  | 0 => rfl
  | n + 1 => by simp [ancs, ancs_len ops n]
theorem foldl_bits (t : List Nat) (x : Nat) : ∀ (l : List Nat) (m : Nat), Nat.testBit (l.foldl (fun m p => Nat.lor (Nat.lor m (1 <<< p)) (t.getD p 0)) m) x = true → Nat.testBit m x = true ∨ ∃ p ∈ l, x = p ∨ Nat.testBit (t.getD p 0) x = true
  | [], m, h => .inl h
  | p :: l, m, h => by
    rw [List.foldl_cons] at h
    rcases foldl_bits t x l _ h with h | ⟨q, hq, h⟩
    · have h' : ((m ||| (1 <<< p)) ||| t.getD p 0).testBit x = true := h
      rw [Nat.testBit_or, Nat.testBit_or, Bool.or_eq_true, Bool.or_eq_true] at h'
      rcases h' with (h' | h') | h'
      · exact .inl h'
      · refine .inr ⟨p, List.mem_cons_self .., .inl ?_⟩
        rw [Nat.one_shiftLeft, Nat.testBit_two_pow] at h'
        exact (of_decide_eq_true h').symm
      · exact .inr ⟨p, List.mem_cons_self .., .inr h'⟩
    · exact .inr ⟨q, List.mem_cons_of_mem _ hq, h⟩
theorem ancs_step (ops : Array Oper) (x : Nat) : ∀ (n i : Nat), i < n → Nat.testBit ((ancs ops n).getD i 0) x = true → ∃ p ∈ preds ops i, x = p ∨ (p < i ∧ Nat.testBit ((ancs ops n).getD p 0) x = true)
  | 0, i, h, hb => by omega
  | n + 1, i, h, hb => by
    have hget : ∀ p, p < n → (ancs ops (n + 1)).getD p 0 = (ancs ops n).getD p 0 := fun p hp => by
      rw [ancs, List.getD_eq_getElem?_getD, List.getElem?_append_left (by rw [ancs_len]; exact hp), ← List.getD_eq_getElem?_getD]
    by_cases hi : i < n
    · rw [hget i hi] at hb
      obtain ⟨p, h1, h2⟩ := ancs_step ops x n i hi hb
      refine ⟨p, h1, ?_⟩
      rcases h2 with h2 | ⟨h2, h3⟩
      · exact .inl h2
      · exact .inr ⟨h2, by rw [hget p (by omega)]; exact h3⟩
    · have : i = n := by omega
      subst this
      rw [ancs, List.getD_eq_getElem?_getD, List.getElem?_append_right (by rw [ancs_len]; exact Nat.le_refl _), ancs_len, Nat.sub_self] at hb
      simp only [List.getElem?_cons_zero, Option.getD_some] at hb
      rcases foldl_bits _ x _ 0 hb with h0 | ⟨p, h1, h2⟩
      · simp at h0
      · refine ⟨p, h1, ?_⟩
        rcases h2 with h2 | h2
        · exact .inl h2
        · by_cases hp : p < i
          · exact .inr ⟨hp, by rw [hget p hp]; exact h2⟩
          · rw [List.getD_eq_getElem?_getD, List.getElem?_eq_none (by rw [ancs_len]; omega)] at h2
            simp at h2
def beforeOK (ops : Array Oper) (A : List Nat) (x y : DOp) : Bool :=
  !(Nat.beq x.idx y.idx) && (!((preds ops x.idx).elem y.idx) && (Nat.testBit (A.getD y.idx 0) x.idx || swapOK x y))
def pwOK (ops : Array Oper) (A : List Nat) : List DOp → Bool
  | [] => true
  | d :: ds => ds.all (beforeOK ops A d) && pwOK ops A ds
def selfOK (ops : Array Oper) (d : DOp) : Bool := (preds ops d.idx).all fun p => Nat.blt p ops.size && !(Nat.beq p d.idx)
/-- All is well with a row whose order is open. -/
def dOK (ops : Array Oper) (l : List DOp) : Bool :=
  Nat.beq l.length ops.size && ((List.range ops.size).all (fun j => l.any fun d => Nat.beq d.idx j) && (l.all (selfOK ops) && pwOK ops (ancs ops ops.size) l))
theorem pwOK_ok {A : List Nat} : ∀ {l : List DOp}, pwOK ops A l = true → l.Pairwise fun x y => beforeOK ops A x y = true
  | [], h => List.Pairwise.nil
  | d :: ds, h => by
    simp only [pwOK, Bool.and_eq_true, List.all_eq_true] at h
    exact List.Pairwise.cons h.1 (pwOK_ok h.2)
theorem preds_mem {i p : Nat} : p ∈ preds ops i ↔ ∃ o, ops[i]? = some o ∧ ∃ e ∈ o.after, Region.binds .any e = true ∧ e.on = p := by
  unfold preds
  cases ho : ops[i]? with
  | none => simp
  | some o =>
    simp only [List.mem_map, List.mem_filter, Option.some.injEq, exists_eq_left']
    constructor
    · rintro ⟨e, ⟨h1, h2⟩, h3⟩; exact ⟨e, by simpa using h1, h2, h3⟩
    · rintro ⟨e, h1, h2, h3⟩; exact ⟨e, ⟨by simpa using h1, h2⟩, h3⟩
/-- What is listed holds all that must come before it. -/
def Closed (ops : Array Oper) (listed : Array Bool) : Prop := ∀ j, listed.getD j false = true → ∀ p ∈ preds ops j, listed.getD p false = true
theorem anc_listed {listed : Array Bool} (hc : Closed ops listed) (n x : Nat) : ∀ (i : Nat), i < n → (∀ p ∈ preds ops i, listed.getD p false = true) → Nat.testBit ((ancs ops n).getD i 0) x = true → listed.getD x false = true := by
  intro i
  induction i using Nat.strongRecOn with
  | _ i ih =>
    intro hi hp h
    obtain ⟨p, h1, h2⟩ := ancs_step ops x n i hi h
    rcases h2 with rfl | ⟨h2, h3⟩
    · exact hp _ h1
    · exact ih p h2 (by omega) (fun q hq => hc p (hp p h1) q hq) h3
theorem ready_preds {listed : Array Bool} {i : Nat} (h : i ∈ Region.ready .any ops listed) : ∀ p ∈ preds ops i, listed.getD p false = true := by
  rw [mem_ready] at h
  obtain ⟨_, o, ho, hall⟩ := h
  intro p hp
  rw [preds_mem] at hp
  obtain ⟨o', ho', e, he, hb, rfl⟩ := hp
  rw [ho] at ho'
  cases ho'
  exact hall e he hb
theorem getD_set_self {listed : Array Bool} {i : Nat} (h : i < listed.size) (d : Bool) : (listed.setIfInBounds i true).getD i d = true := by
  simp [h]
theorem getD_lt {listed : Array Bool} {i : Nat} (h : listed.getD i true = false) : i < listed.size := by
  rcases Nat.lt_or_ge i listed.size with h' | h'
  · exact h'
  · rw [Array.getD_eq_getD_getElem?, Array.getElem?_eq_none h'] at h; cases h
theorem getD_flip {listed : Array Bool} {i : Nat} (h : i < listed.size) : listed.getD i true = listed.getD i false := by
  rw [Array.getD_eq_getD_getElem?, Array.getD_eq_getD_getElem?, Array.getElem?_eq_getElem h]
  rfl
theorem wpAny_of_run (hcall : CallOK P call) (hf : CallFrame call) {K : Kx} {Q : Exit → Act → World → Prop} : ∀ (fuel : Nat) (listed : Array Bool) (rem : List DOp) (s s1 : DS) (G : Gh) (a : Act) (w : World),
    listed.size = ops.size → rem.length = fuel → (∀ j, listed.getD j true = false ↔ ∃ d ∈ rem, d.idx = j) → (∀ d ∈ rem, dRel P nt ops d) → (∀ d ∈ rem, selfOK ops d = true) → (rem.Pairwise fun x y => beforeOK ops (ancs ops ops.size) x y = true) → Closed ops listed →
    drun call base rem s = some s1 → HRel K G s.H w → TRel G nt s.T a → (∀ G' a' w' s', G.le G' → HRel K G' s'.H w' → TRel G' nt s'.T a' → DEq s1 s' → Q .normal a' w') → wpAny P .any ops Q fuel listed a w := by
  intro fuel
  induction fuel with
  | zero =>
    intro listed rem s s1 G a w hsz hlen hun hrel hself hpw hcl hrun hr ht hQ
    have : rem = [] := List.eq_nil_of_length_eq_zero hlen
    subst this
    simp only [drun] at hrun
    cases hrun
    refine ⟨?_, hQ G a w s (Gh.le.refl _) hr ht (DEq.refl _)⟩
    cases hrd : Region.ready .any ops listed with
    | nil => rfl
    | cons i l =>
      have hi : i ∈ Region.ready .any ops listed := by rw [hrd]; exact List.mem_cons_self ..
      obtain ⟨d, hd, _⟩ := (hun i).1 (mem_ready.1 hi).1
      cases hd
  | succ fuel ih =>
    intro listed rem s s1 G a w hsz hlen hun hrel hself hpw hcl hrun hr ht hQ
    have hready : ∀ i ∈ Region.ready .any ops listed, wpOp P ops Q i (wpAny P .any ops Q fuel (listed.setIfInBounds i true)) a w := by
      intro i hi
      have hi0 := (mem_ready.1 hi).1
      obtain ⟨d, hd, rfl⟩ := (hun i).1 hi0
      obtain ⟨α, β, rfl⟩ := List.append_of_mem hd
      have hlt := getD_lt hi0
      have hpw' := List.pairwise_append.1 hpw
      have hsw : ∀ x ∈ α, swapOK x d = true := by
        intro x hx
        have hb := hpw'.2.2 x hx d (List.mem_cons_self ..)
        unfold beforeOK at hb
        simp only [Bool.and_eq_true, Bool.or_eq_true] at hb
        rcases hb.2.2 with h | h
        · have h1 := anc_listed hcl _ _ _ (by rw [← hsz]; exact hlt) (ready_preds hi) h
          have h2 := (hun x.idx).2 ⟨x, List.mem_append_left _ hx, rfl⟩
          rw [getD_flip (getD_lt h2), h1] at h2
          cases h2
        · exact h
      obtain ⟨u, v, k1, k2, k3⟩ := drun_front hf (fun y hy => (hrel y hy).1) hsw hrun
      refine dstep_sem hcall (hrel d hd) k1 hr ht fun G' a' w' q1 q2 q3 => ?_
      refine ih (listed.setIfInBounds d.idx true) (α ++ β) u v G' a' w' (by simpa using hsz) (by simp only [List.length_append, List.length_cons] at hlen ⊢; omega) ?_ (fun y hy => hrel y (by simp only [List.mem_append, List.mem_cons] at hy ⊢; rcases hy with h | h <;> simp [h]))
        (fun y hy => hself y (by simp only [List.mem_append, List.mem_cons] at hy ⊢; rcases hy with h | h <;> simp [h])) (hpw.sublist (by simp)) ?_ k2 q2 q3 (fun G2 a2 w2 s2 r1 r2 r3 r4 => hQ G2 a2 w2 s2 (q1.trans r1) r2 r3 (k3.trans r4))
      · intro j
        by_cases hj : j = d.idx
        · subst hj
          rw [getD_set_self hlt]
          constructor
          · intro h; cases h
          · rintro ⟨y, hy, he⟩
            exfalso
            have hne : ∀ y ∈ α ++ β, y.idx ≠ d.idx := by
              intro y hy he
              rcases List.mem_append.1 hy with h | h
              · have hb := hpw'.2.2 y h d (List.mem_cons_self ..)
                unfold beforeOK at hb
                simp only [Bool.and_eq_true, Bool.not_eq_true'] at hb
                rw [he, Nat.beq_refl] at hb
                exact absurd hb.1 (by simp)
              · have hb := (List.pairwise_cons.1 hpw'.2.1).1 y h
                unfold beforeOK at hb
                simp only [Bool.and_eq_true, Bool.not_eq_true'] at hb
                rw [he, Nat.beq_refl] at hb
                exact absurd hb.1 (by simp)
            exact hne y hy he
        · rw [getD_set_ne true (Ne.symm hj), hun]
          constructor
          · rintro ⟨y, hy, he⟩
            refine ⟨y, ?_, he⟩
            simp only [List.mem_append, List.mem_cons] at hy ⊢
            rcases hy with h | h | h
            · exact .inl h
            · subst h; exact absurd he.symm hj
            · exact .inr h
          · rintro ⟨y, hy, he⟩
            refine ⟨y, ?_, he⟩
            simp only [List.mem_append, List.mem_cons] at hy ⊢
            rcases hy with h | h <;> simp [h]
      · intro j hj p hp
        by_cases hjd : j = d.idx
        · subst hjd
          exact getD_set_true (ready_preds hi p hp)
        · rw [getD_set_ne false (Ne.symm hjd)] at hj
          exact getD_set_true (hcl j hj p hp)
    refine ⟨fun hnil => ?_, hready⟩
    exfalso
    cases rem with
    | nil => simp at hlen
    | cons x rest =>
      have hx0 := (hun x.idx).2 ⟨x, List.mem_cons_self .., rfl⟩
      obtain ⟨_, o, io, ho, _⟩ := hrel x (List.mem_cons_self ..)
      have hxr : x.idx ∈ Region.ready .any ops listed := by
        rw [mem_ready]
        refine ⟨hx0, o, ho, fun e he hb => ?_⟩
        have hp : e.on ∈ preds ops x.idx := preds_mem.2 ⟨o, ho, e, he, hb, rfl⟩
        have hs := hself x (List.mem_cons_self ..)
        unfold selfOK at hs
        rw [List.all_eq_true] at hs
        have hs' := hs _ hp
        simp only [Bool.and_eq_true, Bool.not_eq_true'] at hs'
        have hlt : e.on < listed.size := by rw [hsz]; have h1 := hs'.1; simp [Nat.blt] at h1; omega
        cases hl : listed.getD e.on false with
        | true => rfl
        | false =>
          exfalso
          rw [← getD_flip hlt] at hl
          obtain ⟨y, hy, he'⟩ := (hun e.on).1 hl
          rcases List.mem_cons.1 hy with h | h
          · subst h
            rw [he', Nat.beq_refl] at hs'
            exact absurd hs'.2 (by simp)
          · have hb2 := (List.pairwise_cons.1 hpw).1 y h
            unfold beforeOK at hb2
            simp only [Bool.and_eq_true, Bool.not_eq_true'] at hb2
            have := hb2.2.1
            rw [he'] at this
            simp [hp] at this
      rw [hnil] at hxr
      cases hxr
end
end Go.Abs
