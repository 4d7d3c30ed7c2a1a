/- The rules of code, of calls. -/
import Derived.Test.YtcnnobcncklgfaaGreatDoorAbsCode
namespace Go.Abs
open Go Go.RowKit
set_option linter.unusedVariables false
/-- What holds behind a piece of code. -/
def LQ (K : Kx) (G : Gh) (nt : Nat) (Q : Exit → Tr AV → AH → Prop) : Exit → Act → World → Prop :=
  fun e a w => ∃ G' T H, G.le G' ∧ HRel K G' H w ∧ TRel G' nt T a ∧ Q e T H
/-- Code, abstractly. -/
def AT (P : Program) (nt : Nat) (c : Code) (T : Tr AV) (H : AH) (Q : Exit → Tr AV → AH → Prop) : Prop :=
  ∀ K G a w, HRel K G H w → TRel G nt T a → c.wp P (LQ K G nt Q) a w
/-- Operations in a row, abstractly. -/
def AOps (P : Program) (nt : Nat) (ops : Array Oper) (l : List Nat) (T : Tr AV) (H : AH) (Q : Exit → Tr AV → AH → Prop) : Prop :=
  ∀ K G a w, HRel K G H w → TRel G nt T a → wpOps P ops (LQ K G nt Q) l a w
/-- A call, abstractly. -/
def ACalls (P : Program) (f : FuncId) (args : List AV) (H : AH) (Q : AV → AH → Prop) : Prop :=
  ∀ K G (vs : Array Value) w, HRel K G H w → VRs G args vs.toList → Calls P f vs w fun e w' => ∃ u x G' H', e = .returned u ∧ G.le G' ∧ HRel K G' H' w' ∧ VR G' x u ∧ Q x H'
theorem LQ.weaken {K : Kx} {G G' : Gh} {nt : Nat} {Q : Exit → Tr AV → AH → Prop} (h : G.le G') {e : Exit} {a : Act} {w : World} (hq : LQ K G' nt Q e a w) : LQ K G nt Q e a w := by
  obtain ⟨G2, T, H, h1, h2⟩ := hq
  exact ⟨G2, T, H, h.trans h1, h2⟩
section
variable {P : Program} {nt : Nat} {T : Tr AV} {H : AH} {Q : Exit → Tr AV → AH → Prop}
theorem AT.mono {c : Code} {Q' : Exit → Tr AV → AH → Prop} (h : AT P nt c T H Q) (hq : ∀ e T H, Q e T H → Q' e T H) : AT P nt c T H Q' := fun K G a w hr ht =>
  wp_mono (h K G a w hr ht) fun e a w ⟨G', T', H', h1, h2, h3, h4⟩ => ⟨G', T', H', h1, h2, h3, hq _ _ _ h4⟩
theorem ACalls.mono {f : FuncId} {args : List AV} {R R' : AV → AH → Prop} (h : ACalls P f args H R) (hr : ∀ x H, R x H → R' x H) : ACalls P f args H R' := fun K G vs w h1 h2 =>
  (h K G vs w h1 h2).mono fun e w' ⟨u, x, G', H', q1, q2, q3, q4, q5⟩ => ⟨u, x, G', H', q1, q2, q3, q4, hr _ _ q5⟩
/-- What stands behind a piece that ends as usual. -/
def thenA (R Q : Exit → Tr AV → AH → Prop) : Exit → Tr AV → AH → Prop
  | .normal, T, H => R .normal T H
  | e, T, H => Q e T H
theorem AT.skip (h : Q .normal T H) : AT P nt .skip T H Q := fun K G a w hr ht => wp_skip ⟨G, T, H, Gh.le.refl _, hr, ht, h⟩
theorem AT.label {l : Nat} (h : Q .normal T H) : AT P nt (.label l) T H Q := fun K G a w hr ht => wp_label ⟨G, T, H, Gh.le.refl _, hr, ht, h⟩
theorem AT.exit {id : Nat} (h : Q (.exit id) T H) : AT P nt (.exit id) T H Q := fun K G a w hr ht => wp_exit ⟨G, T, H, Gh.le.refl _, hr, ht, h⟩
theorem AT.goto {id : Nat} (h : Q (.goto id) T H) : AT P nt (.goto id) T H Q := fun K G a w hr ht => wp_goto ⟨G, T, H, Gh.le.refl _, hr, ht, h⟩
theorem AT.ret (h : Q .ret T H) : AT P nt .ret T H Q := fun K G a w hr ht => wp_ret ⟨G, T, H, Gh.le.refl _, hr, ht, h⟩
theorem AT.seq {x y : Code} {R : Tr AV → AH → Prop} (h1 : AT P nt x T H fun e T' H' => match e with | .normal => R T' H' | e => Q e T' H') (h2 : ∀ T' H', R T' H' → AT P nt y T' H' Q) : AT P nt (.seq x y) T H Q := fun K G a w hr ht =>
  wp_seq (wp_mono (h1 K G a w hr ht) fun e a' w' ⟨G', T', H', q1, q2, q3, q4⟩ => by
    cases e with
    | normal => exact wp_mono (h2 T' H' q4 K G' a' w' q2 q3) fun e a w hq => LQ.weaken q1 hq
    | exit id => exact ⟨G', T', H', q1, q2, q3, q4⟩
    | goto l => exact ⟨G', T', H', q1, q2, q3, q4⟩
    | ret => exact ⟨G', T', H', q1, q2, q3, q4⟩
    | panic ch => exact ⟨G', T', H', q1, q2, q3, q4⟩
    | outgrown => exact ⟨G', T', H', q1, q2, q3, q4⟩)
/-- The usual form: what follows stands in the post. -/
theorem AT.seq' {x y : Code} (h : AT P nt x T H fun e T' H' => match e with | .normal => AT P nt y T' H' Q | e => Q e T' H') : AT P nt (.seq x y) T H Q := AT.seq h fun _ _ h => h
theorem AT.cond {c : Operand} {x y : Code} {b : Bool} (hc : aev T c = some (.bool b)) (h : AT P nt (if b then x else y) T H Q) : AT P nt (.cond c x y) T H Q := fun K G a w hr ht => by
  have hv := aev_ok ht hc
  simp only [VR] at hv
  exact wp_cond hv (h K G a w hr ht)
theorem AT.cond_split {c : Operand} {x y : Code} {b : Bool} (hc : aev T c = some (.bool b)) (h1 : b = true → AT P nt x T H Q) (h2 : b = false → AT P nt y T H Q) : AT P nt (.cond c x y) T H Q := by
  cases b
  · exact AT.cond hc (h2 rfl)
  · exact AT.cond hc (h1 rfl)
theorem AT.block {id : Nat} {c : Code} (h : AT P nt c T H fun e T' H' => match e with | .exit id' => if id' = id then Q .normal T' H' else Q (.exit id') T' H' | e => Q e T' H') : AT P nt (.block id c) T H Q := fun K G a w hr ht =>
  wp_block (wp_mono (h K G a w hr ht) fun e a' w' ⟨G', T', H', q1, q2, q3, q4⟩ => by
    cases e with
    | exit id' =>
      simp only [Exit.inBlock]
      simp only at q4
      split
      · rename_i he; rw [if_pos he] at q4; exact ⟨G', T', H', q1, q2, q3, q4⟩
      · rename_i he; rw [if_neg he] at q4; exact ⟨G', T', H', q1, q2, q3, q4⟩
    | normal => exact ⟨G', T', H', q1, q2, q3, q4⟩
    | goto l => exact ⟨G', T', H', q1, q2, q3, q4⟩
    | ret => exact ⟨G', T', H', q1, q2, q3, q4⟩
    | panic ch => exact ⟨G', T', H', q1, q2, q3, q4⟩
    | outgrown => exact ⟨G', T', H', q1, q2, q3, q4⟩)
theorem rounds_mono {c : Code} {Q Q' : Exit → Act → World → Prop} (hq : ∀ e a w, Q e a w → Q' e a w) : ∀ {n m : Nat}, n ≤ m → ∀ {a : Act} {w : World}, Code.rounds P c Q n a w → Code.rounds P c Q' m a w
  | 0, m, _, a, w, h => h.elim
  | n + 1, 0, hl, a, w, h => by omega
  | n + 1, m + 1, hl, a, w, h => by
    rw [rounds_succ] at h ⊢
    refine wp_mono h fun e a' w' he => ?_
    cases e with
    | normal => exact rounds_mono hq (by omega : n ≤ m) he
    | exit id => exact hq _ _ _ he
    | goto l => exact hq _ _ _ he
    | ret => exact hq _ _ _ he
    | panic ch => exact hq _ _ _ he
    | outgrown => exact hq _ _ _ he
/-- A loop: what holds at its head, with a number that falls. -/
theorem AT.loop {c : Code} (I : Nat → Tr AV → AH → Prop) {n : Nat} (h0 : I n T H) (round : ∀ n T H, I n T H → AT P nt c T H fun e T' H' => match e with | .normal => ∃ m, m < n ∧ I m T' H' | e => Q e T' H') : AT P nt (.loop c) T H Q := by
  intro K G a w hr ht
  have key : ∀ n T H, I n T H → ∀ G a w, HRel K G H w → TRel G nt T a → Code.rounds P c (LQ K G nt Q) (n + 1) a w := by
    intro n
    induction n using Nat.strongRecOn with
    | _ n ih =>
      intro T H hI G a w hr ht
      rw [rounds_succ]
      refine wp_mono (round n T H hI K G a w hr ht) fun e a' w' ⟨G', T', H', q1, q2, q3, q4⟩ => ?_
      cases e with
      | normal =>
        obtain ⟨m, hm, hI'⟩ := q4
        exact rounds_mono (fun e a w hq => LQ.weaken q1 hq) (by omega : m + 1 ≤ n) (ih m hm T' H' hI' G' a' w' q2 q3)
      | exit id => exact ⟨G', T', H', q1, q2, q3, q4⟩
      | goto l => exact ⟨G', T', H', q1, q2, q3, q4⟩
      | ret => exact ⟨G', T', H', q1, q2, q3, q4⟩
      | panic ch => exact ⟨G', T', H', q1, q2, q3, q4⟩
      | outgrown => exact ⟨G', T', H', q1, q2, q3, q4⟩
  exact wp_loop_rounds (n + 1) (key n T H h0 G a w hr ht)
/-- One more round. -/
theorem AT.region {id : Nat} {ops : Array Oper} (h : AOps P nt ops (List.range ops.size) T H Q) : AT P nt (.region id ops false) T H Q := fun K G a w hr ht => wp_region (h K G a w hr ht)
/-- Is an operation to be carried out? -/
def wantedA (ops : Array Oper) (T : Tr AV) (o : Oper) : Option Bool :=
  match o.guard with
  | none => some true
  | some (j, want) =>
    match (ops[j]?).bind (·.dst) with
    | some d =>
      match T.get d with
      | some (.bool b) => some (b == want)
      | some .und => some false
      | _ => none
    | none => none
theorem wantedA_ok {G : Gh} {ops : Array Oper} {a : Act} {o : Oper} {b : Bool} (ht : TRel G nt T a) (hd : ∀ d, ((o.guard.bind fun g => (ops[g.1]?).bind (·.dst)) = some d) → d < nt) (h : wantedA ops T o = some b) : Region.wanted o (yielded ops a.tmps) = b := by
  unfold wantedA at h
  unfold Region.wanted
  split at h
  · rename_i hg
    cases h
    rw [hg]
  · rename_i j want hg
    rw [hg]
    simp only
    split at h
    · rename_i d hdst
      split at h
      · rename_i v hv
        cases h
        have := ht.at' d _ hv
        simp only [VR] at this
        have hlt := hd d (by rw [hg]; simpa using hdst)
        unfold yielded
        rw [hdst]
        have hs : a.tmps[d]? = some (.bool v) := by
          rw [Array.getElem?_eq_getElem (by rw [ht.size]; exact hlt)]
          rw [Array.getD_eq_getD_getElem?, Array.getElem?_eq_getElem (by rw [ht.size]; exact hlt)] at this
          simpa using this
        simp only [Option.bind_some, hs]
        cases v <;> cases want <;> rfl
      · rename_i hv
        cases h
        have := ht.at' d _ hv
        simp only [VR] at this
        have hlt := hd d (by rw [hg]; simpa using hdst)
        unfold yielded
        rw [hdst]
        have hs : a.tmps[d]? = some undef := by
          rw [Array.getElem?_eq_getElem (by rw [ht.size]; exact hlt)]
          rw [Array.getD_eq_getD_getElem?, Array.getElem?_eq_getElem (by rw [ht.size]; exact hlt)] at this
          simpa using this
        simp only [Option.bind_some, hs]
        rfl
      · cases h
    · cases h
/-- The function that a call calls, and its arguments. -/
def acallee (T : Tr AV) (c : Call) : Option (FuncId × List AV) :=
  match c.callee with
  | .value f =>
    match aev T f, aevs T c.args.toList with
    | some (.fn (.func g) cap), some xs => some (g, xs ++ cap)
    | _, _ => none
  | _ => none
def callableB (P : Program) (f : FuncId) : Bool :=
  match P.funcs[f]? with
  | some fn => !(fn.name == "runtime.NumGoroutine") && fn.body.isSome
  | none => false
theorem run_callee {P : Program} {G : Gh} {a : Act} {c : Call} {f : FuncId} {xs : List AV} (ht : TRel G nt T a) (h : acallee T c = some (f, xs)) (hc : callableB P f = true)
    (dst : Option Tmp) (type : TypeId) (pos : String) (after : Array Edge) (guard : Option (Nat × Bool)) (w : World) :
    ∃ vs : Array Value, (execOp a.eval ⟨dst, .call c, type, pos, after, guard⟩).run P w = .ok (.enter f vs) w ∧ VRs G xs vs.toList := by
  obtain ⟨callee, args, argTypes⟩ := c
  unfold acallee at h
  simp only at h
  split at h
  · rename_i fo hco
    split at h
    · rename_i g cap ys h1 h2
      cases h
      have hf := aev_ok ht h1
      simp only [VR] at hf
      obtain ⟨cs, hf, hcs⟩ := hf
      have hv := aevs_ok ht h2
      unfold callableB at hc
      split at hc
      · rename_i fn hfn
        simp only [Bool.and_eq_true, Bool.not_eq_true'] at hc
        refine ⟨args.map a.eval ++ cs, ?_, by
          rw [Array.toList_append, Array.toList_map]
          exact hv.append hcs⟩
        have hb : fn.body.isNone = false := by
          cases hb : fn.body with
          | none => rw [hb] at hc; simp at hc
          | some _ => rfl
        have hname : ¬ fn.name = "runtime.NumGoroutine" := by simpa using hc.1
        have hnone : ¬ fn.body = none := by intro e; rw [e] at hb; cases hb
        simp [execOp, resolve, hf, Deferred.ofValue, invoke, callFunc, hfn, hname, hnone]
      · cases hc
    · cases h
  · cases h
variable {ops : Array Oper}
theorem AOps.nil (h : Q .normal T H) : AOps P nt ops [] T H Q := fun K G a w hr ht => ⟨G, T, H, Gh.le.refl _, hr, ht, h⟩
/-- Where an operation's guard looks is a slot that there is. -/
def guardIn (ops : Array Oper) (nt : Nat) (o : Oper) : Bool := match o.guard.bind fun g => (ops[g.1]?).bind (·.dst) with | some d => decide (d < nt) | none => true
theorem guardIn_ok {o : Oper} (h : guardIn ops nt o = true) : ∀ d, ((o.guard.bind fun g => (ops[g.1]?).bind (·.dst)) = some d) → d < nt := by
  intro d hd
  unfold guardIn at h
  rw [hd] at h
  simpa using h
theorem wpOps_weaken {K : Kx} {G G' : Gh} (hl : G.le G') : ∀ {l : List Nat} {a : Act} {w : World}, wpOps P ops (LQ K G' nt Q) l a w → wpOps P ops (LQ K G nt Q) l a w := by
  intro l
  induction l with
  | nil => intro a w h; exact LQ.weaken hl h
  | cons i l ih =>
    intro a w h
    rw [wpOps_cons] at h ⊢
    unfold wpOp at h ⊢
    split
    · rename_i ho; simp only [ho] at h; exact ih h
    · rename_i o ho
      simp only [ho] at h
      split
      · rename_i hw
        simp only [hw, if_true] at h
        rcases h with h | ⟨h1, h2⟩
        · refine .inl ?_
          have := Oper.wp_mono (P := P) (Q := LQ K G' nt Q) (fun a w h => ih h) h
          unfold Oper.wp at this ⊢
          generalize (execOp a.eval o).run P w = r at *
          cases r with
          | ok n w' =>
            cases n <;> simp only [Oper.upon] at this ⊢ <;> first
              | exact this
              | exact Calls.mono this (fun e w'' he => by
                  cases e with
                  | returned v => exact he
                  | panicked ch => exact LQ.weaken hl he
                  | outgrown => obtain ⟨a0, w0, h0⟩ := he; exact ⟨a0, w0, LQ.weaken hl h0⟩)
          | halt x w' => cases x <;> simp only [Oper.upon] at this ⊢ <;> first | exact this | exact LQ.weaken hl this
        · obtain ⟨a0, w0, h0⟩ := h2
          exact .inr ⟨h1, a0, w0, LQ.weaken hl h0⟩
      · rename_i hw
        simp only [hw, Bool.false_eq_true, if_false] at h
        exact ih h
theorem AOps.op {i : Nat} {l : List Nat} {o : Oper} {x : AV} {H' : AH} {T' : Tr AV} (ho : ops[i]? = some o) (hg : guardIn ops nt o = true) (hw : wantedA ops T o = some true) (ha : aop P T o.op H = some (x, H')) (hp : tput nt T o.dst x = some T')
    (h : AOps P nt ops l T' H' Q) : AOps P nt ops (i :: l) T H Q := fun K G a w hr ht => by
  rw [wpOps_cons]
  unfold wpOp
  rw [ho]
  simp only
  rw [if_pos (wantedA_ok ht (guardIn_ok hg) hw)]
  refine .inl ?_
  obtain ⟨nx, w', G', h1, h2, h3, h4⟩ := aop_ok hr ht ha
  unfold Oper.wp
  rw [h1]
  rcases h4 with ⟨u, rfl, hv⟩ | ⟨rfl, rfl⟩
  · rw [Oper.upon_value]
    exact wpOps_weaken h2 (h K G' _ w' h3 ((ht.mono h2).put hp hv))
  · rw [Oper.upon_skip]
    exact wpOps_weaken h2 (h K G' _ w' h3 ((ht.mono h2).put hp (by simp [VR])))
theorem AOps.no {i : Nat} {l : List Nat} {o : Oper} {T' : Tr AV} (ho : ops[i]? = some o) (hg : guardIn ops nt o = true) (hw : wantedA ops T o = some false) (hp : tput nt T o.dst .und = some T')
    (h : AOps P nt ops l T' H Q) : AOps P nt ops (i :: l) T H Q := fun K G a w hr ht => by
  rw [wpOps_cons]
  unfold wpOp
  rw [ho]
  simp only
  rw [if_neg (by rw [wantedA_ok ht (guardIn_ok hg) hw]; simp)]
  exact h K G _ w hr (ht.put hp (by simp [VR]))
theorem AOps.call {i : Nat} {l : List Nat} {o : Oper} {c : Call} {f : FuncId} {xs : List AV} {R : AV → AH → Prop} (ho : ops[i]? = some o) (hg : guardIn ops nt o = true) (hw : wantedA ops T o = some true) (hop : o.op = .call c)
    (hc : acallee T c = some (f, xs)) (hb : callableB P f = true) (hcall : ACalls P f xs H R) (h : ∀ x H', R x H' → ∃ T', tput nt T o.dst x = some T' ∧ AOps P nt ops l T' H' Q) : AOps P nt ops (i :: l) T H Q := fun K G a w hr ht => by
  obtain ⟨dst, op, type, pos, after, guard⟩ := o
  simp only at hop
  subst hop
  rw [wpOps_cons]
  unfold wpOp
  rw [ho]
  simp only
  rw [if_pos (wantedA_ok ht (guardIn_ok hg) hw)]
  refine .inl ?_
  obtain ⟨vs, h1, h2⟩ := run_callee ht hc hb dst type pos after guard w
  unfold Oper.wp
  rw [h1, Oper.upon_enter]
  refine (hcall K G vs w hr h2).mono fun e w' ⟨u, x, G', H', q1, q2, q3, q4, q5⟩ => ?_
  subst q1
  obtain ⟨T', k1, k2⟩ := h x H' q5
  exact wpOps_weaken q2 (k2 K G' _ w' q3 ((ht.mono q2).put k1 q4))
end
/-- The slots at a function's beginning. -/
def tinit : List AV → Nat → Tr AV
  | [], _ => .nil
  | x :: xs, i => (tinit xs (i + 1)).set i x
theorem tinit_get : ∀ (xs : List AV) (i j : Nat), (tinit xs i).get j = if i ≤ j then xs[j - i]? else none
  | [], i, j => by simp [tinit, Tr.get_nil]
  | x :: xs, i, j => by
    rw [tinit, Tr.get_set, tinit_get xs (i + 1) j]
    by_cases h : j = i
    · subst h; simp
    · rw [if_neg h]
      by_cases h1 : i + 1 ≤ j
      · rw [if_pos h1, if_pos (by omega), show j - i = (j - (i + 1)) + 1 by omega]; simp
      · rw [if_neg h1, if_neg (by omega)]
/-- What a function's result variables hold. -/
def ares (P : Program) (T : Tr AV) (H : AH) : List ResultVar → Option (List AV)
  | [] => some []
  | .tmp t :: rs => match T.get t, ares P T H rs with
    | some x, some xs => some (x :: xs)
    | _, _ => none
  | .cell p t :: rs => match (T.get p).bind fun x => aload P H t x, ares P T H rs with
    | some x, some xs => some (x :: xs)
    | _, _ => none
def aresult (P : Program) (T : Tr AV) (H : AH) (rs : List ResultVar) : Option AV :=
  match ares P T H rs with
  | some [x] => some x
  | some xs => some (.tup xs)
  | none => none
/-- One result. -/
def resOne (tmps : Array Value) : ResultVar → Sem Value
  | .tmp t => Pure.pure (tmps.getD t undef)
  | .cell a t => do loadVar t (← asAddr (tmps.getD a undef))
theorem results_eq (fn : Func) (tmps : Array Value) : results fn tmps = (do let vs ← fn.results.mapM (resOne tmps); Pure.pure (if h : vs.size = 1 then vs[0] else .tuple vs)) := by
  unfold results
  congr 1
theorem ares_ok {P : Program} {K : Kx} {G : Gh} {H : AH} {w : World} {nt : Nat} {T : Tr AV} {a : Act} (h : HRel K G H w) (ht : TRel G nt T a) : ∀ {rs : List ResultVar} {xs : List AV}, ares P T H rs = some xs →
    ∃ us : List Value, (rs.mapM (resOne a.tmps)).run P w = .ok us w ∧ VRs G xs us
  | [], xs, hx => by simp only [ares] at hx; cases hx; exact ⟨[], by simp, by simp [VRs]⟩
  | .tmp t :: rs, xs, hx => by
    simp only [ares] at hx
    split at hx
    · rename_i x xs' h1 h2
      cases hx
      obtain ⟨us, q1, q2⟩ := ares_ok h ht h2
      refine ⟨a.tmps.getD t undef :: us, ?_, by simp only [VRs]; exact ⟨_, _, rfl, ht.at' t x h1, q2⟩⟩
      simp only [List.mapM_cons, Sem.run_bind, q1, resOne, Sem.run_pure, Result.andThen_ok]
    · cases hx
  | .cell p t :: rs, xs, hx => by
    simp only [ares] at hx
    split at hx
    · rename_i x xs' h1 h2
      cases hx
      rw [Option.bind_eq_some_iff] at h1
      obtain ⟨y, h3, h4⟩ := h1
      obtain ⟨us, q1, q2⟩ := ares_ok h ht h2
      obtain ⟨u, k1, k2⟩ := aload_ok (P := P) h (ht.at' p y h3) h4
      refine ⟨u :: us, ?_, by simp only [VRs]; exact ⟨_, _, rfl, k2, q2⟩⟩
      have hptr : ∃ ad, a.tmps.getD p undef = .pointer (some ad) := by
        have hy := ht.at' p y h3
        unfold aload at h4
        split at h4
        · split at h4
          · rw [Option.map_eq_some_iff] at h4
            obtain ⟨cs, h5, _⟩ := h4
            obtain ⟨_, b, o, hv, _⟩ := cellsAt_ok h hy h5
            exact ⟨_, hv⟩
          · rw [Option.bind_eq_some_iff] at h4
            obtain ⟨cs, h5, _⟩ := h4
            obtain ⟨_, b, o, hv, _⟩ := cellsAt_ok h hy h5
            exact ⟨_, hv⟩
        · cases h4
      obtain ⟨ad, hptr⟩ := hptr
      have k1' : (loadVar t ad).run P w = .ok u w := by
        have := k1
        rw [hptr] at this
        simpa [Instr.loadAt, Instr.sureAddr] using this
      simp only [List.mapM_cons, Sem.run_bind, q1, resOne, hptr, asAddr, k1', Sem.run_pure, Result.andThen_ok]
    · cases hx
/-- What a function's body must do. -/
def bodyQ (P : Program) (fn : Func) (Q : AV → AH → Prop) : Exit → Tr AV → AH → Prop
  | .normal, T, H => ∃ x, aresult P T H fn.results.toList = some x ∧ Q x H
  | .ret, T, H => ∃ x, aresult P T H fn.results.toList = some x ∧ Q x H
  | _, _, _ => False
theorem aresult_ok {P : Program} {K : Kx} {G : Gh} {H : AH} {w : World} {nt : Nat} {T : Tr AV} {a : Act} {fn : Func} {x : AV} (h : HRel K G H w) (ht : TRel G nt T a) (hx : aresult P T H fn.results.toList = some x) :
    ∃ u, (results fn a.tmps).run P w = .ok u w ∧ VR G x u := by
  unfold aresult at hx
  split at hx
  · rename_i y hy
    cases hx
    obtain ⟨us, q1, q2⟩ := ares_ok h ht hy
    obtain ⟨u, rfl, q3⟩ := q2.one
    exact ⟨u, by rw [results_eq]; simp [Array.mapM_eq_mapM_toList, q1], q3⟩
  · rename_i xs hne hy
    cases hx
    obtain ⟨us, q1, q2⟩ := ares_ok h ht hy
    have hl : us.length ≠ 1 := by
      rw [q2.len]
      intro h1
      match xs, h1, hne with
      | [y], _, hne => exact hne y rfl
    refine ⟨.tuple us.toArray, ?_, by simp only [VR]; exact ⟨_, rfl, by simpa using q2⟩⟩
    rw [results_eq]
    simp [Array.mapM_eq_mapM_toList, q1, hl]
  · cases hx
/-- A function, by its body. -/
theorem ACalls.of_body {P : Program} {f : FuncId} {fn : Func} {c : Code} {args : List AV} {H : AH} {Q : AV → AH → Prop} (hf : P.funcs[f]? = some fn) (hb : fn.body = some c) (hn : args.length ≤ fn.ntmps)
    (h : AT P fn.ntmps c (tinit args 0) H (bodyQ P fn Q)) : ACalls P f args H Q := by
  intro K G vs w hr hv
  have hl : vs.size = args.length := by rw [← Array.length_toList]; exact hv.len
  refine calls_of_wp hf hb (wp_mono (h K G _ w hr ⟨rfl, by simp; omega, fun t x hx => ?_⟩) fun e a' w' ⟨G', T', H', q1, q2, q3, q4⟩ => ?_)
  · rw [tinit_get] at hx
    simp at hx
    obtain ⟨u, h1, h2⟩ := hv.get t x hx
    have h3 : vs[t]? = some u := by simpa using h1
    have hlt : t < vs.size := (Array.getElem?_eq_some_iff.1 h3).1
    have : (vs ++ Array.replicate (fn.ntmps - vs.size) undef).getD t undef = u := by
      rw [Array.getD_eq_getD_getElem?, Array.getElem?_append_left hlt, h3]; rfl
    rw [this]; exact h2
  · cases e with
    | normal =>
      obtain ⟨x, hx, hQ⟩ := q4
      obtain ⟨u, k1, k2⟩ := aresult_ok q2 q3 hx
      exact ⟨q3.defers, u, k1, u, x, G', H', rfl, q1, q2, k2, hQ⟩
    | ret =>
      obtain ⟨x, hx, hQ⟩ := q4
      obtain ⟨u, k1, k2⟩ := aresult_ok q2 q3 hx
      exact ⟨q3.defers, u, k1, u, x, G', H', rfl, q1, q2, k2, hQ⟩
    | exit id => exact q4.elim
    | goto l => exact q4.elim
    | panic ch => exact q4.elim
    | outgrown => exact q4.elim
end Go.Abs
