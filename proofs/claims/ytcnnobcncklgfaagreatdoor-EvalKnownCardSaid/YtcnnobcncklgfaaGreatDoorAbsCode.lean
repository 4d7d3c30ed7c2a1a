/- Operations in a row, code, calls: rules. -/
import Derived.Test.YtcnnobcncklgfaaGreatDoorAbsMore
import Derived.LoopN
namespace Go.Abs
open Go Go.RowKit
set_option linter.unusedVariables false
def aevs (T : Tr AV) : List Operand → Option (List AV)
  | [] => some []
  | o :: os => match aev T o, aevs T os with
    | some x, some xs => some (x :: xs)
    | _, _ => none
theorem aevs_ok {G : Gh} {nt : Nat} {T : Tr AV} {a : Act} (h : TRel G nt T a) : ∀ {os : List Operand} {xs : List AV}, aevs T os = some xs → VRs G xs (os.map a.eval)
  | [], xs, hx => by simp only [aevs] at hx; cases hx; simp [VRs]
  | o :: os, xs, hx => by
    simp only [aevs] at hx
    split at hx
    · rename_i x xs' h1 h2
      cases hx
      simp only [VRs, List.map_cons]
      exact ⟨_, _, rfl, aev_ok h h1, aevs_ok h h2⟩
    · cases hx
def aparts (T : Tr AV) : List (Nat × Operand) → Option (List (Nat × AV))
  | [] => some []
  | (i, o) :: os => match aev T o, aparts T os with
    | some x, some xs => some ((i, x) :: xs)
    | _, _ => none
theorem aparts_ok {G : Gh} {nt : Nat} {T : Tr AV} {a : Act} (h : TRel G nt T a) : ∀ {os : List (Nat × Operand)} {xs : List (Nat × AV)}, aparts T os = some xs →
    xs.length = os.length ∧ ∀ (j : Nat) p, xs[j]? = some p → ∃ v, (os.map fun (i, x) => (i, a.eval x))[j]? = some (p.1, v) ∧ VR G p.2 v
  | [], xs, hx => by simp only [aparts] at hx; cases hx; exact ⟨rfl, fun j p hj => by simp at hj⟩
  | (i, o) :: os, xs, hx => by
    simp only [aparts] at hx
    split at hx
    · rename_i x xs' h1 h2
      cases hx
      obtain ⟨q1, q2⟩ := aparts_ok h h2
      refine ⟨by simp [q1], fun j p hj => ?_⟩
      cases j with
      | zero => simp at hj; subst hj; exact ⟨a.eval o, by simp, aev_ok h h1⟩
      | succ j => simp at hj; simpa using q2 j p hj
    · cases hx
theorem aparts_arr {G : Gh} {nt : Nat} {T : Tr AV} {a : Act} (h : TRel G nt T a) {os : Array (Nat × Operand)} {xs : List (Nat × AV)} (hx : aparts T os.toList = some xs) :
    ∃ ps : Array (Nat × Value), ps = (os.map fun (i, x) => (i, a.eval x)) ∧ xs.length = ps.size ∧ ∀ (j : Nat) p, xs[j]? = some p → ∃ v, ps[j]? = some (p.1, v) ∧ VR G p.2 v := by
  obtain ⟨q1, q2⟩ := aparts_ok h hx
  refine ⟨_, rfl, by simp [q1], fun j p hj => ?_⟩
  obtain ⟨v, hv, hr⟩ := q2 j p hj
  refine ⟨v, ?_, hr⟩
  rw [← Array.getElem?_toList, Array.toList_map]
  exact hv
def aevo (T : Tr AV) : Option Operand → Option (Option AV)
  | none => some none
  | some o => (aev T o).map some
theorem aevo_ok {G : Gh} {nt : Nat} {T : Tr AV} {a : Act} (h : TRel G nt T a) {o : Option Operand} {x : Option AV} (hx : aevo T o = some x) : VRo G x (o.map a.eval) := by
  cases o with
  | none => simp only [aevo] at hx; cases hx; rfl
  | some o =>
    simp only [aevo] at hx
    rw [Option.map_eq_some_iff] at hx
    obtain ⟨y, h1, rfl⟩ := hx
    exact ⟨_, rfl, aev_ok h h1⟩
/-- The lesser or the greater of two. -/
def amm (mx : Bool) : List AV → Option AV
  | [.int k a, .int _ b] => some (.int k (if mx then (if b > a then b else a) else (if b < a then b else a)))
  | _ => none
/-- A call of a builtin. -/
def abuiltin (P : Program) (T : Tr AV) (c : Call) (H : AH) : Option (AV × AH) :=
  match c.callee with
  | .builtin b =>
    match aevs T c.args.toList with
    | some vs =>
      match b, vs, c.argTypes.toList with
      | .len, [p], [t] => (alen P t p).map (·, H)
      | .cap, [p], [t] => (acap P t p).map (·, H)
      | .append, [p, q], [t, u] => if u = t then aappend P t p q H else aappendZ P t u p q H
      | .min, vs, _ => (amm false vs).map (·, H)
      | .max, vs, _ => (amm true vs).map (·, H)
      | _, _, _ => none
    | none => none
  | _ => none
/-- An operation that is no call of a function. -/
def aop (P : Program) (T : Tr AV) (op : Op) (H : AH) : Option (AV × AH) :=
  match op with
  | .move x => (aev T x).map (·, H)
  | .assign x => (aev T x).map (·, H)
  | .pick c a b => match aev T c with
    | some (.bool true) => (aev T a).map (·, H)
    | some (.bool false) => (aev T b).map (·, H)
    | _ => none
  | .alloc e => (zeroA P e).bind fun z => abox H z
  | .box _ x => (aev T x).bind fun z => abox H z
  | .build t parts => (aparts T parts.toList).bind fun ps => (abuild P t ps).map (·, H)
  | .buildSlice t len parts => (aparts T parts.toList).bind fun ps => abuildSliceE P t len ps H
  | .makeInterface t x => (aev T x).bind fun p => (amkiface P t p).map (·, H)
  | .makeSlice t l c => (aev T l).bind fun p => (aev T c).bind fun q => amkslice P t p q H
  | .load t x => (aev T x).bind fun p => (aload P H t p).map (·, H)
  | .store t x y => (aev T x).bind fun p => (aev T y).bind fun v => (astore P H t p v).map fun H' => (.und, H')
  | .nilCheck x => (aev T x).bind fun p => match p with
    | .ptr g e i => some (.ptr g e i, H)
    | .vptr r i => some (.vptr r i, H)
    | .fn (.func f) cap => some (.fn (.func f) cap, H)
    | _ => none
  | .binOp op t x y _ => (aev T x).bind fun p => (aev T y).bind fun q => (abinC P op t x y p q).map (·, H)
  | .unOp op _ x => (aev T x).bind fun p => (aun op p).map (·, H)
  | .convert s d x => (aev T x).bind fun p => aconvH P s d p H
  | .makeFunc fn first cap => if first.isEmpty then (aevs T cap.toList).map fun cs => (.fn fn cs, H) else none
  | .slice t x lo hi mx => (aev T x).bind fun p => (aevo T lo).bind fun l => (aevo T hi).bind fun h => (aevo T mx).bind fun m => (aslice P t p l h m).map (·, H)
  | .fieldAddr t x f => (aev T x).bind fun p => (afieldAddr P t p f).map (·, H)
  | .field t x f => (aev T x).bind fun p => (afield P t p f).map (·, H)
  | .indexAddr t x i => (aev T x).bind fun p => (aev T i).bind fun q => (aindexAddr P t p q).map (·, H)
  | .index t x i => (aev T x).bind fun p => (aev T i).bind fun q => (aindex P t p q).map (·, H)
  | .extract x i => (aev T x).bind fun p => match p with
    | .tup vs => (vs[i]?).map (·, H)
    | _ => none
  | .call c => abuiltin P T c H
  | _ => none
/-- What an operation leaves. -/
def OpOK (P : Program) (K : Kx) (G : Gh) (H' : AH) (x : AV) (s : Sem Next) (w : World) : Prop :=
  ∃ nx w' G', s.run P w = .ok nx w' ∧ G.le G' ∧ HRel K G' H' w' ∧ ((∃ u, nx = .value u ∧ VR G' x u) ∨ (nx = .skip ∧ x = .und))
theorem OpOK.val {P : Program} {K : Kx} {G : Gh} {H : AH} {x : AV} {s : Sem Value} {w : World} (h : HRel K G H w) (hs : ∃ u, s.run P w = .ok u w ∧ VR G x u) :
    OpOK P K G H x (do pure (.value (← s))) w := by
  obtain ⟨u, h1, h2⟩ := hs
  exact ⟨.value u, w, G, by simp [h1], Gh.le.refl _, h, .inl ⟨u, rfl, h2⟩⟩
theorem OpOK.mem {P : Program} {K : Kx} {G : Gh} {H' : AH} {x : AV} {s : Sem Value} {w : World} (hs : ∃ u w' G', s.run P w = .ok u w' ∧ G.le G' ∧ HRel K G' H' w' ∧ VR G' x u) :
    OpOK P K G H' x (do pure (.value (← s))) w := by
  obtain ⟨u, w', G', h1, h2, h3, h4⟩ := hs
  exact ⟨.value u, w', G', by simp [h1], h2, h3, .inl ⟨u, rfl, h4⟩⟩
theorem VRs.one {G : Gh} {x : AV} {vs : List Value} (h : VRs G [x] vs) : ∃ u, vs = [u] ∧ VR G x u := by
  simp only [VRs] at h
  obtain ⟨u, us, rfl, h1, rfl⟩ := h
  exact ⟨u, rfl, h1⟩
theorem amm_ok {P : Program} {G : Gh} {mx : Bool} {xs : List AV} {x : AV} {vs : List Value} (h : amm mx xs = some x) (hv : VRs G xs vs) (ts : Array TypeId) (t : TypeId) (w : World) :
    ∃ u, ((if mx then Builtin.max_ ts t vs.toArray else Builtin.min_ ts t vs.toArray) : Sem Value).run P w = .ok u w ∧ VR G x u := by
  unfold amm at h
  split at h
  · rename_i k a k' b
    cases h
    simp only [VRs, VR] at hv
    obtain ⟨u, us, rfl, rfl, u', us', rfl, rfl, rfl⟩ := hv
    cases mx
    · exact ⟨_, by simp [Builtin.min_, Builtin.min2]; rfl, by simp [VR]⟩
    · exact ⟨_, by simp [Builtin.max_, Builtin.max2]; rfl, by simp [VR]⟩
  · cases h
theorem VRs.two {G : Gh} {x y : AV} {vs : List Value} (h : VRs G [x, y] vs) : ∃ u v, vs = [u, v] ∧ VR G x u ∧ VR G y v := by
  simp only [VRs] at h
  obtain ⟨u, us, rfl, h1, v, vs, rfl, h2, rfl⟩ := h
  exact ⟨u, v, rfl, h1, h2⟩
theorem abuiltin_ok {P : Program} {K : Kx} {G : Gh} {H H' : AH} {w : World} {nt : Nat} {T : Tr AV} {a : Act} {c : Call} {x : AV} (h : HRel K G H w) (ht : TRel G nt T a) (ha : abuiltin P T c H = some (x, H'))
    (dst : Option Tmp) (type : TypeId) (pos : String) (after : Array Edge) (guard : Option (Nat × Bool)) : OpOK P K G H' x (execOp a.eval ⟨dst, .call c, type, pos, after, guard⟩) w := by
  obtain ⟨callee, args, argTypes⟩ := c
  unfold abuiltin at ha
  simp only at ha
  cases callee with
  | value f => cases ha
  | invoke r n => cases ha
  | builtin b =>
    simp only at ha
    cases hvs : aevs T args.toList with
    | none => rw [hvs] at ha; cases ha
    | some vs =>
      rw [hvs] at ha
      simp only at ha
      have hv := aevs_ok ht hvs
      have hargs : args.map a.eval = (args.toList.map a.eval).toArray := by apply Array.ext'; simp
      have hexec : execOp a.eval ⟨dst, .call ⟨.builtin b, args, argTypes⟩, type, pos, after, guard⟩ = builtin b argTypes type (args.map fun | .const _ => true | _ => false) (args.map a.eval) := by
        simp only [execOp, resolve]
        rfl
      have hty : argTypes = argTypes.toList.toArray := by simp
      rw [hexec, hargs]
      split at ha
      · rename_i p t e1
        rw [hty, e1]
        obtain ⟨u, hu, hp⟩ := hv.one
        rw [hu]
        rw [Option.map_eq_some_iff] at ha
        obtain ⟨y, h3, h4⟩ := ha
        cases h4
        exact OpOK.val h (alen_ok (P := P) (ty := type) hp h3 w)
      · rename_i p t e1
        rw [hty, e1]
        obtain ⟨u, hu, hp⟩ := hv.one
        rw [hu]
        rw [Option.map_eq_some_iff] at ha
        obtain ⟨y, h3, h4⟩ := ha
        cases h4
        exact OpOK.val h (acap_ok (P := P) (ty := type) hp h3 w)
      · rename_i p q t u e1
        rw [hty, e1]
        split at ha
        · rename_i hut
          subst hut
          obtain ⟨v1, v2, hu, hp, hq⟩ := hv.two
          rw [hu]
          exact OpOK.mem (aappend_ok (P := P) (ty := type) h hp hq ha)
        · obtain ⟨v1, v2, hu, hp, hq⟩ := hv.two
          rw [hu]
          exact OpOK.mem (aappendZ_ok (P := P) (ty := type) h hp hq ha)
      · rw [Option.map_eq_some_iff] at ha
        obtain ⟨y, h3, h4⟩ := ha
        cases h4
        obtain ⟨u, k1, k2⟩ := amm_ok (P := P) h3 hv argTypes type w
        exact OpOK.val h ⟨u, by simpa using k1, k2⟩
      · rw [Option.map_eq_some_iff] at ha
        obtain ⟨y, h3, h4⟩ := ha
        cases h4
        obtain ⟨u, k1, k2⟩ := amm_ok (P := P) h3 hv argTypes type w
        exact OpOK.val h ⟨u, by simpa using k1, k2⟩
      · cases ha
set_option maxHeartbeats 2000000 in
theorem aop_ok {P : Program} {K : Kx} {G : Gh} {H H' : AH} {w : World} {nt : Nat} {T : Tr AV} {a : Act} {o : Oper} {x : AV} (h : HRel K G H w) (ht : TRel G nt T a) (ha : aop P T o.op H = some (x, H')) : OpOK P K G H' x (execOp a.eval o) w := by
  obtain ⟨dst, op, type, pos, after, guard⟩ := o
  simp only at ha
  cases op <;> simp only [aop] at ha <;> try (cases ha; done)
  case move x =>
    rw [Option.map_eq_some_iff] at ha
    obtain ⟨y, h1, h2⟩ := ha
    cases h2
    exact ⟨.value _, w, G, by simp [execOp], Gh.le.refl _, h, .inl ⟨_, rfl, aev_ok ht h1⟩⟩
  case assign x =>
    rw [Option.map_eq_some_iff] at ha
    obtain ⟨y, h1, h2⟩ := ha
    cases h2
    exact ⟨.value _, w, G, by simp [execOp], Gh.le.refl _, h, .inl ⟨_, rfl, aev_ok ht h1⟩⟩
  case pick c y z =>
    split at ha
    · rename_i hcv
      rw [Option.map_eq_some_iff] at ha
      obtain ⟨v, h1, h2⟩ := ha
      cases h2
      have hc := aev_ok ht hcv
      simp only [VR] at hc
      exact ⟨.value _, w, G, by simp [execOp, hc, asBool], Gh.le.refl _, h, .inl ⟨_, rfl, aev_ok ht h1⟩⟩
    · rename_i hcv
      rw [Option.map_eq_some_iff] at ha
      obtain ⟨v, h1, h2⟩ := ha
      cases h2
      have hc := aev_ok ht hcv
      simp only [VR] at hc
      exact ⟨.value _, w, G, by simp [execOp, hc, asBool], Gh.le.refl _, h, .inl ⟨_, rfl, aev_ok ht h1⟩⟩
    · cases ha
  case alloc e =>
    rw [Option.bind_eq_some_iff] at ha
    obtain ⟨z, h1, h2⟩ := ha
    obtain ⟨v, i, hi, hz, hr, hv⟩ := zeroA_ok (G := G) h1 w
    obtain ⟨u, w', G', k1, k2, k3, k4⟩ := abox_ok (P := P) h (t := e) hv h2
    refine ⟨.value (.pointer (some u)), w', G', ?_, k2, k3, .inl ⟨_, rfl, k4⟩⟩
    simp [execOp, Instr.alloc, hr, k1]
  case box e y =>
    rw [Option.bind_eq_some_iff] at ha
    obtain ⟨z, h1, h2⟩ := ha
    obtain ⟨u, w', G', k1, k2, k3, k4⟩ := abox_ok (P := P) h (t := e) (aev_ok ht h1) h2
    refine ⟨.value (.pointer (some u)), w', G', ?_, k2, k3, .inl ⟨_, rfl, k4⟩⟩
    simp [execOp, Instr.box, k1]
  case build t parts =>
    rw [Option.bind_eq_some_iff] at ha
    obtain ⟨ps, h1, h2⟩ := ha
    rw [Option.map_eq_some_iff] at h2
    obtain ⟨y, h3, h4⟩ := h2
    cases h4
    obtain ⟨qs, q0, q1, q2⟩ := aparts_arr ht h1
    simp only [execOp]
    generalize hps : Array.map (_ : Nat × Operand → Nat × Value) parts = ps'
    obtain rfl : ps' = qs := hps.symm.trans q0.symm
    exact OpOK.val h (abuild_ok q1 q2 h3 w)
  case buildSlice t len parts =>
    rw [Option.bind_eq_some_iff] at ha
    obtain ⟨ps, h1, h2⟩ := ha
    obtain ⟨qs, q0, q1, q2⟩ := aparts_arr ht h1
    simp only [execOp]
    generalize hps : Array.map (_ : Nat × Operand → Nat × Value) parts = ps'
    obtain rfl : ps' = qs := hps.symm.trans q0.symm
    exact OpOK.mem (abuildSliceE_ok h q1 q2 h2)
  case makeInterface t x' =>
    rw [Option.bind_eq_some_iff] at ha
    obtain ⟨p, h1, h2⟩ := ha
    rw [Option.map_eq_some_iff] at h2
    obtain ⟨y, h3, h4⟩ := h2
    cases h4
    exact OpOK.val h (amkiface_ok (aev_ok ht h1) h3 w)
  case makeSlice t l c =>
    rw [Option.bind_eq_some_iff] at ha
    obtain ⟨p, h1, h2⟩ := ha
    rw [Option.bind_eq_some_iff] at h2
    obtain ⟨q, h3, h4⟩ := h2
    exact OpOK.mem (amkslice_ok h (aev_ok ht h1) (aev_ok ht h3) h4)
  case load t x' =>
    rw [Option.bind_eq_some_iff] at ha
    obtain ⟨p, h1, h2⟩ := ha
    rw [Option.map_eq_some_iff] at h2
    obtain ⟨y, h3, h4⟩ := h2
    cases h4
    exact OpOK.val h (aload_ok h (aev_ok ht h1) h3)
  case store t x' y' =>
    rw [Option.bind_eq_some_iff] at ha
    obtain ⟨p, h1, h2⟩ := ha
    rw [Option.bind_eq_some_iff] at h2
    obtain ⟨v, h3, h4⟩ := h2
    rw [Option.map_eq_some_iff] at h4
    obtain ⟨y, h5, h6⟩ := h4
    cases h6
    obtain ⟨w', k1, k2⟩ := astore_ok (P := P) h (aev_ok ht h1) (aev_ok ht h3) h5
    exact ⟨.skip, w', G, by simp [execOp, k1], Gh.le.refl _, k2, .inr ⟨rfl, rfl⟩⟩
  case nilCheck x' =>
    rw [Option.bind_eq_some_iff] at ha
    obtain ⟨p, h1, h2⟩ := ha
    have hp := aev_ok ht h1
    split at h2
    · cases h2
      have hp' := hp
      simp only [VR] at hp'
      obtain ⟨b, o, n, _, he⟩ := hp'
      exact ⟨.value _, w, G, by simp [execOp, he]; rfl, Gh.le.refl _, h, .inl ⟨_, rfl, by rw [← he]; exact hp⟩⟩
    · cases h2
      have hp' := hp
      simp only [VR] at hp'
      obtain ⟨b, o, he, _⟩ := hp'
      exact ⟨.value _, w, G, by simp [execOp, he]; rfl, Gh.le.refl _, h, .inl ⟨_, rfl, by rw [← he]; exact hp⟩⟩
    · cases h2
      have hp' := hp
      simp only [VR] at hp'
      obtain ⟨cs, he, _⟩ := hp'
      exact ⟨.value _, w, G, by simp [execOp, he]; rfl, Gh.le.refl _, h, .inl ⟨_, rfl, by rw [← he]; exact hp⟩⟩
    · cases h2
  case binOp bop t x' y' yt =>
    rw [Option.bind_eq_some_iff] at ha
    obtain ⟨p, h1, h2⟩ := ha
    rw [Option.bind_eq_some_iff] at h2
    obtain ⟨q, h3, h4⟩ := h2
    rw [Option.map_eq_some_iff] at h4
    obtain ⟨y, h5, h6⟩ := h4
    cases h6
    exact OpOK.val h (abinC_ok h5 (aev_ok ht h1) (aev_ok ht h3) w)
  case unOp uop t x' =>
    rw [Option.bind_eq_some_iff] at ha
    obtain ⟨p, h1, h2⟩ := ha
    rw [Option.map_eq_some_iff] at h2
    obtain ⟨y, h3, h4⟩ := h2
    cases h4
    exact OpOK.val h (aun_ok h3 (aev_ok ht h1) w)
  case convert s d x' =>
    rw [Option.bind_eq_some_iff] at ha
    obtain ⟨p, h1, h2⟩ := ha
    exact OpOK.mem (aconvH_ok h (aev_ok ht h1) h2)
  case makeFunc fn first cap =>
    split at ha
    · rename_i hf
      rw [Option.map_eq_some_iff] at ha
      obtain ⟨cs, h1, h2⟩ := ha
      cases h2
      rw [Array.isEmpty_iff] at hf
      subst hf
      refine OpOK.val h ⟨_, rfl, ?_⟩
      simp only [VR]
      exact ⟨_, by simp; rfl, by simpa using aevs_ok ht h1⟩
    · cases ha
  case slice t x' lo hi' mx =>
    rw [Option.bind_eq_some_iff] at ha
    obtain ⟨p, h1, h2⟩ := ha
    rw [Option.bind_eq_some_iff] at h2
    obtain ⟨l, h3, h4⟩ := h2
    rw [Option.bind_eq_some_iff] at h4
    obtain ⟨hi, h5, h6⟩ := h4
    rw [Option.bind_eq_some_iff] at h6
    obtain ⟨m, h7, h8⟩ := h6
    rw [Option.map_eq_some_iff] at h8
    obtain ⟨y, h9, h10⟩ := h8
    cases h10
    exact OpOK.val h (aslice_ok (aev_ok ht h1) (aevo_ok ht h3) (aevo_ok ht h5) (aevo_ok ht h7) h9 w)
  case fieldAddr t x' f =>
    rw [Option.bind_eq_some_iff] at ha
    obtain ⟨p, h1, h2⟩ := ha
    rw [Option.map_eq_some_iff] at h2
    obtain ⟨y, h3, h4⟩ := h2
    cases h4
    exact OpOK.val h (afieldAddr_ok (aev_ok ht h1) h3 w)
  case field t x' f =>
    rw [Option.bind_eq_some_iff] at ha
    obtain ⟨p, h1, h2⟩ := ha
    rw [Option.map_eq_some_iff] at h2
    obtain ⟨y, h3, h4⟩ := h2
    cases h4
    exact OpOK.val h (afield_ok (aev_ok ht h1) h3 w)
  case indexAddr t x' ix =>
    rw [Option.bind_eq_some_iff] at ha
    obtain ⟨p, h1, h2⟩ := ha
    rw [Option.bind_eq_some_iff] at h2
    obtain ⟨q, h3, h4⟩ := h2
    rw [Option.map_eq_some_iff] at h4
    obtain ⟨y, h5, h6⟩ := h4
    cases h6
    exact OpOK.val h (aindexAddr_ok (aev_ok ht h1) (aev_ok ht h3) h5 w)
  case index t x' ix =>
    rw [Option.bind_eq_some_iff] at ha
    obtain ⟨p, h1, h2⟩ := ha
    rw [Option.bind_eq_some_iff] at h2
    obtain ⟨q, h3, h4⟩ := h2
    rw [Option.map_eq_some_iff] at h4
    obtain ⟨y, h5, h6⟩ := h4
    cases h6
    exact OpOK.val h (aindex_ok (aev_ok ht h1) (aev_ok ht h3) h5 w)
  case extract x' ix =>
    rw [Option.bind_eq_some_iff] at ha
    obtain ⟨p, h1, h2⟩ := ha
    split at h2
    · rename_i i vs
      rw [Option.map_eq_some_iff] at h2
      obtain ⟨y, h3, h4⟩ := h2
      cases h4
      have hp := aev_ok ht h1
      simp only [VR] at hp
      obtain ⟨us, he, hv⟩ := hp
      obtain ⟨u, k1, k2⟩ := hv.get _ _ h3
      refine OpOK.val h ⟨u, ?_, k2⟩
      rw [he]
      simp at k1
      simp [Instr.extract, k1]
    · cases h2
  case call c => exact abuiltin_ok h ht ha _ _ _ _ _
end Go.Abs
