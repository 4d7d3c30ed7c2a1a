/- The operations, read abstractly: those that touch no memory. -/
import Derived.Test.YtcnnobcncklgfaaGreatDoorAbsHeap
import Derived.Laws.Entries
import Derived.WalkLawsBesides
import Derived.WalkSpells
namespace Go.Abs
open Go Go.RowKit
set_option linter.unusedVariables false
theorem toList_mk (l : List UInt8) : (⟨l.toArray⟩ : ByteArray).toList = l := by
  rw [ByteArray.toList_eq]
/-- A value that is written in the text, or is the zero of a type. -/
def AV.ofV0 : Value → Option AV
  | .bool b => some (.bool b)
  | .int k n => some (.int k n)
  | .string s => some (.str s.data.toList)
  | .pointer none => some .nilp
  | .slice none 0 0 => some .nils
  | .nilFunc => some .nilf
  | .nilIface => some .nili
  | .func f first cap => if first.isEmpty && cap.isEmpty then some (.fn f []) else none
  | _ => none
def ofVs : List Value → Option (List AV)
  | [] => some []
  | v :: vs => match AV.ofV0 v, ofVs vs with
    | some x, some xs => some (x :: xs)
    | _, _ => none
def AV.ofV : Value → Option AV
  | .agg cs => (ofVs cs.toList).map .agg
  | v => AV.ofV0 v
theorem ofV0_ok {G : Gh} {v : Value} {x : AV} (h : AV.ofV0 v = some x) : VR G x v := by
  cases v <;> simp only [AV.ofV0] at h <;> try (cases h; done)
  case bool b => cases h; simp [VR]
  case int k n => cases h; simp [VR]
  case string s => cases h; simp [VR]
  case pointer a => cases a <;> simp at h; subst h; simp [VR]
  case slice a n c =>
    cases a <;> cases n <;> cases c <;> simp at h
    subst h; simp [VR]
  case func f a c =>
    split at h
    · rename_i hh
      cases h
      simp only [Bool.and_eq_true, Array.isEmpty_iff] at hh
      obtain ⟨rfl, rfl⟩ := hh
      simp [VR, VRs]
    · cases h
  case nilFunc => cases h; simp [VR]
  case nilIface => cases h; simp [VR]
theorem ofVs_ok {G : Gh} : ∀ {vs : List Value} {xs : List AV}, ofVs vs = some xs → VRs G xs vs
  | [], xs, h => by simp only [ofVs] at h; cases h; simp [VRs]
  | v :: vs, xs, h => by
    simp only [ofVs] at h
    split at h
    · rename_i x xs' h1 h2
      cases h
      simp only [VRs]
      exact ⟨v, vs, rfl, ofV0_ok h1, ofVs_ok h2⟩
    · cases h
theorem ofV_ok {G : Gh} {v : Value} {x : AV} (h : AV.ofV v = some x) : VR G x v := by
  unfold AV.ofV at h
  split at h
  · rename_i cs
    rw [Option.map_eq_some_iff] at h
    obtain ⟨xs, h1, rfl⟩ := h
    simp only [VR]
    exact ⟨cs, rfl, ofVs_ok h1⟩
  · exact ofV0_ok h
def pureOf : Sem Value → Option Value
  | .pure v => some v
  | _ => none
theorem pureOf_run {P : Program} {s : Sem Value} {v : Value} (h : pureOf s = some v) (w : World) : s.run P w = .ok v w := by
  cases s <;> simp only [pureOf] at h <;> cases h
  rfl
/-- What an operand reads as. -/
def aev (T : Tr AV) : Operand → Option AV
  | .tmp t => T.get t
  | .const v => AV.ofV v
  | .global _ => none
  | .func f => some (.fn (.func f) [])
structure TRel (G : Gh) (nt : Nat) (T : Tr AV) (a : Act) : Prop where
  defers : a.defers = []
  size : a.tmps.size = nt
  at' : ∀ t x, T.get t = some x → VR G x (a.tmps.getD t undef)
theorem aev_ok {G : Gh} {nt : Nat} {T : Tr AV} {a : Act} (h : TRel G nt T a) {o : Operand} {x : AV} (hx : aev T o = some x) : VR G x (a.eval o) := by
  cases o with
  | tmp t => exact h.at' t x hx
  | const v => exact ofV_ok hx
  | global g => cases hx
  | func f => simp only [aev] at hx; cases hx; simp [VR, VRs, Act.eval]
theorem TRel.mono {G G' : Gh} {nt : Nat} {T : Tr AV} {a : Act} (h : TRel G nt T a) (hl : G.le G') : TRel G' nt T a := ⟨h.defers, h.size, fun t x hx => VR.mono hl _ _ (h.at' t x hx)⟩
/-- A slot is filled. -/
def tput (nt : Nat) (T : Tr AV) : Option Tmp → AV → Option (Tr AV)
  | none, _ => some T
  | some d, x => if d < nt then some (T.set d x) else none
theorem TRel.put {G : Gh} {nt : Nat} {T T' : Tr AV} {a : Act} (h : TRel G nt T a) {d : Option Tmp} {x : AV} {v : Value} (hp : tput nt T d x = some T') (hv : VR G x v) : TRel G nt T' (a.put d v) := by
  cases d with
  | none => simp only [tput] at hp; cases hp; exact h
  | some d =>
    simp only [tput] at hp
    split at hp
    · rename_i hd
      cases hp
      refine ⟨h.defers, by simp [Act.put, h.size], fun t y hy => ?_⟩
      have hs := h.size
      rw [Tr.get_set] at hy
      by_cases ht : t = d
      · rw [if_pos ht] at hy
        cases hy
        subst ht
        have : (a.put (some t) v).tmps.getD t undef = v := by simp [Act.put, Array.getD_eq_getD_getElem?, hs, hd]
        rw [this]; exact hv
      · rw [if_neg ht] at hy
        have : (a.put (some d) v).tmps.getD t undef = a.tmps.getD t undef := by simp [Act.put, Array.getD_eq_getD_getElem?, Ne.symm ht]
        rw [this]; exact h.at' t y hy
    · cases hp
/-- Two strings. -/
def astr (op : BinOp) (a b : List UInt8) : Option AV :=
  match op with
  | .add => if a.length + b.length ≤ 9223372036854775807 then some (.str (a ++ b)) else none
  | .eql => some (.bool (a == b))
  | .neq => some (.bool !(a == b))
  | .lss => some (.bool (Op.bytesLess a b))
  | .leq => some (.bool (Op.bytesLess a b || a == b))
  | .gtr => some (.bool !(Op.bytesLess a b || a == b))
  | .geq => some (.bool !(Op.bytesLess a b))
  | _ => none
theorem astr_ok {P : Program} {G : Gh} {op : BinOp} {a b : List UInt8} {x : AV} (h : astr op a b = some x) (w : World) : ∃ u, (Op.stringOp op ⟨a.toArray⟩ ⟨b.toArray⟩).run P w = .ok u w ∧ VR G x u := by
  cases op <;> simp only [astr] at h <;> try (cases h; done)
  case add =>
    split at h
    · rename_i hl
      cases h
      refine ⟨.string ⟨(a ++ b).toArray⟩, ?_, by simp [VR]⟩
      have hs : ¬ (((⟨a.toArray⟩ : ByteArray).size + (⟨b.toArray⟩ : ByteArray).size : Nat) : Int) > IntKind.i64.max := by
        simp only [ByteArray.size, List.size_toArray]
        have : IntKind.i64.max = 9223372036854775807 := by rfl
        omega
      simp only [Op.stringOp]
      rw [if_neg hs]
      simp only [Sem.run_pure]
      congr 2
    · cases h
  all_goals
    cases h
    refine ⟨_, rfl, ?_⟩
    simp [VR]
/-- Equal, or not: nil and not nil. -/
def aeq (d : Option TypeDesc) (x y : AV) : Option Bool :=
  match d, x, y with
  | some (.slice _), .nils, .nils => some true
  | some (.slice _), .nils, .slc .. => some false
  | some (.slice _), .slc .., .nils => some false
  | some (.slice _), .nils, .vals _ (_ :: _) => some false
  | some (.slice _), .vals _ (_ :: _), .nils => some false
  | some (.pointer _), .nilp, .nilp => some true
  | some (.pointer _), .nilp, .ptr .. => some false
  | some (.pointer _), .ptr .., .nilp => some false
  | some (.pointer _), .nilp, .vptr .. => some false
  | some (.pointer _), .vptr .., .nilp => some false
  | some (.func _ _ _), .nilf, .nilf => some true
  | some (.func _ _ _), .nilf, .fn .. => some false
  | some (.func _ _ _), .fn .., .nilf => some false
  | some (.interface _), .nili, .iface .. => some false
  | some (.interface _), .iface .., .nili => some false
  | _, _, _ => none
theorem VR.vals_some {G : Gh} {z : Nat} {r : List AV} {rs : List (List AV)} {v : Value} (h : VR G (.vals z (r :: rs)) v) : ∃ b o c, v = .slice (some ⟨b, o, none⟩) (rs.length + 1) c ∧ VRows G z (r :: rs) b o := by
  simp only [VR] at h
  obtain ⟨a, c, rfl, -, h | ⟨b, o, rfl, h⟩⟩ := h
  · cases h
  · exact ⟨b, o, c, rfl, h⟩
theorem aeq_ok {P : Program} {G : Gh} {t : TypeId} {x y : AV} {b : Bool} {u v : Value} (h : aeq (P.underlying t) x y = some b) (hx : VR G x u) (hy : VR G y v) (w : World) :
    (∀ (op : BinOp) (ox oy : Operand), eqGuard op t ox oy u v = pure ()) ∧ (∀ d, (Op.equalIn (d + 1) t u v).run P w = .ok b w) ∧ (∀ op, op = .eql → binOp op t u v = (do pure (.bool (← Op.equal t u v)))) ∧ (∀ op, op = .neq → binOp op t u v = (do pure (.bool (!(← Op.equal t u v))))) := by
  cases hd : P.underlying t with
  | none => rw [hd] at h; simp [aeq] at h
  | some d =>
    rw [hd] at h
    unfold aeq at h
    split at h <;> (try (cases h; done)) <;> (rename_i hd'; first | (cases hd') | skip) <;> cases h
    all_goals first
      | (obtain ⟨b', o', c', rfl, -⟩ := hx.vals_some; simp only [VR] at hy; subst hy; refine ⟨fun op ox oy => by cases op <;> rfl, ?_, fun op e => by subst e; rfl, fun op e => by subst e; rfl⟩; intro d; simp [Op.equalIn, run_underlying hd])
      | (obtain ⟨b', o', c', rfl, -⟩ := hy.vals_some; simp only [VR] at hx; subst hx; refine ⟨fun op ox oy => by cases op <;> rfl, ?_, fun op e => by subst e; rfl, fun op e => by subst e; rfl⟩; intro d; simp [Op.equalIn, run_underlying hd])
      | (simp only [VR] at hx hy
         first
           | (subst hx; subst hy; refine ⟨fun op ox oy => by cases op <;> rfl, ?_, fun op e => by subst e; rfl, fun op e => by subst e; rfl⟩; intro d; simp [Op.equalIn, run_underlying hd]; done)
           | (subst hx; obtain ⟨b1, o1, n1, c1, -, rfl, -⟩ := hy; refine ⟨fun op ox oy => by cases op <;> rfl, ?_, fun op e => by subst e; rfl, fun op e => by subst e; rfl⟩; intro d; simp [Op.equalIn, run_underlying hd]; done)
           | (subst hy; obtain ⟨b1, o1, n1, c1, -, rfl, -⟩ := hx; refine ⟨fun op ox oy => by cases op <;> rfl, ?_, fun op e => by subst e; rfl, fun op e => by subst e; rfl⟩; intro d; simp [Op.equalIn, run_underlying hd]; done)
           | (subst hx; obtain ⟨b1, o1, n1, -, rfl⟩ := hy; refine ⟨fun op ox oy => by cases op <;> rfl, ?_, fun op e => by subst e; rfl, fun op e => by subst e; rfl⟩; intro d; simp [Op.equalIn, run_underlying hd]; done)
           | (subst hy; obtain ⟨b1, o1, n1, -, rfl⟩ := hx; refine ⟨fun op ox oy => by cases op <;> rfl, ?_, fun op e => by subst e; rfl, fun op e => by subst e; rfl⟩; intro d; simp [Op.equalIn, run_underlying hd]; done)
           | (subst hx; obtain ⟨b1, o1, rfl, -⟩ := hy; refine ⟨fun op ox oy => by cases op <;> rfl, ?_, fun op e => by subst e; rfl, fun op e => by subst e; rfl⟩; intro d; simp [Op.equalIn, run_underlying hd]; done)
           | (subst hy; obtain ⟨b1, o1, rfl, -⟩ := hx; refine ⟨fun op ox oy => by cases op <;> rfl, ?_, fun op e => by subst e; rfl, fun op e => by subst e; rfl⟩; intro d; simp [Op.equalIn, run_underlying hd]; done)
           | (subst hx; obtain ⟨b1, rfl, -⟩ := hy; refine ⟨fun op ox oy => by cases op <;> rfl, ?_, fun op e => by subst e; rfl, fun op e => by subst e; rfl⟩; intro d; simp [Op.equalIn, run_underlying hd]; done)
           | (subst hy; obtain ⟨b1, rfl, -⟩ := hx; refine ⟨fun op ox oy => by cases op <;> rfl, ?_, fun op e => by subst e; rfl, fun op e => by subst e; rfl⟩; intro d; simp [Op.equalIn, run_underlying hd]; done))
/-- Two operands. -/
def abin (P : Program) (op : BinOp) (t : TypeId) (x y : AV) : Option AV :=
  match x, y with
  | .str a, .str b => astr op a b
  | .int k a, .int k' b => (pureOf (binOp op t (.int k a) (.int k' b))).bind AV.ofV0
  | .bool a, .bool b =>
    match op, P.underlying t with
    | .eql, some .bool => some (.bool (a == b))
    | .neq, some .bool => some (.bool !(a == b))
    | _, _ => none
  | x, y =>
    match op with
    | .eql => (aeq (P.underlying t) x y).map .bool
    | .neq => (aeq (P.underlying t) x y).map fun b => .bool !b
    | _ => none
theorem abin_ok {P : Program} {G : Gh} {op : BinOp} {t : TypeId} {x y z : AV} {u v : Value} (h : abin P op t x y = some z) (hx : VR G x u) (hy : VR G y v) (ox oy : Operand) (w : World) :
    ∃ r, (do eqGuard op t ox oy u v; binOp op t u v : Sem Value).run P w = .ok r w ∧ VR G z r := by
  unfold abin at h
  split at h
  · rename_i a b
    simp only [VR] at hx hy
    subst hx; subst hy
    obtain ⟨r, h1, h2⟩ := astr_ok (P := P) (G := G) h w
    refine ⟨r, ?_, h2⟩
    have e1 : eqGuard op t ox oy (.string ⟨a.toArray⟩) (.string ⟨b.toArray⟩) = pure () := by cases op <;> rfl
    have e2 : binOp op t (.string ⟨a.toArray⟩) (.string ⟨b.toArray⟩) = Op.stringOp op ⟨a.toArray⟩ ⟨b.toArray⟩ := by cases op <;> rfl
    rw [e1, e2]
    simpa using h1
  · rename_i k a k' b
    simp only [VR] at hx hy
    subst hx; subst hy
    rw [Option.bind_eq_some_iff] at h
    obtain ⟨r, h1, h2⟩ := h
    refine ⟨r, ?_, ofV0_ok h2⟩
    have e1 : eqGuard op t ox oy (.int k a) (.int k' b) = pure () := by cases op <;> rfl
    rw [e1]
    simpa using pureOf_run h1 w
  · rename_i a b
    simp only [VR] at hx hy
    subst hx; subst hy
    have e1 : eqGuard op t ox oy (.bool a) (.bool b) = pure () := by cases op <;> rfl
    rw [e1]
    split at h
    · rename_i hd
      cases h
      have e3 : ∀ d, (Op.equalIn (d + 1) t (.bool a) (.bool b)).run P w = .ok (a == b) w := fun d => by simp [Op.equalIn, run_underlying hd]
      have e2 : (Op.equal t (.bool a) (.bool b)).run P w = .ok (a == b) w := e3 9999
      have e4 : binOp .eql t (.bool a) (.bool b) = (do pure (.bool (← Op.equal t (.bool a) (.bool b)))) := rfl
      exact ⟨.bool (a == b), by rw [e4]; simp [e2], by simp [VR]⟩
    · rename_i hd
      cases h
      have e3 : ∀ d, (Op.equalIn (d + 1) t (.bool a) (.bool b)).run P w = .ok (a == b) w := fun d => by simp [Op.equalIn, run_underlying hd]
      have e2 : (Op.equal t (.bool a) (.bool b)).run P w = .ok (a == b) w := e3 9999
      have e4 : binOp .neq t (.bool a) (.bool b) = (do pure (.bool (!(← Op.equal t (.bool a) (.bool b))))) := rfl
      exact ⟨.bool !(a == b), by rw [e4]; simp [e2], by simp [VR]⟩
    · cases h
  · split at h
    · rw [Option.map_eq_some_iff] at h
      obtain ⟨b, h1, rfl⟩ := h
      obtain ⟨e1, e2, e3, e4⟩ := aeq_ok h1 hx hy w
      refine ⟨.bool b, ?_, by simp [VR]⟩
      rw [e1, e3 _ rfl]
      have e2' : (Op.equal t u v).run P w = .ok b w := e2 9999
      simp [e2']
    · rw [Option.map_eq_some_iff] at h
      obtain ⟨b, h1, rfl⟩ := h
      obtain ⟨e1, e2, e3, e4⟩ := aeq_ok h1 hx hy w
      refine ⟨.bool !b, ?_, by simp [VR]⟩
      rw [e1, e4 _ rfl]
      have e2' : (Op.equal t u v).run P w = .ok b w := e2 9999
      simp [e2']
    · cases h
/-- One operand. -/
def aun (op : UnOp) (x : AV) : Option AV :=
  match x with
  | .int k n => (pureOf (Op.unary op (.int k n))).bind AV.ofV0
  | .bool b => (pureOf (Op.unary op (.bool b))).bind AV.ofV0
  | _ => none
theorem aun_ok {P : Program} {G : Gh} {op : UnOp} {x z : AV} {u : Value} (h : aun op x = some z) (hx : VR G x u) (w : World) : ∃ r, (Op.unary op u).run P w = .ok r w ∧ VR G z r := by
  unfold aun at h
  split at h
  · simp only [VR] at hx
    subst hx
    rw [Option.bind_eq_some_iff] at h
    obtain ⟨r, h1, h2⟩ := h
    exact ⟨r, pureOf_run h1 w, ofV0_ok h2⟩
  · simp only [VR] at hx
    subst hx
    rw [Option.bind_eq_some_iff] at h
    obtain ⟨r, h1, h2⟩ := h
    exact ⟨r, pureOf_run h1 w, ofV0_ok h2⟩
  · cases h
/-- Turned into another type: whole numbers, strings. -/
def aconv (P : Program) (src dst : TypeId) (x : AV) : Option AV :=
  match P.underlying src, P.underlying dst, x with
  | some _, some (.int k), .int _ n => some (.int k (k.wrap n))
  | some .string, some .string, .str s => some (.str s)
  | _, _, _ => none
theorem aconv_ok {P : Program} {G : Gh} {src dst : TypeId} {x z : AV} {u : Value} (h : aconv P src dst x = some z) (hx : VR G x u) (w : World) : ∃ r, (convert src dst u).run P w = .ok r w ∧ VR G z r := by
  unfold aconv at h
  split at h
  · rename_i d k k' n h1 h2
    cases h
    simp only [VR] at hx
    subst hx
    exact ⟨.int k (k.wrap n), by simp [convert, run_underlying h1, run_underlying h2, Conv.intToInt], by simp [VR]⟩
  · rename_i s h1 h2
    cases h
    simp only [VR] at hx
    subst hx
    exact ⟨.string ⟨s.toArray⟩, by simp [convert, run_underlying h1, run_underlying h2], by simp [VR]⟩
  · cases h
end Go.Abs
