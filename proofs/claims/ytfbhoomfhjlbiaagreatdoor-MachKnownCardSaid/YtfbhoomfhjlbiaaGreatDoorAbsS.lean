/- Symbolic reading: code with frames cut down, carried out at values that are letters.   Code with frames cut down does as the code itself.   How a symbolic run is written on: each step as an equation.   Values that stand for good; what a pure call answers.   Values' operations, as equations. -/
import Derived.Test.YtfbhoomfhjlbiaaGreatDoorAbsL
namespace Go.Abs
open Go Go.RowKit
set_option linter.unusedVariables false
/-- More slots are known. -/
def Sub (T T2 : Tr AV) : Prop := ∀ p x, T.getP p = some x → T2.getP p = some x
theorem Sub.refl (T : Tr AV) : Sub T T := fun _ _ h => h
theorem Sub.set {T T2 : Tr AV} (h : Sub T T2) (p : Pth) (x : AV) : Sub (Tr.setP p T x) (Tr.setP p T2 x) := by
  intro q y hq
  rw [Tr.getP_setP] at hq ⊢
  split
  · rename_i e; rw [if_pos e] at hq; exact hq
  · rename_i e; rw [if_neg e] at hq; exact h q y hq
theorem Sub.xput {T T2 : Tr AV} (h : Sub T T2) (d : Option Pth) (x : AV) : Sub (xput T d x) (Go.Abs.xput T2 d x) := by
  cases d with
  | none => exact h
  | some p => exact h.set p x
theorem iev_mono {T T2 : Tr AV} (h : Sub T T2) {i : Opd} {x : AV} (e : iev T i = some x) : iev T2 i = some x := by
  cases i with
  | t p => exact h p x e
  | c y => exact e
theorem ievs_mono {T T2 : Tr AV} (h : Sub T T2) : ∀ {is : List Opd} {xs : List AV}, ievs T is = some xs → ievs T2 is = some xs
  | [], xs, e => e
  | i :: is, xs, e => by
    simp only [ievs] at e ⊢
    split at e
    · cases e
    · rename_i x hx
      split at e
      · cases e
      · rename_i ys hys
        rw [iev_mono h hx, ievs_mono h hys]
        exact e
theorem iparts_mono {T T2 : Tr AV} (h : Sub T T2) : ∀ {is : List (Nat × Nat × Opd)} {xs : List (Nat × Nat × AV)}, iparts T is = some xs → iparts T2 is = some xs
  | [], xs, e => e
  | (a, b, i) :: is, xs, e => by
    simp only [iparts] at e ⊢
    split at e
    · cases e
    · rename_i x hx
      split at e
      · cases e
      · rename_i ys hys
        rw [iev_mono h hx, iparts_mono h hys]
        exact e
theorem ievo_mono {T T2 : Tr AV} (h : Sub T T2) {i : Option Opd} {x : Option AV} (e : ievo T i = some x) : ievo T2 i = some x := by
  cases i with
  | none => exact e
  | some i =>
    simp only [ievo] at e ⊢
    split at e
    · rename_i y hy; rw [iev_mono h hy]; exact e
    · cases e
theorem iop_mono {T T2 : Tr AV} (h : Sub T T2) {op : IOp} {H : AH} {r : AV × AH} (e : iop T op H = some r) : iop T2 op H = some r := by
  cases op <;> (try simp only [iop] at e ⊢)
  case ev x =>
    cases hx : iev T x with
    | none => rw [hx] at e; first | (simp at e; done) | (exfalso; revert e; split <;> intro e <;> cases e)
    | some vx =>
      rw [hx] at e; rw [iev_mono h hx]
      try simp only at e ⊢
      exact e
  case pick c a b =>
    cases hc : iev T c with
    | none => rw [hc] at e; first | (simp at e; done) | (exfalso; revert e; split <;> intro e <;> cases e)
    | some vc =>
      rw [hc] at e; rw [iev_mono h hc]
      cases vc <;> try (simp at e; done)
      rename_i bb
      cases bb
      · simp only at e ⊢
        cases hb : iev T b with
        | none => rw [hb] at e; first | (simp at e; done) | (exfalso; revert e; split <;> intro e <;> cases e)
        | some vb => rw [hb] at e; rw [iev_mono h hb]; exact e
      · simp only at e ⊢
        cases ha : iev T a with
        | none => rw [ha] at e; first | (simp at e; done) | (exfalso; revert e; split <;> intro e <;> cases e)
        | some va => rw [ha] at e; rw [iev_mono h ha]; exact e
  case mop m l =>
    cases hl : ievs T l with
    | none => rw [hl] at e; first | (simp at e; done) | (exfalso; revert e; split <;> intro e <;> cases e)
    | some vs => rw [hl] at e; rw [ievs_mono h hl]; exact e
  case new x =>
    cases hx : iev T x with
    | none => rw [hx] at e; first | (simp at e; done) | (exfalso; revert e; split <;> intro e <;> cases e)
    | some vx =>
      rw [hx] at e; rw [iev_mono h hx]
      try simp only at e ⊢
      exact e
  case build zs parts =>
    cases hl : iparts T parts with
    | none => rw [hl] at e; first | (simp at e; done) | (exfalso; revert e; split <;> intro e <;> cases e)
    | some vs => rw [hl] at e; rw [iparts_mono h hl]; exact e
  case bslice z n zs parts =>
    cases hl : iparts T parts with
    | none => rw [hl] at e; first | (simp at e; done) | (exfalso; revert e; split <;> intro e <;> cases e)
    | some vs => rw [hl] at e; rw [iparts_mono h hl]; exact e
  case mkif t x =>
    cases hx : iev T x with
    | none => rw [hx] at e; first | (simp at e; done) | (exfalso; revert e; split <;> intro e <;> cases e)
    | some vx =>
      rw [hx] at e; rw [iev_mono h hx]
      try simp only at e ⊢
      exact e
  case empty  =>
    exact e
  case mksl z by_ zs l c =>
    cases hl : iev T l with
    | none => rw [hl] at e; first | (simp at e; done) | (exfalso; revert e; split <;> intro e <;> cases e)
    | some vl =>
      rw [hl] at e; rw [iev_mono h hl]
      try simp only at e ⊢
      cases hc : iev T c with
      | none => rw [hc] at e; first | (simp at e; done) | (exfalso; revert e; split <;> intro e <;> cases e)
      | some vc =>
        rw [hc] at e; rw [iev_mono h hc]
        try simp only at e ⊢
        exact e
  case load n x =>
    cases hx : iev T x with
    | none => rw [hx] at e; first | (simp at e; done) | (exfalso; revert e; split <;> intro e <;> cases e)
    | some vx =>
      rw [hx] at e; rw [iev_mono h hx]
      try simp only at e ⊢
      exact e
  case store n x y =>
    cases hx : iev T x with
    | none => rw [hx] at e; first | (simp at e; done) | (exfalso; revert e; split <;> intro e <;> cases e)
    | some vx =>
      rw [hx] at e; rw [iev_mono h hx]
      try simp only at e ⊢
      cases hy : iev T y with
      | none => rw [hy] at e; first | (simp at e; done) | (exfalso; revert e; split <;> intro e <;> cases e)
      | some vy =>
        rw [hy] at e; rw [iev_mono h hy]
        try simp only at e ⊢
        exact e
  case nilck x =>
    cases hx : iev T x with
    | none => rw [hx] at e; first | (simp at e; done) | (exfalso; revert e; split <;> intro e <;> cases e)
    | some vx =>
      rw [hx] at e; rw [iev_mono h hx]
      try simp only at e ⊢
      exact e
  case bin op t d nc x y =>
    cases hx : iev T x with
    | none => rw [hx] at e; first | (simp at e; done) | (exfalso; revert e; split <;> intro e <;> cases e)
    | some vx =>
      rw [hx] at e; rw [iev_mono h hx]
      try simp only at e ⊢
      cases hy : iev T y with
      | none => rw [hy] at e; first | (simp at e; done) | (exfalso; revert e; split <;> intro e <;> cases e)
      | some vy =>
        rw [hy] at e; rw [iev_mono h hy]
        try simp only at e ⊢
        exact e
  case un op x =>
    cases hx : iev T x with
    | none => rw [hx] at e; first | (simp at e; done) | (exfalso; revert e; split <;> intro e <;> cases e)
    | some vx =>
      rw [hx] at e; rw [iev_mono h hx]
      try simp only at e ⊢
      exact e
  case conv k x =>
    cases hx : iev T x with
    | none => rw [hx] at e; first | (simp at e; done) | (exfalso; revert e; split <;> intro e <;> cases e)
    | some vx =>
      rw [hx] at e; rw [iev_mono h hx]
      try simp only at e ⊢
      exact e
  case convs x =>
    cases hx : iev T x with
    | none => rw [hx] at e; first | (simp at e; done) | (exfalso; revert e; split <;> intro e <;> cases e)
    | some vx =>
      rw [hx] at e; rw [iev_mono h hx]
      try simp only at e ⊢
      exact e
  case s2b x =>
    cases hx : iev T x with
    | none => rw [hx] at e; first | (simp at e; done) | (exfalso; revert e; split <;> intro e <;> cases e)
    | some vx =>
      rw [hx] at e; rw [iev_mono h hx]
      try simp only at e ⊢
      exact e
  case b2s x =>
    cases hx : iev T x with
    | none => rw [hx] at e; first | (simp at e; done) | (exfalso; revert e; split <;> intro e <;> cases e)
    | some vx =>
      rw [hx] at e; rw [iev_mono h hx]
      try simp only at e ⊢
      exact e
  case i2s x =>
    cases hx : iev T x with
    | none => rw [hx] at e; first | (simp at e; done) | (exfalso; revert e; split <;> intro e <;> cases e)
    | some vx =>
      rw [hx] at e; rw [iev_mono h hx]
      try simp only at e ⊢
      exact e
  case fn f cap =>
    cases hl : ievs T cap with
    | none => rw [hl] at e; first | (simp at e; done) | (exfalso; revert e; split <;> intro e <;> cases e)
    | some vs => rw [hl] at e; rw [ievs_mono h hl]; exact e
  case slice z x lo hi mx =>
    cases hx : iev T x with
    | none => rw [hx] at e; first | (simp at e; done) | (exfalso; revert e; split <;> intro e <;> cases e)
    | some vx =>
      rw [hx] at e; rw [iev_mono h hx]
      try simp only at e ⊢
      cases h1 : ievo T lo with
      | none => rw [h1] at e; first | (simp at e; done) | (exfalso; revert e; split <;> intro e <;> cases e)
      | some v1 =>
        rw [h1] at e; rw [ievo_mono h h1]
        try simp only at e ⊢
        cases h2 : ievo T hi with
        | none => rw [h2] at e; first | (simp at e; done) | (exfalso; revert e; split <;> intro e <;> cases e)
        | some v2 =>
          rw [h2] at e; rw [ievo_mono h h2]
          try simp only at e ⊢
          cases h3 : ievo T mx with
          | none => rw [h3] at e; first | (simp at e; done) | (exfalso; revert e; split <;> intro e <;> cases e)
          | some v3 => rw [h3] at e; rw [ievo_mono h h3]; exact e
  case faddr off x =>
    cases hx : iev T x with
    | none => rw [hx] at e; first | (simp at e; done) | (exfalso; revert e; split <;> intro e <;> cases e)
    | some vx =>
      rw [hx] at e; rw [iev_mono h hx]
      try simp only at e ⊢
      exact e
  case field off n x =>
    cases hx : iev T x with
    | none => rw [hx] at e; first | (simp at e; done) | (exfalso; revert e; split <;> intro e <;> cases e)
    | some vx =>
      rw [hx] at e; rw [iev_mono h hx]
      try simp only at e ⊢
      exact e
  case iaddr z x i =>
    cases hx : iev T x with
    | none => rw [hx] at e; first | (simp at e; done) | (exfalso; revert e; split <;> intro e <;> cases e)
    | some vx =>
      rw [hx] at e; rw [iev_mono h hx]
      cases hi : iev T i with
      | none => rw [hi] at e; cases vx <;> simp at e
      | some vi => rw [hi] at e; rw [iev_mono h hi]; exact e
  case iaddrA n z x i =>
    cases hx : iev T x with
    | none => rw [hx] at e; first | (simp at e; done) | (exfalso; revert e; split <;> intro e <;> cases e)
    | some vx =>
      rw [hx] at e; rw [iev_mono h hx]
      cases hi : iev T i with
      | none => rw [hi] at e; cases vx <;> simp at e
      | some vi => rw [hi] at e; rw [iev_mono h hi]; exact e
  case index x i =>
    cases hx : iev T x with
    | none => rw [hx] at e; first | (simp at e; done) | (exfalso; revert e; split <;> intro e <;> cases e)
    | some vx =>
      rw [hx] at e; rw [iev_mono h hx]
      try simp only at e ⊢
      cases hi : iev T i with
      | none => rw [hi] at e; first | (simp at e; done) | (exfalso; revert e; split <;> intro e <;> cases e)
      | some vi =>
        rw [hi] at e; rw [iev_mono h hi]
        try simp only at e ⊢
        exact e
  case ext x i =>
    cases hx : iev T x with
    | none => rw [hx] at e; first | (simp at e; done) | (exfalso; revert e; split <;> intro e <;> cases e)
    | some vx =>
      rw [hx] at e; rw [iev_mono h hx]
      try simp only at e ⊢
      exact e
  case len s x =>
    cases hx : iev T x with
    | none => rw [hx] at e; first | (simp at e; done) | (exfalso; revert e; split <;> intro e <;> cases e)
    | some vx =>
      rw [hx] at e; rw [iev_mono h hx]
      try simp only at e ⊢
      exact e
  case app z b x y =>
    cases hx : iev T x with
    | none => rw [hx] at e; first | (simp at e; done) | (exfalso; revert e; split <;> intro e <;> cases e)
    | some vx =>
      rw [hx] at e; rw [iev_mono h hx]
      try simp only at e ⊢
      cases hy : iev T y with
      | none => rw [hy] at e; first | (simp at e; done) | (exfalso; revert e; split <;> intro e <;> cases e)
      | some vy =>
        rw [hy] at e; rw [iev_mono h hy]
        try simp only at e ⊢
        exact e
  case mm mx l =>
    cases hl : ievs T l with
    | none => rw [hl] at e; first | (simp at e; done) | (exfalso; revert e; split <;> intro e <;> cases e)
    | some vs => rw [hl] at e; rw [ievs_mono h hl]; exact e
  case capn x =>
    cases hx : iev T x with
    | none => rw [hx] at e; first | (simp at e; done) | (exfalso; revert e; split <;> intro e <;> cases e)
    | some vx =>
      rw [hx] at e; rw [iev_mono h hx]
      try simp only at e ⊢
      exact e
  case appz z b zs x y =>
    cases hx : iev T x with
    | none => rw [hx] at e; first | (simp at e; done) | (exfalso; revert e; split <;> intro e <;> cases e)
    | some vx =>
      rw [hx] at e; rw [iev_mono h hx]
      try simp only at e ⊢
      cases hy : iev T y with
      | none => rw [hy] at e; first | (simp at e; done) | (exfalso; revert e; split <;> intro e <;> cases e)
      | some vy =>
        rw [hy] at e; rw [iev_mono h hy]
        try simp only at e ⊢
        exact e
end Go.Abs
namespace Go.Abs
open Go Go.RowKit
set_option linter.unusedVariables false
theorem xop_mono {T T2 : Tr AV} (h : Sub T T2) {call : ICall} {k : IK} {H : AH} {r : AV × AH} (e : xop call T H k = some r) : xop call T2 H k = some r := by
  cases k with
  | op o => exact iop_mono h e
  | call f args =>
    simp only [xop] at e ⊢
    cases hf : iev T f with
    | none => rw [hf] at e; simp at e
    | some vf =>
      rw [hf] at e; rw [iev_mono h hf]
      cases hl : ievs T args with
      | none => rw [hl] at e; exfalso; revert e; split <;> intro e <;> cases e
      | some vs => rw [hl] at e; rw [ievs_mono h hl]; exact e
theorem xops_mono {call : ICall} : ∀ {l : List IOper} {T T2 : Tr AV} {H : AH} {T' : Tr AV} {H' : AH}, Sub T T2 → xops call l T H = some (T', H') → ∃ T2', xops call l T2 H = some (T2', H') ∧ Sub T' T2'
  | [], T, T2, H, T', H', h, e => by
    simp only [xops] at e ⊢
    cases e
    exact ⟨T2, rfl, h⟩
  | o :: os, T, T2, H, T', H', h, e => by
    simp only [xops] at e ⊢
    cases hg : o.guard with
    | none =>
      rw [hg] at e
      simp only at e ⊢
      split at e
      · rename_i x H1 hx
        rw [xop_mono h hx]
        exact xops_mono (h.xput _ _) e
      · cases e
    | some g =>
      obtain ⟨p, want⟩ := g
      rw [hg] at e
      simp only at e ⊢
      split at e
      · rename_i b hb
        rw [h p _ hb]
        simp only
        cases hbw : (b == want) with
        | true =>
          rw [hbw] at e
          simp only [cond_true] at e ⊢
          split at e
          · rename_i x H1 hx
            rw [xop_mono h hx]
            exact xops_mono (h.xput _ _) e
          · cases e
        | false =>
          rw [hbw] at e
          simp only [cond_false] at e ⊢
          exact xops_mono (h.xput _ _) e
      · rename_i hb
        rw [h p _ hb]
        exact xops_mono (h.xput _ _) e
      · cases e
theorem eff_mono {call : ICall} {base idx : Nat} {T T2 : Tr AV} (h : Sub T T2) {H : AH} {W : List WE} {k : DK} {r : AV × AH × List WE} (e : eff call base T H W idx k = some r) : eff call base T2 H W idx k = some r := by
  cases k with
  | pure i =>
    simp only [eff] at e ⊢
    split at e
    · rename_i x _ hx; rw [iop_mono h hx]; exact e
    · cases e
  | load n x =>
    simp only [eff] at e ⊢
    split at e
    · rename_i p hp; rw [iev_mono h hp]; exact e
    · cases e
  | k2 k w =>
    simp only [eff] at e ⊢
    split at e
    · rename_i x H1 hx; rw [xop_mono h hx]; exact e
    · cases e
  | alloc i =>
    simp only [eff] at e ⊢
    split at e
    · rename_i x H1 hx; rw [iop_mono h hx]; exact e
    · cases e
theorem gval_mono {T T2 : Tr AV} (h : Sub T T2) {g : Option (Pth × Bool)} {b : Bool} (e : gval T g = some b) : gval T2 g = some b := by
  cases g with
  | none => exact e
  | some g =>
    obtain ⟨p, w⟩ := g
    simp only [gval] at e ⊢
    cases hp : T.getP p with
    | none => rw [hp] at e; simp [bval] at e
    | some x => rw [hp] at e; rw [h p x hp]; exact e
theorem drun_mono {call : ICall} {base : Nat} : ∀ {l : List DOp} {s s' s2 : DS}, Sub s.T s2.T → s2.H = s.H → s2.W = s.W → drun call base l s = some s' → ∃ s2', drun call base l s2 = some s2' ∧ Sub s'.T s2'.T ∧ s2'.H = s'.H ∧ s2'.W = s'.W
  | [], s, s', s2, h, hH, hW, e => by
    simp only [drun] at e ⊢
    cases e
    exact ⟨s2, rfl, h, hH, hW⟩
  | d :: l, s, s', s2, h, hH, hW, e => by
    simp only [drun] at e ⊢
    split at e
    · rename_i s1 h1
      simp only [dstep] at h1
      have key : ∃ s3, dstep call base d s2 = some s3 ∧ Sub s1.T s3.T ∧ s3.H = s1.H ∧ s3.W = s1.W := by
        simp only [dstep]
        split at h1
        · cases h1
        · rename_i hg
          rw [gval_mono h hg]
          cases h1
          exact ⟨_, rfl, h.xput _ _, hH, hW⟩
        · rename_i hg
          rw [gval_mono h hg]
          simp only
          split at h1
          · rename_i x H' W' hx
            cases h1
            rw [hH, hW, eff_mono h hx]
            exact ⟨_, rfl, h.xput _ _, rfl, rfl⟩
          · cases h1
      obtain ⟨s3, k1, k2, k3, k4⟩ := key
      rw [k1]
      exact drun_mono k2 k3 k4 e
    · cases e
/-- A frame as a list of slots. -/
abbrev Fr := List (Nat × AV)
def mk : Fr → Tr AV
  | [] => .nil
  | (n, x) :: l => Tr.setP (Tr.path n) (mk l) x
def fget : Fr → Nat → Option AV
  | [], _ => none
  | (m, x) :: l, n => if m = n then some x else fget l n
theorem getP_mk : ∀ (l : Fr) (n : Nat), (mk l).getP (Tr.path n) = fget l n
  | [], n => Tr.get_nil n
  | (m, x) :: l, n => by
    show (Tr.setP (Tr.path m) (mk l) x).get n = _
    rw [Tr.get_setP]
    simp only [fget]
    by_cases h : n = m
    · subst h; rw [if_pos rfl, if_pos rfl]
    · rw [if_neg h, if_neg (Ne.symm h)]
      exact getP_mk l n
def tgets (T : Tr AV) : List Nat → Option Fr
  | [] => some []
  | p :: ps => match T.getP (Tr.path p) with
    | some x => match tgets T ps with
      | some l => some ((p, x) :: l)
      | none => none
    | none => none
theorem tgets_sub {T : Tr AV} : ∀ {ps : List Nat} {l : Fr}, tgets T ps = some l → Sub (mk l) T
  | [], l, h => by
    simp only [tgets] at h; cases h
    intro p x hp
    simp [mk, Tr.getP] at hp
  | q :: ps, l, h => by
    simp only [tgets] at h
    split at h
    · rename_i y hy
      split at h
      · rename_i l' hl
        cases h
        intro p x hp
        simp only [mk] at hp
        rw [Tr.getP_setP] at hp
        split at hp
        · rename_i e; subst e; cases hp; exact hy
        · exact tgets_sub hl p x hp
      · cases h
    · cases h
theorem Sub.trans {A B C : Tr AV} (h : Sub A B) (k : Sub B C) : Sub A C := fun p x hx => k p x (h p x hx)
inductive YC where
  | skip
  | ops (l : List IOper)
  | dops (n : Nat) (l : List DOp)
  | seq (a b : YC)
  | cond (x : Opd) (a b : YC)
  | block (id : Nat) (c : YC)
  | loop (c : YC)
  | exit (id : Nat)
  | ret
  | tb (ps : List Nat) (c : YC)
  | ta (c : YC) (ps : List Nat)
  | bad
def erase : YC → ICode
  | .skip => .skip
  | .ops l => .ops l
  | .dops n l => .dops n l
  | .seq a b => .seq (erase a) (erase b)
  | .cond x a b => .cond x (erase a) (erase b)
  | .block id c => .block id (erase c)
  | .loop c => .loop (erase c)
  | .exit id => .exit id
  | .ret => .ret
  | .tb _ c => erase c
  | .ta c _ => erase c
  | .bad => .bad
noncomputable def ycode (call : ICall) (F : Nat) : YC → Tr AV → AH → XR
  | .skip, T, H => some (.normal, T, H)
  | .ops l, T, H => match xops call l T H with
    | some (T', H') => some (.normal, T', H')
    | none => none
  | .dops n l, T, H => match drun call H.next l ⟨T, ⟨H.next + n, H.gs, H.ms⟩, []⟩ with
    | some s => some (.normal, s.T, s.H)
    | none => none
  | .seq a b, T, H => match ycode call F a T H with
    | some (.normal, T', H') => ycode call F b T' H'
    | r => r
  | .cond x a b, T, H => match iev T x with
    | some (.bool true) => ycode call F a T H
    | some (.bool false) => ycode call F b T H
    | _ => none
  | .block id c, T, H => match ycode call F c T H with
    | some (.exit id', T', H') => bif Nat.beq id' id then some (.normal, T', H') else some (.exit id', T', H')
    | r => r
  | .loop c, T, H => iter (ycode call F c) F T H
  | .exit id, T, H => some (.exit id, T, H)
  | .ret, T, H => some (.ret, T, H)
  | .tb ps c, T, H => match tgets T ps with
    | some l => ycode call F c (mk l) H
    | none => none
  | .ta c ps, T, H => match ycode call F c T H with
    | some (.normal, T', H') => (match tgets T' ps with
      | some l => some (.normal, mk l, H')
      | none => none)
    | r => r
  | .bad, _, _ => none
theorem iter_mono {f g : Tr AV → AH → XR} (hfg : ∀ T T2 H e T' H', Sub T T2 → f T H = some (e, T', H') → ∃ T2', g T2 H = some (e, T2', H') ∧ Sub T' T2') : ∀ (n : Nat) (T T2 : Tr AV) (H : AH) (e : IEx) (T' : Tr AV) (H' : AH), Sub T T2 → iter f n T H = some (e, T', H') → ∃ T2', iter g n T2 H = some (e, T2', H') ∧ Sub T' T2'
  | 0, T, T2, H, e, T', H', h, hi => by simp [iter] at hi
  | n + 1, T, T2, H, e, T', H', h, hi => by
    simp only [iter] at hi ⊢
    split at hi
    · rename_i T1 H1 h1
      obtain ⟨T3, k1, k2⟩ := hfg _ _ _ _ _ _ h h1
      rw [k1]
      exact iter_mono hfg n _ _ _ _ _ _ k2 hi
    · rename_i hne
      obtain ⟨T3, k1, k2⟩ := hfg _ _ _ _ _ _ h hi
      rw [k1]
      refine ⟨T3, ?_, k2⟩
      cases e with
      | normal => exact absurd hi (hne _ _)
      | exit id => rfl
      | ret => rfl
theorem ycode_mono {call : ICall} {F : Nat} : ∀ (c : YC) (T T2 : Tr AV) (H : AH) (e : IEx) (T' : Tr AV) (H' : AH), Sub T T2 → ycode call F c T H = some (e, T', H') → ∃ T2', xcode call F (erase c) T2 H = some (e, T2', H') ∧ Sub T' T2' := by
  intro c
  induction c with
  | skip => intro T T2 H e T' H' h hx; simp only [ycode] at hx; cases hx; exact ⟨T2, rfl, h⟩
  | ops l =>
    intro T T2 H e T' H' h hx
    simp only [ycode, erase, xcode] at hx ⊢
    split at hx
    · rename_i T1 H1 h1
      cases hx
      obtain ⟨T3, k1, k2⟩ := xops_mono h h1
      rw [k1]
      exact ⟨T3, rfl, k2⟩
    · cases hx
  | dops n l =>
    intro T T2 H e T' H' h hx
    simp only [ycode, erase, xcode] at hx ⊢
    split at hx
    · rename_i s h1
      cases hx
      obtain ⟨s2, k1, k2, k3, k4⟩ := drun_mono (s := ⟨T, ⟨H.next + n, H.gs, H.ms⟩, []⟩) (s2 := ⟨T2, ⟨H.next + n, H.gs, H.ms⟩, []⟩) h rfl rfl h1
      rw [k1]
      exact ⟨s2.T, by simp only [k3], k2⟩
    · cases hx
  | seq a b iha ihb =>
    intro T T2 H e T' H' h hx
    simp only [ycode, erase, xcode] at hx ⊢
    split at hx
    · rename_i T1 H1 h1
      obtain ⟨T3, k1, k2⟩ := iha _ _ _ _ _ _ h h1
      rw [k1]
      exact ihb _ _ _ _ _ _ k2 hx
    · rename_i hne
      obtain ⟨T3, k1, k2⟩ := iha _ _ _ _ _ _ h hx
      rw [k1]
      refine ⟨T3, ?_, k2⟩
      cases e with
      | normal => exact absurd hx (hne _ _)
      | exit id => rfl
      | ret => rfl
  | cond x a b iha ihb =>
    intro T T2 H e T' H' h hx
    simp only [ycode, erase, xcode] at hx ⊢
    split at hx
    · rename_i hb; rw [iev_mono h hb]; exact iha _ _ _ _ _ _ h hx
    · rename_i hb; rw [iev_mono h hb]; exact ihb _ _ _ _ _ _ h hx
    · cases hx
  | block id c ih =>
    intro T T2 H e T' H' h hx
    simp only [ycode, erase, xcode] at hx ⊢
    split at hx
    · rename_i id' T1 H1 h1
      obtain ⟨T3, k1, k2⟩ := ih _ _ _ _ _ _ h h1
      rw [k1]
      simp only
      cases hb : Nat.beq id' id with
      | true => rw [hb] at hx; cases hx; exact ⟨T3, rfl, k2⟩
      | false => rw [hb] at hx; cases hx; exact ⟨T3, rfl, k2⟩
    · rename_i hne
      obtain ⟨T3, k1, k2⟩ := ih _ _ _ _ _ _ h hx
      rw [k1]
      refine ⟨T3, ?_, k2⟩
      cases e with
      | exit id => exact absurd hx (hne _ _ _)
      | normal => rfl
      | ret => rfl
  | loop c ih =>
    intro T T2 H e T' H' h hx
    simp only [ycode, erase, xcode] at hx ⊢
    exact iter_mono (fun T T2 H e T' H' => ih T T2 H e T' H') F _ _ _ _ _ _ h hx
  | exit id => intro T T2 H e T' H' h hx; simp only [ycode] at hx; cases hx; exact ⟨T2, rfl, h⟩
  | ret => intro T T2 H e T' H' h hx; simp only [ycode] at hx; cases hx; exact ⟨T2, rfl, h⟩
  | tb ps c ih =>
    intro T T2 H e T' H' h hx
    simp only [ycode, erase] at hx ⊢
    split at hx
    · rename_i l hl
      exact ih _ _ _ _ _ _ ((tgets_sub hl).trans h) hx
    · cases hx
  | ta c ps ih =>
    intro T T2 H e T' H' h hx
    simp only [ycode, erase] at hx ⊢
    split at hx
    · rename_i T1 H1 h1
      split at hx
      · rename_i l hl
        cases hx
        obtain ⟨T3, k1, k2⟩ := ih _ _ _ _ _ _ h h1
        exact ⟨T3, k1, (tgets_sub hl).trans k2⟩
      · cases hx
    · exact ih _ _ _ _ _ _ h hx
  | bad => intro T T2 H e T' H' h hx; simp only [ycode] at hx; cases hx
end Go.Abs
namespace Go.Abs
open Go Go.RowKit
set_option linter.unusedVariables false
set_option linter.unusedSimpArgs false
section
variable {α β : Type}
def on (o : Option α) (k : α → Option β) : Option β := match o with | some a => k a | none => none
theorem on_some (a : α) (k : α → Option β) : on (some a) k = k a := (rfl)
theorem on_congr {o o' : Option α} {k : α → Option β} (h : o = o') : on o k = on o' k := by rw [h]
def br (o : Option AV) (a b : Option β) : Option β := match o with | some (.bool true) => a | some (.bool false) => b | _ => none
theorem br_congr {o o' : Option AV} {a b : Option β} (h : o = o') : br o a b = br o' a b := by rw [h]
end
/-- Slots, as they are written. -/
def sv (n : Nat) : Opd := .t (Tr.path n)
def sc (x : AV) : Opd := .c x
def sd (n : Nat) : Option Pth := some (Tr.path n)
def sn : Option Pth := none
def s0 : Option (Pth × Bool) := none
theorem iev_sv (l : Fr) (n : Nat) : iev (mk l) (sv n) = fget l n := getP_mk l n
theorem iev_sc (T : Tr AV) (x : AV) : iev T (sc x) = some x := (rfl)
theorem xput_sd (l : Fr) (n : Nat) (x : AV) : xput (mk l) (sd n) x = mk ((n, x) :: l) := (rfl)
theorem xput_sn (T : Tr AV) (x : AV) : xput T sn x = T := (rfl)
theorem fget_cons (m : Nat) (x : AV) (l : Fr) (n : Nat) : fget ((m, x) :: l) n = if m = n then some x else fget l n := (rfl)
theorem iparts_nil (T : Tr AV) : iparts T [] = some [] := (rfl)
theorem iparts_cons (T : Tr AV) (a b : Nat) (i : Opd) (is : List (Nat × Nat × Opd)) : iparts T ((a, b, i) :: is) = on (iev T i) fun x => on (iparts T is) fun xs => some ((a, b, x) :: xs) := by
  simp only [iparts, on]; cases iev T i with
  | none => rfl
  | some x => cases iparts T is <;> rfl
theorem tgets_nil (T : Tr AV) : tgets T [] = some [] := (rfl)
theorem tgets_cons (l : Fr) (p : Nat) (ps : List Nat) : tgets (mk l) (p :: ps) = on (fget l p) fun x => on (tgets (mk l) ps) fun fr => some ((p, x) :: fr) := by
  simp only [tgets, getP_mk, on]; cases fget l p with
  | none => rfl
  | some x => cases tgets (mk l) ps <;> rfl
section
variable (call : ICall) (F : Nat) (T : Tr AV) (H : AH)
theorem y_ops0 : ycode call F (.ops []) T H = some (.normal, T, H) := (rfl)
noncomputable def opk (T : Tr AV) (dst : Option Pth) (os : List IOper) (r : Option (AV × AH)) : XR := match r with
  | some p => ycode call F (.ops os) (xput T dst p.1) p.2
  | none => none
theorem opk_some (dst : Option Pth) (os : List IOper) (x : AV) : opk call F T dst os (some (x, H)) = ycode call F (.ops os) (xput T dst x) H := (rfl)
theorem y_ops1 (dst : Option Pth) (k : IK) (os : List IOper) : ycode call F (.ops (⟨dst, s0, k⟩ :: os)) T H = opk call F T dst os (xop call T H k) := by
  simp only [ycode, xops, s0, opk]; cases xop call T H k <;> rfl
section
variable (dst : Option Pth) (k : IK) (os : List IOper) (w : Bool)
end
noncomputable def sqk (b : YC) (r : XR) : XR := match r with | some (.normal, T, H) => ycode call F b T H | r => r
theorem sqk_n (b : YC) : sqk call F b (some (.normal, T, H)) = ycode call F b T H := (rfl)
theorem y_seq (a b : YC) : ycode call F (.seq a b) T H = sqk call F b (ycode call F a T H) := by
  simp only [ycode, sqk]
  all_goals (rcases ycode call F a T H with _ | ⟨_ | _ | _, T', H'⟩ <;> rfl)
def tak (ps : List Nat) (r : XR) : XR := match r with
  | some (.normal, T, H) => (match tgets T ps with | some l => some (.normal, mk l, H) | none => none)
  | r => r
theorem tak_n (ps : List Nat) : tak ps (some (.normal, T, H)) = on (tgets T ps) fun l => some (.normal, mk l, H) := by
  simp only [tak, on]; cases tgets T ps <;> rfl
theorem y_ta (ps : List Nat) (c : YC) : ycode call F (.ta c ps) T H = tak ps (ycode call F c T H) := by
  simp only [ycode, tak]
  all_goals (rcases ycode call F c T H with _ | ⟨_ | _ | _, T', H'⟩ <;> try rfl)
  all_goals (dsimp only; cases tgets T' ps <;> rfl)
theorem x_op (o : IOp) : xop call T H (.op o) = iop T o H := (rfl)
def onf (o : Option AV) (k : FuncId → List AV → Option (AV × AH)) : Option (AV × AH) := match o with | some (.fn (.func g) cap) => k g cap | _ => none
theorem onf_congr {o o' : Option AV} {k : FuncId → List AV → Option (AV × AH)} (h : o = o') : onf o k = onf o' k := by rw [h]
noncomputable def run (c : YC) (T : Tr AV) (H : AH) : XR := ycode call F c T H
end
def newsl (H : AH) (z n : Nat) (cs : List AV) : Option (AV × AH) := bif H.free then some (.slc H.next 0 0 n z, H.add cs) else none
def nilckY (H : AH) : AV → Option (AV × AH)
  | .ptr g e i => some (.ptr g e i, H)
  | .vptr r i => some (.vptr r i, H)
  | .fn (.func f) cap => some (.fn (.func f) cap, H)
  | _ => none
def convY (k : IntKind) (H : AH) : AV → Option (AV × AH)
  | .int _ n => some (.int k (k.wrap n), H)
  | _ => none
def convsY (H : AH) : AV → Option (AV × AH)
  | .str s => some (.str s, H)
  | _ => none
def s2bY (H : AH) : AV → Option (AV × AH)
  | .str s => some (.vals 1 (byteRows s), H)
  | _ => none
def i2sY (H : AH) : AV → Option (AV × AH)
  | .int _ n => some (.str (Utf8.encode n).data.toList, H)
  | _ => none
def faddrY (off : Nat) (H : AH) : AV → Option (AV × AH)
  | .ptr g e i => some (.ptr g e (i + off), H)
  | .vptr row i => some (.vptr row (i + off), H)
  | _ => none
def fieldY (off : Nat) (n : Option Nat) (H : AH) : AV → Option (AV × AH)
  | .agg cs => match n with
    | some n => some (.agg ((cs.drop off).take n), H)
    | none => on (cs[off]?) fun y => some (y, H)
  | _ => none
def iaddrY (z : Nat) (H : AH) : AV → AV → Option (AV × AH)
  | .slc g a s len z', .int _ i => if 0 ≤ i ∧ i < len ∧ z' = z then some (.ptr g a (s + i.toNat * z), H) else none
  | .vals z' rows, .int _ i => if 0 ≤ i ∧ z' = z then on (rows[i.toNat]?) fun r => some (.vptr r 0, H) else none
  | _, _ => none
def extY (i : Nat) (H : AH) : AV → Option (AV × AH)
  | .tup vs => on (vs[i]?) fun y => some (y, H)
  | _ => none
def lenY (isS : Bool) (H : AH) : AV → Option (AV × AH)
  | .str s => bif isS then some (.int .i64 s.length, H) else none
  | .slc _ _ _ len _ => bif isS then none else some (.int .i64 len, H)
  | .vals _ rows => bif isS then none else some (.int .i64 rows.length, H)
  | .nils => bif isS then none else some (.int .i64 0, H)
  | .zslc => bif isS then none else some (.int .i64 0, H)
  | _ => none
def b2sY (H : AH) (x : AV) : Option (AV × AH) := on (listCells H 1 x) fun p => on (bytesA p.2) fun l => some (.str l, H)
def capnY (H : AH) : AV → Option (AV × AH)
  | .nils => some (.int .i64 0, H)
  | _ => none
section
variable (T : Tr AV) (H : AH)
theorem i_ev (x : Opd) : iop T (.ev x) H = on (iev T x) fun x => some (x, H) := by
  simp only [iop, xop, on, br, onf, nilckY, convY, convsY, s2bY, i2sY, faddrY, fieldY, extY, lenY, b2sY, capnY]
  rcases iev T x with _ | x0 <;> try rfl
  all_goals (try (cases x0 <;> try rfl))
  all_goals (try (split <;> rfl))
  all_goals (try (rename_i b; cases b <;> rfl))
theorem i_new (x : Opd) : iop T (.new x) H = on (iev T x) fun x => abox H x := by
  simp only [iop, xop, on, br, onf, nilckY, convY, convsY, s2bY, i2sY, faddrY, fieldY, extY, lenY, b2sY, capnY]
  rcases iev T x with _ | x0 <;> try rfl
  all_goals (try (cases x0 <;> try rfl))
  all_goals (try (split <;> rfl))
  all_goals (try (rename_i b; cases b <;> rfl))
theorem i_bslice (z n : Nat) (zs : List AV) (ps : List (Nat × Nat × Opd)) : iop T (.bslice z n zs ps) H = on (iparts T ps) fun ps => on (ifill zs ps) fun cs => newsl H z n cs := by
  simp only [iop, xop, on, br, onf, nilckY, convY, convsY, s2bY, i2sY, faddrY, fieldY, extY, lenY, b2sY, capnY]
  rcases iparts T ps with _ | x0 <;> try rfl
  dsimp only
  generalize ifill zs x0 = q
  rcases q with _ | q <;> rfl
theorem i_store (n : Nat) (x y : Opd) : iop T (.store n x y) H = on (iev T x) fun x => on (iev T y) fun y => on (istore n H x y) fun H' => some (.und, H') := by
  simp only [iop, xop, on, br, onf, nilckY, convY, convsY, s2bY, i2sY, faddrY, fieldY, extY, lenY, b2sY, capnY]
  rcases iev T x with _ | x0 <;> try rfl
  rcases iev T y with _ | x1 <;> try rfl
  dsimp only
  generalize istore n H x0 x1 = q
  rcases q with _ | q <;> rfl
theorem i_nilck (x : Opd) : iop T (.nilck x) H = on (iev T x) fun x => nilckY H x := by
  simp only [iop, on, nilckY]
  rcases iev T x with _ | x0 <;> try rfl
  cases x0 <;> try rfl
  rename_i f cap; cases f <;> rfl
theorem i_faddr (off : Nat) (x : Opd) : iop T (.faddr off x) H = on (iev T x) fun x => faddrY off H x := by
  simp only [iop, xop, on, br, onf, nilckY, convY, convsY, s2bY, i2sY, faddrY, fieldY, extY, lenY, b2sY, capnY]
  rcases iev T x with _ | x0 <;> try rfl
  all_goals (try (cases x0 <;> try rfl))
  all_goals (try (split <;> rfl))
  all_goals (try (rename_i b; cases b <;> rfl))
theorem i_iaddr (z : Nat) (x i : Opd) : iop T (.iaddr z x i) H = on (iev T x) fun x => on (iev T i) fun i => iaddrY z H x i := by
  simp only [iop, on]
  rcases iev T x with _ | x0 <;> try rfl
  rcases iev T i with _ | x1 <;> cases x0 <;> try rfl
  all_goals cases x1 <;> try rfl
  rename_i z' rows k n
  simp only [iaddrY, on]
  generalize rows[n.toNat]? = q
  rcases q with _ | q <;> rfl
theorem i_len (s : Bool) (x : Opd) : iop T (.len s x) H = on (iev T x) fun x => lenY s H x := by
  simp only [iop, xop, on, br, onf, nilckY, convY, convsY, s2bY, i2sY, faddrY, fieldY, extY, lenY, b2sY, capnY]
  rcases iev T x with _ | x0 <;> try rfl
  all_goals (try (cases x0 <;> try rfl))
  all_goals (try (split <;> rfl))
  all_goals (try (rename_i b; cases b <;> rfl))
theorem i_app (z b : Nat) (s x : Opd) : iop T (.app z b s x) H = on (iev T s) fun s => on (iev T x) fun x => iapp z b s x H := by
  simp only [iop, xop, on, br, onf, nilckY, convY, convsY, s2bY, i2sY, faddrY, fieldY, extY, lenY, b2sY, capnY]
  rcases iev T s with _ | x0 <;> try rfl
  rcases iev T x with _ | x1 <;> try rfl
  all_goals (try (cases x0 <;> try rfl))
  all_goals (try (cases x1 <;> try rfl))
  all_goals (try (split <;> rfl))
  all_goals (try (rename_i b; cases b <;> rfl))
end
theorem Tr.setP_setP {α : Type} : ∀ (p : Pth) (t : Tr α) (x y : α), Tr.setP p (Tr.setP p t x) y = Tr.setP p t y := by
  intro p
  induction p with
  | nil => intro t x y; cases t <;> rfl
  | cons q p ih => intro t x y; cases t <;> cases q <;> simp [Tr.setP, ih]
theorem Tr.set_set {α : Type} (t : Tr α) (n : Nat) (x y : α) : (t.set n x).set n y = t.set n y := Tr.setP_setP _ _ _ _
end Go.Abs
namespace Go.Abs
open Go Go.RowKit
set_option linter.unusedVariables false
mutual
/-- Hangs on no memory of the run's own. -/
def pureA : AV → Bool
  | .bool _ | .int .. | .str _ | .nilp | .nils | .zslc | .nilf | .nili | .nilm => true
  | .ptr .. | .slc .. | .mapp _ | .und => false
  | .vptr row _ => pureL row
  | .vals _ rows => pureR rows
  | .fn _ cap => pureL cap
  | .iface _ v => pureA v
  | .agg cs => pureL cs
  | .tup cs => pureL cs
def pureL : List AV → Bool
  | [] => true
  | x :: xs => pureA x && pureL xs
def pureR : List (List AV) → Bool
  | [] => true
  | r :: rs => pureL r && pureR rs
end
mutual
theorem pureA_ok {G G' : Gh} (h : ∀ b o v, G.M b o = some v → G'.M b o = some v) : ∀ (x : AV) (u : Value), pureA x = true → VR G x u → VR G' x u
  | .bool b, u, hp, hv => hv
  | .int k n, u, hp, hv => hv
  | .str s, u, hp, hv => hv
  | .nilp, u, hp, hv => hv
  | .nils, u, hp, hv => hv
  | .zslc, u, hp, hv => hv
  | .nilf, u, hp, hv => hv
  | .nili, u, hp, hv => hv
  | .nilm, u, hp, hv => hv
  | .ptr .., u, hp, hv => by simp [pureA] at hp
  | .slc .., u, hp, hv => by simp [pureA] at hp
  | .mapp _, u, hp, hv => by simp [pureA] at hp
  | .und, u, hp, hv => by simp [pureA] at hp
  | .vptr row i, u, hp, hv => by
    simp only [VR, pureA] at hp hv ⊢
    obtain ⟨b, o, h1, h2⟩ := hv
    exact ⟨b, o, h1, pureW_ok h row b o hp h2⟩
  | .vals z rows, u, hp, hv => by
    simp only [VR, pureA] at hp hv ⊢
    obtain ⟨a, cap, h1, h0, h2⟩ := hv
    refine ⟨a, cap, h1, h0, ?_⟩
    rcases h2 with h2 | ⟨b, o, h2, h3⟩
    · exact .inl h2
    · exact .inr ⟨b, o, h2, pureWs_ok h z rows b o hp h3⟩
  | .fn f cap, u, hp, hv => by
    simp only [VR, pureA] at hp hv ⊢
    obtain ⟨cs, h1, h2⟩ := hv
    exact ⟨cs, h1, pureL_ok h cap _ hp h2⟩
  | .iface t x, u, hp, hv => by
    simp only [VR, pureA] at hp hv ⊢
    obtain ⟨v, h1, h2⟩ := hv
    exact ⟨v, h1, pureA_ok h x v hp h2⟩
  | .agg cs, u, hp, hv => by
    simp only [VR, pureA] at hp hv ⊢
    obtain ⟨us, h1, h2⟩ := hv
    exact ⟨us, h1, pureL_ok h cs _ hp h2⟩
  | .tup cs, u, hp, hv => by
    simp only [VR, pureA] at hp hv ⊢
    obtain ⟨us, h1, h2⟩ := hv
    exact ⟨us, h1, pureL_ok h cs _ hp h2⟩
theorem pureL_ok {G G' : Gh} (h : ∀ b o v, G.M b o = some v → G'.M b o = some v) : ∀ (xs : List AV) (us : List Value), pureL xs = true → VRs G xs us → VRs G' xs us
  | [], us, hp, hv => by simpa [VRs] using hv
  | x :: xs, us, hp, hv => by
    simp only [VRs, pureL, Bool.and_eq_true] at hp hv ⊢
    obtain ⟨u, us', h1, h2, h3⟩ := hv
    exact ⟨u, us', h1, pureA_ok h x u hp.1 h2, pureL_ok h xs us' hp.2 h3⟩
theorem pureW_ok {G G' : Gh} (h : ∀ b o v, G.M b o = some v → G'.M b o = some v) : ∀ (xs : List AV) (b o : Nat), pureL xs = true → VRow G xs b o → VRow G' xs b o
  | [], b, o, hp, hv => by simp [VRow]
  | x :: xs, b, o, hp, hv => by
    simp only [VRow, pureL, Bool.and_eq_true] at hp hv ⊢
    obtain ⟨⟨u, h1, h2⟩, h3⟩ := hv
    exact ⟨⟨u, h _ _ _ h1, pureA_ok h x u hp.1 h2⟩, pureW_ok h xs b (o + 1) hp.2 h3⟩
theorem pureWs_ok {G G' : Gh} (h : ∀ b o v, G.M b o = some v → G'.M b o = some v) (z : Nat) : ∀ (rs : List (List AV)) (b o : Nat), pureR rs = true → VRows G z rs b o → VRows G' z rs b o
  | [], b, o, hp, hv => by simp [VRows]
  | r :: rs, b, o, hp, hv => by
    simp only [VRows, pureR, Bool.and_eq_true] at hp hv ⊢
    exact ⟨hv.1, pureW_ok h r b o hp.1 hv.2.1, pureWs_ok h z rs b _ hp.2 hv.2.2⟩
end
/-- A value, seen as one that stands for good. -/
inductive Fz (H : AH) : AV → AV → Prop
  | pure {x : AV} (h : pureA x = true) : Fz H x x
  | nils (z : Nat) : Fz H .nils (.vals z [])
  | zslc (z : Nat) : Fz H .zslc (.vals z [])
  | agg {xs ys : List AV} (hl : xs.length = ys.length) (h : ∀ (i : Nat) x y, xs[i]? = some x → ys[i]? = some y → Fz H x y) : Fz H (.agg xs) (.agg ys)
  | tup {xs ys : List AV} (hl : xs.length = ys.length) (h : ∀ (i : Nat) x y, xs[i]? = some x → ys[i]? = some y → Fz H x y) : Fz H (.tup xs) (.tup ys)
  | iface {t : TypeId} {x y : AV} (h : Fz H x y) : Fz H (.iface t x) (.iface t y)
  | slc {g e i len z : Nat} {r : Grp} {rows : List (List AV)} (hg : H.gs.get g = some r) (he : r.e = e) (hn : rows.length = len) (hz : ∀ row ∈ rows, row.length = z) (hb : i + len * z ≤ r.cells.length)
      (h : ∀ (j : Nat) x y, r.cells[i + j]? = some x → rows.flatten[j]? = some y → Fz H x y) : Fz H (.slc g e i len z) (.vals z rows)
  | vals {z : Nat} {rows rows' : List (List AV)} (hn : rows.length = rows'.length) (hz : ∀ row ∈ rows, row.length = z) (hz' : ∀ row ∈ rows', row.length = z)
      (h : ∀ (j : Nat) x y, rows.flatten[j]? = some x → rows'.flatten[j]? = some y → Fz H x y) : Fz H (.vals z rows) (.vals z rows')
  | ptr {g e i : Nat} {r : Grp} {row : List AV} (hg : H.gs.get g = some r) (he : r.e = e) (hb : row.length ≤ r.cells.length)
      (h : ∀ (j : Nat) x y, r.cells[j]? = some x → row[j]? = some y → Fz H x y) : Fz H (.ptr g e i) (.vptr row i)
theorem flatten_len' {z : Nat} : ∀ {rs : List (List AV)}, (∀ r ∈ rs, r.length = z) → rs.flatten.length = rs.length * z
  | [], h => by simp
  | r :: rs, h => by
    rw [List.flatten_cons, List.length_append, flatten_len' fun r' hr => h r' (List.mem_cons_of_mem _ hr), h r (List.mem_cons_self ..), List.length_cons, Nat.succ_mul, Nat.add_comm]
theorem rows_of_flat {G : Gh} {z b : Nat} : ∀ {rs : List (List AV)} {o : Nat}, (∀ r ∈ rs, r.length = z) → (∀ (j : Nat) y, rs.flatten[j]? = some y → ∃ u, G.M b (o + j) = some u ∧ VR G y u) → VRows G z rs b o
  | [], o, hz, h => by simp [VRows]
  | r :: rs, o, hz, h => by
    have hr := hz r (List.mem_cons_self ..)
    simp only [VRows]
    refine ⟨hr, VRow.of_get fun j y hj => ?_, rows_of_flat (fun r' h' => hz r' (List.mem_cons_of_mem _ h')) fun j y hj => ?_⟩
    · refine h j y ?_
      rw [List.flatten_cons, List.getElem?_append_left (List.getElem?_eq_some_iff.1 hj).1]
      exact hj
    · obtain ⟨u, h1, h2⟩ := h (z + j) y (by rw [List.flatten_cons, List.getElem?_append_right (by omega), hr]; simpa using hj)
      exact ⟨u, by rw [← h1]; congr 1; omega, h2⟩
theorem Fz_ok {K : Kx} {G Gf : Gh} {H : AH} {w : World} (h : HRel K G H w) (hM : ∀ b o v, K.B ≤ b → w.cell? ⟨b, o, none⟩ = some v → v.oneCell' = true → Gf.M b o = some v) (hG : ∀ b o v, G.M b o = some v → Gf.M b o = some v) {x y : AV} (hf : Fz H x y) : ∀ u, VR G x u → VR Gf y u := by
  induction hf with
  | pure hp => exact fun u hv => pureA_ok hG _ _ hp hv
  | nils z => intro u hv; simp only [VR] at hv ⊢; subst hv; exact ⟨none, 0, rfl, Nat.le_refl _, .inl trivial⟩
  | zslc z => intro u hv; simp only [VR] at hv ⊢; obtain ⟨a, rfl⟩ := hv; exact ⟨a, 0, rfl, Nat.le_refl _, .inl trivial⟩
  | agg hl hx ih =>
    intro u hv
    simp only [VR] at hv ⊢
    obtain ⟨us, rfl, h2⟩ := hv
    refine ⟨us, rfl, VRs.of_get (by rw [h2.len, hl]) fun j y hj => ?_⟩
    obtain ⟨hlt, -⟩ := List.getElem?_eq_some_iff.1 hj
    obtain ⟨v, h3, h4⟩ := h2.get j _ (List.getElem?_eq_getElem (by omega))
    exact ⟨v, h3, ih j _ y (List.getElem?_eq_getElem (by omega)) hj v h4⟩
  | tup hl hx ih =>
    intro u hv
    simp only [VR] at hv ⊢
    obtain ⟨us, rfl, h2⟩ := hv
    refine ⟨us, rfl, VRs.of_get (by rw [h2.len, hl]) fun j y hj => ?_⟩
    obtain ⟨hlt, -⟩ := List.getElem?_eq_some_iff.1 hj
    obtain ⟨v, h3, h4⟩ := h2.get j _ (List.getElem?_eq_getElem (by omega))
    exact ⟨v, h3, ih j _ y (List.getElem?_eq_getElem (by omega)) hj v h4⟩
  | iface hx ih =>
    intro u hv
    simp only [VR] at hv ⊢
    obtain ⟨v, rfl, h2⟩ := hv
    exact ⟨v, rfl, ih v h2⟩
  | @slc g e i len z r rows hg he hn hz hb hx ih =>
    intro u hv
    simp only [VR] at hv ⊢
    obtain ⟨b, o, n, cap, hmu, rfl, hcap, hfit⟩ := hv
    obtain ⟨b', o', n', cs, t, q⟩ := h.grp g r hg
    rw [← he, q.mu] at hmu
    cases hmu
    refine ⟨_, cap, by rw [hn], by rw [hn]; exact hcap, .inr ⟨b, o + i, rfl, rows_of_flat hz fun j y hj => ?_⟩⟩
    have hlt : j < len * z := by
      have := (List.getElem?_eq_some_iff.1 hj).1
      rwa [flatten_len' hz, hn] at this
    have hc : r.cells[i + j]? = some (r.cells[i + j]'(by omega)) := List.getElem?_eq_getElem (by omega)
    obtain ⟨v, h1, h2, h3⟩ := q.cell _ _ hc
    refine ⟨v, hM _ _ _ q.low ?_ h3, ih j _ y hc hj v h2⟩
    rw [cell_of q.heap, ← h1]
    congr 1; omega
  | @vals z rows rows' hn hz hz' hx ih =>
    intro u hv
    simp only [VR] at hv ⊢
    obtain ⟨a, cap, rfl, hcap, hin⟩ := hv
    refine ⟨a, cap, by rw [hn], by rw [← hn]; exact hcap, ?_⟩
    rcases hin with h0 | ⟨b, o, rfl, hin⟩
    · left; subst h0; exact List.eq_nil_of_length_eq_zero hn.symm
    · right
      refine ⟨b, o, rfl, rows_of_flat hz' fun j y hj => ?_⟩
      have hlt : j < rows.flatten.length := by
        have := (List.getElem?_eq_some_iff.1 hj).1
        rw [flatten_len' hz'] at this
        rw [flatten_len' hz, hn]; exact this
      obtain ⟨v, h1, h2⟩ := VRows.flat hin j _ (List.getElem?_eq_getElem hlt)
      exact ⟨v, hG _ _ _ h1, ih j _ y (List.getElem?_eq_getElem hlt) hj v h2⟩
  | @ptr g e i r row hg he hb hx ih =>
    intro u hv
    simp only [VR] at hv ⊢
    obtain ⟨b, o, n, hmu, rfl⟩ := hv
    obtain ⟨b', o', n', cs, t, q⟩ := h.grp g r hg
    rw [← he, q.mu] at hmu
    cases hmu
    refine ⟨b, o, rfl, VRow.of_get fun j y hj => ?_⟩
    have hlt := (List.getElem?_eq_some_iff.1 hj).1
    have hc : r.cells[j]? = some (r.cells[j]'(by omega)) := List.getElem?_eq_getElem (by omega)
    obtain ⟨v, h1, h2, h3⟩ := q.cell _ _ hc
    exact ⟨v, hM _ _ _ q.low (by rw [cell_of q.heap]; exact h1) h3, ih j _ y hc hj v h2⟩
/-- A memory of which nothing is the run's own yet. -/
theorem HRel.anew {K : Kx} {G : Gh} {H : AH} {w : World} (h : HRel K G H w) : HRel ⟨w.heap.size, w, G.M, h.glob⟩ ⟨G.M, fun _ _ => none, fun _ => none⟩ AH.empty w := by
  refine ⟨Below.refl _ _, Nat.le_refl _, h.mem, h.ones, fun _ _ _ => rfl, ?_, ?_, fun _ _ _ => rfl, ?_, ?_, fun _ _ => rfl, ?_⟩
  · intro g r hg; rw [show AH.empty.gs.get g = none from Tr.get_nil g] at hg; cases hg
  · intro g g' r r' b o n b' o' n' hg; rw [show AH.empty.gs.get g = none from Tr.get_nil g] at hg; cases hg
  · intro g es hg; rw [show AH.empty.ms.get g = none from Tr.get_nil g] at hg; cases hg
  · intro g g' es es' b b' hg; rw [show AH.empty.ms.get g = none from Tr.get_nil g] at hg; cases hg
  · intro g r e hg; rw [show AH.empty.gs.get g = none from Tr.get_nil g] at hg; cases hg
/-- What comes of a run, seen as a value that stands for good. -/
def Ans (r : Option (AV × AH)) (y : AV) : Prop := ∃ x H, r = some (x, H) ∧ Fz H x y
theorem Ans.some {x y : AV} {H : AH} (h : Fz H x y) : Ans (some (x, H)) y := ⟨x, H, rfl, h⟩
/-- What a call of values that stand for good answers out of nothing it answers in any memory. -/
theorem ACalls.pure {P : Program} {f : FuncId} {args : List AV} {x y : AV} {H1 : AH} (hargs : pureL args = true) (h : ACalls P f args AH.empty fun x' H' => x' = x ∧ H' = H1) (hf : Fz H1 x y) (H : AH) :
    ACalls P f args H fun y' H' => y' = y ∧ H' = H := by
  intro K G vs w hr hv
  refine (h _ _ vs w hr.anew (pureL_ok (G := G) (G' := ⟨G.M, fun _ _ => none, fun _ => none⟩) (fun _ _ _ h => h) _ _ hargs hv)).mono fun e w' ⟨u, x', G', H', h1, h2, h3, h4, h5, h6⟩ => ?_
  subst h5; subst h6
  have hnew : ∀ b o v, w.heap.size ≤ b → w'.cell? ⟨b, o, none⟩ = some v → v.oneCell' = true → (newG G w.heap.size w').M b o = some v := fun b o v hB hc ho => by
    simp only [newG]
    rw [if_neg (by omega)]
    exact allG_cell hc ho
  refine ⟨u, y, newG G w.heap.size w', H, h1, newG_le hr, newG_rel hr h3.below, ?_, rfl, rfl⟩
  refine Fz_ok h3 hnew (fun b o v hv => ?_) hf u h4
  by_cases hb : b < w.heap.size
  · have := h3.old b o hb
    rw [hv] at this
    simp only [newG]
    rw [if_pos hb]
    exact this.symm
  · exact hnew b o v (by omega) (h3.mem b o v hv) (h3.ones b o v hv)
end Go.Abs
namespace Go.Abs
open Go Go.RowKit
set_option linter.unusedVariables false
section
variable (t : TypeId) (d : Option TypeDesc) (nc : Bool) (k : IntKind) (a b : Int) (x y : List UInt8) (p q : Bool)
end
section
variable (cs : List AV) (k : IntKind) (n : Int) (s : List UInt8) (b : Bool) (g e i len z : Nat) (rows : List (List AV)) (r : List AV) (f : Fn) (t : TypeId) (x : AV)
theorem ce_agg : (AV.agg cs).cells = cs := (rfl)
theorem ce_slc : (AV.slc g e i len z).cells = [.slc g e i len z] := (rfl)
theorem fi_agg : (AV.agg cs).fit = cs.all AV.one := (rfl)
theorem fi_slc : (AV.slc g e i len z).fit = true := (rfl)
theorem on_int : (AV.int k n).one = true := (rfl)
theorem on_str : (AV.str s).one = true := (rfl)
theorem on_nils : AV.nils.one = true := (rfl)
end
theorem wrap_i64 {x : Int} (h1 : -9223372036854775808 ≤ x) (h2 : x ≤ 9223372036854775807) : IntKind.i64.wrap x = x := by
  rw [IntKind.wrap_i64]
  omega
section
variable (H : AH) (g e i n : Nat) (row : List AV) (v : AV) (z : Nat)
theorem iload_p : iload none H (.ptr g e i) = on (H.gs.get g) fun r => if r.e = e then r.cells[i]? else none := by
  simp only [iload, cellsAt, on]
  cases H.gs.get g with
  | none => rfl
  | some r =>
    dsimp only
    by_cases he : r.e = e
    · by_cases hi : i + 1 ≤ r.cells.length
      · rw [if_pos ⟨he, hi⟩, List.getElem?_eq_getElem (by omega)]
        simp only [if_pos he]
        rw [List.drop_eq_getElem_cons (by omega)]
        rfl
      · rw [if_neg (fun h => hi h.2)]
        simp only [if_pos he, List.getElem?_eq_none (show r.cells.length ≤ i by omega)]
    · rw [if_neg (fun h => he h.1)]
      simp only [if_neg he]
theorem iload_ps : iload (some n) H (.ptr g e i) = on (H.gs.get g) fun r => if r.e = e ∧ i + n ≤ r.cells.length then some (.agg ((r.cells.drop i).take n)) else none := by
  simp only [iload, cellsAt, on]
  cases H.gs.get g with
  | none => rfl
  | some r =>
    by_cases h : r.e = e ∧ i + n ≤ r.cells.length
    · simp only [if_pos h]
    · simp only [if_neg h]
theorem istore_p : istore n H (.ptr g e i) v = on (H.gs.get g) fun r => if r.e = e ∧ r.fz ≤ i ∧ v.cells.length = n ∧ i + v.cells.length ≤ r.cells.length ∧ v.fit = true then
    some ⟨H.next, H.gs.set g ⟨r.e, r.fz, r.cells.take i ++ v.cells ++ r.cells.drop (i + v.cells.length)⟩, H.ms⟩ else none := by
  simp only [istore, on]
  cases H.gs.get g <;> rfl
theorem free_iff : H.free = true ↔ H.gs.get H.next = none := by
  unfold AH.free
  cases H.gs.get H.next <;> simp
theorem newsl_eq (cs : List AV) : newsl H z n cs = if H.gs.get H.next = none then some (.slc H.next 0 0 n z, H.add cs) else none := by
  unfold newsl
  by_cases h : H.gs.get H.next = none
  · rw [if_pos h, (free_iff H).2 h]; rfl
  · rw [if_neg h]
    cases hf : H.free with
    | true => exact absurd ((free_iff H).1 hf) h
    | false => rfl
theorem abox_eq : abox H v = if v.fit = true ∧ v.cells ≠ [] ∧ H.gs.get H.next = none then some (.ptr H.next 0 0, H.add v.cells) else none := by
  unfold abox
  simp only [free_iff]
theorem add_mk (nx : Nat) (gs : Tr Grp) (ms : Tr MapA) (cs : List AV) : AH.add ⟨nx, gs, ms⟩ cs = ⟨nx + 1, gs.set nx ⟨0, 0, cs⟩, ms⟩ := (rfl)
theorem lc_slc (len z' : Nat) : listCells H z (.slc g e i len z') = on (H.gs.get g) fun r => if r.e = e ∧ z' = z ∧ i + len * z ≤ r.cells.length then some (len, (r.cells.drop i).take (len * z)) else none := by
  simp only [listCells, on]
  cases H.gs.get g <;> rfl
theorem app_nils (b : Nat) (x : AV) : iapp z b .nils x H = on (listCells H z x) fun p => if p.1 = 0 then some (.nils, H) else
    if p.1 * b ≤ 140737488355328 ∧ p.1 ≤ 9223372036854775807 ∧ H.gs.get H.next = none then some (.slc H.next 0 0 p.1 z, H.add p.2) else none := by
  simp only [iapp, on]
  cases listCells H z x with
  | none => rfl
  | some p =>
    obtain ⟨m, xs⟩ := p
    simp only [anySlice, if_true, free_iff]
theorem app_slc (b len z' : Nat) (x : AV) : iapp z b (.slc g e i len z') x H = on (listCells H z x) fun p => if p.1 = 0 then some (.slc g e i len z', H) else
    on (H.gs.get g) fun r => if r.e = e ∧ z' = z ∧ r.fz ≤ i + len * z' ∧ i + len * z' ≤ r.cells.length ∧ (len + p.1) * b ≤ 140737488355328 ∧ len + p.1 ≤ 9223372036854775807 then
          some (.slc g (e + 1) 0 (len + p.1) z', ⟨H.next, H.gs.set g ⟨e + 1, r.fz - i, (r.cells.drop i).take (len * z') ++ p.2⟩, H.ms⟩) else none := by
  simp only [iapp, on]
  cases listCells H z x with
  | none => rfl
  | some p =>
    obtain ⟨m, xs⟩ := p
    simp only [anySlice, if_true]
    by_cases h0 : m = 0
    · simp only [if_pos h0]
    · simp only [if_neg h0]
      cases H.gs.get g <;> rfl
end
section
variable (H : AH)
theorem nilck_p (g e i : Nat) : nilckY H (.ptr g e i) = some (.ptr g e i, H) := (rfl)
theorem faddr_p (off g e i : Nat) : faddrY off H (.ptr g e i) = some (.ptr g e (i + off), H) := (rfl)
theorem iaddr_s (z g a s len z' : Nat) (k : IntKind) (i : Int) : iaddrY z H (.slc g a s len z') (.int k i) = if 0 ≤ i ∧ i < len ∧ z' = z then some (.ptr g a (s + i.toNat * z), H) else none := (rfl)
theorem len_l (g e i len z : Nat) : lenY false H (.slc g e i len z) = some (.int .i64 len, H) := (rfl)
theorem len_n : lenY false H .nils = some (.int .i64 0, H) := (rfl)
end
theorem ifill_nil (cs : List AV) : ifill cs [] = some cs := (rfl)
theorem ifill_cons (cs : List AV) (off size : Nat) (v : AV) (rest : List (Nat × Nat × AV)) : ifill cs ((off, size, v) :: rest) = if v.cells.length = size ∧ off + v.cells.length ≤ cs.length ∧ v.fit = true then ifill (cs.take off ++ v.cells ++ cs.drop (off + v.cells.length)) rest else none := (rfl)
section
variable (T : Tr AV) (H : AH)
end
section
variable (call : ICall) (base F : Nat) (T : Tr AV) (H : AH) (W : List WE)
def dq (r : Option DS) : XR := match r with | some s => some (.normal, s.T, s.H) | none => none
theorem dq_some (T : Tr AV) (H : AH) (W : List WE) : dq (some ⟨T, H, W⟩) = some (.normal, T, H) := (rfl)
theorem y_dops (n : Nat) (l : List DOp) : ycode call F (.dops n l) T H = dq (drun call H.next l ⟨T, ⟨H.next + n, H.gs, H.ms⟩, []⟩) := by
  simp only [ycode, dq]
  all_goals (cases drun call H.next l ⟨T, ⟨H.next + n, H.gs, H.ms⟩, []⟩ <;> rfl)
theorem d_nil (s : DS) : drun call base [] s = some s := (rfl)
noncomputable def dok (dst : Option Pth) (l : List DOp) (r : Option (AV × AH × List WE)) : Option DS := match r with
  | some p => drun call base l ⟨xput T dst p.1, p.2.1, p.2.2⟩
  | none => none
theorem dok_some (dst : Option Pth) (l : List DOp) (x : AV) : dok call base T dst l (some (x, H, W)) = drun call base l ⟨xput T dst x, H, W⟩ := (rfl)
theorem d_cons (idx : Nat) (dst : Option Pth) (k : DK) (l : List DOp) : drun call base (⟨idx, dst, s0, k⟩ :: l) ⟨T, H, W⟩ = dok call base T dst l (eff call base T H W idx k) := by
  simp only [drun, dstep, s0, gval, dok]
  cases eff call base T H W idx k <;> rfl
section
variable (idx : Nat) (dst : Option Pth) (w : Bool) (k : DK) (l : List DOp)
end
theorem e_pure (idx : Nat) (i : IOp) : eff call base T H W idx (.pure i) = on (iop T i H) fun p => some (p.1, H, W) := by
  simp only [eff, on]
  cases iop T i H <;> rfl
theorem e_load (idx : Nat) (n : Option Nat) (x : Opd) : eff call base T H W idx (.load n x) = on (iev T x) fun p => on (iload n H p) fun v => some (v, H, ⟨idx, n, p, v⟩ :: W) := by
  simp only [eff, on]
  cases iev T x with
  | none => rfl
  | some p => dsimp only; cases iload n H p <;> rfl
def chk (b : Bool) (r : Option (AV × AH × List WE)) : Option (AV × AH × List WE) := bif b then r else none
theorem chk_t (r : Option (AV × AH × List WE)) : chk true r = r := (rfl)
theorem e_k2 (idx : Nat) (k : IK) (w : List Nat) : eff call base T H W idx (.k2 k w) = on (xop call T H k) fun p => chk (wcheck p.2 w W) (some (p.1, p.2, W)) := by
  simp only [eff, on, chk]
  cases xop call T H k <;> rfl
theorem e_alloc (idx : Nat) (i : IOp) : eff call base T H W idx (.alloc i) = on (iop T i ⟨base + idx, H.gs, H.ms⟩) fun p => some (p.1, ⟨H.next, p.2.gs, p.2.ms⟩, W) := by
  simp only [eff, on]
  cases iop T i ⟨base + idx, H.gs, H.ms⟩ <;> rfl
theorem w_nil (w : List Nat) : wcheck H w [] = true := (rfl)
theorem w_cons (w : List Nat) (i : Nat) (n : Option Nat) (p v : AV) (es : List WE) : wcheck H w (⟨i, n, p, v⟩ :: es) = ((!w.elem i || (match iload n H p with | some u => avSame u v | none => false)) && wcheck H w es) := by
  simp only [wcheck]
  cases w.elem i
  · simp
  · simp only [cond_true, Bool.not_true, Bool.false_or]
    cases iload n H p <;> rfl
end
end Go.Abs
