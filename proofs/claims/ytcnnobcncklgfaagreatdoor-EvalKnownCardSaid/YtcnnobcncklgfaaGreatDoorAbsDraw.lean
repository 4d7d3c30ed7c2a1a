/- Operations whose order is open: whichever comes up, what is left is the same. -/
import Derived.Test.YtcnnobcncklgfaaGreatDoorAbsFrame
namespace Go.Abs
open Go Go.RowKit
set_option linter.unusedVariables false
/-- The slots that are looked at. -/
def ioL : Opd → List Pth
  | .t p => [p]
  | .c _ => []
def iosL : List Opd → List Pth
  | [] => []
  | i :: is => ioL i ++ iosL is
def partsL : List (Nat × Nat × Opd) → List Pth
  | [] => []
  | (_, _, i) :: is => ioL i ++ partsL is
def iooL : Option Opd → List Pth
  | none => []
  | some i => ioL i
def opL : IOp → List Pth
  | .ev x => ioL x | .pick a b c => ioL a ++ ioL b ++ ioL c | .new x => ioL x | .mkif _ x => ioL x | .empty => [] | .mksl _ _ _ a b => ioL a ++ ioL b
  | .build _ ps => partsL ps | .bslice _ _ _ ps => partsL ps | .load _ x => ioL x | .store _ x y => ioL x ++ ioL y | .nilck x => ioL x | .bin _ _ _ _ x y => ioL x ++ ioL y
  | .un _ x => ioL x | .conv _ x => ioL x | .convs x => ioL x | .s2b x => ioL x | .b2s x => ioL x | .i2s x => ioL x | .fn _ l => iosL l
  | .slice _ x a b c => ioL x ++ iooL a ++ iooL b ++ iooL c | .faddr _ x => ioL x | .field _ _ x => ioL x | .iaddr _ x i => ioL x ++ ioL i | .iaddrA _ _ x i => ioL x ++ ioL i
  | .index x i => ioL x ++ ioL i | .ext x _ => ioL x | .len _ x => ioL x | .app _ _ s x => ioL s ++ ioL x | .mm _ l => iosL l | .capn x => ioL x | .appz _ _ _ s x => ioL s ++ ioL x
def kL : IK → List Pth
  | .op o => opL o
  | .call f args => ioL f ++ iosL args
/-- Two that agree where one looks. -/
def Agree (l : List Pth) (T T' : Tr AV) : Prop := ∀ p ∈ l, T.getP p = T'.getP p
theorem Agree.l {a b : List Pth} {T T' : Tr AV} (h : Agree (a ++ b) T T') : Agree a T T' := fun p hp => h p (List.mem_append_left _ hp)
theorem Agree.r {a b : List Pth} {T T' : Tr AV} (h : Agree (a ++ b) T T') : Agree b T T' := fun p hp => h p (List.mem_append_right _ hp)
theorem iev_agree {T T' : Tr AV} {i : Opd} (h : Agree (ioL i) T T') : iev T i = iev T' i := by
  cases i with
  | t p => exact h p (by simp [ioL])
  | c x => rfl
theorem ievs_agree {T T' : Tr AV} : ∀ {is : List Opd}, Agree (iosL is) T T' → ievs T is = ievs T' is
  | [], h => rfl
  | i :: is, h => by
    simp only [iosL] at h
    simp only [ievs, iev_agree h.l, ievs_agree h.r]
theorem iparts_agree {T T' : Tr AV} : ∀ {is : List (Nat × Nat × Opd)}, Agree (partsL is) T T' → iparts T is = iparts T' is
  | [], h => rfl
  | (a, b, i) :: is, h => by
    simp only [partsL] at h
    simp only [iparts, iev_agree h.l, iparts_agree h.r]
theorem ievo_agree {T T' : Tr AV} {i : Option Opd} (h : Agree (iooL i) T T') : ievo T i = ievo T' i := by
  cases i with
  | none => rfl
  | some i => simp only [ievo, iev_agree (show Agree (ioL i) T T' from h)]
theorem iop_agree {T T' : Tr AV} {op : IOp} (h : Agree (opL op) T T') (H : AH) : iop T op H = iop T' op H := by
  cases op <;> simp only [opL] at h <;> simp only [iop] <;> first
    | rfl
    | rw [iev_agree h]
    | rw [ievs_agree h]
    | rw [iparts_agree h]
    | rw [iev_agree h.l, iev_agree h.r]
    | rw [iev_agree h.l.l, iev_agree h.l.r, iev_agree h.r]
    | rw [iev_agree h.l.l.l, ievo_agree h.l.l.r, ievo_agree h.l.r, ievo_agree h.r]
theorem xop_agree {T T' : Tr AV} {call : ICall} {k : IK} (h : Agree (kL k) T T') (H : AH) : xop call T H k = xop call T' H k := by
  cases k with
  | op o => exact iop_agree h H
  | call f args =>
    simp only [kL] at h
    simp only [xop, iev_agree h.l, ievs_agree h.r]
/-- Does not touch memory. -/
def IOp.isPure : IOp → Bool
  | .new _ | .mksl .. | .bslice .. | .load .. | .store .. | .b2s _ | .app .. | .appz .. => false
  | _ => true
def IOp.isAlloc : IOp → Bool
  | .new _ | .mksl .. | .bslice .. => true
  | _ => false
set_option maxHeartbeats 2000000 in
theorem iop_pure {T : Tr AV} {op : IOp} {H H' : AH} {x : AV} (hp : op.isPure = true) (h : iop T op H = some (x, H')) : H' = H ∧ ∀ H2, iop T op H2 = some (x, H2) := by
  cases op <;> simp only [IOp.isPure] at hp <;> try (cases hp; done)
  all_goals simp only [iop] at h
  case len isS a =>
    cases isS
    all_goals
      (simp only [cond_true, cond_false] at h
       repeat' (split at h <;> try (cases h; done)))
      all_goals (cases h; exact ⟨rfl, fun H2 => by simp only [iop, cond_true, cond_false, *]⟩)
  all_goals
    (repeat' (split at h <;> try (cases h; done)))
    all_goals (cases h; exact ⟨rfl, fun H2 => by first | (simp only [iop, *]; done) | (simp [iop, *]; done)⟩)
theorem iop_alloc {T : Tr AV} {op : IOp} {H H' : AH} {x : AV} (hp : op.isAlloc = true) (h : iop T op H = some (x, H')) :
    ∃ xs, H' = H.add xs ∧ H.free = true ∧ ∀ H2, H2.next = H.next → H2.free = true → iop T op H2 = some (x, H2.add xs) := by
  cases op <;> simp only [IOp.isAlloc] at hp <;> try (cases hp; done)
  case new a =>
    simp only [iop] at h
    split at h
    · rename_i p e1
      unfold abox at h
      split at h
      · rename_i hc
        cases h
        exact ⟨_, rfl, hc.2.2, fun H2 hn hf => by simp only [iop, e1, abox]; rw [if_pos ⟨hc.1, hc.2.1, hf⟩, hn]⟩
      · cases h
    · cases h
  case bslice z n zs parts =>
    simp only [iop] at h
    split at h
    · rename_i ps e1
      split at h
      · rename_i cs e2
        cases hf : H.free with
        | false => rw [hf] at h; cases h
        | true =>
          rw [hf] at h
          cases h
          exact ⟨_, rfl, rfl, fun H2 hn hf2 => by simp only [iop, e1, e2, hf2, cond_true, hn]⟩
      · cases h
    · cases h
  case mksl z b zs l c =>
    simp only [iop] at h
    split at h
    · rename_i k n e1
      split at h
      · rename_i k' m e2
        split at h
        · rename_i hc
          cases h
          exact ⟨_, rfl, hc.2.2.2.2.2, fun H2 hn hf2 => by
            simp only [iop, e1, e2]
            rw [if_pos ⟨hc.1, hc.2.1, hc.2.2.1, hc.2.2.2.1, hc.2.2.2.2.1, hf2⟩, hn]⟩
        · cases h
      · cases h
    · cases h
/-- The same value, surely. -/
def fSame : AV → AV → Bool
  | .bool a, .bool b => a == b
  | .int k a, .int k' b => decide (k = k') && decide (a = b)
  | .str a, .str b => decide (a = b)
  | .nilp, .nilp => true
  | .ptr a b c, .ptr a' b' c' => Nat.beq a a' && (Nat.beq b b' && Nat.beq c c')
  | .nils, .nils => true
  | .zslc, .zslc => true
  | .slc a b c d e, .slc a' b' c' d' e' => Nat.beq a a' && (Nat.beq b b' && (Nat.beq c c' && (Nat.beq d d' && Nat.beq e e')))
  | .nilf, .nilf => true
  | .nili, .nili => true
  | .nilm, .nilm => true
  | .mapp a, .mapp b => Nat.beq a b
  | _, _ => false
theorem fSame_ok {x y : AV} (h : fSame x y = true) : x = y := by
  unfold fSame at h
  split at h <;> first
    | rfl
    | (cases h; done)
    | ((try simp only [Bool.and_eq_true, decide_eq_true_eq, beq_iff_eq] at h)
       first
         | (subst h; rfl)
         | (obtain ⟨rfl, rfl⟩ := h; rfl)
         | (have h' := Nat.eq_of_beq_eq_true h; subst h'; rfl)
         | (obtain ⟨h1, h2, h3⟩ := h; have e1 := Nat.eq_of_beq_eq_true h1; have e2 := Nat.eq_of_beq_eq_true h2; have e3 := Nat.eq_of_beq_eq_true h3; subst e1; subst e2; subst e3; rfl)
         | (obtain ⟨h1, h2, h3, h4, h5⟩ := h; have e1 := Nat.eq_of_beq_eq_true h1; have e2 := Nat.eq_of_beq_eq_true h2; have e3 := Nat.eq_of_beq_eq_true h3; have e4 := Nat.eq_of_beq_eq_true h4; have e5 := Nat.eq_of_beq_eq_true h5; subst e1; subst e2; subst e3; subst e4; subst e5; rfl))
def fSames : List AV → List AV → Bool
  | [], [] => true
  | x :: xs, y :: ys => fSame x y && fSames xs ys
  | _, _ => false
theorem fSames_ok : ∀ {xs ys : List AV}, fSames xs ys = true → xs = ys
  | [], [], h => rfl
  | [], _ :: _, h => by cases h
  | _ :: _, [], h => by cases h
  | x :: xs, y :: ys, h => by
    simp only [fSames, Bool.and_eq_true] at h
    rw [fSame_ok h.1, fSames_ok h.2]
/-- The same, all the way in. -/
def dsames (f : AV → AV → Bool) : List AV → List AV → Bool
  | [], [] => true
  | x :: xs, y :: ys => f x y && dsames f xs ys
  | _, _ => false
def dsamess (f : AV → AV → Bool) : List (List AV) → List (List AV) → Bool
  | [], [] => true
  | x :: xs, y :: ys => dsames f x y && dsamess f xs ys
  | _, _ => false
def dsame : Nat → AV → AV → Bool
  | 0, _, _ => false
  | n + 1, x, y => match x, y with
    | .agg xs, .agg ys => dsames (dsame n) xs ys
    | .tup xs, .tup ys => dsames (dsame n) xs ys
    | .vals z xs, .vals z' ys => Nat.beq z z' && dsamess (dsame n) xs ys
    | x, y => fSame x y
theorem dsames_ok {f : AV → AV → Bool} (hf : ∀ x y, f x y = true → x = y) : ∀ {xs ys : List AV}, dsames f xs ys = true → xs = ys
  | [], [], h => rfl
  | [], _ :: _, h => by cases h
  | _ :: _, [], h => by cases h
  | x :: xs, y :: ys, h => by
    simp only [dsames, Bool.and_eq_true] at h
    rw [hf _ _ h.1, dsames_ok hf h.2]
theorem dsamess_ok {f : AV → AV → Bool} (hf : ∀ x y, f x y = true → x = y) : ∀ {xs ys : List (List AV)}, dsamess f xs ys = true → xs = ys
  | [], [], h => rfl
  | [], _ :: _, h => by cases h
  | _ :: _, [], h => by cases h
  | x :: xs, y :: ys, h => by
    simp only [dsamess, Bool.and_eq_true] at h
    rw [dsames_ok hf h.1, dsamess_ok hf h.2]
theorem dsame_ok : ∀ (n : Nat) (x y : AV), dsame n x y = true → x = y := by
  intro n
  induction n with
  | zero => intro x y h; cases h
  | succ n ih =>
    intro x y h
    simp only [dsame] at h
    split at h
    · rw [dsames_ok ih h]
    · rw [dsames_ok ih h]
    · simp only [Bool.and_eq_true] at h
      rw [Nat.eq_of_beq_eq_true h.1, dsamess_ok ih h.2]
    · exact fSame_ok h
def avSame (x y : AV) : Bool := dsame 60 x y
theorem avSame_ok {x y : AV} (h : avSame x y = true) : x = y := dsame_ok _ _ _ h
/-- What was loaded. -/
structure WE where
  idx : Nat
  n : Option Nat
  p : AV
  v : AV
def wcheck (H : AH) (watch : List Nat) : List WE → Bool
  | [] => true
  | e :: es => (bif watch.elem e.idx then (match iload e.n H e.p with | some v => avSame v e.v | none => false) else true) && wcheck H watch es
theorem wcheck_iff {H : AH} {watch : List Nat} : ∀ {W : List WE}, wcheck H watch W = true ↔ ∀ e ∈ W, e.idx ∈ watch → ∃ v, iload e.n H e.p = some v ∧ avSame v e.v = true
  | [] => by simp [wcheck]
  | e :: es => by
    simp only [wcheck, Bool.and_eq_true, wcheck_iff (W := es), List.mem_cons, forall_eq_or_imp]
    refine and_congr_left fun _ => ?_
    cases hw : watch.elem e.idx with
    | true =>
      have : e.idx ∈ watch := by simpa using hw
      simp only [cond_true, this, true_implies]
      cases iload e.n H e.p <;> simp
    | false =>
      have : e.idx ∉ watch := by simpa using hw
      simp [this]
inductive DK where
  | pure (i : IOp)
  | load (n : Option Nat) (x : Opd)
  | k2 (k : IK) (watch : List Nat)
  | alloc (i : IOp)
structure DOp where
  idx : Nat
  dst : Option Pth
  guard : Option (Pth × Bool)
  k : DK
structure DS where
  T : Tr AV
  H : AH
  W : List WE
def eff (call : ICall) (base : Nat) (T : Tr AV) (H : AH) (W : List WE) (idx : Nat) : DK → Option (AV × AH × List WE)
  | .pure i => match iop T i H with
    | some (x, _) => some (x, H, W)
    | none => none
  | .load n x => match iev T x with
    | some p => match iload n H p with
      | some v => some (v, H, ⟨idx, n, p, v⟩ :: W)
      | none => none
    | none => none
  | .k2 k watch => match xop call T H k with
    | some (x, H') => bif wcheck H' watch W then some (x, H', W) else none
    | none => none
  | .alloc i => match iop T i ⟨base + idx, H.gs, H.ms⟩ with
    | some (x, H') => some (x, ⟨H.next, H'.gs, H'.ms⟩, W)
    | none => none
def dstep (call : ICall) (base : Nat) (d : DOp) (s : DS) : Option DS :=
  match gval s.T d.guard with
  | none => none
  | some false => some ⟨xput s.T d.dst .und, s.H, s.W⟩
  | some true => match eff call base s.T s.H s.W d.idx d.k with
    | some (x, H', W') => some ⟨xput s.T d.dst x, H', W'⟩
    | none => none
def dkL : DK → List Pth
  | .pure i => opL i
  | .load _ x => ioL x
  | .k2 k _ => kL k
  | .alloc i => opL i
def gL : Option (Pth × Bool) → List Pth
  | none => []
  | some (p, _) => [p]
def DOp.looks (d : DOp) : List Pth := gL d.guard ++ dkL d.k
def DK.ok : DK → Bool
  | .pure i => i.isPure
  | .alloc i => i.isAlloc
  | _ => true
end Go.Abs
