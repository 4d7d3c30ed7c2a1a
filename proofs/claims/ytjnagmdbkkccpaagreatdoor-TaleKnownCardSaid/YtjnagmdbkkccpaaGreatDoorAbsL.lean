/- Kernel-friendly copies: recursors in place of matches.   Contracts that stand in for what is not carried out.   What a call answers, kept for good.   What a call answers, kept for good: values whose rows stand for good too.   Values seen for good, over more memory; results kept at arguments that lie in memory.   maps.Clone. -/
import Derived.Test.YtjnagmdbkkccpaaGreatDoorAbsJ
namespace Go.Abs
open Go Go.RowKit
set_option linter.unusedVariables false
set_option linter.unusedSimpArgs false
noncomputable section
def getA (t : Tr AV) : Pth → Option AV :=
  Tr.rec (motive := fun _ => Pth → Option AV) (fun _ => none)
    (fun _ _ _ _ v ga gb gc gd p => List.rec (motive := fun _ => Option AV) v (fun q p' _ => Q4.rec (motive := fun _ => Option AV) (ga p') (gb p') (gc p') (gd p') q) p) t
theorem getA_eq : ∀ (t : Tr AV) (p : Pth), getA t p = t.getP p := by
  intro t
  induction t with
  | nil => intro p; cases p <;> rfl
  | node a b c d v iha ihb ihc ihd =>
    intro p
    cases p with
    | nil => rfl
    | cons q p => cases q with
      | q0 => exact iha p
      | q1 => exact ihb p
      | q2 => exact ihc p
      | q3 => exact ihd p
def getG (t : Tr Grp) : Pth → Option Grp :=
  Tr.rec (motive := fun _ => Pth → Option Grp) (fun _ => none)
    (fun _ _ _ _ v ga gb gc gd p => List.rec (motive := fun _ => Option Grp) v (fun q p' _ => Q4.rec (motive := fun _ => Option Grp) (ga p') (gb p') (gc p') (gd p') q) p) t
theorem getG_eq : ∀ (t : Tr Grp) (p : Pth), getG t p = t.getP p := by
  intro t
  induction t with
  | nil => intro p; cases p <;> rfl
  | node a b c d v iha ihb ihc ihd =>
    intro p
    cases p with
    | nil => rfl
    | cons q p => cases q with
      | q0 => exact iha p
      | q1 => exact ihb p
      | q2 => exact ihc p
      | q3 => exact ihd p
abbrev SetA := Tr AV → AV → Tr AV
def setA (p : Pth) : SetA :=
  List.rec (motive := fun _ => Tr AV → AV → Tr AV)
    (fun t x => Tr.rec (motive := fun _ => AV → Tr AV) (fun x => .node .nil .nil .nil .nil (some x)) (fun a b c d _ _ _ _ _ x => .node a b c d (some x)) t x)
    (fun q _ ih t x => Tr.rec (motive := fun _ => Q4 → (Tr AV → AV → Tr AV) → AV → Tr AV)
      (fun q ih x => Q4.rec (motive := fun _ => Tr AV → Tr AV) (fun y => .node y .nil .nil .nil none) (fun y => .node .nil y .nil .nil none) (fun y => .node .nil .nil y .nil none) (fun y => .node .nil .nil .nil y none) q (ih .nil x))
      (fun a b c d v _ _ _ _ q ih x => Q4.rec (motive := fun _ => Tr AV) (.node (ih a x) b c d v) (.node a (ih b x) c d v) (.node a b (ih c x) d v) (.node a b c (ih d x) v) q) t q ih x) p
theorem setA_eq : ∀ (p : Pth) (t : Tr AV) (x : AV), setA p t x = Tr.setP p t x := by
  intro p
  induction p with
  | nil => intro t x; cases t <;> rfl
  | cons q p ih =>
    intro t x
    cases t with
    | nil => cases q <;> simp only [Tr.setP, ← ih] <;> rfl
    | node a b c d v => cases q <;> simp only [Tr.setP, ← ih] <;> rfl
abbrev SetG := Tr Grp → Grp → Tr Grp
def setG (p : Pth) : SetG :=
  List.rec (motive := fun _ => Tr Grp → Grp → Tr Grp)
    (fun t x => Tr.rec (motive := fun _ => Grp → Tr Grp) (fun x => .node .nil .nil .nil .nil (some x)) (fun a b c d _ _ _ _ _ x => .node a b c d (some x)) t x)
    (fun q _ ih t x => Tr.rec (motive := fun _ => Q4 → (Tr Grp → Grp → Tr Grp) → Grp → Tr Grp)
      (fun q ih x => Q4.rec (motive := fun _ => Tr Grp → Tr Grp) (fun y => .node y .nil .nil .nil none) (fun y => .node .nil y .nil .nil none) (fun y => .node .nil .nil y .nil none) (fun y => .node .nil .nil .nil y none) q (ih .nil x))
      (fun a b c d v _ _ _ _ q ih x => Q4.rec (motive := fun _ => Tr Grp) (.node (ih a x) b c d v) (.node a (ih b x) c d v) (.node a b (ih c x) d v) (.node a b c (ih d x) v) q) t q ih x) p
theorem setG_eq : ∀ (p : Pth) (t : Tr Grp) (x : Grp), setG p t x = Tr.setP p t x := by
  intro p
  induction p with
  | nil => intro t x; cases t <;> rfl
  | cons q p ih =>
    intro t x
    cases t with
    | nil => cases q <;> simp only [Tr.setP, ← ih] <;> rfl
    | node a b c d v => cases q <;> simp only [Tr.setP, ← ih] <;> rfl
def q4K (m : Nat) : Q4 := Nat.rec (motive := fun _ => Q4) .q0 (fun m _ => Nat.rec (motive := fun _ => Q4) .q1 (fun m _ => Nat.rec (motive := fun _ => Q4) .q2 (fun _ _ => .q3) m) m) m
theorem q4K_eq (m : Nat) : q4K m = Tr.qOf m := by
  match m with
  | 0 => rfl
  | 1 => rfl
  | 2 => rfl
  | m + 3 => rfl
def pathFK (d : Nat) : Nat → Pth := Nat.rec (motive := fun _ => Nat → Pth) (fun _ => []) (fun _ ih n => Nat.rec (motive := fun _ => Pth) [] (fun m _ => q4K (Nat.mod m 4) :: ih (Nat.div m 4)) n) d
theorem pathFK_eq : ∀ (d n : Nat), pathFK d n = Tr.pathF d n
  | 0, n => rfl
  | d + 1, 0 => rfl
  | d + 1, n + 1 => by
    show q4K (Nat.mod n 4) :: pathFK d (Nat.div n 4) = _
    rw [q4K_eq, pathFK_eq d]
    rfl
def pathK (n : Nat) : Pth := pathFK (Nat.succ n) n
theorem pathK_eq (n : Nat) : pathK n = Tr.path n := pathFK_eq _ _
def ievK (i : Opd) (T : Tr AV) : Option AV := Opd.rec (motive := fun _ => Tr AV → Option AV) (fun p T => getA T p) (fun x _ => some x) i T
theorem ievK_eq (i : Opd) (T : Tr AV) : ievK i T = iev T i := by
  cases i with
  | t p => exact getA_eq T p
  | c x => rfl
abbrev RA := Option (AV × AH)
def obA (o : Option AV) (f : AV → RA) : RA := Option.rec (motive := fun _ => RA) none f o
def lenA (l : List AV) : Nat := List.rec (motive := fun _ => Nat) 0 (fun _ _ n => Nat.succ n) l
theorem lenA_eq : ∀ l : List AV, lenA l = l.length
  | [] => rfl
  | _ :: l => by show Nat.succ (lenA l) = _; rw [lenA_eq l]; rfl
def takeA (n : Nat) : List AV → Option (List AV) :=
  Nat.rec (motive := fun _ => List AV → Option (List AV)) (fun _ => some []) (fun _ ih l => List.rec (motive := fun _ => Option (List AV)) none (fun x l _ => Option.rec (motive := fun _ => Option (List AV)) none (fun ys => some (x :: ys)) (ih l)) l) n
theorem takeA_eq : ∀ (n : Nat) (l : List AV), takeA n l = if n ≤ l.length then some (l.take n) else none
  | 0, l => by rw [if_pos (Nat.zero_le _)]; rfl
  | n + 1, [] => by rw [if_neg (by simp)]; rfl
  | n + 1, x :: l => by
    show Option.rec (motive := fun _ => Option (List AV)) none (fun ys => some (x :: ys)) (takeA n l) = _
    rw [takeA_eq n l]
    by_cases h : n ≤ l.length
    · rw [if_pos h, if_pos (by simpa using h)]; rfl
    · rw [if_neg h, if_neg (by simpa using h)]
def cutA (i : Nat) : List AV → Nat → Option (List AV) :=
  Nat.rec (motive := fun _ => List AV → Nat → Option (List AV)) (fun l n => takeA n l) (fun _ ih l n => List.rec (motive := fun _ => Option (List AV)) none (fun _ l _ => ih l n) l) i
theorem cutA_eq : ∀ (i : Nat) (l : List AV) (n : Nat), cutA i l n = if i + n ≤ l.length then some ((l.drop i).take n) else none
  | 0, l, n => by show takeA n l = _; rw [takeA_eq]; simp
  | i + 1, [], n => by rw [if_neg (by simp)]; rfl
  | i + 1, x :: l, n => by
    show cutA i l n = _
    rw [cutA_eq i l n]
    by_cases h : i + n ≤ l.length
    · rw [if_pos h, if_pos (by simp; omega)]; simp
    · rw [if_neg h, if_neg (by simp; omega)]
def nthA (i : Nat) : List AV → Option AV :=
  Nat.rec (motive := fun _ => List AV → Option AV) (fun l => List.rec (motive := fun _ => Option AV) none (fun x _ _ => some x) l) (fun _ ih l => List.rec (motive := fun _ => Option AV) none (fun _ l _ => ih l) l) i
theorem nthA_eq : ∀ (i : Nat) (l : List AV), nthA i l = l[i]?
  | 0, [] => rfl
  | 0, x :: l => rfl
  | i + 1, [] => rfl
  | i + 1, x :: l => by show nthA i l = _; rw [nthA_eq i l]; simp
def eatA (vs : List AV) : List AV → Option (List AV) :=
  List.rec (motive := fun _ => List AV → Option (List AV)) (fun l => some l) (fun v _ ih l => List.rec (motive := fun _ => Option (List AV)) none (fun _ l _ => Option.rec (motive := fun _ => Option (List AV)) none (fun ys => some (v :: ys)) (ih l)) l) vs
theorem eatA_eq : ∀ (vs l : List AV), eatA vs l = if vs.length ≤ l.length then some (vs ++ l.drop vs.length) else none
  | [], l => by rw [if_pos (by simp)]; rfl
  | v :: vs, [] => by rw [if_neg (by simp)]; rfl
  | v :: vs, x :: l => by
    show Option.rec (motive := fun _ => Option (List AV)) none (fun ys => some (v :: ys)) (eatA vs l) = _
    rw [eatA_eq vs l]
    by_cases h : vs.length ≤ l.length
    · rw [if_pos h, if_pos (by simpa using h)]; rfl
    · rw [if_neg h, if_neg (by simpa using h)]
def spliceA (i : Nat) : List AV → List AV → Option (List AV) :=
  Nat.rec (motive := fun _ => List AV → List AV → Option (List AV)) (fun l vs => eatA vs l) (fun _ ih l vs => List.rec (motive := fun _ => Option (List AV)) none (fun x l _ => Option.rec (motive := fun _ => Option (List AV)) none (fun ys => some (x :: ys)) (ih l vs)) l) i
theorem spliceA_eq : ∀ (i : Nat) (l vs : List AV), spliceA i l vs = if i + vs.length ≤ l.length then some (l.take i ++ vs ++ l.drop (i + vs.length)) else none
  | 0, l, vs => by show eatA vs l = _; rw [eatA_eq]; simp
  | i + 1, [], vs => by rw [if_neg (by simp)]; rfl
  | i + 1, x :: l, vs => by
    show Option.rec (motive := fun _ => Option (List AV)) none (fun ys => some (x :: ys)) (spliceA i l vs) = _
    rw [spliceA_eq i l vs]
    by_cases h : i + vs.length ≤ l.length
    · rw [if_pos h, if_pos (by simp; omega), show i + 1 + vs.length = (i + vs.length) + 1 by omega]; simp
    · rw [if_neg h, if_neg (by simp; omega)]
def cellsV (x : AV) : List AV := AV.rec (motive_1 := fun _ => AV → List AV) (motive_2 := fun _ => PUnit) (motive_3 := fun _ => PUnit) (fun _ => fun x => [x]) (fun _ _ => fun x => [x]) (fun _ => fun x => [x]) (fun x => [x]) (fun _ _ _ => fun x => [x]) (fun _ _ _ => fun x => [x]) (fun x => [x]) (fun x => [x]) (fun _ _ _ _ _ => fun x => [x]) (fun _ _ _ => fun x => [x]) (fun _ _ _ => fun x => [x]) (fun x => [x]) (fun x => [x]) (fun x => [x]) (fun _ => fun x => [x]) (fun _ _ _ => fun x => [x]) (fun cs _ => fun _ => cs) (fun _ _ => fun x => [x]) (fun x => [x]) PUnit.unit (fun _ _ _ _ => PUnit.unit) PUnit.unit (fun _ _ _ _ => PUnit.unit) x x
theorem cellsV_eq (x : AV) : cellsV x = x.cells := by cases x <;> rfl
def oneV (x : AV) : Bool := AV.rec (motive_1 := fun _ => Bool) (motive_2 := fun _ => PUnit) (motive_3 := fun _ => PUnit) (fun _ => true) (fun _ _ => true) (fun _ => true) (true) (fun _ _ _ => true) (fun _ _ _ => true) (true) (true) (fun _ _ _ _ _ => true) (fun _ _ _ => true) (fun _ _ _ => true) (true) (true) (true) (fun _ => true) (fun _ _ _ => true) (fun _ _ => false) (fun _ _ => false) (false) PUnit.unit (fun _ _ _ _ => PUnit.unit) PUnit.unit (fun _ _ _ _ => PUnit.unit) x
theorem oneV_eq (x : AV) : oneV x = x.one := by cases x <;> rfl
def allOne (l : List AV) : Bool := List.rec (motive := fun _ => Bool) true (fun x _ ih => Bool.rec (motive := fun _ => Bool) false ih (oneV x)) l
theorem allOne_eq : ∀ l, allOne l = l.all AV.one
  | [] => rfl
  | x :: l => by
    show Bool.rec (motive := fun _ => Bool) false (allOne l) (oneV x) = _
    rw [allOne_eq l, oneV_eq, List.all_cons]
    cases x.one <;> rfl
def fitV (x : AV) : Bool := AV.rec (motive_1 := fun _ => Bool) (motive_2 := fun _ => PUnit) (motive_3 := fun _ => PUnit) (fun _ => true) (fun _ _ => true) (fun _ => true) (true) (fun _ _ _ => true) (fun _ _ _ => true) (true) (true) (fun _ _ _ _ _ => true) (fun _ _ _ => true) (fun _ _ _ => true) (true) (true) (true) (fun _ => true) (fun _ _ _ => true) (fun cs _ => allOne cs) (fun _ _ => false) (false) PUnit.unit (fun _ _ _ _ => PUnit.unit) PUnit.unit (fun _ _ _ _ => PUnit.unit) x
theorem fitV_eq (x : AV) : fitV x = x.fit := by cases x <;> first | rfl | exact allOne_eq _
def cellsK (x : AV) : AH → Nat → Option (List AV) := AV.rec (motive_1 := fun _ => AH → Nat → Option (List AV)) (motive_2 := fun _ => PUnit) (motive_3 := fun _ => PUnit) (fun _ => fun _ _ => none) (fun _ _ => fun _ _ => none) (fun _ => fun _ _ => none) (fun _ _ => none) (fun g e i => fun H n => Option.rec (motive := fun _ => Option (List AV)) none (fun r => Bool.rec (motive := fun _ => Option (List AV)) none (cutA i r.cells n) (Nat.beq r.e e)) (getG H.gs (pathK g))) (fun row i _ => fun _ n => cutA i row n) (fun _ _ => none) (fun _ _ => none) (fun _ _ _ _ _ => fun _ _ => none) (fun _ _ _ => fun _ _ => none) (fun _ _ _ => fun _ _ => none) (fun _ _ => none) (fun _ _ => none) (fun _ _ => none) (fun _ => fun _ _ => none) (fun _ _ _ => fun _ _ => none) (fun _ _ => fun _ _ => none) (fun _ _ => fun _ _ => none) (fun _ _ => none) PUnit.unit (fun _ _ _ _ => PUnit.unit) PUnit.unit (fun _ _ _ _ => PUnit.unit) x
theorem cellsK_eq (x : AV) (H : AH) (n : Nat) : cellsK x H n = cellsAt H x n := by
  cases x <;> first | rfl | skip
  case ptr g e i =>
    show Option.rec (motive := fun _ => Option (List AV)) none (fun r => Bool.rec (motive := fun _ => Option (List AV)) none (cutA i r.cells n) (Nat.beq r.e e)) (getG H.gs (pathK g)) = _
    rw [getG_eq, pathK_eq, Tr.getP_eq]
    simp only [cellsAt]
    cases H.gs.get g with
    | none => rfl
    | some r =>
      dsimp only
      cases hb : Nat.beq r.e e with
      | true =>
        have := Nat.eq_of_beq_eq_true hb
        show cutA i r.cells n = _
        rw [cutA_eq]
        by_cases h : i + n ≤ r.cells.length
        · rw [if_pos h, if_pos ⟨this, h⟩]
        · rw [if_neg h, if_neg (fun hh => h hh.2)]
      | false => rw [if_neg (fun hh => by rw [hh.1, Nat.beq_refl] at hb; cases hb)]
  case vptr row i =>
    show cutA i row n = _
    rw [cutA_eq]
    rfl
def loadK (n : Option Nat) (x : AV) (H : AH) : Option AV :=
  Option.rec (motive := fun _ => AV → AH → Option AV) (fun x H => Option.rec (motive := fun _ => Option AV) none (fun l => List.rec (motive := fun _ => Option AV) none (fun c _ _ => some c) l) (cellsK x H 1))
    (fun n x H => Option.rec (motive := fun _ => Option AV) none (fun l => some (.agg l)) (cellsK x H n)) n x H
theorem loadK_eq (n : Option Nat) (x : AV) (H : AH) : loadK n x H = iload n H x := by
  cases n with
  | none =>
    show Option.rec (motive := fun _ => Option AV) none (fun l => List.rec (motive := fun _ => Option AV) none (fun c _ _ => some c) l) (cellsK x H 1) = _
    rw [cellsK_eq]
    simp only [iload]
    cases cellsAt H x 1 with
    | none => rfl
    | some l => cases l <;> rfl
  | some n =>
    show Option.rec (motive := fun _ => Option AV) none (fun l => some (.agg l)) (cellsK x H n) = _
    rw [cellsK_eq]
    simp only [iload]
    cases cellsAt H x n <;> rfl
def storeK (x : AV) : Nat → AH → AV → Option AH := AV.rec (motive_1 := fun _ => Nat → AH → AV → Option AH) (motive_2 := fun _ => PUnit) (motive_3 := fun _ => PUnit) (fun _ => fun _ _ _ => none) (fun _ _ => fun _ _ _ => none) (fun _ => fun _ _ _ => none) (fun _ _ _ => none) (fun g e i => fun n H v => Option.rec (motive := fun _ => Option AH) none (fun r => Bool.rec (motive := fun _ => Option AH) none (Bool.rec (motive := fun _ => Option AH) none (Bool.rec (motive := fun _ => Option AH) none (Bool.rec (motive := fun _ => Option AH) none (Option.rec (motive := fun _ => Option AH) none (fun cs => some ⟨H.next, setG (pathK g) H.gs ⟨r.e, r.fz, cs⟩, H.ms⟩) (spliceA i r.cells (cellsV v))) (fitV v)) (Nat.beq (lenA (cellsV v)) n)) (Nat.ble r.fz i)) (Nat.beq r.e e)) (getG H.gs (pathK g))) (fun _ _ _ => fun _ _ _ => none) (fun _ _ _ => none) (fun _ _ _ => none) (fun _ _ _ _ _ => fun _ _ _ => none) (fun _ _ _ => fun _ _ _ => none) (fun _ _ _ => fun _ _ _ => none) (fun _ _ _ => none) (fun _ _ _ => none) (fun _ _ _ => none) (fun _ => fun _ _ _ => none) (fun _ _ _ => fun _ _ _ => none) (fun _ _ => fun _ _ _ => none) (fun _ _ => fun _ _ _ => none) (fun _ _ _ => none) PUnit.unit (fun _ _ _ _ => PUnit.unit) PUnit.unit (fun _ _ _ _ => PUnit.unit) x
theorem storeK_eq (x : AV) (n : Nat) (H : AH) (v : AV) : storeK x n H v = istore n H x v := by
  cases x <;> first | rfl | skip
  case ptr g e i =>
    simp only [istore]
    show Option.rec (motive := fun _ => Option AH) none (fun r => Bool.rec (motive := fun _ => Option AH) none (Bool.rec (motive := fun _ => Option AH) none (Bool.rec (motive := fun _ => Option AH) none (Bool.rec (motive := fun _ => Option AH) none (Option.rec (motive := fun _ => Option AH) none (fun cs => some ⟨H.next, setG (pathK g) H.gs ⟨r.e, r.fz, cs⟩, H.ms⟩) (spliceA i r.cells (cellsV v))) (fitV v)) (Nat.beq (lenA (cellsV v)) n)) (Nat.ble r.fz i)) (Nat.beq r.e e)) (getG H.gs (pathK g)) = _
    rw [getG_eq, pathK_eq, Tr.getP_eq]
    cases H.gs.get g with
    | none => rfl
    | some r =>
      simp only [cellsV_eq, fitV_eq, lenA_eq, setG_eq]
      cases h1 : Nat.beq r.e e with
      | false => dsimp only; rw [if_neg (fun hh => by rw [hh.1, Nat.beq_refl] at h1; cases h1)]
      | true =>
        have e1 := Nat.eq_of_beq_eq_true h1
        cases h2 : Nat.ble r.fz i with
        | false => dsimp only; rw [if_neg (fun hh => by rw [Nat.ble_eq_true_of_le hh.2.1] at h2; cases h2)]
        | true =>
          have e2 := Nat.le_of_ble_eq_true h2
          cases h3 : Nat.beq v.cells.length n with
          | false => dsimp only; rw [if_neg (fun hh => by rw [hh.2.2.1, Nat.beq_refl] at h3; cases h3)]
          | true =>
            have e3 := Nat.eq_of_beq_eq_true h3
            cases h4 : v.fit with
            | false => dsimp only; rw [if_neg (fun hh => by cases hh.2.2.2.2)]
            | true =>
              dsimp only
              rw [spliceA_eq]
              by_cases h5 : i + v.cells.length ≤ r.cells.length
              · rw [if_pos h5, if_pos ⟨e1, e2, e3, h5, rfl⟩]; rfl
              · rw [if_neg h5, if_neg (fun hh => h5 hh.2.2.2.1)]
def pickV (x : AV) : Opd → Opd → Tr AV → AH → RA := AV.rec (motive_1 := fun _ => Opd → Opd → Tr AV → AH → RA) (motive_2 := fun _ => PUnit) (motive_3 := fun _ => PUnit) (fun c => Bool.rec (motive := fun _ => Opd → Opd → Tr AV → AH → RA) (fun _ b T H => obA (ievK b T) (fun v => some (v, H))) (fun a _ T H => obA (ievK a T) (fun v => some (v, H))) c) (fun _ _ => fun _ _ _ _ => none) (fun _ => fun _ _ _ _ => none) (fun _ _ _ _ => none) (fun _ _ _ => fun _ _ _ _ => none) (fun _ _ _ => fun _ _ _ _ => none) (fun _ _ _ _ => none) (fun _ _ _ _ => none) (fun _ _ _ _ _ => fun _ _ _ _ => none) (fun _ _ _ => fun _ _ _ _ => none) (fun _ _ _ => fun _ _ _ _ => none) (fun _ _ _ _ => none) (fun _ _ _ _ => none) (fun _ _ _ _ => none) (fun _ => fun _ _ _ _ => none) (fun _ _ _ => fun _ _ _ _ => none) (fun _ _ => fun _ _ _ _ => none) (fun _ _ => fun _ _ _ _ => none) (fun _ _ _ _ => none) PUnit.unit (fun _ _ _ _ => PUnit.unit) PUnit.unit (fun _ _ _ _ => PUnit.unit) x
def faddrV (x : AV) : Nat → AH → RA := AV.rec (motive_1 := fun _ => Nat → AH → RA) (motive_2 := fun _ => PUnit) (motive_3 := fun _ => PUnit) (fun _ => fun _ _ => none) (fun _ _ => fun _ _ => none) (fun _ => fun _ _ => none) (fun _ _ => none) (fun g e i => fun off H => some (.ptr g e (Nat.add i off), H)) (fun row i _ => fun off H => some (.vptr row (Nat.add i off), H)) (fun _ _ => none) (fun _ _ => none) (fun _ _ _ _ _ => fun _ _ => none) (fun _ _ _ => fun _ _ => none) (fun _ _ _ => fun _ _ => none) (fun _ _ => none) (fun _ _ => none) (fun _ _ => none) (fun _ => fun _ _ => none) (fun _ _ _ => fun _ _ => none) (fun _ _ => fun _ _ => none) (fun _ _ => fun _ _ => none) (fun _ _ => none) PUnit.unit (fun _ _ _ _ => PUnit.unit) PUnit.unit (fun _ _ _ _ => PUnit.unit) x
def fieldV (x : AV) : Nat → Option Nat → AH → RA := AV.rec (motive_1 := fun _ => Nat → Option Nat → AH → RA) (motive_2 := fun _ => PUnit) (motive_3 := fun _ => PUnit) (fun _ => fun _ _ _ => none) (fun _ _ => fun _ _ _ => none) (fun _ => fun _ _ _ => none) (fun _ _ _ => none) (fun _ _ _ => fun _ _ _ => none) (fun _ _ _ => fun _ _ _ => none) (fun _ _ _ => none) (fun _ _ _ => none) (fun _ _ _ _ _ => fun _ _ _ => none) (fun _ _ _ => fun _ _ _ => none) (fun _ _ _ => fun _ _ _ => none) (fun _ _ _ => none) (fun _ _ _ => none) (fun _ _ _ => none) (fun _ => fun _ _ _ => none) (fun _ _ _ => fun _ _ _ => none) (fun cs _ => fun off n H => Option.rec (motive := fun _ => RA) (obA (nthA off cs) (fun y => some (y, H))) (fun n => some (.agg ((cs.drop off).take n), H)) n) (fun _ _ => fun _ _ _ => none) (fun _ _ _ => none) PUnit.unit (fun _ _ _ _ => PUnit.unit) PUnit.unit (fun _ _ _ _ => PUnit.unit) x
def slcV (j : AV) : Nat → Nat → Nat → Nat → Nat → AH → RA := AV.rec (motive_1 := fun _ => Nat → Nat → Nat → Nat → Nat → AH → RA) (motive_2 := fun _ => PUnit) (motive_3 := fun _ => PUnit) (fun _ => fun _ _ _ _ _ _ => none) (fun _ k => Int.rec (motive := fun _ => Nat → Nat → Nat → Nat → Nat → AH → RA) (fun k g a s len z H => Bool.rec (motive := fun _ => RA) none (some (.ptr g a (Nat.add s (Nat.mul k z)), H)) (Nat.blt k len)) (fun _ _ _ _ _ _ _ => none) k) (fun _ => fun _ _ _ _ _ _ => none) (fun _ _ _ _ _ _ => none) (fun _ _ _ => fun _ _ _ _ _ _ => none) (fun _ _ _ => fun _ _ _ _ _ _ => none) (fun _ _ _ _ _ _ => none) (fun _ _ _ _ _ _ => none) (fun _ _ _ _ _ => fun _ _ _ _ _ _ => none) (fun _ _ _ => fun _ _ _ _ _ _ => none) (fun _ _ _ => fun _ _ _ _ _ _ => none) (fun _ _ _ _ _ _ => none) (fun _ _ _ _ _ _ => none) (fun _ _ _ _ _ _ => none) (fun _ => fun _ _ _ _ _ _ => none) (fun _ _ _ => fun _ _ _ _ _ _ => none) (fun _ _ => fun _ _ _ _ _ _ => none) (fun _ _ => fun _ _ _ _ _ _ => none) (fun _ _ _ _ _ _ => none) PUnit.unit (fun _ _ _ _ => PUnit.unit) PUnit.unit (fun _ _ _ _ => PUnit.unit) j
def valsV (j : AV) : List (List AV) → AH → RA := AV.rec (motive_1 := fun _ => List (List AV) → AH → RA) (motive_2 := fun _ => PUnit) (motive_3 := fun _ => PUnit) (fun _ => fun _ _ => none) (fun _ k => fun rows H => if 0 ≤ k then (match rows[k.toNat]? with | some r => some (.vptr r 0, H) | none => none) else none) (fun _ => fun _ _ => none) (fun _ _ => none) (fun _ _ _ => fun _ _ => none) (fun _ _ _ => fun _ _ => none) (fun _ _ => none) (fun _ _ => none) (fun _ _ _ _ _ => fun _ _ => none) (fun _ _ _ => fun _ _ => none) (fun _ _ _ => fun _ _ => none) (fun _ _ => none) (fun _ _ => none) (fun _ _ => none) (fun _ => fun _ _ => none) (fun _ _ _ => fun _ _ => none) (fun _ _ => fun _ _ => none) (fun _ _ => fun _ _ => none) (fun _ _ => none) PUnit.unit (fun _ _ _ _ => PUnit.unit) PUnit.unit (fun _ _ _ _ => PUnit.unit) j
def iaddrV (x : AV) : AV → Nat → AH → RA := AV.rec (motive_1 := fun _ => AV → Nat → AH → RA) (motive_2 := fun _ => PUnit) (motive_3 := fun _ => PUnit) (fun _ => fun _ _ _ => none) (fun _ _ => fun _ _ _ => none) (fun _ => fun _ _ _ => none) (fun _ _ _ => none) (fun _ _ _ => fun _ _ _ => none) (fun _ _ _ => fun _ _ _ => none) (fun _ _ _ => none) (fun _ _ _ => none) (fun g a s len z' => fun j z H => Bool.rec (motive := fun _ => RA) none (slcV j g a s len z H) (Nat.beq z' z)) (fun z' rows _ => fun j z H => Bool.rec (motive := fun _ => RA) none (valsV j rows H) (Nat.beq z' z)) (fun _ _ _ => fun _ _ _ => none) (fun _ _ _ => none) (fun _ _ _ => none) (fun _ _ _ => none) (fun _ => fun _ _ _ => none) (fun _ _ _ => fun _ _ _ => none) (fun _ _ => fun _ _ _ => none) (fun _ _ => fun _ _ _ => none) (fun _ _ _ => none) PUnit.unit (fun _ _ _ _ => PUnit.unit) PUnit.unit (fun _ _ _ _ => PUnit.unit) x
def extV (x : AV) : Nat → AH → RA := AV.rec (motive_1 := fun _ => Nat → AH → RA) (motive_2 := fun _ => PUnit) (motive_3 := fun _ => PUnit) (fun _ => fun _ _ => none) (fun _ _ => fun _ _ => none) (fun _ => fun _ _ => none) (fun _ _ => none) (fun _ _ _ => fun _ _ => none) (fun _ _ _ => fun _ _ => none) (fun _ _ => none) (fun _ _ => none) (fun _ _ _ _ _ => fun _ _ => none) (fun _ _ _ => fun _ _ => none) (fun _ _ _ => fun _ _ => none) (fun _ _ => none) (fun _ _ => none) (fun _ _ => none) (fun _ => fun _ _ => none) (fun _ _ _ => fun _ _ => none) (fun _ _ => fun _ _ => none) (fun cs _ => fun i H => obA (nthA i cs) (fun y => some (y, H))) (fun _ _ => none) PUnit.unit (fun _ _ _ _ => PUnit.unit) PUnit.unit (fun _ _ _ _ => PUnit.unit) x
def lenV (x : AV) : Bool → AH → RA := AV.rec (motive_1 := fun _ => Bool → AH → RA) (motive_2 := fun _ => PUnit) (motive_3 := fun _ => PUnit) (fun _ => fun _ _ => none) (fun _ _ => fun _ _ => none) (fun s => fun b H => Bool.rec (motive := fun _ => RA) none (some (.int .i64 (Int.ofNat s.length), H)) b) (fun _ _ => none) (fun _ _ _ => fun _ _ => none) (fun _ _ _ => fun _ _ => none) (fun b H => Bool.rec (motive := fun _ => RA) (some (.int .i64 (Int.ofNat 0), H)) none b) (fun b H => Bool.rec (motive := fun _ => RA) (some (.int .i64 (Int.ofNat 0), H)) none b) (fun _ _ _ len _ => fun b H => Bool.rec (motive := fun _ => RA) (some (.int .i64 (Int.ofNat len), H)) none b) (fun _ rows _ => fun b H => Bool.rec (motive := fun _ => RA) (some (.int .i64 (Int.ofNat rows.length), H)) none b) (fun _ _ _ => fun _ _ => none) (fun _ _ => none) (fun _ _ => none) (fun _ _ => none) (fun _ => fun _ _ => none) (fun _ _ _ => fun _ _ => none) (fun _ _ => fun _ _ => none) (fun _ _ => fun _ _ => none) (fun _ _ => none) PUnit.unit (fun _ _ _ _ => PUnit.unit) PUnit.unit (fun _ _ _ _ => PUnit.unit) x
def intEq (a b : Int) : Bool := Int.rec (motive := fun _ => Int → Bool) (fun m b => Int.rec (motive := fun _ => Nat → Bool) (fun n m => Nat.beq m n) (fun _ _ => false) b m) (fun m b => Int.rec (motive := fun _ => Nat → Bool) (fun _ _ => false) (fun n m => Nat.beq m n) b m) a b
theorem intEq_eq (a b : Int) : intEq a b = (a == b) := by
  cases a with
  | ofNat m => cases b with
    | ofNat n =>
      show Nat.beq m n = _
      cases h : Nat.beq m n with
      | true => have := Nat.eq_of_beq_eq_true h; subst this; simp
      | false =>
        have h1 : m ≠ n := fun e => by rw [e, Nat.beq_refl] at h; cases h
        have h2 : ¬ ((m : Int) = n) := by omega
        simp [h2]
    | negSucc n => rfl
  | negSucc m => cases b with
    | ofNat n => rfl
    | negSucc n =>
      show Nat.beq m n = _
      cases h : Nat.beq m n with
      | true => have := Nat.eq_of_beq_eq_true h; subst this; simp
      | false =>
        have : m ≠ n := fun e => by rw [e, Nat.beq_refl] at h; cases h
        simp [this]
def bin0 (op : BinOp) (t : TypeId) (k : IntKind) (a : Int) (k' : IntKind) (b : Int) : Option AV := (pureOf (binOp op t (.int k a) (.int k' b))).bind AV.ofV0
def kEq (k k' : IntKind) : Bool := decide (k = k')
def binI (op : BinOp) : TypeId → IntKind → Int → IntKind → Int → Option AV := BinOp.rec (motive := fun _ => TypeId → IntKind → Int → IntKind → Int → Option AV) (fun t k a k' b => bin0 .add t k a k' b) (fun t k a k' b => bin0 .sub t k a k' b) (fun t k a k' b => bin0 .mul t k a k' b) (fun t k a k' b => bin0 .quo t k a k' b) (fun t k a k' b => bin0 .rem t k a k' b) (fun t k a k' b => bin0 .and t k a k' b) (fun t k a k' b => bin0 .or t k a k' b) (fun t k a k' b => bin0 .xor t k a k' b) (fun t k a k' b => bin0 .shl t k a k' b) (fun t k a k' b => bin0 .shr t k a k' b) (fun t k a k' b => bin0 .andNot t k a k' b) (fun t k a k' b => Bool.rec (motive := fun _ => Option AV) (bin0 .eql t k a k' b) (some (.bool (intEq a b))) (kEq k k')) (fun t k a k' b => Bool.rec (motive := fun _ => Option AV) (bin0 .neq t k a k' b) (some (.bool (Bool.rec (motive := fun _ => Bool) true false (intEq a b)))) (kEq k k')) (fun t k a k' b => bin0 .lss t k a k' b) (fun t k a k' b => bin0 .leq t k a k' b) (fun t k a k' b => bin0 .gtr t k a k' b) (fun t k a k' b => bin0 .geq t k a k' b) op
theorem binI_eq (op : BinOp) (t : TypeId) (k : IntKind) (a : Int) (k' : IntKind) (b : Int) : binI op t k a k' b = bin0 op t k a k' b := by
  cases op <;> first | rfl | skip
  case eql =>
    show Bool.rec (motive := fun _ => Option AV) (bin0 .eql t k a k' b) (some (.bool (intEq a b))) (kEq k k') = _
    cases h : kEq k k' with
    | false => rfl
    | true =>
      have e : k = k' := of_decide_eq_true h
      subst e
      simp only [intEq_eq]
      simp [bin0, binOp, Op.intCmp, pureOf, AV.ofV0]
      rfl
  case neq =>
    show Bool.rec (motive := fun _ => Option AV) (bin0 .neq t k a k' b) (some (.bool (Bool.rec (motive := fun _ => Bool) true false (intEq a b)))) (kEq k k') = _
    cases h : kEq k k' with
    | false => rfl
    | true =>
      have e : k = k' := of_decide_eq_true h
      subst e
      simp only [intEq_eq]
      simp only [bin0, binOp, Op.intCmp, pureOf, AV.ofV0]
      cases hb : (a == b) <;> simp [bin0, binOp, Op.intCmp, pureOf, AV.ofV0, bne, hb] <;> rfl
def binIV (y : AV) : BinOp → TypeId → Option TypeDesc → Bool → AV → IntKind → Int → Option AV := AV.rec (motive_1 := fun _ => BinOp → TypeId → Option TypeDesc → Bool → AV → IntKind → Int → Option AV) (motive_2 := fun _ => PUnit) (motive_3 := fun _ => PUnit) (fun _ => fun op t d nc y k a => ibin op t d nc (.int k a) y) (fun k' b => fun op t _ _ _ k a => binI op t k a k' b) (fun _ => fun op t d nc y k a => ibin op t d nc (.int k a) y) (fun op t d nc y k a => ibin op t d nc (.int k a) y) (fun _ _ _ => fun op t d nc y k a => ibin op t d nc (.int k a) y) (fun _ _ _ => fun op t d nc y k a => ibin op t d nc (.int k a) y) (fun op t d nc y k a => ibin op t d nc (.int k a) y) (fun op t d nc y k a => ibin op t d nc (.int k a) y) (fun _ _ _ _ _ => fun op t d nc y k a => ibin op t d nc (.int k a) y) (fun _ _ _ => fun op t d nc y k a => ibin op t d nc (.int k a) y) (fun _ _ _ => fun op t d nc y k a => ibin op t d nc (.int k a) y) (fun op t d nc y k a => ibin op t d nc (.int k a) y) (fun op t d nc y k a => ibin op t d nc (.int k a) y) (fun op t d nc y k a => ibin op t d nc (.int k a) y) (fun _ => fun op t d nc y k a => ibin op t d nc (.int k a) y) (fun _ _ _ => fun op t d nc y k a => ibin op t d nc (.int k a) y) (fun _ _ => fun op t d nc y k a => ibin op t d nc (.int k a) y) (fun _ _ => fun op t d nc y k a => ibin op t d nc (.int k a) y) (fun op t d nc y k a => ibin op t d nc (.int k a) y) PUnit.unit (fun _ _ _ _ => PUnit.unit) PUnit.unit (fun _ _ _ _ => PUnit.unit) y
def binSV (y : AV) : BinOp → TypeId → Option TypeDesc → Bool → AV → List UInt8 → Option AV := AV.rec (motive_1 := fun _ => BinOp → TypeId → Option TypeDesc → Bool → AV → List UInt8 → Option AV) (motive_2 := fun _ => PUnit) (motive_3 := fun _ => PUnit) (fun _ => fun op t d nc y a => ibin op t d nc (.str a) y) (fun _ _ => fun op t d nc y a => ibin op t d nc (.str a) y) (fun b => fun op _ _ _ _ a => astr op a b) (fun op t d nc y a => ibin op t d nc (.str a) y) (fun _ _ _ => fun op t d nc y a => ibin op t d nc (.str a) y) (fun _ _ _ => fun op t d nc y a => ibin op t d nc (.str a) y) (fun op t d nc y a => ibin op t d nc (.str a) y) (fun op t d nc y a => ibin op t d nc (.str a) y) (fun _ _ _ _ _ => fun op t d nc y a => ibin op t d nc (.str a) y) (fun _ _ _ => fun op t d nc y a => ibin op t d nc (.str a) y) (fun _ _ _ => fun op t d nc y a => ibin op t d nc (.str a) y) (fun op t d nc y a => ibin op t d nc (.str a) y) (fun op t d nc y a => ibin op t d nc (.str a) y) (fun op t d nc y a => ibin op t d nc (.str a) y) (fun _ => fun op t d nc y a => ibin op t d nc (.str a) y) (fun _ _ _ => fun op t d nc y a => ibin op t d nc (.str a) y) (fun _ _ => fun op t d nc y a => ibin op t d nc (.str a) y) (fun _ _ => fun op t d nc y a => ibin op t d nc (.str a) y) (fun op t d nc y a => ibin op t d nc (.str a) y) PUnit.unit (fun _ _ _ _ => PUnit.unit) PUnit.unit (fun _ _ _ _ => PUnit.unit) y
def binK (x : AV) : AV → BinOp → TypeId → Option TypeDesc → Bool → Option AV := AV.rec (motive_1 := fun _ => AV → AV → BinOp → TypeId → Option TypeDesc → Bool → Option AV) (motive_2 := fun _ => PUnit) (motive_3 := fun _ => PUnit) (fun _ => fun x y op t d nc => ibin op t d nc x y) (fun k a => fun _ y op t d nc => binIV y op t d nc y k a) (fun a => fun _ y op t d nc => binSV y op t d nc y a) (fun x y op t d nc => ibin op t d nc x y) (fun _ _ _ => fun x y op t d nc => ibin op t d nc x y) (fun _ _ _ => fun x y op t d nc => ibin op t d nc x y) (fun x y op t d nc => ibin op t d nc x y) (fun x y op t d nc => ibin op t d nc x y) (fun _ _ _ _ _ => fun x y op t d nc => ibin op t d nc x y) (fun _ _ _ => fun x y op t d nc => ibin op t d nc x y) (fun _ _ _ => fun x y op t d nc => ibin op t d nc x y) (fun x y op t d nc => ibin op t d nc x y) (fun x y op t d nc => ibin op t d nc x y) (fun x y op t d nc => ibin op t d nc x y) (fun _ => fun x y op t d nc => ibin op t d nc x y) (fun _ _ _ => fun x y op t d nc => ibin op t d nc x y) (fun _ _ => fun x y op t d nc => ibin op t d nc x y) (fun _ _ => fun x y op t d nc => ibin op t d nc x y) (fun x y op t d nc => ibin op t d nc x y) PUnit.unit (fun _ _ _ _ => PUnit.unit) PUnit.unit (fun _ _ _ _ => PUnit.unit) x x
theorem binK_eq (x y : AV) (op : BinOp) (t : TypeId) (d : Option TypeDesc) (nc : Bool) : binK x y op t d nc = ibin op t d nc x y := by
  cases x <;> first | rfl | skip
  case int k a =>
    cases y <;> first | rfl | skip
    case int k' b =>
      show binI op t k a k' b = _
      rw [binI_eq]
      rfl
  case str a => cases y <;> rfl
def k_ev (x : Opd) (T : Tr AV) (H : AH) : RA := obA (ievK x T) (fun v => some (v, H))
def k_pick (c : Opd) (a : Opd) (b : Opd) (T : Tr AV) (H : AH) : RA := obA (ievK c T) (fun v => pickV v a b T H)
def k_load (n : Option Nat) (x : Opd) (T : Tr AV) (H : AH) : RA := obA (ievK x T) (fun v => obA (loadK n v H) (fun y => some (y, H)))
def k_store (n : Nat) (x : Opd) (y : Opd) (T : Tr AV) (H : AH) : RA := obA (ievK x T) (fun p => obA (ievK y T) (fun v => Option.rec (motive := fun _ => RA) none (fun H' => some (.und, H')) (storeK p n H v)))
def k_bin (op : BinOp) (t : TypeId) (d : Option TypeDesc) (nc : Bool) (x : Opd) (y : Opd) (T : Tr AV) (H : AH) : RA := obA (ievK x T) (fun v => obA (ievK y T) (fun u => obA (binK v u op t d nc) (fun y => some (y, H))))
def k_faddr (off : Nat) (x : Opd) (T : Tr AV) (H : AH) : RA := obA (ievK x T) (fun v => faddrV v off H)
def k_field (off : Nat) (n : Option Nat) (x : Opd) (T : Tr AV) (H : AH) : RA := obA (ievK x T) (fun v => fieldV v off n H)
def k_iaddr (z : Nat) (x : Opd) (i : Opd) (T : Tr AV) (H : AH) : RA := obA (ievK x T) (fun v => obA (ievK i T) (fun j => iaddrV v j z H))
def k_ext (x : Opd) (i : Nat) (T : Tr AV) (H : AH) : RA := obA (ievK x T) (fun v => extV v i H)
def k_len (isS : Bool) (x : Opd) (T : Tr AV) (H : AH) : RA := obA (ievK x T) (fun v => lenV v isS H)
def k_new (x : Opd) (T : Tr AV) (H : AH) : RA := match iev T x with | some x => abox H x | none => none
def k_build (zs : List AV) (parts : List (Nat × Nat × Opd)) (T : Tr AV) (H : AH) : RA := match iparts T parts with
    | some ps => match ifill zs ps with | some cs => some (.agg cs, H) | none => none
    | none => none
def k_bslice (z : Nat) (n : Nat) (zs : List AV) (parts : List (Nat × Nat × Opd)) (T : Tr AV) (H : AH) : RA := match iparts T parts with
    | some ps => match ifill zs ps with | some cs => bif H.free then some (.slc H.next 0 0 n z, H.add cs) else none | none => none
    | none => none
def k_mkif (t : TypeId) (x : Opd) (T : Tr AV) (H : AH) : RA := match iev T x with | some x => some (.iface t x, H) | none => none
def k_empty  (T : Tr AV) (H : AH) : RA := some (.zslc, H)
def k_mksl (z : Nat) (by_ : Nat) (zs : List AV) (l : Opd) (c : Opd) (T : Tr AV) (H : AH) : RA := match iev T l with
    | some (.int _ l) => match iev T c with
      | some (.int _ c) => if 0 ≤ l ∧ l ≤ c ∧ c.toNat * z ≤ 16777216 ∧ by_ * c ≤ 281474976710656 ∧ c ≤ 9223372036854775807 ∧ H.free = true then some (.slc H.next 0 0 l.toNat z, H.add ((List.replicate l.toNat zs).flatten)) else none
      | _ => none
    | _ => none
def k_nilck (x : Opd) (T : Tr AV) (H : AH) : RA := match iev T x with
    | some (.ptr g e i) => some (.ptr g e i, H)
    | some (.vptr r i) => some (.vptr r i, H)
    | some (.fn (.func f) cap) => some (.fn (.func f) cap, H)
    | _ => none
def k_un (op : UnOp) (x : Opd) (T : Tr AV) (H : AH) : RA := match iev T x with
    | some x => match aun op x with | some z => some (z, H) | none => none
    | none => none
def k_conv (k : IntKind) (x : Opd) (T : Tr AV) (H : AH) : RA := match iev T x with
    | some (.int _ n) => some (.int k (k.wrap n), H)
    | _ => none
def k_convs (x : Opd) (T : Tr AV) (H : AH) : RA := match iev T x with
    | some (.str s) => some (.str s, H)
    | _ => none
def k_s2b (x : Opd) (T : Tr AV) (H : AH) : RA := match iev T x with
    | some (.str s) => some (.vals 1 (byteRows s), H)
    | _ => none
def k_b2s (x : Opd) (T : Tr AV) (H : AH) : RA := match iev T x with
    | some x => match listCells H 1 x with
      | some (_, xs) => match bytesA xs with
        | some l => some (.str l, H)
        | none => none
      | none => none
    | none => none
def k_i2s (x : Opd) (T : Tr AV) (H : AH) : RA := match iev T x with
    | some (.int _ n) => some (.str (Utf8.encode n).data.toList, H)
    | _ => none
def k_fn (f : Fn) (cap : List Opd) (T : Tr AV) (H : AH) : RA := match ievs T cap with | some cs => some (.fn f cs, H) | none => none
def k_slice (z : Option Nat) (x : Opd) (lo : Option Opd) (hi : Option Opd) (mx : Option Opd) (T : Tr AV) (H : AH) : RA := match iev T x with
    | some x => match ievo T lo with
      | some lo => match ievo T hi with
        | some hi => match ievo T mx with
          | some mx => match islice z x lo hi mx with | some y => some (y, H) | none => none
          | none => none
        | none => none
      | none => none
    | none => none
def k_iaddrA (n : Nat) (z : Nat) (x : Opd) (i : Opd) (T : Tr AV) (H : AH) : RA := match iev T x with
    | some (.ptr g a s) => match iev T i with
      | some (.int _ i) => if 0 ≤ i ∧ i < n then some (.ptr g a (s + i.toNat * z), H) else none
      | _ => none
    | some (.vptr row s) => match iev T i with
      | some (.int _ i) => if 0 ≤ i ∧ i < n then some (.vptr row (s + i.toNat * z), H) else none
      | _ => none
    | _ => none
def k_index (x : Opd) (i : Opd) (T : Tr AV) (H : AH) : RA := match iev T x with
    | some (.str s) => match iev T i with
      | some (.int _ i) => if 0 ≤ i then (match s[i.toNat]? with | some c => some (.int .u8 c.toNat, H) | none => none) else none
      | _ => none
    | _ => none
def k_app (z : Nat) (b : Nat) (s : Opd) (x : Opd) (T : Tr AV) (H : AH) : RA := match iev T s with
    | some s => match iev T x with
      | some x => iapp z b s x H
      | none => none
    | none => none
def k_mm (mx : Bool) (l : List Opd) (T : Tr AV) (H : AH) : RA := match ievs T l with
    | some vs => match amm mx vs with | some y => some (y, H) | none => none
    | none => none
def k_capn (x : Opd) (T : Tr AV) (H : AH) : RA := match iev T x with
    | some .nils => some (.int .i64 0, H)
    | _ => none
def k_appz (z : Nat) (by_ : Nat) (zs : List AV) (s : Opd) (x : Opd) (T : Tr AV) (H : AH) : RA := match iev T s with
    | some .nils => match iev T x with
      | some (.int _ n) => if 0 < n ∧ n ≤ 9223372036854775807 ∧ n.toNat * by_ ≤ 281474976710656 ∧ H.free = true then some (.slc H.next 0 0 n.toNat z, H.add ((List.replicate n.toNat zs).flatten)) else none
      | _ => none
    | _ => none
def k_mop (m : MOp) (l : List Opd) (T : Tr AV) (H : AH) : RA := match ievs T l with
    | some xs => mop m xs H
    | none => none
def iopK (op : IOp) : Tr AV → AH → RA := IOp.rec (motive := fun _ => Tr AV → AH → RA) k_ev k_pick k_new k_build k_bslice k_mkif (fun T H => k_empty T H) k_mksl k_load k_store k_nilck k_bin k_un k_conv k_convs k_s2b k_b2s k_i2s k_fn k_slice k_faddr k_field k_iaddr k_iaddrA k_index k_ext k_len k_app k_mm k_capn k_appz k_mop op
theorem iopK_eq (op : IOp) (T : Tr AV) (H : AH) : iopK op T H = iop T op H := by
  cases op <;> first | rfl | skip
  case ev x => show obA (ievK x T) _ = _; rw [ievK_eq]; simp only [iop]; cases iev T x <;> rfl
  case pick c a b =>
    show obA (ievK c T) _ = _
    rw [ievK_eq]
    simp only [iop]
    cases iev T c with
    | none => rfl
    | some v =>
      cases v <;> first | rfl | skip
      rename_i b'
      cases b'
      · show obA (ievK b T) _ = _; rw [ievK_eq]; simp only; cases iev T b <;> rfl
      · show obA (ievK a T) _ = _; rw [ievK_eq]; simp only; cases iev T a <;> rfl
  case load n x =>
    show obA (ievK x T) _ = _
    rw [ievK_eq]
    simp only [iop]
    cases iev T x with
    | none => rfl
    | some v => show obA (loadK n v H) _ = _; rw [loadK_eq]; simp only; cases iload n H v <;> rfl
  case store n x y =>
    show obA (ievK x T) _ = _
    rw [ievK_eq]
    simp only [iop]
    cases iev T x with
    | none => rfl
    | some p =>
      show obA (ievK y T) _ = _
      rw [ievK_eq]
      simp only
      cases iev T y with
      | none => rfl
      | some v =>
        show Option.rec (motive := fun _ => RA) none (fun H' => some (.und, H')) (storeK p n H v) = _
        rw [storeK_eq]
        simp only
        cases istore n H p v <;> rfl
  case bin op t d nc x y =>
    show obA (ievK x T) _ = _
    rw [ievK_eq]
    simp only [iop]
    cases iev T x with
    | none => rfl
    | some p =>
      show obA (ievK y T) _ = _
      rw [ievK_eq]
      simp only
      cases iev T y with
      | none => rfl
      | some v =>
        show obA (binK p v op t d nc) _ = _
        rw [binK_eq]
        simp only
        cases ibin op t d nc p v <;> rfl
  case faddr off x =>
    show obA (ievK x T) _ = _
    rw [ievK_eq]
    simp only [iop]
    cases iev T x with
    | none => rfl
    | some v => cases v <;> rfl
  case field off n x =>
    show obA (ievK x T) _ = _
    rw [ievK_eq]
    simp only [iop]
    cases iev T x with
    | none => rfl
    | some v =>
      cases v <;> first | rfl | skip
      rename_i cs
      cases n with
      | none => show obA (nthA off cs) _ = _; rw [nthA_eq]; simp only; cases cs[off]? <;> rfl
      | some n => rfl
  case iaddr z x i =>
    show obA (ievK x T) _ = _
    rw [ievK_eq]
    simp only [iop]
    cases iev T x with
    | none => rfl
    | some v =>
      show obA (ievK i T) _ = _
      rw [ievK_eq]
      cases hi : iev T i with
      | none => cases v <;> rfl
      | some j =>
        cases v <;> first | rfl | skip
        case slc g a s len z' =>
          show Bool.rec (motive := fun _ => RA) none (slcV j g a s len z H) (Nat.beq z' z) = _
          cases hz : Nat.beq z' z with
          | false =>
            have hne : z' ≠ z := fun e => by rw [e, Nat.beq_refl] at hz; cases hz
            cases j <;> first | rfl | skip
            simp only
            rw [if_neg (fun hh => hne hh.2.2)]
          | true =>
            have he := Nat.eq_of_beq_eq_true hz
            cases j <;> first | rfl | skip
            rename_i k m
            cases m with
            | ofNat m =>
              show Bool.rec (motive := fun _ => RA) none (some (.ptr g a (Nat.add s (Nat.mul m z)), H)) (Nat.blt m len) = _
              simp only
              cases hb : Nat.blt m len with
              | true =>
                have : m < len := Nat.le_of_ble_eq_true hb
                rw [if_pos ⟨Int.natCast_nonneg m, by simpa using this, he⟩]
                rfl
              | false =>
                have : ¬ m < len := fun hlt => by rw [show Nat.blt m len = Nat.ble (m + 1) len from rfl, Nat.ble_eq_true_of_le (show m + 1 ≤ len from hlt)] at hb; cases hb
                rw [if_neg (fun hh => this (by simpa using hh.2.1))]
            | negSucc m =>
              simp only
              rw [if_neg (fun hh => by have := hh.1; simp at this)]
              rfl
        case vals z' rows =>
          show Bool.rec (motive := fun _ => RA) none (valsV j rows H) (Nat.beq z' z) = _
          cases hz : Nat.beq z' z with
          | false =>
            have hne : z' ≠ z := fun e => by rw [e, Nat.beq_refl] at hz; cases hz
            cases j <;> first | rfl | skip
            simp only
            rw [if_neg (fun hh => hne hh.2)]
          | true =>
            have he := Nat.eq_of_beq_eq_true hz
            cases j <;> first | rfl | skip
            rename_i k m
            show (if 0 ≤ m then (match rows[m.toNat]? with | some r => some (AV.vptr r 0, H) | none => none) else none) = (_ : RA)
            simp only
            by_cases hm : 0 ≤ m
            · rw [if_pos hm, if_pos ⟨hm, he⟩]; cases rows[m.toNat]? <;> rfl
            · rw [if_neg hm, if_neg (fun hh => hm hh.1)]
  case ext x i =>
    show obA (ievK x T) _ = _
    rw [ievK_eq]
    simp only [iop]
    cases iev T x with
    | none => rfl
    | some v =>
      cases v <;> first | rfl | skip
      rename_i cs
      show obA (nthA i cs) _ = _
      rw [nthA_eq]
      simp only
      cases cs[i]? <;> rfl
  case len isS x =>
    show obA (ievK x T) _ = _
    rw [ievK_eq]
    simp only [iop]
    cases iev T x with
    | none => rfl
    | some v => cases v <;> cases isS <;> rfl
abbrev RT := Option (Tr AV × AH)
abbrev KT := Tr AV → AH → RT
def callK (call : ICall) (x : AV) : List Opd → Tr AV → AH → RA := match x with
  | .fn (.func g) cap => fun args T H => match ievs T args with
    | some xs => call g (xs ++ cap) H
    | none => none
  | _ => fun _ _ _ => none
def xopK (call : ICall) (k : IK) : Tr AV → AH → RA :=
  IK.rec (motive := fun _ => ICall → Tr AV → AH → RA) (fun o _ => iopK o) (fun f args call T H => obA (ievK f T) (fun v => callK call v args T H)) k call
theorem xopK_eq (call : ICall) (k : IK) (T : Tr AV) (H : AH) : xopK call k T H = xop call T H k := by
  cases k with
  | op o => exact iopK_eq o T H
  | call f args =>
    show obA (ievK f T) _ = _
    rw [ievK_eq]
    simp only [xop]
    cases iev T f with
    | none => rfl
    | some v =>
      show callK call v args T H = _
      cases v <;> first | rfl | skip
      rename_i fn cap
      cases fn <;> rfl
def putK (d : Option Pth) : Tr AV → AV → Tr AV := Option.rec (motive := fun _ => Tr AV → AV → Tr AV) (fun T _ => T) (fun p => setA p) d
theorem putK_eq (d : Option Pth) (T : Tr AV) (x : AV) : putK d T x = xput T d x := by
  cases d with
  | none => rfl
  | some p => exact setA_eq p T x
def goK (call : ICall) (k : IK) (d : Option Pth) (next : KT) (T : Tr AV) (H : AH) : RT :=
  Option.rec (motive := fun _ => RT) none (fun r => Prod.rec (motive := fun _ => RT) (fun x H' => next (putK d T x) H') r) (xopK call k T H)
def skipK (d : Option Pth) (next : KT) (T : Tr AV) (H : AH) : RT := next (putK d T .und) H
def guardV (x : AV) : Bool → ICall → IK → Option Pth → KT → KT := AV.rec (motive_1 := fun _ => Bool → ICall → IK → Option Pth → KT → KT) (motive_2 := fun _ => PUnit) (motive_3 := fun _ => PUnit) (fun b => fun want call k d next => Bool.rec (motive := fun _ => KT) (skipK d next) (goK call k d next) (b == want)) (fun _ _ => fun _ _ _ _ _ _ _ => none) (fun _ => fun _ _ _ _ _ _ _ => none) (fun _ _ _ _ _ _ _ => none) (fun _ _ _ => fun _ _ _ _ _ _ _ => none) (fun _ _ _ => fun _ _ _ _ _ _ _ => none) (fun _ _ _ _ _ _ _ => none) (fun _ _ _ _ _ _ _ => none) (fun _ _ _ _ _ => fun _ _ _ _ _ _ _ => none) (fun _ _ _ => fun _ _ _ _ _ _ _ => none) (fun _ _ _ => fun _ _ _ _ _ _ _ => none) (fun _ _ _ _ _ _ _ => none) (fun _ _ _ _ _ _ _ => none) (fun _ _ _ _ _ _ _ => none) (fun _ => fun _ _ _ _ _ _ _ => none) (fun _ _ _ => fun _ _ _ _ _ _ _ => none) (fun _ _ => fun _ _ _ _ _ _ _ => none) (fun _ _ => fun _ _ _ _ _ _ _ => none) (fun _ _ _ d next => skipK d next) PUnit.unit (fun _ _ _ _ => PUnit.unit) PUnit.unit (fun _ _ _ _ => PUnit.unit) x
abbrev KD := Tr AV → AH → List WE → Option DS
abbrev RD := Option DS
def wcheckK (H : AH) (watch : List Nat) (W : List WE) : Bool := List.rec (motive := fun _ => Bool) true (fun _ _ _ => wcheck H watch W) watch
theorem wcheck_nil (H : AH) : ∀ W, wcheck H [] W = true
  | [] => rfl
  | e :: W => by simp only [wcheck, wcheck_nil H W]; rfl
theorem wcheckK_eq (H : AH) (watch : List Nat) (W : List WE) : wcheckK H watch W = wcheck H watch W := by
  cases watch with
  | nil => exact (wcheck_nil H W).symm
  | cons a l => rfl
def dnextK (d : Option Pth) (next : KD) (T : Tr AV) (x : AV) (H : AH) (W : List WE) : RD := next (putK d T x) H W
def dgoK (call : ICall) (base idx : Nat) (k : DK) (d : Option Pth) (next : KD) : KD :=
  DK.rec (motive := fun _ => ICall → Nat → Nat → Option Pth → KD → KD)
    (fun i _ _ _ d next T H W => Option.rec (motive := fun _ => RD) none (fun r => Prod.rec (motive := fun _ => RD) (fun x _ => dnextK d next T x H W) r) (iopK i T H))
    (fun n x _ _ idx d next T H W => Option.rec (motive := fun _ => RD) none (fun p => Option.rec (motive := fun _ => RD) none (fun v => dnextK d next T v H (⟨idx, n, p, v⟩ :: W)) (loadK n p H)) (ievK x T))
    (fun k watch call _ _ d next T H W => Option.rec (motive := fun _ => RD) none (fun r => Prod.rec (motive := fun _ => RD) (fun x H' => Bool.rec (motive := fun _ => RD) none (dnextK d next T x H' W) (wcheckK H' watch W)) r) (xopK call k T H))
    (fun i _ base idx d next T H W => Option.rec (motive := fun _ => RD) none (fun r => Prod.rec (motive := fun _ => RD) (fun x H' => dnextK d next T x ⟨H.next, H'.gs, H'.ms⟩ W) r) (iopK i T ⟨Nat.add base idx, H.gs, H.ms⟩)) k call base idx d next
def dskipK (d : Option Pth) (next : KD) (T : Tr AV) (H : AH) (W : List WE) : RD := dnextK d next T .und H W
def dguardV (x : AV) : Bool → ICall → Nat → Nat → DK → Option Pth → KD → KD := AV.rec (motive_1 := fun _ => Bool → ICall → Nat → Nat → DK → Option Pth → KD → KD) (motive_2 := fun _ => PUnit) (motive_3 := fun _ => PUnit) (fun b => fun want call base idx k d next => Bool.rec (motive := fun _ => KD) (dskipK d next) (dgoK call base idx k d next) (b == want)) (fun _ _ => fun _ _ _ _ _ _ _ _ _ _ => none) (fun _ => fun _ _ _ _ _ _ _ _ _ _ => none) (fun _ _ _ _ _ _ _ _ _ _ => none) (fun _ _ _ => fun _ _ _ _ _ _ _ _ _ _ => none) (fun _ _ _ => fun _ _ _ _ _ _ _ _ _ _ => none) (fun _ _ _ _ _ _ _ _ _ _ => none) (fun _ _ _ _ _ _ _ _ _ _ => none) (fun _ _ _ _ _ => fun _ _ _ _ _ _ _ _ _ _ => none) (fun _ _ _ => fun _ _ _ _ _ _ _ _ _ _ => none) (fun _ _ _ => fun _ _ _ _ _ _ _ _ _ _ => none) (fun _ _ _ _ _ _ _ _ _ _ => none) (fun _ _ _ _ _ _ _ _ _ _ => none) (fun _ _ _ _ _ _ _ _ _ _ => none) (fun _ => fun _ _ _ _ _ _ _ _ _ _ => none) (fun _ _ _ => fun _ _ _ _ _ _ _ _ _ _ => none) (fun _ _ => fun _ _ _ _ _ _ _ _ _ _ => none) (fun _ _ => fun _ _ _ _ _ _ _ _ _ _ => none) (fun _ _ _ _ _ d next => dskipK d next) PUnit.unit (fun _ _ _ _ => PUnit.unit) PUnit.unit (fun _ _ _ _ => PUnit.unit) x
abbrev KX := Tr AV → AH → XR
def dstepK (call : ICall) (base : Nat) (o : DOp) (next : KD) : KD :=
  DOp.rec (motive := fun _ => ICall → Nat → KD → KD) (fun idx d g k call base next => Option.rec (motive := fun _ => KD) (dgoK call base idx k d next) (fun pw T H W => Option.rec (motive := fun _ => RD) none (fun v => dguardV v pw.2 call base idx k d next T H W) (getA T pw.1)) g) o call base next
def drunK (call : ICall) (base : Nat) (l : List DOp) : KD := List.rec (motive := fun _ => KD) (fun T H W => some ⟨T, H, W⟩) (fun o _ ih => dstepK call base o ih) l
theorem dgoK_eq (call : ICall) (base idx : Nat) (k : DK) (d : Option Pth) (next : KD) (T : Tr AV) (H : AH) (W : List WE) : dgoK call base idx k d next T H W = match eff call base T H W idx k with | some (x, H', W') => next (xput T d x) H' W' | none => none := by
  cases k with
  | pure i =>
    show Option.rec (motive := fun _ => RD) none (fun r => Prod.rec (motive := fun _ => RD) (fun x _ => next (putK d T x) H W) r) (iopK i T H) = _
    rw [iopK_eq]
    simp only [eff, putK_eq]
    cases iop T i H with
    | none => rfl
    | some r => rfl
  | load n x =>
    show Option.rec (motive := fun _ => RD) none (fun p => Option.rec (motive := fun _ => RD) none (fun v => next (putK d T v) H (⟨idx, n, p, v⟩ :: W)) (loadK n p H)) (ievK x T) = _
    rw [ievK_eq]
    simp only [eff, putK_eq]
    cases iev T x with
    | none => rfl
    | some p =>
      simp only [loadK_eq]
      cases iload n H p <;> rfl
  | k2 k watch =>
    show Option.rec (motive := fun _ => RD) none (fun r => Prod.rec (motive := fun _ => RD) (fun x H' => Bool.rec (motive := fun _ => RD) none (next (putK d T x) H' W) (wcheckK H' watch W)) r) (xopK call k T H) = _
    rw [xopK_eq]
    simp only [eff, putK_eq, wcheckK_eq]
    cases xop call T H k with
    | none => rfl
    | some r => obtain ⟨x, H'⟩ := r; simp only; cases wcheck H' watch W <;> rfl
  | alloc i =>
    show Option.rec (motive := fun _ => RD) none (fun r => Prod.rec (motive := fun _ => RD) (fun x H' => next (putK d T x) ⟨H.next, H'.gs, H'.ms⟩ W) r) (iopK i T ⟨base + idx, H.gs, H.ms⟩) = _
    rw [iopK_eq]
    simp only [eff, putK_eq]
    cases iop T i ⟨base + idx, H.gs, H.ms⟩ with
    | none => rfl
    | some r => rfl
theorem drunK_eq (call : ICall) (base : Nat) : ∀ (l : List DOp) (T : Tr AV) (H : AH) (W : List WE), drunK call base l T H W = drun call base l ⟨T, H, W⟩
  | [], T, H, W => rfl
  | o :: l, T, H, W => by
    have ih : drunK call base l = fun T H W => drun call base l ⟨T, H, W⟩ := funext fun T => funext fun H => funext fun W => drunK_eq call base l T H W
    obtain ⟨idx, d, g, k⟩ := o
    have hgo : dgoK call base idx k d (drunK call base l) T H W = match eff call base T H W idx k with | some (x, H', W') => drun call base l ⟨xput T d x, H', W'⟩ | none => none := by rw [dgoK_eq, ih]
    have hskip : dskipK d (drunK call base l) T H W = drun call base l ⟨xput T d .und, H, W⟩ := by show drunK call base l (putK d T .und) H W = _; rw [putK_eq, ih]
    cases g with
    | none =>
      show dgoK call base idx k d (drunK call base l) T H W = _
      rw [hgo]
      simp only [drun, dstep, gval]
      cases eff call base T H W idx k <;> rfl
    | some pw =>
      obtain ⟨p, want⟩ := pw
      show Option.rec (motive := fun _ => RD) none (fun v => dguardV v want call base idx k d (drunK call base l) T H W) (getA T p) = _
      rw [getA_eq]
      simp only [drun, dstep, gval]
      cases T.getP p with
      | none => rfl
      | some v =>
        cases v <;> first | rfl | skip
        case bool b =>
          show Bool.rec (motive := fun _ => KD) (dskipK d (drunK call base l)) (dgoK call base idx k d (drunK call base l)) (b == want) T H W = _
          simp only [bval]
          cases (b == want) with
          | true =>
            show dgoK call base idx k d (drunK call base l) T H W = _
            rw [hgo]
            simp only
            cases eff call base T H W idx k <;> rfl
          | false => exact hskip
        case und => exact hskip
def stepK (call : ICall) (o : IOper) (next : KT) : KT :=
  IOper.rec (motive := fun _ => ICall → KT → KT) (fun d g k call next => Option.rec (motive := fun _ => KT) (goK call k d next) (fun pw T H => Option.rec (motive := fun _ => RT) none (fun v => guardV v pw.2 call k d next T H) (getA T pw.1)) g) o call next
def xopsK (call : ICall) (l : List IOper) : KT := List.rec (motive := fun _ => KT) (fun T H => some (T, H)) (fun o _ ih => stepK call o ih) l
theorem goK_eq (call : ICall) (k : IK) (d : Option Pth) (next : KT) (T : Tr AV) (H : AH) : goK call k d next T H = match xop call T H k with | some (x, H') => next (xput T d x) H' | none => none := by
  unfold goK
  rw [xopK_eq]
  cases xop call T H k with
  | none => rfl
  | some r => obtain ⟨x, H'⟩ := r; show next (putK d T x) H' = _; rw [putK_eq]
theorem xopsK_eq (call : ICall) : ∀ (l : List IOper) (T : Tr AV) (H : AH), xopsK call l T H = xops call l T H
  | [], T, H => rfl
  | o :: l, T, H => by
    have ih : xopsK call l = xops call l := funext fun T => funext fun H => xopsK_eq call l T H
    obtain ⟨d, g, k⟩ := o
    cases g with
    | none =>
      show goK call k d (xopsK call l) T H = _
      rw [goK_eq, ih]
      rfl
    | some pw =>
      obtain ⟨p, want⟩ := pw
      show Option.rec (motive := fun _ => RT) none (fun v => guardV v want call k d (xopsK call l) T H) (getA T p) = _
      rw [getA_eq, ih]
      simp only [xops]
      cases T.getP p with
      | none => rfl
      | some v =>
        cases v <;> first | rfl | skip
        case bool b =>
          show Bool.rec (motive := fun _ => KT) (skipK d (xops call l)) (goK call k d (xops call l)) (b == want) T H = _
          simp only
          cases (b == want) with
          | true => show goK call k d (xops call l) T H = _; rw [goK_eq]; rfl
          | false => show xops call l (putK d T .und) H = _; rw [putK_eq]; rfl
        case und => show xops call l (putK d T .und) H = _; rw [putK_eq]
def exitV (e : IEx) : KX → KX := IEx.rec (motive := fun _ => KX → KX) (fun next => next) (fun id _ T H => some (.exit id, T, H)) (fun _ T H => some (.ret, T, H)) e
def thenK (r : XR) (next : KX) : XR := Option.rec (motive := fun _ => XR) none (fun r => Prod.rec (motive := fun _ => XR) (fun e TH => Prod.rec (motive := fun _ => XR) (fun T H => exitV e next T H) TH) r) r
theorem thenK_eq (r : XR) (next : KX) : thenK r next = match r with | some (.normal, T, H) => next T H | r => r := by
  cases r with
  | none => rfl
  | some r => obtain ⟨e, T, H⟩ := r; cases e <;> rfl
def condV (x : AV) : KX → KX → KX := AV.rec (motive_1 := fun _ => KX → KX → KX) (motive_2 := fun _ => PUnit) (motive_3 := fun _ => PUnit) (fun b => fun a c => Bool.rec (motive := fun _ => KX) c a b) (fun _ _ => fun _ _ _ _ => none) (fun _ => fun _ _ _ _ => none) (fun _ _ _ _ => none) (fun _ _ _ => fun _ _ _ _ => none) (fun _ _ _ => fun _ _ _ _ => none) (fun _ _ _ _ => none) (fun _ _ _ _ => none) (fun _ _ _ _ _ => fun _ _ _ _ => none) (fun _ _ _ => fun _ _ _ _ => none) (fun _ _ _ => fun _ _ _ _ => none) (fun _ _ _ _ => none) (fun _ _ _ _ => none) (fun _ _ _ _ => none) (fun _ => fun _ _ _ _ => none) (fun _ _ _ => fun _ _ _ _ => none) (fun _ _ => fun _ _ _ _ => none) (fun _ _ => fun _ _ _ _ => none) (fun _ _ _ _ => none) PUnit.unit (fun _ _ _ _ => PUnit.unit) PUnit.unit (fun _ _ _ _ => PUnit.unit) x
def leaveV (e : IEx) : Nat → KX := IEx.rec (motive := fun _ => Nat → KX) (fun _ T H => some (.normal, T, H)) (fun id' id T H => Bool.rec (motive := fun _ => XR) (some (.exit id', T, H)) (some (.normal, T, H)) (Nat.beq id' id)) (fun _ T H => some (.ret, T, H)) e
def blockK (r : XR) (id : Nat) : XR := Option.rec (motive := fun _ => XR) none (fun r => Prod.rec (motive := fun _ => XR) (fun e TH => Prod.rec (motive := fun _ => XR) (fun T H => leaveV e id T H) TH) r) r
theorem blockK_eq (r : XR) (id : Nat) : blockK r id = match r with | some (.exit id', T', H') => bif Nat.beq id' id then some (.normal, T', H') else some (.exit id', T', H') | r => r := by
  cases r with
  | none => rfl
  | some r =>
    obtain ⟨e, T, H⟩ := r
    cases e with
    | normal => rfl
    | ret => rfl
    | exit id' =>
      show Bool.rec (motive := fun _ => XR) (some (.exit id', T, H)) (some (.normal, T, H)) (Nat.beq id' id) = _
      simp only
      cases Nat.beq id' id <;> rfl
def iterK (body : KX) (n : Nat) : KX := Nat.rec (motive := fun _ => KX) (fun _ _ => none) (fun _ ih T H => thenK (body T H) ih) n
theorem iterK_eq (body : KX) : ∀ (n : Nat) (T : Tr AV) (H : AH), iterK body n T H = iter body n T H
  | 0, T, H => rfl
  | n + 1, T, H => by
    show thenK (body T H) (iterK body n) = _
    rw [thenK_eq, show iterK body n = iter body n from funext fun T => funext fun H => iterK_eq body n T H]
    rfl
def toXR (r : RT) : XR := Option.rec (motive := fun _ => XR) none (fun r => some (.normal, r)) r
def dtoXR (r : Option DS) : XR := Option.rec (motive := fun _ => XR) none (fun s => some (.normal, s.T, s.H)) r
def xcodeK (call : ICall) (F : Nat) (c : ICode) : KX :=
  ICode.rec (motive := fun _ => KX) (fun T H => some (.normal, T, H)) (fun l T H => toXR (xopsK call l T H)) (fun n l T H => dtoXR (drunK call H.next l T ⟨Nat.add H.next n, H.gs, H.ms⟩ []))
    (fun _ _ a b T H => thenK (a T H) b) (fun x _ _ a b T H => Option.rec (motive := fun _ => XR) none (fun v => condV v a b T H) (ievK x T)) (fun id _ c T H => blockK (c T H) id) (fun _ c => iterK c F)
    (fun id T H => some (.exit id, T, H)) (fun T H => some (.ret, T, H)) (fun _ _ => none) c
theorem xcodeK_eq (call : ICall) (F : Nat) : ∀ (c : ICode) (T : Tr AV) (H : AH), xcodeK call F c T H = xcode call F c T H := by
  intro c
  induction c with
  | skip => intro T H; rfl
  | ops l =>
    intro T H
    show toXR (xopsK call l T H) = _
    rw [xopsK_eq]
    simp only [xcode]
    cases xops call l T H <;> rfl
  | dops n l =>
    intro T H
    show dtoXR (drunK call H.next l T ⟨H.next + n, H.gs, H.ms⟩ []) = _
    rw [drunK_eq]
    simp only [xcode]
    cases drun call H.next l ⟨T, ⟨H.next + n, H.gs, H.ms⟩, []⟩ <;> rfl
  | seq a b iha ihb =>
    intro T H
    show thenK (xcodeK call F a T H) (xcodeK call F b) = _
    rw [thenK_eq, iha, show xcodeK call F b = xcode call F b from funext fun T => funext fun H => ihb T H]
    rfl
  | cond x a b iha ihb =>
    intro T H
    show Option.rec (motive := fun _ => XR) none (fun v => condV v (xcodeK call F a) (xcodeK call F b) T H) (ievK x T) = _
    rw [ievK_eq, show xcodeK call F a = xcode call F a from funext fun T => funext fun H => iha T H, show xcodeK call F b = xcode call F b from funext fun T => funext fun H => ihb T H]
    simp only [xcode]
    cases iev T x with
    | none => rfl
    | some v =>
      cases v <;> first | rfl | skip
      rename_i b'
      cases b' <;> rfl
  | block id c ih =>
    intro T H
    show blockK (xcodeK call F c T H) id = _
    rw [blockK_eq, ih]
    rfl
  | loop c ih =>
    intro T H
    show iterK (xcodeK call F c) F T H = _
    rw [iterK_eq, show xcodeK call F c = xcode call F c from funext fun T => funext fun H => ih T H]
    rfl
  | exit id => intro T H; rfl
  | ret => intro T H; rfl
  | bad => intro T H; rfl
def initK (xs : List AV) : Nat → Tr AV → Tr AV := List.rec (motive := fun _ => Nat → Tr AV → Tr AV) (fun _ T => T) (fun x _ ih i T => ih (Nat.succ i) (setA (Tr.path i) T x)) xs
theorem initK_eq : ∀ (xs : List AV) (i : Nat) (T : Tr AV), initK xs i T = xinit xs i T
  | [], i, T => rfl
  | x :: xs, i, T => by show initK xs (i + 1) (setA (Tr.path i) T x) = _; rw [initK_eq xs, setA_eq]; rfl
def bodyK (c : FuncId → List AV → AH → RA) (F : Nat) (fn : IFun) (args : List AV) (H : AH) : RA := Bool.rec (motive := fun _ => RA) none (xend fn (xcodeK c F fn.body (initK args 0 .nil) H)) (Nat.ble args.length fn.nt)
def arunK (P : Program) (good : FuncId → Bool) (hook : Hooks) (F : Nat) (n : Nat) : ICall :=
  Nat.rec (motive := fun _ => ICall) (fun _ _ _ => none) (fun _ ih f args H => Option.rec (motive := fun _ => RA) (Option.rec (motive := fun _ => RA) none (fun fn => bodyK ih F fn args H) (cFun P good f)) (fun h => h args H) (hook f)) n
theorem arunK_eq (P : Program) (good : FuncId → Bool) (hook : Hooks) (F : Nat) : ∀ (n : Nat) (f : FuncId) (args : List AV) (H : AH), arunK P good hook F n f args H = arun P good hook F n f args H
  | 0, f, args, H => rfl
  | n + 1, f, args, H => by
    show Option.rec (motive := fun _ => RA) (Option.rec (motive := fun _ => RA) none (fun fn => bodyK (arunK P good hook F n) F fn args H) (cFun P good f)) (fun h => h args H) (hook f) = _
    have ih : arunK P good hook F n = arun P good hook F n := funext fun f => funext fun a => funext fun H => arunK_eq P good hook F n f a H
    rw [ih]
    simp only [arun]
    cases hook f with
    | some h => rfl
    | none =>
      simp only
      cases cFun P good f with
      | none => rfl
      | some fn =>
        simp only [bodyK, xcodeK_eq, initK_eq]
        cases Nat.ble args.length fn.nt <;> rfl
end
end Go.Abs
namespace Go.Abs
open Go Go.RowKit
set_option linter.unusedVariables false
abbrev MZ := ICall → Nat → List AV → AH → RA
/-- What is there stays as it is. -/
theorem HRel.stay {K : Kx} {G : Gh} {H : AH} {w w' : World} (h : HRel K G H w) (hb : Below w.heap.size w w') : HRel K G H w' :=
  ⟨h.below.trans (hb.mono h.hB), Nat.le_trans h.hB hb.size, fun b o v hv => by
    rw [← h.mem b o v hv]
    exact World.cell?_of_block (hb.block b (cell_lt (h.mem b o v hv))), h.ones, h.old, fun g r hr => by
      obtain ⟨b, o, n, cs, t, q⟩ := h.grp g r hr
      exact ⟨b, o, n, cs, t, q.mu, q.low, by rw [hb.block b (get_lt q.heap)]; exact q.heap, q.size, q.cell, q.free, q.kind⟩, h.apart, h.fresh, fun g es hg => by
      obtain ⟨b, l, c, q⟩ := h.maps g es hg
      exact ⟨b, l, c, q.mm, q.low, by rw [hb.block b (get_lt q.heap)]; exact q.heap, q.ents, q.clock⟩, h.mapart, h.mfresh, h.ages⟩
/-- A contract of the walks. -/
theorem ACalls.of_calls {P : Program} {f : FuncId} {args : List AV} {H : AH} {x : AV} (h : ∀ (G : Gh) (vs : Array Value) (w : World), VRs G args vs.toList → Calls P f vs w fun e w' => ∃ u, e = .returned u ∧ (∀ G : Gh, VR G x u) ∧ Below w.heap.size w w') :
    ACalls P f args H fun y H' => y = x ∧ H' = H := fun K G vs w hr hv =>
  (h G vs w hv).mono fun e w' ⟨u, h1, h2, h3⟩ => ⟨u, x, G, H, h1, Gh.le.refl _, hr.stay h3, h2 G, rfl, rfl⟩
/-- All that is there, as it is. -/
def allG (w : World) : Gh := ⟨fun b o => match w.cell? ⟨b, o, none⟩ with | some v => if v.oneCell' = true then some v else none | none => none, fun _ _ => none, fun _ => none⟩
theorem allG_rel (w : World) (gl : Glob w w.heap.size) : HRel ⟨w.heap.size, w, (allG w).M, gl⟩ (allG w) AH.empty w := by
  refine ⟨Below.refl _ _, Nat.le_refl _, ?_, ?_, fun _ _ _ => rfl, ?_, ?_, fun _ _ _ => rfl, ?_, ?_, fun _ _ => rfl, ?_⟩
  · intro b o v hv
    simp only [allG] at hv
    split at hv
    · rename_i u hu
      split at hv
      · cases hv; exact hu
      · cases hv
    · cases hv
  · intro b o v hv
    simp only [allG] at hv
    split at hv
    · split at hv
      · rename_i ho; cases hv; exact ho
      · cases hv
    · cases hv
  · intro g r hg; rw [show AH.empty.gs.get g = none from Tr.get_nil g] at hg; cases hg
  · intro g g' r r' b o n b' o' n' hg; rw [show AH.empty.gs.get g = none from Tr.get_nil g] at hg; cases hg
  · intro g es hg; rw [show AH.empty.ms.get g = none from Tr.get_nil g] at hg; cases hg
  · intro g g' es es' b b' hg; rw [show AH.empty.ms.get g = none from Tr.get_nil g] at hg; cases hg
  · intro g r e hg; rw [show AH.empty.gs.get g = none from Tr.get_nil g] at hg; cases hg
/-- Hangs on no memory. -/
def flatC : AV → Bool
  | .bool _ | .int .. | .str _ | .nilp | .nils | .nilf | .nili | .nilm => true
  | _ => false
theorem flatC_ok {G G' : Gh} {x : AV} {u : Value} (h : flatC x = true) (hv : VR G x u) : VR G' x u := by
  cases x <;> simp only [flatC] at h <;> (try (cases h; done)) <;> simp only [VR] at hv ⊢ <;> exact hv
theorem allG_cell {w : World} {b o : Nat} {v : Value} (h : w.cell? ⟨b, o, none⟩ = some v) (ho : v.oneCell' = true) : (allG w).M b o = some v := by simp [allG, h, ho]
theorem allG_row {G : Gh} {w : World} : ∀ {xs : List AV} {b o : Nat}, CellsIn G w xs b o → xs.all flatC = true → VRow (allG w) xs b o
  | [], b, o, h, hf => by simp only [VRow]
  | x :: xs, b, o, h, hf => by
    simp only [List.all_cons, Bool.and_eq_true] at hf
    obtain ⟨u, h1, h2, h3⟩ := h 0 x rfl
    simp only [VRow]
    refine ⟨⟨u, allG_cell h1 h3, flatC_ok hf.1 h2⟩, allG_row (G := G) (fun j y hj => ?_) hf.2⟩
    obtain ⟨v, q1, q2⟩ := h (j + 1) y (by simpa using hj)
    exact ⟨v, by rw [← q1]; congr 2; omega, q2⟩
theorem allG_rows {G : Gh} {w : World} {z : Nat} : ∀ {rs : List (List AV)} {b o : Nat}, CellsIn G w rs.flatten b o → (rs.all fun r => decide (r.length = z) && r.all flatC) = true → VRows (allG w) z rs b o
  | [], b, o, h, hf => by simp only [VRows]
  | r :: rs, b, o, h, hf => by
    simp only [List.all_cons, Bool.and_eq_true, decide_eq_true_eq] at hf
    obtain ⟨⟨h1, h2⟩, h3⟩ := hf
    simp only [VRows]
    rw [List.flatten_cons] at h
    refine ⟨h1, allG_row (G := G) (fun j x hj => ?_) h2, allG_rows (G := G) (fun j x hj => ?_) h3⟩
    · exact h j x (by rw [List.getElem?_append_left (List.getElem?_eq_some_iff.1 hj).1]; exact hj)
    · obtain ⟨v, q1, q2⟩ := h (r.length + j) x (by rw [List.getElem?_append_right (by omega)]; simpa using hj)
      exact ⟨v, by rw [← q1, h1]; congr 2; omega, q2⟩
/-- A call that answers at rows that stand for good answers at the same rows wherever they lie: a struct of one slice. -/
theorem ACalls.rows {P : Program} {f : FuncId} {z : Nat} {rows : List (List AV)} {x : AV} (hx : flatC x = true) (hrows : (rows.all fun r => decide (r.length = z) && r.all flatC) = true) (hne : rows ≠ [])
    (h : ACalls P f [.agg [.vals z rows]] AH.empty fun y _ => y = x) {s : AV} {H : AH} (hs : listCells H z s = some (rows.length, rows.flatten)) :
    ACalls P f [.agg [s]] H fun y H' => y = x ∧ H' = H := by
  intro K G vs w hr hv
  have hv' : VRs (allG w) [.agg [.vals z rows]] vs.toList := by
    obtain ⟨u, hu, hv⟩ := hv.one
    rw [hu]
    simp only [VR] at hv
    obtain ⟨us, rfl, hus⟩ := hv
    obtain ⟨v, hvs, hvv⟩ := hus.one
    obtain ⟨a, c, rfl, hc, hlen, hin⟩ := listCells_ok hr hvv hs
    rcases hin with h0 | ⟨b, o, rfl, hin⟩
    · exact absurd (List.eq_nil_of_length_eq_zero h0) hne
    · have hz : ∀ r ∈ rows, r.length = z := fun r hr => by
        have := List.all_eq_true.1 hrows r hr
        simp only [Bool.and_eq_true, decide_eq_true_eq] at this
        exact this.1
      simp only [VRs, VR]
      refine ⟨_, [], rfl, ⟨us, rfl, _, [], hvs, ⟨_, c, rfl, hc, .inr ⟨b, o, rfl, allG_rows hin hrows⟩⟩, rfl⟩, rfl⟩
  refine (h _ _ vs w (allG_rel w hr.glob) hv').mono fun e w' ⟨u, y, G', H', h1, h2, h3, h4, h5⟩ => ?_
  subst h5
  exact ⟨u, y, G, H, h1, Gh.le.refl _, hr.stay h3.below, flatC_ok hx h4, rfl, rfl⟩
end Go.Abs
namespace Go.Abs
open Go Go.RowKit
set_option linter.unusedVariables false
def frzs (f : AV → Option AV) : List AV → Option (List AV)
  | [] => some []
  | x :: xs => match f x with
    | some y => match frzs f xs with
      | some ys => some (y :: ys)
      | none => none
    | none => none
def chunk (z : Nat) : Nat → List AV → List (List AV)
  | 0, _ => []
  | m + 1, l => l.take z :: chunk z m (l.drop z)
/-- A value whose parts stand for good. -/
def frz : Nat → AH → AV → Option AV
  | 0, _, _ => none
  | n + 1, H, x => match x with
    | .agg cs => match frzs (frz n H) cs with
      | some ys => some (.agg ys)
      | none => none
    | .tup cs => match frzs (frz n H) cs with
      | some ys => some (.tup ys)
      | none => none
    | .slc g e i len z => match H.gs.get g with
      | some r => if r.e = e ∧ i + len * z ≤ r.cells.length then (match frzs (frz n H) ((r.cells.drop i).take (len * z)) with
        | some ys => some (.vals z (chunk z len ys))
        | none => none) else none
      | none => none
    | x => if flatC x = true then some x else none
theorem frzs_get {f : AV → Option AV} : ∀ {xs ys : List AV}, frzs f xs = some ys → ys.length = xs.length ∧ ∀ (j : Nat) y, ys[j]? = some y → ∃ x, xs[j]? = some x ∧ f x = some y
  | [], ys, h => by simp only [frzs] at h; cases h; exact ⟨rfl, fun j y hj => by simp at hj⟩
  | x :: xs, ys, h => by
    simp only [frzs] at h
    split at h
    · rename_i y hy
      split at h
      · rename_i ys' hys
        cases h
        obtain ⟨q1, q2⟩ := frzs_get hys
        refine ⟨by simp [q1], fun j z hj => ?_⟩
        cases j with
        | zero => simp at hj; subst hj; exact ⟨x, rfl, hy⟩
        | succ j => simpa using q2 j z (by simpa using hj)
      · cases h
    · cases h
theorem chunk_len (z : Nat) : ∀ (m : Nat) (l : List AV), (chunk z m l).length = m
  | 0, l => rfl
  | m + 1, l => by simp [chunk, chunk_len z m]
theorem chunk_rows {G : Gh} {z b : Nat} : ∀ (m : Nat) (l : List AV) (o : Nat), l.length = m * z → (∀ (j : Nat) y, l[j]? = some y → ∃ u, G.M b (o + j) = some u ∧ VR G y u) → VRows G z (chunk z m l) b o
  | 0, l, o, hl, h => by simp only [chunk, VRows]
  | m + 1, l, o, hl, h => by
    simp only [chunk, VRows]
    rw [Nat.succ_mul] at hl
    refine ⟨by rw [List.length_take]; omega, VRow.of_get fun j y hj => ?_, chunk_rows m (l.drop z) (o + z) (by rw [List.length_drop]; omega) fun j y hj => ?_⟩
    · rw [List.getElem?_take] at hj
      split at hj
      · exact h j y hj
      · cases hj
    · rw [List.getElem?_drop] at hj
      obtain ⟨u, h1, h2⟩ := h (z + j) y hj
      exact ⟨u, by rw [← h1]; congr 1; omega, h2⟩
theorem frz_ok {K : Kx} {G Gf : Gh} {H : AH} {w : World} (h : HRel K G H w) (hM : ∀ b o v, K.B ≤ b → w.cell? ⟨b, o, none⟩ = some v → v.oneCell' = true → Gf.M b o = some v) : ∀ (n : Nat) (x y : AV) (u : Value), frz n H x = some y → VR G x u → VR Gf y u := by
  intro n
  induction n with
  | zero => intro x y u hf hv; cases hf
  | succ n ih =>
    intro x y u hf hv
    have list : ∀ {cs ys : List AV} {us : List Value}, frzs (frz n H) cs = some ys → VRs G cs us → VRs Gf ys us := by
      intro cs ys us h1 h2
      obtain ⟨q1, q2⟩ := frzs_get h1
      refine VRs.of_get (by rw [h2.len, q1]) fun j y hj => ?_
      obtain ⟨x, h3, h4⟩ := q2 j y hj
      obtain ⟨v, h5, h6⟩ := h2.get j x h3
      exact ⟨v, h5, ih x y v h4 h6⟩
    simp only [frz] at hf
    split at hf
    · rename_i cs
      split at hf
      · rename_i ys hys
        cases hf
        simp only [VR] at hv ⊢
        obtain ⟨us, rfl, h2⟩ := hv
        exact ⟨us, rfl, list hys h2⟩
      · cases hf
    · rename_i cs
      split at hf
      · rename_i ys hys
        cases hf
        simp only [VR] at hv ⊢
        obtain ⟨us, rfl, h2⟩ := hv
        exact ⟨us, rfl, list hys h2⟩
      · cases hf
    · rename_i g e i len z
      split at hf
      · rename_i r hr
        split at hf
        · rename_i hc
          obtain ⟨rfl, hfit⟩ := hc
          split at hf
          · rename_i ys hys
            cases hf
            simp only [VR] at hv ⊢
            obtain ⟨b, o, m, cap, hmu, rfl, hcap, _⟩ := hv
            obtain ⟨b', o', m', cs, t, q⟩ := h.grp g r hr
            rw [q.mu] at hmu
            cases hmu
            obtain ⟨q1, q2⟩ := frzs_get hys
            have hlen : ys.length = len * z := by rw [q1, List.length_take, List.length_drop]; omega
            refine ⟨_, cap, by rw [chunk_len], by rw [chunk_len]; exact hcap, .inr ⟨b, o + i, rfl, chunk_rows len ys (o + i) hlen fun j y hj => ?_⟩⟩
            obtain ⟨x, h3, h4⟩ := q2 j y hj
            obtain ⟨v, h5, h6, h7⟩ := q.cellsIn i (len * z) j x h3
            exact ⟨v, hM _ _ _ q.low h5 h7, ih x y v h4 h6⟩
          · cases hf
        · cases hf
      · cases hf
    · split at hf
      · rename_i hfl
        cases hf
        exact flatC_ok hfl hv
      · cases hf
/-- A caller's knowledge, and all that is new. -/
def newG (G : Gh) (n : Nat) (w : World) : Gh := ⟨fun b o => if b < n then G.M b o else (allG w).M b o, G.mu, G.mm⟩
theorem newG_le {K : Kx} {G : Gh} {H : AH} {w w' : World} (h : HRel K G H w) : G.le (newG G w.heap.size w') :=
  ⟨fun b o v hv => by simp only [newG]; rw [if_pos (cell_lt (h.mem b o v hv))]; exact hv, fun _ _ _ h => h, fun _ _ h => h⟩
theorem newG_rel {K : Kx} {G : Gh} {H : AH} {w w' : World} (h : HRel K G H w) (hb : Below w.heap.size w w') : HRel K (newG G w.heap.size w') H w' := by
  have hle := newG_le (w' := w') h
  have hs := h.stay hb
  have hall := allG_rel w' hs.glob
  refine ⟨hs.below, hs.hB, ?_, ?_, ?_, ?_, hs.apart, hs.fresh, ?_, hs.mapart, hs.mfresh, hs.ages⟩
  · intro b o v hv
    simp only [newG] at hv
    split at hv
    · exact hs.mem b o v hv
    · exact hall.mem b o v hv
  · intro b o v hv
    simp only [newG] at hv
    split at hv
    · exact hs.ones b o v hv
    · exact hall.ones b o v hv
  · intro b o hbB
    simp only [newG]
    rw [if_pos (Nat.lt_of_lt_of_le hbB h.hB)]
    exact h.old b o hbB
  · intro g r hr
    obtain ⟨b, o, n, cs, t, q⟩ := h.grp g r hr
    have hlt := get_lt q.heap
    exact ⟨b, o, n, cs, t, q.mu, q.low, by rw [hb.block b hlt]; exact q.heap, q.size, fun i x hi => by obtain ⟨u, h1, h2, h3⟩ := q.cell i x hi; exact ⟨u, h1, VR.mono hle _ _ h2, h3⟩, fun j hj => by
      simp only [newG]; rw [if_pos hlt]; exact q.free j hj, fun hk => ⟨(q.kind hk).1, (q.kind hk).2.1, fun j => by simp only [newG]; rw [if_pos hlt]; exact (q.kind hk).2.2 j⟩⟩
  · intro g es hg
    obtain ⟨b, l, c, q⟩ := h.maps g es hg
    exact ⟨b, l, c, q.mm, q.low, by rw [hb.block b (get_lt q.heap)]; exact q.heap, q.ents.mono hle, q.clock⟩
theorem flats_ok {G G' : Gh} : ∀ {xs : List AV} {us : List Value}, xs.all flatC = true → VRs G xs us → VRs G' xs us
  | [], us, h, hv => by simpa [VRs] using hv
  | x :: xs, us, h, hv => by
    simp only [List.all_cons, Bool.and_eq_true] at h
    simp only [VRs] at hv ⊢
    obtain ⟨u, us', rfl, h1, h2⟩ := hv
    exact ⟨u, us', rfl, flatC_ok h.1 h1, flats_ok h.2 h2⟩
/-- What a call answers in an empty memory it answers in any: kept for good. -/
theorem ACalls.memo {P : Program} {f : FuncId} {args : List AV} {x y : AV} {H1 : AH} (n : Nat) (hargs : args.all flatC = true) (h : ACalls P f args AH.empty fun x' H' => x' = x ∧ H' = H1) (hf : frz n H1 x = some y) (H : AH) :
    ACalls P f args H fun y' H' => y' = y ∧ H' = H := by
  intro K G vs w hr hv
  refine (h _ _ vs w (allG_rel w hr.glob) (flats_ok hargs hv)).mono fun e w' ⟨u, x', G', H', h1, h2, h3, h4, h5, h6⟩ => ?_
  subst h5; subst h6
  refine ⟨u, y, newG G w.heap.size w', H, h1, newG_le hr, newG_rel hr h3.below, ?_, rfl, rfl⟩
  refine frz_ok h3 (fun b o v hB hc ho => ?_) n x' y u hf h4
  simp only [newG]
  rw [if_neg (by show ¬ b < w.heap.size; have : w.heap.size ≤ b := hB; omega)]
  exact allG_cell hc ho
/-- Is that what comes of a run? -/
def answers (r : Option (AV × AH)) (y : AV) : Bool :=
  match r with
  | some (x, H) => match frz 100 H x with
    | some x' => dsame 100 x' y
    | none => false
  | none => false
theorem answers_ok {r : Option (AV × AH)} {y : AV} (h : answers r y = true) : ∃ x H, r = some (x, H) ∧ frz 100 H x = some y := by
  unfold answers at h
  split at h
  · rename_i x H
    split at h
    · rename_i x' hx
      rw [← dsame_ok _ _ _ h]
      exact ⟨x, H, rfl, hx⟩
    · cases h
  · cases h
/-- What is kept. -/
def lookM (l : List (List AV × AV)) (args : List AV) : Option AV :=
  match l with
  | [] => none
  | (k, v) :: l => bif fSames args k then some v else lookM l args
theorem lookM_ok : ∀ {l : List (List AV × AV)} {args : List AV} {v : AV}, lookM l args = some v → (args, v) ∈ l
  | [], args, v, h => by cases h
  | (k, u) :: l, args, v, h => by
    simp only [lookM] at h
    cases hs : fSames args k with
    | true =>
      rw [hs] at h
      cases h
      rw [fSames_ok hs]
      exact List.mem_cons_self ..
    | false =>
      rw [hs] at h
      exact List.mem_cons_of_mem _ (lookM_ok h)
def memoH (l : List (List AV × AV)) (args : List AV) (H : AH) : Option (AV × AH) :=
  match lookM l args with
  | some v => some (v, H)
  | none => none
theorem memoH_frame {l : List (List AV × AV)} {args : List AV} {H H' : AH} {x : AV} (h : memoH l args H = some (x, H')) : FrameR x H H' (memoH l args) := by
  unfold memoH at h
  split at h
  · rename_i v hv
    cases h
    exact FrameR.same fun R H2 _ _ => by simp only [memoH, hv]
  · cases h
theorem memoH_ok {P : Program} {f : FuncId} {l : List (List AV × AV)} (h : ∀ e ∈ l, ∀ H, ACalls P f e.1 H fun y H' => y = e.2 ∧ H' = H) {args : List AV} {H H' : AH} {x : AV} (hm : memoH l args H = some (x, H')) : ACalls P f args H fun y H1 => y = x ∧ H1 = H' := by
  unfold memoH at hm
  split at hm
  · rename_i v hv
    cases hm
    exact h _ (lookM_ok hv) _
  · cases hm
/-- The last call: from nothing. -/
theorem calls_closed {P : Program} {good : FuncId → Bool} {hook : Hooks} {F n : Nat} (hok : CallOK P (arun P good hook F n)) {f : FuncId} (h : answers (arunK P good hook F n f [] AH.empty) (.bool true) = true) (w : World) (gl : Glob w w.heap.size) :
    Calls P f #[] w fun e w' => e = .returned (.bool true) ∧ Below w.heap.size w w' := by
  obtain ⟨x, H1, h2, h3⟩ := answers_ok h
  rw [arunK_eq] at h2
  have hA := (hok _ _ _ _ _ h2).2
  refine (ACalls.memo 100 (by rfl) hA h3 AH.empty _ _ #[] w (allG_rel w gl) (by simp [VRs])).mono fun e w' ⟨u, x', G', H', k1, k2, k3, k4, k5, k6⟩ => ?_
  subst k5
  simp only [VR] at k4
  subst k4
  exact ⟨k1, k3.below⟩
/-- What is kept of calls at one table. -/
def rowsH (z : Nat) (rows : List (List AV)) (flat : List AV) (l : List (List AV × AV)) (args : List AV) (H : AH) : Option (AV × AH) :=
  match args with
  | .agg [s] :: rest => match listCells H z s with
    | some (n, cs) => bif Nat.beq n rows.length && fSames cs flat then memoH l rest H else none
    | none => none
  | _ => none
theorem rowsH_frame {z : Nat} {rows : List (List AV)} {flat : List AV} {l : List (List AV × AV)} {args : List AV} {H H' : AH} {x : AV} (h : rowsH z rows flat l args H = some (x, H')) : FrameR x H H' (rowsH z rows flat l args) := by
  unfold rowsH at h
  split at h
  · rename_i s rest
    split at h
    · rename_i n cs hl
      cases hc : (Nat.beq n rows.length && fSames cs flat) with
      | false => rw [hc] at h; cases h
      | true =>
        rw [hc] at h
        simp only [cond_true] at h
        unfold memoH at h
        split at h
        · rename_i v hv
          cases h
          exact FrameR.same fun R H2 he ha => by simp only [rowsH, listCells_ext he ha hl, hc, cond_true, memoH, hv]
        · cases h
    · cases h
  · cases h
theorem rowsH_ok {P : Program} {f : FuncId} {z : Nat} {rows : List (List AV)} {flat : List AV} {l : List (List AV × AV)} (hflat : flat = rows.flatten)
    (h : ∀ e ∈ l, ∀ s H, listCells H z s = some (rows.length, rows.flatten) → ACalls P f (.agg [s] :: e.1) H fun y H' => y = e.2 ∧ H' = H) {args : List AV} {H H' : AH} {x : AV} (hm : rowsH z rows flat l args H = some (x, H')) : ACalls P f args H fun y H1 => y = x ∧ H1 = H' := by
  unfold rowsH at hm
  split at hm
  · rename_i s rest
    split at hm
    · rename_i n cs hl
      cases hc : (Nat.beq n rows.length && fSames cs flat) with
      | false => rw [hc] at hm; cases hm
      | true =>
        rw [hc] at hm
        simp only [cond_true] at hm
        simp only [Bool.and_eq_true] at hc
        have e1 := Nat.eq_of_beq_eq_true hc.1
        have e2 := fSames_ok hc.2
        unfold memoH at hm
        split at hm
        · rename_i v hv
          cases hm
          exact h _ (lookM_ok hv) s _ (by rw [hl, e1, e2, hflat])
        · cases hm
    · cases hm
  · cases hm
/-- Some that are not carried out. -/
def hooksOf : List (FuncId × (List AV → AH → Option (AV × AH))) → Hooks
  | [], _ => none
  | (g, h) :: l, f => bif Nat.beq f g then some h else hooksOf l f
structure HookOne (P : Program) (g : FuncId) (h : List AV → AH → Option (AV × AH)) : Prop where
  body : callableB P g = true
  ok : ∀ args H x H', h args H = some (x, H') → ACalls P g args H fun y H1 => y = x ∧ H1 = H'
  frame : ∀ args H x H', h args H = some (x, H') → FrameR x H H' (h args)
theorem hooksOf_mem : ∀ {l : List (FuncId × (List AV → AH → Option (AV × AH)))} {f : FuncId} {h : List AV → AH → Option (AV × AH)}, hooksOf l f = some h → (f, h) ∈ l
  | [], f, h, e => by cases e
  | (g, k) :: l, f, h, e => by
    simp only [hooksOf] at e
    cases hb : Nat.beq f g with
    | true =>
      rw [hb] at e
      have := Nat.eq_of_beq_eq_true hb
      subst this
      cases e
      exact List.mem_cons_self ..
    | false =>
      rw [hb] at e
      exact List.mem_cons_of_mem _ (hooksOf_mem e)
theorem hooksOf_ok {P : Program} {l : List (FuncId × (List AV → AH → Option (AV × AH)))} (h : ∀ e ∈ l, HookOne P e.1 e.2) : HookOK P (hooksOf l) ∧ HookFrame (hooksOf l) :=
  ⟨fun f k hk args H x H' hx => ⟨(h _ (hooksOf_mem hk)).body, (h _ (hooksOf_mem hk)).ok _ _ _ _ hx⟩, fun f k hk args H x H' hx => (h _ (hooksOf_mem hk)).frame _ _ _ _ hx⟩
theorem HookOne.memo {P : Program} {f : FuncId} {l : List (List AV × AV)} (hb : callableB P f = true) (h : ∀ e ∈ l, ∀ H, ACalls P f e.1 H fun y H' => y = e.2 ∧ H' = H) : HookOne P f (memoH l) :=
  ⟨hb, fun _ _ _ _ hm => memoH_ok h hm, fun _ _ _ _ hm => memoH_frame hm⟩
theorem HookOne.rows {P : Program} {f : FuncId} {z : Nat} {rows : List (List AV)} {flat : List AV} {l : List (List AV × AV)} (hb : callableB P f = true) (hflat : flat = rows.flatten)
    (h : ∀ e ∈ l, ∀ s H, listCells H z s = some (rows.length, rows.flatten) → ACalls P f (.agg [s] :: e.1) H fun y H' => y = e.2 ∧ H' = H) : HookOne P f (rowsH z rows flat l) :=
  ⟨hb, fun _ _ _ _ hm => rowsH_ok hflat h hm, fun _ _ _ _ hm => rowsH_frame hm⟩
end Go.Abs
namespace Go.Abs
open Go Go.RowKit
set_option linter.unusedVariables false
/-- A value whose parts stand for good. -/
def frzV : Nat → AH → AV → Option AV
  | 0, _, _ => none
  | n + 1, H, x => match x with
    | .agg cs => match frzs (frzV n H) cs with
      | some ys => some (.agg ys)
      | none => none
    | .tup cs => match frzs (frzV n H) cs with
      | some ys => some (.tup ys)
      | none => none
    | .slc g e i len z => match H.gs.get g with
      | some r => if r.e = e ∧ i + len * z ≤ r.cells.length then (match frzs (frzV n H) ((r.cells.drop i).take (len * z)) with
        | some ys => some (.vals z (chunk z len ys))
        | none => none) else none
      | none => none
    | .vals z rows => if rows.all (fun r => decide (r.length = z)) = true then (match frzs (frzV n H) rows.flatten with
        | some ys => some (.vals z (chunk z rows.length ys))
        | none => none) else none
    | .iface t y => match frzV n H y with
      | some y' => some (.iface t y')
      | none => none
    | x => if flatC x = true then some x else none
theorem VRow.cells {G : Gh} : ∀ {xs : List AV} {b o : Nat}, VRow G xs b o → ∀ (j : Nat) x, xs[j]? = some x → ∃ u, G.M b (o + j) = some u ∧ VR G x u
  | [], b, o, h, j, x, hj => by simp at hj
  | y :: ys, b, o, h, j, x, hj => by
    simp only [VRow] at h
    cases j with
    | zero => simp at hj; subst hj; exact h.1
    | succ j =>
      obtain ⟨u, h1, h2⟩ := VRow.cells h.2 j x (by simpa using hj)
      exact ⟨u, by rw [← h1]; congr 1; omega, h2⟩
theorem VRows.flat {G : Gh} {z : Nat} : ∀ {rs : List (List AV)} {b o : Nat}, VRows G z rs b o → ∀ (j : Nat) x, rs.flatten[j]? = some x → ∃ u, G.M b (o + j) = some u ∧ VR G x u
  | [], b, o, h, j, x, hj => by simp at hj
  | r :: rs, b, o, h, j, x, hj => by
    simp only [VRows] at h
    obtain ⟨h1, h2, h3⟩ := h
    rw [List.flatten_cons] at hj
    by_cases hlt : j < r.length
    · rw [List.getElem?_append_left hlt] at hj
      exact h2.cells j x hj
    · rw [List.getElem?_append_right (by omega)] at hj
      obtain ⟨u, q1, q2⟩ := VRows.flat h3 _ x hj
      exact ⟨u, by rw [← q1]; congr 1; omega, q2⟩
theorem flatten_len {z : Nat} : ∀ {rs : List (List AV)}, rs.all (fun r => decide (r.length = z)) = true → rs.flatten.length = rs.length * z
  | [], h => by simp
  | r :: rs, h => by
    simp only [List.all_cons, Bool.and_eq_true, decide_eq_true_eq] at h
    rw [List.flatten_cons, List.length_append, flatten_len h.2, h.1, List.length_cons, Nat.succ_mul, Nat.add_comm]
theorem frzV_ok {K : Kx} {G Gf : Gh} {H : AH} {w : World} (h : HRel K G H w) (hM : ∀ b o v, K.B ≤ b → w.cell? ⟨b, o, none⟩ = some v → v.oneCell' = true → Gf.M b o = some v) (hG : ∀ b o v, G.M b o = some v → Gf.M b o = some v) : ∀ (n : Nat) (x y : AV) (u : Value), frzV n H x = some y → VR G x u → VR Gf y u := by
  intro n
  induction n with
  | zero => intro x y u hf hv; cases hf
  | succ n ih =>
    intro x y u hf hv
    have list : ∀ {cs ys : List AV} {us : List Value}, frzs (frzV n H) cs = some ys → VRs G cs us → VRs Gf ys us := by
      intro cs ys us h1 h2
      obtain ⟨q1, q2⟩ := frzs_get h1
      refine VRs.of_get (by rw [h2.len, q1]) fun j y hj => ?_
      obtain ⟨x, h3, h4⟩ := q2 j y hj
      obtain ⟨v, h5, h6⟩ := h2.get j x h3
      exact ⟨v, h5, ih x y v h4 h6⟩
    simp only [frzV] at hf
    split at hf
    · rename_i cs
      split at hf
      · rename_i ys hys
        cases hf
        simp only [VR] at hv ⊢
        obtain ⟨us, rfl, h2⟩ := hv
        exact ⟨us, rfl, list hys h2⟩
      · cases hf
    · rename_i cs
      split at hf
      · rename_i ys hys
        cases hf
        simp only [VR] at hv ⊢
        obtain ⟨us, rfl, h2⟩ := hv
        exact ⟨us, rfl, list hys h2⟩
      · cases hf
    · rename_i g e i len z
      split at hf
      · rename_i r hr
        split at hf
        · rename_i hc
          obtain ⟨rfl, hfit⟩ := hc
          split at hf
          · rename_i ys hys
            cases hf
            simp only [VR] at hv ⊢
            obtain ⟨b, o, m, cap, hmu, rfl, hcap, _⟩ := hv
            obtain ⟨b', o', m', cs, t, q⟩ := h.grp g r hr
            rw [q.mu] at hmu
            cases hmu
            obtain ⟨q1, q2⟩ := frzs_get hys
            have hlen : ys.length = len * z := by rw [q1, List.length_take, List.length_drop]; omega
            refine ⟨_, cap, by rw [chunk_len], by rw [chunk_len]; exact hcap, .inr ⟨b, o + i, rfl, chunk_rows len ys (o + i) hlen fun j y hj => ?_⟩⟩
            obtain ⟨x, h3, h4⟩ := q2 j y hj
            obtain ⟨v, h5, h6, h7⟩ := q.cellsIn i (len * z) j x h3
            exact ⟨v, hM _ _ _ q.low h5 h7, ih x y v h4 h6⟩
          · cases hf
        · cases hf
      · cases hf
    · rename_i z rows
      split at hf
      · rename_i hz
        split at hf
        · rename_i ys hys
          cases hf
          simp only [VR] at hv ⊢
          obtain ⟨a, cap, rfl, hcap, hin⟩ := hv
          obtain ⟨q1, q2⟩ := frzs_get hys
          refine ⟨a, cap, by rw [chunk_len], by rw [chunk_len]; exact hcap, ?_⟩
          rcases hin with h0 | ⟨b, o, rfl, hin⟩
          · left; subst h0; rfl
          · right
            refine ⟨b, o, rfl, chunk_rows rows.length ys o (by rw [q1, flatten_len hz]) fun j y hj => ?_⟩
            obtain ⟨x, h3, h4⟩ := q2 j y hj
            obtain ⟨v, h5, h6⟩ := VRows.flat hin j x h3
            exact ⟨v, hG _ _ _ h5, ih x y v h4 h6⟩
        · cases hf
      · cases hf
    · rename_i t y'
      split at hf
      · rename_i z hz
        cases hf
        simp only [VR] at hv ⊢
        obtain ⟨v, rfl, h2⟩ := hv
        exact ⟨v, rfl, ih _ _ _ hz h2⟩
      · cases hf
    · split at hf
      · rename_i hfl
        cases hf
        exact flatC_ok hfl hv
      · cases hf
/-- Nothing is known. -/
def noG : Gh := ⟨fun _ _ => none, fun _ _ => none, fun _ => none⟩
end Go.Abs
namespace Go.Abs
open Go Go.RowKit
set_option linter.unusedVariables false
theorem frzs_mono {f g : AV → Option AV} (h : ∀ x y, f x = some y → g x = some y) : ∀ {xs ys : List AV}, frzs f xs = some ys → frzs g xs = some ys
  | [], ys, e => e
  | x :: xs, ys, e => by
    simp only [frzs] at e ⊢
    split at e
    · rename_i y hy
      rw [h _ _ hy]
      split at e
      · rename_i ys' hys
        cases e
        simp only [frzs_mono h hys]
      · cases e
    · cases e
theorem frzV_ext {R : Nat → Option Grp} {H H2 : AH} (he : Ext R H H2) (ha : Apart R H) : ∀ (n : Nat) (x y : AV), frzV n H x = some y → frzV n H2 x = some y := by
  intro n
  induction n with
  | zero => intro x y h; cases h
  | succ n ih =>
    intro x y h
    simp only [frzV] at h ⊢
    split at h
    · split at h
      · rename_i ys hys
        simp only [frzs_mono ih hys]; exact h
      · cases h
    · split at h
      · rename_i ys hys
        simp only [frzs_mono ih hys]; exact h
      · cases h
    · split at h
      · rename_i r hr
        simp only [he.get ha hr]
        split at h
        · rename_i hc
          rw [if_pos hc]
          split at h
          · rename_i ys hys
            simp only [frzs_mono ih hys]; exact h
          · cases h
        · cases h
      · cases h
    · split at h
      · rename_i hz
        rw [if_pos hz]
        split at h
        · rename_i ys hys
          simp only [frzs_mono ih hys]; exact h
        · cases h
      · cases h
    · split at h
      · rename_i z hz
        simp only [ih _ _ hz]; exact h
      · cases h
    · exact h
theorem frzs_VRs {K : Kx} {G Gf : Gh} {H : AH} {w : World} (h : HRel K G H w) (hM : ∀ b o v, K.B ≤ b → w.cell? ⟨b, o, none⟩ = some v → v.oneCell' = true → Gf.M b o = some v) (hG : ∀ b o v, G.M b o = some v → Gf.M b o = some v) (n : Nat) {xs ys : List AV} {us : List Value} (hf : frzs (frzV n H) xs = some ys) (hv : VRs G xs us) : VRs Gf ys us := by
  obtain ⟨q1, q2⟩ := frzs_get hf
  refine VRs.of_get (by rw [hv.len, q1]) fun j y hj => ?_
  obtain ⟨x, h3, h4⟩ := q2 j y hj
  obtain ⟨v, h5, h6⟩ := hv.get j x h3
  exact ⟨v, h5, frzV_ok h hM hG n x y v h4 h6⟩
theorem ACalls.memoF {P : Program} {f : FuncId} {ks : List AV} {x y : AV} {H1 : AH} (n : Nat) (h : ACalls P f ks AH.empty fun x' H' => x' = x ∧ H' = H1) (hf : frz n H1 x = some y) {m : Nat} {args : List AV} {H : AH} (hk : frzs (frzV m H) args = some ks) :
    ACalls P f args H fun y' H' => y' = y ∧ H' = H := by
  intro K G vs w hr hv
  have hv' : VRs (allG w) ks vs.toList := frzs_VRs hr (fun b o v _ hc ho => allG_cell hc ho) (fun b o v hM => allG_cell (hr.mem b o v hM) (hr.ones b o v hM)) m hk hv
  refine (h _ _ vs w (allG_rel w hr.glob) hv').mono fun e w' ⟨u, x', G', H', h1, h2, h3, h4, h5, h6⟩ => ?_
  subst h5; subst h6
  refine ⟨u, y, newG G w.heap.size w', H, h1, newG_le hr, newG_rel hr h3.below, ?_, rfl, rfl⟩
  refine frz_ok h3 (fun b o v hB hc ho => ?_) n x' y u hf h4
  simp only [newG]
  rw [if_neg (by show ¬ b < w.heap.size; have : w.heap.size ≤ b := hB; omega)]
  exact allG_cell hc ho
abbrev AllE (P : Program) (f : FuncId) (L : List (List AV × AV)) : Prop := ∀ e ∈ L, ∀ m args H, frzs (frzV m H) args = some e.1 → ACalls P f args H fun y H' => y = e.2 ∧ H' = H
/-- Kept out of runs of the plain functions. -/
theorem AllE.app {P : Program} {f : FuncId} {a b : List (List AV × AV)} (h : AllE P f a) (k : AllE P f b) : AllE P f (a ++ b) := fun e he => (List.mem_append.1 he).elim (h e) (k e)
theorem AllE.of {P : Program} {f : FuncId} {a b : List (List AV × AV)} (h : AllE P f a) (k : b = a) : AllE P f b := k ▸ h
end Go.Abs
namespace Go.Abs
open Go Go.RowKit
set_option linter.unusedVariables false
theorem HRel.newMapOf {K : Kx} {G : Gh} {H : AH} {w : World} (h : HRel K G H w) {g nx : Nat} (hf : H.ms.get g = none) {es0 : MapA} {l0 : Array MapEntry} {c0 : Nat} (he : ERel G es0.2 l0.toList) (hc0 : c0 = es0.1) :
    HRel K (G.putm g w.heap.size) ⟨nx, H.gs, H.ms.set g es0⟩ (w.alloc (.map l0 c0)) := by
  have hle := Gh.putm_le (b := w.heap.size) (h.mfresh g hf)
  have hb : Below w.heap.size w (w.alloc (.map l0 c0)) := Below.alloc (Below.refl _ _) (Nat.le_refl _) _
  have hs := h.kept hb
  have hne : ∀ {g' : Nat}, g' ≠ g → (G.putm g w.heap.size).mm g' = G.mm g' := fun {g'} hc => by show (if _ then _ else _) = _; rw [if_neg hc]
  have hsame : (G.putm g w.heap.size).mm g = some w.heap.size := by show (if _ then _ else _) = _; rw [if_pos rfl]
  refine ⟨hs.below, hs.hB, hs.mem, hs.ones, hs.old, ?_, hs.apart, hs.fresh, ?_, ?_, ?_, hs.ages⟩
  · intro g' r hr
    obtain ⟨b, o, n, c, t, q⟩ := hs.grp g' r hr
    exact ⟨b, o, n, c, t, q.mu, q.low, q.heap, q.size, fun i x hi => by obtain ⟨u, h1, h2, h3⟩ := q.cell i x hi; exact ⟨u, h1, VR.mono hle _ _ h2, h3⟩, q.free, q.kind⟩
  · intro g' es hg'
    have hg' : (H.ms.set g es0).get g' = some es := hg'
    by_cases hc : g' = g
    · subst hc
      rw [Tr.get_set_same] at hg'
      cases hg'
      exact ⟨w.heap.size, l0, c0, hsame, h.hB, by show (w.heap.push _)[w.heap.size]? = _; simp, he.mono hle, hc0⟩
    · rw [Tr.get_set_ne _ _ hc] at hg'
      obtain ⟨b, l, c, q⟩ := hs.maps g' es hg'
      exact ⟨b, l, c, by rw [hne hc]; exact q.mm, q.low, q.heap, q.ents.mono hle, q.clock⟩
  · intro g1 g2 e1 e2 b1 b2 k1 k2 k3 k4 k5
    have z1 : (H.ms.set g es0).get g1 = some e1 := k1
    have z2 : (H.ms.set g es0).get g2 = some e2 := k2
    clear k1 k2
    have old : ∀ {g' : Nat} {es : MapA} {b : Nat}, H.ms.get g' = some es → G.mm g' = some b → b < w.heap.size := fun {g' es b} hg hm => by
      obtain ⟨b', l, c, q⟩ := h.maps g' es hg
      rw [q.mm] at hm; cases hm
      exact get_lt q.heap
    by_cases c1 : g1 = g
    · have c2 : g2 ≠ g := fun c2 => k3 (c1.trans c2.symm)
      subst c1
      rw [hsame] at k4
      rw [Tr.get_set_ne _ _ c2] at z2
      rw [hne c2] at k5
      cases k4
      have := old z2 k5
      omega
    · rw [Tr.get_set_ne _ _ c1] at z1
      rw [hne c1] at k4
      by_cases c2 : g2 = g
      · subst c2
        rw [hsame] at k5
        cases k5
        have := old z1 k4
        omega
      · rw [Tr.get_set_ne _ _ c2] at z2
        rw [hne c2] at k5
        exact h.mapart g1 g2 e1 e2 b1 b2 z1 z2 k3 k4 k5
  · intro g' hg'
    have hg' : (H.ms.set g es0).get g' = none := hg'
    by_cases hc : g' = g
    · subst hc; rw [Tr.get_set_same] at hg'; cases hg'
    · rw [Tr.get_set_ne _ _ hc] at hg'
      rw [hne hc]; exact h.mfresh g' hg'
def mcloneH (args : List AV) (H : AH) : Option (AV × AH) := match args with
  | [.mapp g] => match H.ms.get g with
    | some es => match H.ms.get H.next with
      | none => some (.mapp H.next, ⟨H.next + 1, H.gs, H.ms.set H.next es⟩)
      | some _ => none
    | none => none
  | _ => none
theorem HookOne.mclone {P : Program} {f : FuncId} (hb : callableB P f = true) (h : ∀ (b : Nat) (es : Array MapEntry) (clock : Nat) (w : World), w.heap[b]? = some (.map es clock) → Calls P f #[.map (some b)] w fun e w' => e = .returned (.map (some w.heap.size)) ∧ w' = w.alloc (.map es clock)) : HookOne P f mcloneH := by
  refine ⟨hb, fun args H x H' hm => ?_, fun args H x H' hm => ?_⟩
  · unfold mcloneH at hm
    split at hm <;> try (cases hm; done)
    rename_i g
    split at hm
    · rename_i es hes
      split at hm
      · rename_i hf
        cases hm
        intro K G vs w hr hv
        obtain ⟨u, hu, hm⟩ := hv.one
        simp only [VR] at hm
        obtain ⟨b, hmm, rfl⟩ := hm
        obtain ⟨b', l, c, q⟩ := hr.maps g es hes
        rw [q.mm] at hmm
        cases hmm
        obtain rfl : vs = #[.map (some b)] := by cases vs; simpa using hu
        refine (h b l c w q.heap).mono fun e w' ⟨he, hw⟩ => ?_
        subst hw
        refine ⟨_, _, _, _, he, Gh.putm_le (hr.mfresh _ hf), hr.newMapOf (nx := H.next + 1) hf q.ents q.clock, ?_, rfl, rfl⟩
        simp only [VR]
        exact ⟨_, by show (if _ then _ else _) = _; rw [if_pos rfl], rfl⟩
      · cases hm
    · cases hm
  · unfold mcloneH at hm
    split at hm <;> try (cases hm; done)
    rename_i g
    split at hm
    · rename_i es hes
      split at hm
      · rename_i hf
        cases hm
        exact FrameR.ms fun R H2 he ha => by simp only [mcloneH, he.ms, he.next, hes, hf]
      · cases hm
    · cases hm
end Go.Abs
