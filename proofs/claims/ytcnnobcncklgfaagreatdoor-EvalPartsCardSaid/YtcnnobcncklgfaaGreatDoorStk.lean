/- A stack of terms; the contracts of term.each at term.goodOne, at Size's counter. -/
import Derived.Test.YtcnnobcncklgfaaGreatDoorGoodW
import Derived.WalkSmall
namespace Go.Proofs.YtcnnobcncklgfaaGreatDoor
open Go Go.ChangeShapes Go.WideShapes Go.ChangeAt Go.RowKit
set_option linter.unusedVariables false
mutual
def Tm.size : Tm → Nat
  | .mk _ _ _ l => Tm.sizes l + 1
def Tm.sizes : List Tm → Nat
  | [] => 0
  | x :: l => x.size + Tm.sizes l
end
mutual
def Tm.allG : Tm → Bool
  | .mk k n s l => goneP k n s l.length && Tm.allsG l
def Tm.allsG : List Tm → Bool
  | [] => true
  | x :: l => x.allG && Tm.allsG l
end
/-- No more Args than N, all the way in; names that may be. -/
inductive Fine (N : Nat) : Tm → Prop
  | mk (k n : Int) (s : List UInt8) (l : List Tm) (hk : -9223372036854775808 ≤ k ∧ k ≤ 9223372036854775807) (hn : -9223372036854775808 ≤ n ∧ n ≤ 9223372036854775807) (hs : s.length ≤ maxLen) (hl : l.length ≤ N) (h : ∀ x ∈ l, Fine N x) : Fine N (.mk k n s l)
theorem size_eq (t : Tm) : t.size = Tm.sizes t.args + 1 := by cases t; simp [Tm.size, Tm.args]
theorem allG_eq (t : Tm) : t.allG = (goneP t.kind t.num t.name t.args.length && Tm.allsG t.args) := by cases t; simp [Tm.allG, Tm.args, Tm.kind, Tm.num, Tm.name]
theorem sizes_append (l m : List Tm) : Tm.sizes (l ++ m) = Tm.sizes l + Tm.sizes m := by
  induction l with
  | nil => simp [Tm.sizes]
  | cons x l ih => simp [Tm.sizes, ih, Nat.add_assoc]
theorem allsG_append (l m : List Tm) : Tm.allsG (l ++ m) = (Tm.allsG l && Tm.allsG m) := by
  induction l with
  | nil => simp [Tm.allsG]
  | cons x l ih => simp [Tm.allsG, ih, Bool.and_assoc]
theorem sizes_reverse (l : List Tm) : Tm.sizes l.reverse = Tm.sizes l := by
  induction l with
  | nil => rfl
  | cons x l ih => rw [List.reverse_cons, sizes_append, ih]; simp [Tm.sizes]; omega
theorem allsG_reverse (l : List Tm) : Tm.allsG l.reverse = Tm.allsG l := by
  induction l with
  | nil => rfl
  | cons x l ih => rw [List.reverse_cons, allsG_append, ih]; simp [Tm.allsG, Bool.and_comm]
theorem sizes_len (l : List Tm) : l.length ≤ Tm.sizes l := by
  induction l with
  | nil => simp
  | cons x l ih => have := size_eq x; simp [Tm.sizes]; omega
theorem Fine.args {N : Nat} {t : Tm} (h : Fine N t) : t.args.length ≤ N ∧ (∀ x ∈ t.args, Fine N x) ∧ t.name.length ≤ maxLen := by
  cases h with
  | mk k n s l hk hn hs hl h => exact ⟨hl, h, hs⟩
/-- The cells of a stack. -/
def stV (p : Tm × Value) : List Value := [.int .i64 p.1.kind, .int .i64 p.1.num, .string ⟨p.1.name.toArray⟩, p.2]
def stC (S : List (Tm × Value)) : List Value := S.flatMap stV
theorem stC_len (S : List (Tm × Value)) : (stC S).length = S.length * 4 := by
  induction S with
  | nil => rfl
  | cons p S ih =>
    show (stV p ++ stC S).length = _
    rw [List.length_append, ih]
    simp [stV]; omega
theorem stC_snoc (S : List (Tm × Value)) (p : Tm × Value) : stC (S ++ [p]) = stC S ++ stV p := by simp [stC]
theorem stC_top (S : List (Tm × Value)) (p : Tm × Value) (c : Nat) : (stC (S ++ [p]))[S.length * 4 + c]? = (stV p)[c]? := by
  rw [stC_snoc, List.getElem?_append_right (by rw [stC_len]; omega), stC_len]
  congr 1; omega
/-- All on the stack is held in what was there at first. -/
def StH (w : World) (B N : Nat) (S : List (Tm × Value)) : Prop := ∀ p ∈ S, Holds w (· < B) p.1 (tmV p.1.kind p.1.num p.1.name p.2) ∧ Fine N p.1
theorem StH.keep {w w' : World} {B N : Nat} {S : List (Tm × Value)} (h : StH w B N S) (hb : ∀ b, b < B → w'.heap[b]? = w.heap[b]?) : StH w' B N S := fun p hp => ⟨(h p hp).1.keep hb, (h p hp).2⟩
end Go.Proofs.YtcnnobcncklgfaaGreatDoor
