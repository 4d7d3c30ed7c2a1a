/- PLAIN: numbers read: digits, with a '-' ahead or not; what the library's ParseInt says of them; a number's own text is read as it. -/
import Derived.Test.YtfbhoomfhjlbiaaGreatDoorWholePlain
import Derived.Lib.ParseIntB
import Derived.Lib.ItoaNum
import Derived.Lib.SlTrimSet
import Derived.Lib.Strings
namespace Go.Proofs.YtfbhoomfhjlbiaaGreatDoor
open Go Go.RowKit
set_option linter.unusedVariables false
def dig (c : UInt8) : Bool := decide (48 ≤ c.toNat) && decide (c.toNat ≤ 57)
def valF (acc : Nat) : List UInt8 → Nat
  | [] => acc
  | c :: r => valF (acc * 10 + (c.toNat - 48)) r
def parseS (l : List UInt8) : Int × Int :=
  match l with
  | [] => (0, 2)
  | c :: r => if c = 45 then (if r = [] ∨ r.all dig = false then (0, 2) else lim (-(valF 0 r : Int))) else (if (c :: r).all dig = false then (0, 2) else lim (valF 0 (c :: r)))
theorem valF_ge (l : List UInt8) : ∀ acc, acc ≤ valF acc l := by
  induction l with
  | nil => intro acc; exact Nat.le_refl _
  | cons c r ih => intro acc; have := ih (acc * 10 + (c.toNat - 48)); unfold valF; omega
theorem valF_append (l m : List UInt8) : ∀ acc, valF acc (l ++ m) = valF (valF acc l) m := by
  induction l with
  | nil => intro acc; rfl
  | cons c r ih => intro acc; exact ih _
theorem uintM_all (l : List UInt8) : ∀ acc, l.all dig = true → acc ≤ 18446744073709551615 →
    Lib.parseUintM (2 ^ 64 - 1) acc l = if valF acc l ≤ 18446744073709551615 then .ok (valF acc l) else .range := by
  induction l with
  | nil => intro acc _ h; unfold Lib.parseUintM valF; rw [if_pos h]
  | cons c r ih =>
    intro acc hd h
    simp only [List.all_cons, Bool.and_eq_true, dig, decide_eq_true_eq] at hd
    obtain ⟨⟨h1, h2⟩, h3⟩ := hd
    unfold Lib.parseUintM valF
    rw [if_pos ⟨h1, h2⟩]
    have hge := valF_ge r (acc * 10 + (c.toNat - 48))
    by_cases c1 : 1844674407370955162 ≤ acc
    · rw [if_pos c1, if_neg (by omega)]
    · rw [if_neg c1]
      by_cases c2 : 18446744073709551615 < acc * 10 + (c.toNat - 48)
      · rw [if_pos (show 2 ^ 64 - 1 < _ from c2), if_neg (by omega)]
      · rw [if_neg (show ¬ 2 ^ 64 - 1 < _ from c2)]
        exact ih _ (by simpa using h3) (by omega)
theorem uintB_all {l : List UInt8} (h0 : l ≠ []) (h : l.all dig = true) : Lib.parseUintB 64 l = if valF 0 l ≤ 18446744073709551615 then .ok (valF 0 l) else .range := by
  unfold Lib.parseUintB; rw [if_neg h0]; exact uintM_all l 0 h (by decide)
theorem int_plain {c : UInt8} {r : List UInt8} (h : (c :: r).all dig = true) : Lib.parseIntB 64 (c :: r) = if i64 (valF 0 (c :: r)) then .ok (valF 0 (c :: r)) else .range := by
  have hc : dig c = true := by simp only [List.all_cons, Bool.and_eq_true] at h; exact h.1
  simp only [dig, Bool.and_eq_true, decide_eq_true_eq] at hc
  unfold Lib.parseIntB
  simp only
  rw [if_neg (by omega), uintB_all (by simp) h]
  by_cases h1 : valF 0 (c :: r) ≤ 18446744073709551615
  · rw [if_pos h1]
    simp only
    by_cases h2 : 9223372036854775808 ≤ valF 0 (c :: r)
    · rw [if_pos ⟨by omega, h2⟩, if_neg (by unfold i64; omega)]
    · rw [if_neg (fun k => h2 k.2), if_neg (by omega), if_neg (by omega), if_pos (by unfold i64; omega)]
  · rw [if_neg h1, if_neg (by unfold i64; omega)]
theorem int_minus {r : List UInt8} (h0 : r ≠ []) (h : r.all dig = true) : Lib.parseIntB 64 (45 :: r) = if i64 (-(valF 0 r : Int)) then .ok (-(valF 0 r : Int)) else .range := by
  unfold Lib.parseIntB
  simp only
  rw [if_pos (Or.inr (by decide)), uintB_all h0 h]
  by_cases h1 : valF 0 r ≤ 18446744073709551615
  · rw [if_pos h1]
    simp only
    rw [if_neg (fun k => k.1 (by decide))]
    by_cases h2 : 9223372036854775808 < valF 0 r
    · rw [if_pos ⟨by decide, h2⟩, if_neg (by unfold i64; omega)]
    · rw [if_neg (fun k => h2 k.2), if_pos (by decide), if_pos (by unfold i64; omega)]
  · rw [if_neg h1, if_neg (by unfold i64; omega)]
def digits10 : List UInt8 := [48, 49, 50, 51, 52, 53, 54, 55, 56, 57]
theorem dig_contains (c : UInt8) : digits10.contains c = dig c := by
  have h : ∀ n : Fin 256, digits10.contains (UInt8.ofNat n.val) = dig (UInt8.ofNat n.val) := by decide +kernel
  have := h ⟨c.toNat, c.toNat_lt⟩
  simpa using this
theorem trim_nil (l : List UInt8) : Lib.trimS l digits10 = [] ↔ l.all dig = true := by
  unfold Lib.trimS Lib.trimLeftS Lib.trimRightS
  have e : (fun c => digits10.contains c) = dig := funext dig_contains
  rw [e]
  have d0 : ∀ m : List UInt8, m.dropWhile dig = [] ↔ m.all dig = true := by
    intro m
    induction m with
    | nil => simp
    | cons c r ih =>
      cases hc : dig c
      · rw [List.dropWhile_cons_of_neg (by simp [hc])]; simp [hc]
      · rw [List.dropWhile_cons_of_pos hc, ih]; simp [hc]
  constructor
  · intro h
    rw [d0] at h
    by_cases hr : l.reverse.dropWhile dig = []
    · rw [d0] at hr; simpa using hr
    · -- the first left is no digit, though all are digits
      exfalso
      cases hd : l.reverse.dropWhile dig with
      | nil => exact hr hd
      | cons a b =>
        have h1 : dig a = false := by
          have := List.head_dropWhile_not dig hr
          simp only [hd] at this
          simpa using this
        rw [hd] at h
        simp [h1] at h
  · intro h
    have : l.reverse.dropWhile dig = [] := (d0 _).2 (by simpa using h)
    rw [this]; rfl
theorem trimPrefix_minus (l : List UInt8) : Lib.trimPrefix l [45] = match l with | [] => [] | c :: r => if c = 45 then r else c :: r := by
  cases l with
  | nil => rfl
  | cons c r =>
    simp only [Lib.trimPrefix, Lib.hasPrefix]
    by_cases h : c = 45
    · subst h; simp
    · simp [h]
      intro k; exact absurd k.symm h
/-- What the code asks, in the order in which it asks. -/
theorem parseS_form {l : List UInt8} (h : Lib.trimPrefix l [45] = [] ∨ Lib.trimS (Lib.trimPrefix l [45]) digits10 ≠ []) : parseS l = (0, 2) := by
  rw [trimPrefix_minus] at h
  cases l with
  | nil => rfl
  | cons c r =>
    simp only at h
    unfold parseS
    simp only
    by_cases hc : c = 45
    · rw [if_pos hc] at h ⊢
      rw [if_pos]
      rcases h with h | h
      · exact Or.inl h
      · rw [ne_eq, trim_nil] at h; exact Or.inr (by simpa using h)
    · rw [if_neg hc] at h ⊢
      rw [if_pos]
      rcases h with h | h
      · cases h
      · rw [ne_eq, trim_nil] at h; simpa using h
theorem parseS_num {l : List UInt8} (h : Lib.trimPrefix l [45] ≠ []) (h2 : Lib.trimS (Lib.trimPrefix l [45]) digits10 = []) :
    (∃ v, Lib.parseIntB 64 l = .ok v ∧ parseS l = (v, 0)) ∨ (Lib.parseIntB 64 l = .range ∧ parseS l = (0, 3)) := by
  rw [trim_nil] at h2
  rw [trimPrefix_minus] at h h2
  cases l with
  | nil => exact absurd rfl h
  | cons c r =>
    simp only at h h2
    unfold parseS
    simp only
    by_cases hc : c = 45
    · rw [if_pos hc] at h h2 ⊢
      rw [if_neg (by simp [h, h2])]
      subst hc
      rw [int_minus h h2]
      by_cases hi : i64 (-(valF 0 r : Int))
      · left; exact ⟨_, if_pos hi, lim_in hi⟩
      · right; exact ⟨if_neg hi, lim_out hi⟩
    · rw [if_neg hc] at h h2 ⊢
      rw [if_neg (by simp [h2])]
      rw [int_plain h2]
      by_cases hi : i64 (valF 0 (c :: r) : Int)
      · left; exact ⟨_, if_pos hi, lim_in hi⟩
      · right; exact ⟨if_neg hi, lim_out hi⟩
/-! ### a number's text is read as it -/
theorem ofNat_toNat (u : Nat) (h : u < 10) : (UInt8.ofNat (48 + u)).toNat = 48 + u := by
  rw [UInt8.toNat_ofNat']; omega
theorem dig_ofNat (u : Nat) (h : u < 10) : dig (UInt8.ofNat (48 + u)) = true := by
  unfold dig; rw [ofNat_toNat u h]; simp; omega
theorem dd_facts : ∀ u : Nat, Lib.decDigits u ≠ [] ∧ (Lib.decDigits u).all dig = true ∧ valF 0 (Lib.decDigits u) = u := by
  intro u
  induction u using Nat.strongRecOn with
  | _ u ih =>
    rw [Lib.decDigits]
    by_cases h : u < 10
    · rw [dif_pos h]
      have e1 := ofNat_toNat u h
      have e2 := dig_ofNat u h
      generalize UInt8.ofNat (48 + u) = c at *
      exact ⟨by simp, by simp [e2], by show 0 * 10 + (c.toNat - 48) = u; omega⟩
    · rw [dif_neg h]
      obtain ⟨h1, h2, h3⟩ := ih (u / 10) (by omega)
      have hm : u % 10 < 10 := by omega
      have e1 := ofNat_toNat _ hm
      have e2 := dig_ofNat _ hm
      generalize UInt8.ofNat (48 + u % 10) = c at *
      refine ⟨by simp, ?_, ?_⟩
      · rw [List.all_append, h2]; simp [e2]
      · rw [valF_append, h3]; show u / 10 * 10 + (c.toNat - 48) = u; omega
theorem parse_itoa {n : Int} (h : i64 n) : parseS (Lib.itoa n) = (n, 0) := by
  unfold Lib.itoa
  by_cases hn : n < 0
  · rw [if_pos hn]
    obtain ⟨h1, h2, h3⟩ := dd_facts n.natAbs
    have e : (-(n.natAbs : Int)) = n := by omega
    generalize Lib.decDigits n.natAbs = l at *
    unfold parseS
    simp only
    rw [if_pos trivial, if_neg (by simp [h1, h2]), h3, e, lim_in h]
  · rw [if_neg hn]
    obtain ⟨h1, h2, h3⟩ := dd_facts n.toNat
    have e : ((n.toNat : Nat) : Int) = n := by omega
    cases hd : Lib.decDigits n.toNat with
    | nil => exact absurd hd h1
    | cons c r =>
      rw [hd] at h2 h3
      have hc : c ≠ 45 := by
        intro k; subst k
        simp [dig] at h2
      unfold parseS
      simp only
      rw [if_neg hc, if_neg (by simp [h2]), h3, e, lim_in h]
theorem itoa_inj {a b : Int} (ha : i64 a) (hb : i64 b) (h : Lib.itoa a = Lib.itoa b) : a = b := by
  have h1 := parse_itoa ha
  rw [h, parse_itoa hb] at h1
  exact (Prod.mk.inj h1).1.symm
theorem itoa_len (n : Int) (h : i64 n) : (Lib.itoa n).length ≤ 30 := by
  have key : ∀ k u : Nat, u < 10 ^ (k + 1) → (Lib.decDigits u).length ≤ k + 1 := by
    intro k
    induction k with
    | zero => intro u hu; rw [Lib.decDigits, dif_pos (by omega)]; simp
    | succ k ih =>
      intro u hu
      rw [Lib.decDigits]
      by_cases h : u < 10
      · rw [dif_pos h]; simp
      · rw [dif_neg h]
        have := ih (u / 10) (by rw [Nat.pow_succ] at hu; omega)
        simp; omega
  unfold i64 at h
  unfold Lib.itoa
  by_cases hn : n < 0
  · rw [if_pos hn]
    have := key 19 n.natAbs (by omega)
    simp; omega
  · rw [if_neg hn]
    have := key 19 n.toNat (by omega)
    omega
end Go.Proofs.YtfbhoomfhjlbiaaGreatDoor
