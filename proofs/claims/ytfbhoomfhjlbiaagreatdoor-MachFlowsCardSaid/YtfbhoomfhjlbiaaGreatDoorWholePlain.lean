/- PLAIN: numbers that do not overflow: what chapter 2's Two, One, Cmp come to, on integers; and the facts by which Go's own tests tell it. -/
import Derived.WalkKit
import Derived.IntWalk
namespace Go.Proofs.YtfbhoomfhjlbiaaGreatDoor
open Go Go.RowKit
set_option linter.unusedVariables false
def i64 (a : Int) : Prop := -9223372036854775808 ≤ a ∧ a ≤ 9223372036854775807
instance (a : Int) : Decidable (i64 a) := by unfold i64; exact inferInstance
def lim (x : Int) : Int × Int := if i64 x then (x, 0) else (0, 3)
theorem lim_in {x : Int} (h : i64 x) : lim x = (x, 0) := if_pos h
theorem lim_out {x : Int} (h : ¬ i64 x) : lim x = (0, 3) := if_neg h
def divS (op : List UInt8) (a b : Int) : Int × Int :=
  if b = 0 then (0, 4) else if op = [47, 47] then lim (a.tdiv b)
  else if op = [109, 111, 100] ∧ a.tmod b ≠ 0 ∧ (decide (a.tmod b < 0) ≠ decide (b < 0)) then (a.tmod b + b, 0) else (a.tmod b, 0)
def shS (op : List UInt8) (a b : Int) : Int × Int :=
  if b < 0 ∨ 64 ≤ b then (0, 5) else if op = [62, 62] then (a / 2 ^ b.toNat, 0) else lim (a * 2 ^ b.toNat)
def powL : Nat → Int → Int → Int × Int
  | 0, out, _ => (out, 0)
  | n + 1, out, a => if i64 (out * a) then powL n (out * a) a else (0, 3)
def powS (a b : Int) : Int × Int :=
  if b = 0 ∨ a = 1 then (1, 0) else if a = -1 then (if b.tmod 2 = 0 then (1, 0) else (a, 0)) else if b < 0 then (0, 5) else if a = 0 then (0, 0) else if 64 ≤ b then (0, 3) else powL b.toNat 1 a
def twoS (op : List UInt8) (a b : Int) : Int × Int :=
  if op = [43] then lim (a + b) else if op = [45] then lim (a - b) else if op = [42] then lim (a * b)
  else if op = [47, 47] ∨ op = [114, 101, 109] ∨ op = [109, 111, 100] then divS op a b
  else if op = [47, 92] then (bits .and .i64 a b, 0) else if op = [92, 47] then (bits .or .i64 a b, 0) else if op = [120, 111, 114] then (bits .xor .i64 a b, 0)
  else if op = [62, 62] ∨ op = [60, 60] then shS op a b
  else if op = [109, 105, 110] then (min a b, 0) else if op = [109, 97, 120] then (max a b, 0)
  else if op = [94] then powS a b else (0, 1)
theorem wrap_mod (x : Int) : ∃ k : Int, wrap64 x = x + k * 18446744073709551616 := by
  refine ⟨-((x + 9223372036854775808) / 18446744073709551616), ?_⟩
  unfold wrap64; omega
theorem wrap_in {x : Int} (h : i64 x) : wrap64 x = x := by unfold i64 at h; unfold wrap64; omega
theorem i64_wrap (x : Int) : i64 (wrap64 x) := by unfold wrap64 i64; omega
theorem tdiv_le (c a : Int) (h : 2 ≤ a ∨ a ≤ -2) (hc : i64 c) : i64 (c.tdiv a) := by
  unfold i64 at *
  have h1 : (c.tdiv a).natAbs = c.natAbs / a.natAbs := Int.natAbs_tdiv c a
  have h2 : c.natAbs / a.natAbs ≤ c.natAbs / 2 := Nat.div_le_div_left (by omega) (by omega)
  rw [← h1] at h2
  generalize c.tdiv a = q at *
  omega
theorem mul_over {a b : Int} (ha : i64 a) (hb : i64 b) (h0 : a ≠ 0) (h : wrap64 ((wrap64 (a * b)).tdiv a) = b) (h2 : ¬ (a = -1 ∧ b = -9223372036854775808)) : i64 (a * b) := by
  by_cases e : a = -1
  · subst e; unfold i64 at *; omega
  by_cases e1 : a = 1
  · subst e1; simpa using hb
  have hc := i64_wrap (a * b)
  rw [wrap_in (tdiv_le _ a (by omega) hc)] at h
  have e2 := Int.mul_tdiv_add_tmod (wrap64 (a * b)) a
  rw [h] at e2
  obtain ⟨k, hk⟩ := wrap_mod (a * b)
  have hm : ((wrap64 (a * b)).tmod a).natAbs < a.natAbs := by
    rw [Int.natAbs_tmod]; exact Nat.mod_lt _ (by omega)
  have hk0 : k = 0 := by unfold i64 at ha; omega
  rw [hk0] at hk
  have : wrap64 (a * b) = a * b := by omega
  rwa [this] at hc
theorem mul_ok {a b : Int} (hb : i64 b) (h0 : a ≠ 0) (h : i64 (a * b)) : wrap64 ((wrap64 (a * b)).tdiv a) = b := by
  rw [wrap_in h, Int.mul_tdiv_cancel_left _ h0, wrap_in hb]
theorem mul_min {b : Int} (h : b = -9223372036854775808) : ¬ i64 (-1 * b) := by subst h; decide
theorem add_test {a b : Int} (ha : i64 a) (hb : i64 b) : (decide (a < wrap64 (a + b)) == decide (0 < b)) = true → i64 (a + b) := by
  unfold i64 wrap64 at *; intro h; simp only [beq_iff_eq, decide_eq_decide] at h; omega
theorem add_test' {a b : Int} (ha : i64 a) (hb : i64 b) : (decide (a < wrap64 (a + b)) == decide (0 < b)) = false → ¬ i64 (a + b) := by
  unfold i64 wrap64 at *; intro h; simp only [beq_eq_false_iff_ne, ne_eq, decide_eq_decide] at h; omega
theorem sub_test {a b : Int} (ha : i64 a) (hb : i64 b) : (decide (wrap64 (a - b) < a) == decide (0 < b)) = true → i64 (a - b) := by
  unfold i64 wrap64 at *; intro h; simp only [beq_iff_eq, decide_eq_decide] at h; omega
theorem sub_test' {a b : Int} (ha : i64 a) (hb : i64 b) : (decide (wrap64 (a - b) < a) == decide (0 < b)) = false → ¬ i64 (a - b) := by
  unfold i64 wrap64 at *; intro h; simp only [beq_eq_false_iff_ne, ne_eq, decide_eq_decide] at h; omega
theorem tdiv_in {a b : Int} (ha : i64 a) (h : ¬ (a = -9223372036854775808 ∧ b = -1)) : i64 (a.tdiv b) := by
  by_cases e : b = -1
  · subst e; unfold i64 at *; simp; omega
  by_cases e0 : b = 0
  · subst e0; simp [i64]
  by_cases e1 : b = 1
  · subst e1; simpa using ha
  exact tdiv_le a b (by omega) ha
theorem tmod_in {a b : Int} (ha : i64 a) : i64 (a.tmod b) := by
  unfold i64 at *
  have h1 : (a.tmod b).natAbs = a.natAbs % b.natAbs := Int.natAbs_tmod a b
  have h2 := Nat.mod_le a.natAbs b.natAbs
  have h3 : 0 ≤ a → 0 ≤ a.tmod b := fun h => Int.tmod_nonneg b h
  have h4 : a ≤ 0 → a.tmod b ≤ 0 := fun h => by
    have := Int.tmod_nonneg b (show 0 ≤ -a by omega)
    rw [Int.neg_tmod] at this; omega
  rw [← h1] at h2
  generalize a.tmod b = q at *
  omega
theorem mod_in {a b : Int} (ha : i64 a) (hb : i64 b) (h0 : a.tmod b ≠ 0) (h1 : decide (a.tmod b < 0) ≠ decide (b < 0)) : wrap64 (a.tmod b + b) = a.tmod b + b := by
  have := tmod_in (b := b) ha
  refine wrap_in ?_
  simp only [ne_eq, decide_eq_decide] at h1
  unfold i64 at *; omega
theorem shl_ok {a : Int} (n : Nat) (h : (wrap64 (a * 2 ^ n) / 2 ^ n != a) = false) (hn : n < 64) : i64 (a * 2 ^ n) := by
  have h' : wrap64 (a * 2 ^ n) / 2 ^ n = a := by simpa using h
  obtain ⟨k, hk⟩ := wrap_mod (a * 2 ^ n)
  have hw := i64_wrap (a * 2 ^ n)
  have hpos : (0 : Int) < 2 ^ n := Int.pow_pos (by decide)
  have hlt : (2 : Int) ^ n < 18446744073709551616 := by
    have : (2 : Int) ^ n < 2 ^ 64 := Int.pow_lt_pow_of_lt (by decide) hn
    simpa using this
  have h1 := Int.mul_ediv_add_emod (wrap64 (a * 2 ^ n)) (2 ^ n)
  have h2 := Int.emod_nonneg (wrap64 (a * 2 ^ n)) (Int.ne_of_gt hpos)
  have h3 := Int.emod_lt_of_pos (wrap64 (a * 2 ^ n)) hpos
  rw [h'] at h1
  have hc : (2 : Int) ^ n * a = a * 2 ^ n := Int.mul_comm _ _
  have : k = 0 := by omega
  rw [this] at hk
  have : wrap64 (a * 2 ^ n) = a * 2 ^ n := by omega
  rwa [this] at hw
theorem shl_no {a : Int} (n : Nat) (h : (wrap64 (a * 2 ^ n) / 2 ^ n != a) = true) : ¬ i64 (a * 2 ^ n) := by
  intro hi
  rw [wrap_in hi, Int.mul_ediv_cancel _ (by have : (0 : Int) < 2 ^ n := Int.pow_pos (by decide); omega)] at h
  simp at h
theorem not_i64 {a : Int} (h : i64 a) : bits .xor .i64 (-1) a = -1 - a := by
  have e : IntKind.i64.wrap ((BitVec.ofInt 64 (-1) ^^^ BitVec.ofInt 64 a).toNat : Int) = -1 - a := by
    have h1 : BitVec.ofInt 64 (-1) ^^^ BitVec.ofInt 64 a = ~~~ (BitVec.ofInt 64 a) := by
      rw [show BitVec.ofInt 64 (-1) = BitVec.allOnes 64 by decide, BitVec.allOnes_xor]
    rw [h1, BitVec.toNat_not, BitVec.toNat_ofInt, IntKind.wrap_i64]
    unfold i64 at h
    omega
  exact e
end Go.Proofs.YtfbhoomfhjlbiaaGreatDoor
