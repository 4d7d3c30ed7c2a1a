/- PLAIN: labels as unsigned 64-bit numbers: the order, the join and the meet, bit by bit. -/
import Derived.Laws.BitsAllLaws
namespace Go.Proofs.Ytolcjccpndodaaa
open Go
set_option linter.unusedVariables false
def lq (a b : Int) : Bool := bits .andNot .u64 a b == 0
def jn (a b : Int) : Int := bits .or .u64 a b
def mt (a b : Int) : Int := bits .and .u64 a b
def bv (a : Int) : BitVec 64 := BitVec.ofInt 64 a
theorem bv_nat (n : Nat) (h : n < 18446744073709551616) : (bv (n : Int)).toNat = n := by
  unfold bv; rw [BitVec.toNat_ofInt]; omega
theorem wrap_bv (x : BitVec 64) : IntKind.u64.wrap (x.toNat : Int) = (x.toNat : Int) := by
  rw [IntKind.wrap_u64]; have := x.isLt; omega
theorem mt_eq (a b : Int) : mt a b = ((bv a &&& bv b).toNat : Int) := by
  unfold mt bits; exact wrap_bv _
theorem jn_eq (a b : Int) : jn a b = ((bv a ||| bv b).toNat : Int) := by
  unfold jn bits; exact wrap_bv _
theorem lq_eq (a b : Int) : lq a b = decide (bv a &&& ~~~ bv b = 0#64) := by
  have : bits .andNot .u64 a b = ((bv a &&& ~~~ bv b).toNat : Int) := by unfold bits; exact wrap_bv _
  unfold lq; rw [this, Bool.eq_iff_iff]; simp only [beq_iff_eq, decide_eq_true_eq]
  constructor
  · intro h; apply BitVec.eq_of_toNat_eq; simpa using h
  · intro h; rw [h]; rfl
theorem bv_toNat (x : BitVec 64) : bv (x.toNat : Int) = x := by
  apply BitVec.eq_of_toNat_eq; exact bv_nat _ x.isLt
theorem bv_mt (a b : Int) : bv (mt a b) = bv a &&& bv b := by rw [mt_eq, bv_toNat]
theorem bv_jn (a b : Int) : bv (jn a b) = bv a ||| bv b := by rw [jn_eq, bv_toNat]
theorem of_bv (a : Int) (h0 : 0 ≤ a) (h1 : a < 18446744073709551616) : a = ((bv a).toNat : Int) := by
  obtain ⟨n, rfl⟩ := Int.eq_ofNat_of_zero_le h0
  rw [bv_nat n (by omega)]
theorem bv_inj {a b : Int} (h0 : 0 ≤ a) (h1 : a < 18446744073709551616) (g0 : 0 ≤ b) (g1 : b < 18446744073709551616) (h : bv a = bv b) : a = b := by
  rw [of_bv a h0 h1, of_bv b g0 g1, h]
theorem lq_iff (a b : Int) : lq a b = true ↔ ∀ i : Nat, i < 64 → (bv a).getLsbD i = true → (bv b).getLsbD i = true := by
  rw [lq_eq, decide_eq_true_eq]
  constructor
  · intro h i hi ha
    have := congrArg (fun x => x.getLsbD i) h
    simp [ha, hi] at this; exact this
  · intro h; apply BitVec.eq_of_getLsbD_eq; intro i hi
    have := h i hi
    rw [BitVec.getLsbD_and, BitVec.getLsbD_not]
    cases ha : (bv a).getLsbD i
    · simp
    · simp [hi, this ha]
theorem lq_mt (a b : Int) : lq (mt a b) b = true := by
  rw [lq_iff]; intro i hi; rw [bv_mt]; simp
theorem lq_trans {a b c : Int} (h : lq a b = true) (k : lq b c = true) : lq a c = true := by
  rw [lq_iff] at *; exact fun i hi ha => k i hi (h i hi ha)
theorem lq_refl (a : Int) : lq a a = true := by rw [lq_iff]; exact fun _ _ h => h
theorem lq_jn_left (a b : Int) : lq a (jn a b) = true := by rw [lq_iff]; intro i hi ha; rw [bv_jn]; simp [ha]
theorem lq_jn_right (a b : Int) : lq b (jn a b) = true := by rw [lq_iff]; intro i hi ha; rw [bv_jn]; simp [ha]
theorem lq_jn_of {a b c : Int} (h : lq a c = true) (k : lq b c = true) : lq (jn a b) c = true := by
  rw [lq_iff] at *; intro i hi; rw [bv_jn]; simp; rintro (h1 | h1); exact h i hi h1; exact k i hi h1
theorem mt_range (a b : Int) : 0 ≤ mt a b ∧ mt a b < 18446744073709551616 := by rw [mt_eq]; have := (bv a &&& bv b).isLt; omega
theorem jn_range (a b : Int) : 0 ≤ jn a b ∧ jn a b < 18446744073709551616 := by rw [jn_eq]; have := (bv a ||| bv b).isLt; omega
theorem zero_or {a : Int} (h0 : 0 ≤ a) (h1 : a < 18446744073709551616) : bits .or .u64 0 a = a := by
  show jn 0 a = a; rw [jn_eq, of_bv a h0 h1, bv_toNat]; congr 2
  apply BitVec.eq_of_getLsbD_eq; intro i hi; simp [bv]
/-- pc|clear == clear -/
theorem jn_eq_iff {a b : Int} (g0 : 0 ≤ b) (g1 : b < 18446744073709551616) : (jn a b == b) = lq a b := by
  rw [Bool.eq_iff_iff, beq_iff_eq, lq_iff]
  constructor
  · intro h i hi ha
    have := congrArg (fun x => (bv x).getLsbD i) h
    simp only [bv_jn] at this; simp [ha] at this; exact this
  · intro h; refine bv_inj (jn_range a b).1 (jn_range a b).2 g0 g1 ?_
    rw [bv_jn]; apply BitVec.eq_of_getLsbD_eq; intro i hi
    rw [BitVec.getLsbD_or]
    have := h i hi; cases ha : (bv a).getLsbD i
    · simp
    · simp [this ha]
end Go.Proofs.Ytolcjccpndodaaa
