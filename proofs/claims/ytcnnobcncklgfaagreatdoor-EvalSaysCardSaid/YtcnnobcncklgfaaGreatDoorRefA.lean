/- The contracts of the document's own answer to chapter 2: Two at products; divided.   The contracts of the document's own answer to chapter 2: divided, shifted, power.   The contracts of the document's own answer to chapter 2: shifted, power, Two.   The contracts of the document's own answer to chapter 2: One, Cmp, NumParse. -/
import Derived.Test.YtcnnobcncklgfaaGreatDoorWhole2
namespace Go.Proofs.YtcnnobcncklgfaaGreatDoor
open Go.ChangeShapes Go.WideShapes Go.ChangeAt Go.RowKit
set_option linter.unusedVariables false
theorem least_any (w : World) : Calls Tryz.prog 90 #[] w fun e w' => e = .returned (.int .i64 (-9223372036854775808)) ∧ w = w' := by
  go_enter Tryz.func90, Tryz.ntmps90
  go_wp2
  go_ret
  exact ⟨rfl, rfl⟩
theorem mul_over' {a b : Int} (ha : i64 a) (hb : i64 b) (h0 : b ≠ 0) (h : wrap64 ((wrap64 (a * b)).tdiv b) = a) (h2 : ¬ (b = -1 ∧ a = -9223372036854775808)) : i64 (a * b) := by
  rw [Int.mul_comm] at h ⊢
  exact mul_over hb ha h0 h h2
theorem mul_ok' {a b : Int} (ha : i64 a) (h0 : b ≠ 0) (h : i64 (a * b)) : wrap64 ((wrap64 (a * b)).tdiv b) = a := by
  rw [Int.mul_comm] at h ⊢
  exact mul_ok ha h0 h
set_option maxRecDepth 100000 in
set_option maxHeartbeats 4000000 in
theorem rstar_any (s : ByteArray) (hs : s.toList = [42]) (a b : Int) (ha : i64 a) (hb : i64 b) (w : World) : Calls Tryz.prog 67 #[.string s, .int .i64 a, .int .i64 b] w fun e w' => e = .returned (two64 (lim (a * b))) ∧ w = w' := by
  have A := Lib.hid ha; have B := Lib.hid hb
  obtain ⟨a0, a1⟩ := ha
  obtain ⟨b0, b1⟩ := hb
  by_cases h0 : a = 0
  · subst h0
    go_enter Tryz.func67, Tryz.ntmps67
    go_wp2
    go_ret2
    exact ⟨ret2 (by rw [Int.zero_mul]; rfl), rfl⟩
  by_cases h1 : b = 0
  · subst h1
    go_enter Tryz.func67, Tryz.ntmps67
    go_wp2
    go_ret2
    exact ⟨ret2 (by rw [Int.mul_zero]; rfl), rfl⟩
  have e0 : (a == 0) = false := by simpa using h0
  have e1 : (b == 0) = false := by simpa using h1
  have H0 := Lib.hid h0; have H1 := Lib.hid h1
  clear h0 h1
  by_cases hx : a = -1 ∧ b = -9223372036854775808
  · obtain ⟨rfl, rfl⟩ := hx
    go_enter Tryz.func67, Tryz.ntmps67
    go_wp2_with ((go_at_call 90; refine (least_any _).mono ?_; rintro e w' ⟨rfl, rfl⟩))
    go_ret2
    exact ⟨ret2 (by decide), rfl⟩
  by_cases hy : b = -1 ∧ a = -9223372036854775808
  · obtain ⟨rfl, rfl⟩ := hy
    go_enter Tryz.func67, Tryz.ntmps67
    go_wp2_with ((go_at_call 90; refine (least_any _).mono ?_; rintro e w' ⟨rfl, rfl⟩))
    go_ret2
    exact ⟨ret2 (by decide), rfl⟩
  have HY := Lib.hid hy
  have x1 : ((a == -1) && (b == -9223372036854775808)) = false := by
    rw [Bool.and_eq_false_iff]; simp; omega
  have y1 : ((b == -1) && (a == -9223372036854775808)) = false := by
    rw [Bool.and_eq_false_iff]; simp; omega
  by_cases hd : wrap64 ((wrap64 (a * b)).tdiv b) = a
  · have hi := mul_over' A.out B.out H1.out hd hy
    have HI := Lib.hid hi; have HD := Lib.hid hd
    have d1 : (wrap64 ((wrap64 (a * b)).tdiv b) != a) = false := by rw [hd]; simp
    clear hi hx hy hd
    cases g1 : a == -1 <;> cases g2 : b == -1 <;> simp only [g1, g2, Bool.true_and, Bool.false_and] at x1 y1
    all_goals (go_enter Tryz.func67, Tryz.ntmps67; go_wp2_with ((go_at_call 90; refine (least_any _).mono ?_; rintro e w' ⟨rfl, rfl⟩)); go_ret2; exact ⟨ret2 (by rw [lim_in HI.out, wrap_in HI.out]), rfl⟩)
  · have hi : ¬ i64 (a * b) := fun h => hd (mul_ok' A.out H1.out h)
    have HI := Lib.hid hi
    have d1 : (wrap64 ((wrap64 (a * b)).tdiv b) != a) = true := by simpa using hd
    clear hi hx hy hd
    cases g1 : a == -1 <;> cases g2 : b == -1 <;> simp only [g1, g2, Bool.true_and, Bool.false_and] at x1 y1
    all_goals (go_enter Tryz.func67, Tryz.ntmps67; go_wp2_with ((go_at_call 90; refine (least_any _).mono ?_; rintro e w' ⟨rfl, rfl⟩)); go_ret2; exact ⟨ret2 (lim_out HI.out), rfl⟩)
end Go.Proofs.YtcnnobcncklgfaaGreatDoor
namespace Go.Proofs.YtcnnobcncklgfaaGreatDoor
open Go.ChangeShapes Go.WideShapes Go.ChangeAt Go.RowKit
set_option linter.unusedVariables false
theorem tmod_m1 (a : Int) : a.tmod (-1) = 0 := by
  rw [Int.tmod_neg, Int.tmod_one]
theorem rdiv_any (s : ByteArray) (a b : Int) (ha : i64 a) (hb : i64 b) (w : World) : Calls Tryz.prog 91 #[.string s, .int .i64 a, .int .i64 b] w fun e w' => e = .returned (two64 (divS s.toList a b)) ∧ w = w' := by
  have A := Lib.hid ha; have B := Lib.hid hb
  obtain ⟨op, ho⟩ : ∃ op, s.toList = op := ⟨_, rfl⟩
  rw [ho]
  by_cases h0 : b = 0
  · subst h0
    go_enter Tryz.func91, Tryz.ntmps91
    go_wp2
    go_ret2
    exact ⟨ret2 (by simp [divS]), rfl⟩
  have H0 := Lib.hid h0
  by_cases hm : b = -1
  · subst hm
    by_cases h1 : op = [47, 47]
    · have h1' : (op == [47, 47]) = true := by simpa using h1
      by_cases h2 : a = -9223372036854775808
      · subst h2
        have H1 := Lib.hid h1; clear h1
        go_enter Tryz.func91, Tryz.ntmps91
        go_wp2_with ((go_at_call 90; refine (least_any _).mono ?_; rintro e w' ⟨rfl, rfl⟩))
        go_ret2
        exact ⟨ret2 (by rw [H1.out]; decide), rfl⟩
      · have h2' : (a == -9223372036854775808) = false := by simpa using h2
        have L := Lib.hid (show i64 (-a) by unfold i64 at *; omega)
        have H1 := Lib.hid h1; clear h1
        go_enter Tryz.func91, Tryz.ntmps91
        go_wp2_with ((go_at_call 90; refine (least_any _).mono ?_; rintro e w' ⟨rfl, rfl⟩))
        go_ret2
        exact ⟨ret2 (by rw [divS, if_neg H0.out, if_pos H1.out, Int.tdiv_neg, Int.tdiv_one, lim_in L.out, wrap_in L.out]), rfl⟩
    · have h1' : (op == [47, 47]) = false := by simpa using h1
      have D := Lib.hid (show divS op a (-1) = (0, 0) by rw [divS, if_neg H0.out, if_neg h1, tmod_m1]; simp)
      clear h1
      go_enter Tryz.func91, Tryz.ntmps91
      go_wp2
      go_ret2
      exact ⟨ret2 D.out, rfl⟩
  have hb0 : (b == 0) = false := by simpa using h0
  have hb1 : (b == -1) = false := by simpa using hm
  have D1 := Lib.hid (tdiv_in (b := b) ha (fun h => hm h.2))
  have D2 := Lib.hid (tmod_in (b := b) ha)
  clear ha hb hm
  by_cases h1 : op = [47, 47]
  · have H1 := Lib.hid h1
    have h1' : (op == [47, 47]) = true := by simpa using h1
    clear h1
    go_enter Tryz.func91, Tryz.ntmps91
    go_wp2
    go_ret2
    exact ⟨ret2 (by rw [divS, if_neg H0.out, if_pos H1.out, lim_in D1.out, wrap_in D1.out]), rfl⟩
  · have H1 := Lib.hid h1
    have h1' : (op == [47, 47]) = false := by simpa using h1
    clear h1
    by_cases h4 : op = [109, 111, 100] ∧ a.tmod b ≠ 0 ∧ (decide (a.tmod b < 0) ≠ decide (b < 0))
    · obtain ⟨k1, k2, k3⟩ := h4
      have K := Lib.hid (And.intro k1 (And.intro k2 k3))
      have W1 := Lib.hid (show wrap64 (a.tmod b + b) = a.tmod b + b from mod_in A.out B.out k2 k3)
      have m1 : (op == [109, 111, 100]) = true := by simpa using k1
      have m2 : (a.tmod b != 0) = true := by simpa using k2
      have m3 : (!(decide (a.tmod b < 0) == decide (b < 0))) = true := not_beq k3
      clear k1 k2 k3
      go_enter Tryz.func91, Tryz.ntmps91
      go_wp2
      go_ret2
      exact ⟨ret2 (by rw [divS, if_neg H0.out, if_neg H1.out, if_pos K.out, W1.out]), rfl⟩
    · have K := Lib.hid h4
      have D := Lib.hid (show divS op a b = (a.tmod b, 0) by rw [divS, if_neg H0.out, if_neg H1.out, if_neg h4])
      by_cases k1 : op = [109, 111, 100]
      · have m1 : (op == [109, 111, 100]) = true := by simpa using k1
        by_cases k2 : a.tmod b = 0
        · have m2 : (a.tmod b != 0) = false := by simpa using k2
          clear k1 k2 h4
          go_enter Tryz.func91, Tryz.ntmps91
          go_wp2
          go_ret2
          exact ⟨ret2 D.out, rfl⟩
        · have m2 : (a.tmod b != 0) = true := by simpa using k2
          have m3 : (!(decide (a.tmod b < 0) == decide (b < 0))) = false := not_beq' (Decidable.byContradiction fun h => h4 ⟨k1, k2, h⟩)
          clear k1 k2 h4
          go_enter Tryz.func91, Tryz.ntmps91
          go_wp2
          go_ret2
          exact ⟨ret2 D.out, rfl⟩
      · have m1 : (op == [109, 111, 100]) = false := by simpa using k1
        clear k1 h4
        go_enter Tryz.func91, Tryz.ntmps91
        go_wp2
        go_ret2
        exact ⟨ret2 D.out, rfl⟩
theorem rstar_ok (s : ByteArray) (hs : s.toList = [42]) (a b : Int) (ha : i64 a) (hb : i64 b) (h : i64 (a * b)) (w : World) : Calls Tryz.prog 67 #[.string s, .int .i64 a, .int .i64 b] w fun e w' => e = .returned (.tuple #[.int .i64 (a * b), .int .i64 0]) ∧ w = w' := by
  have := rstar_any s hs a b ha hb w; rw [lim_b h] at this; exact this
theorem rstar_no (s : ByteArray) (hs : s.toList = [42]) (a b : Int) (ha : i64 a) (hb : i64 b) (h : ¬ i64 (a * b)) (w : World) : Calls Tryz.prog 67 #[.string s, .int .i64 a, .int .i64 b] w fun e w' => e = .returned (.tuple #[.int .i64 0, .int .i64 3]) ∧ w = w' := by
  have := rstar_any s hs a b ha hb w; rw [lim_b' h] at this; exact this
theorem powL_big (a : Int) (h2 : 2 ≤ a ∨ a ≤ -2) : ∀ (n m : Nat) (out : Int), i64 out → 2 ^ m ≤ out.natAbs → 64 ≤ m + n → powL n out a = (0, 3) := by
  intro n
  induction n with
  | zero =>
    intro m out ho hm h64
    exfalso
    have h1 : 2 ^ 64 ≤ 2 ^ m := Nat.pow_le_pow_right (by decide) (by omega)
    unfold i64 at ho
    have h3 : (2 : Nat) ^ 64 = 18446744073709551616 := by decide
    omega
  | succ n ih =>
    intro m out ho hm h64
    by_cases hi : i64 (out * a)
    · rw [powL_step hi]
      refine ih (m + 1) _ hi ?_ (by omega)
      rw [Int.natAbs_mul, Nat.pow_succ]
      exact Nat.mul_le_mul hm (by omega)
    · exact powL_stop hi
/-- What the document's power comes to where the loop turns. -/
theorem powS_loop {a b : Int} (hb : 0 < b) (h1 : a ≠ 1) (h2 : a ≠ -1) (h3 : a ≠ 0) : powS a b = powL b.toNat 1 a := by
  rw [powS, if_neg (by omega), if_neg h2, if_neg (by omega), if_neg h3]
  split
  · exact (powL_big a (by omega) b.toNat 0 1 (by decide) (by decide) (by omega)).symm
  · rfl
set_option maxHeartbeats 1000000 in
theorem rpower_loop (a b : Int) (ha : i64 a) (hb : 0 < b) (hb2 : i64 b) (h1 : a ≠ 1) (h2 : a ≠ -1) (h3 : a ≠ 0) (w : World) : Calls Tryz.prog 93 #[.int .i64 a, .int .i64 b] w fun e w' => e = .returned (two64 (powL b.toNat 1 a)) ∧ w = w' := by
  have A := Lib.hid ha
  obtain ⟨a0, a1⟩ := ha
  obtain ⟨n, rfl⟩ := Int.eq_ofNat_of_zero_le (Int.le_of_lt hb)
  rw [Int.toNat_natCast]
  have hnl : (n : Int) ≤ 9223372036854775807 := hb2.2
  obtain ⟨r, hr⟩ : ∃ r, r = powL n 1 a := ⟨_, rfl⟩
  have HR := Lib.hid hr
  rw [← hr]
  clear hr
  have e1 : (a == 1) = false := by simpa using h1
  have e2 : (a == -1) = false := by simpa using h2
  have e3 : (a == 0) = false := by simpa using h3
  have e4 : ¬ (n : Int) < 0 := by omega
  clear h1 h2 h3 hb2
  go_enter Tryz.func93, Tryz.ntmps93
  go_wp2_with fail
  go_loopg [1, 6] n (fun g c o wr => wr = w ∧ ∃ (k : Nat) (out : Int), k ≤ n ∧ g = k ∧ o = .int .i64 out ∧ c = .int .i64 k ∧ Hid (i64 out ∧ r = powL k out a))
  case atStart => exact ⟨rfl, n, 1, Nat.le_refl _, rfl, rfl, rfl, ⟨by decide, HR.out⟩⟩
  case round =>
    obtain ⟨rfl, k, out, hk, hg, rfl, rfl, hh⟩ := hrel
    have G := Lib.hid hg; clear hg
    cases k with
    | succ k =>
      have k0 : (0 : Int) < ((k + 1 : Nat) : Int) := by omega
      have kw : IntKind.i64.wrap (((k + 1 : Nat) : Int) - 1) = (k : Int) := by rw [show ((k + 1 : Nat) : Int) - 1 = (k : Int) from by omega]; exact IntWalk.i64_in _ (by omega)
      by_cases hi : i64 (out * a)
      · have HI := Lib.hid hi; clear hi
        go_wp2_with (go_at_call 67; refine (rstar_ok _ (by decide +kernel) out a hh.out.1 A.out HI.out _).mono ?_; rintro e w' ⟨rfl, rfl⟩)
        go_roundg k
        case measure => have := G.out; omega
        case rel => exact ⟨rfl, k, out * a, by omega, rfl, rfl, by first | rfl | (congr 1; omega), ⟨HI.out, by have := hh.out.2; rw [powL_step HI.out] at this; exact this⟩⟩
      · have HI := Lib.hid hi; clear hi
        go_wp2_with (go_at_call 67; refine (rstar_no _ (by decide +kernel) out a hh.out.1 A.out HI.out _).mono ?_; rintro e w' ⟨rfl, rfl⟩)
        go_ret2
        exact ⟨ret2 (by have := hh.out.2; rw [powL_stop HI.out] at this; exact this), rfl⟩
    | zero =>
      go_wp2
      go_ret2
      exact ⟨ret2 (by have := hh.out.2; exact this), rfl⟩
end Go.Proofs.YtcnnobcncklgfaaGreatDoor
namespace Go.Proofs.YtcnnobcncklgfaaGreatDoor
open Go.ChangeShapes Go.WideShapes Go.ChangeAt Go.RowKit
set_option linter.unusedVariables false
theorem rpower_any (a b : Int) (ha : i64 a) (hb : i64 b) (w : World) : Calls Tryz.prog 93 #[.int .i64 a, .int .i64 b] w fun e w' => e = .returned (two64 (powS a b)) ∧ w = w' := by
  by_cases h1 : a = 1
  · have D := Lib.hid (show powS a b = (1, 0) by rw [powS, if_pos (.inr h1)])
    subst h1
    clear ha hb
    go_enter Tryz.func93, Tryz.ntmps93
    go_wp2
    all_goals go_ret2
    all_goals exact ⟨ret2 D.out, rfl⟩
  by_cases h2 : a = -1
  · subst h2
    by_cases hz : b.tmod 2 = 0
    · have D := Lib.hid (show powS (-1) b = (1, 0) by rw [powS]; split; rfl; simp)
      clear ha hb h1
      go_enter Tryz.func93, Tryz.ntmps93
      go_wp2
      all_goals go_ret2
      all_goals exact ⟨ret2 D.out, rfl⟩
    · have hb0 : b ≠ 0 := by rintro rfl; exact hz rfl
      have D := Lib.hid (show powS (-1) b = (-1, 0) by rw [powS, if_neg (by omega), if_pos rfl, if_neg hz])
      clear ha hb h1 hb0
      go_enter Tryz.func93, Tryz.ntmps93
      go_wp2
      all_goals go_ret2
      all_goals exact ⟨ret2 D.out, rfl⟩
  have e1 : (a == 1) = false := by simpa using h1
  have e2 : (a == -1) = false := by simpa using h2
  by_cases h3 : b < 0
  · have D := Lib.hid (show powS a b = (0, 5) by rw [powS, if_neg (by omega), if_neg h2, if_pos h3])
    clear ha hb h1 h2
    go_enter Tryz.func93, Tryz.ntmps93
    go_wp2
    go_ret2
    exact ⟨ret2 D.out, rfl⟩
  by_cases h4 : b = 0
  · subst h4
    have D := Lib.hid (show powS a 0 = (1, 0) by rw [powS, if_pos (.inl rfl)])
    clear ha hb h1 h2
    cases ez : a == 0
    · go_enter Tryz.func93, Tryz.ntmps93
      go_wp2_with fail
      go_loopg [1, 6] 0 (fun g c o wr => wr = w ∧ o = .int .i64 1 ∧ c = .int .i64 0)
      case atStart => exact ⟨rfl, rfl, rfl⟩
      case round =>
        obtain ⟨rfl, rfl, rfl⟩ := hrel
        go_wp2
        go_ret2
        exact ⟨ret2 D.out, rfl⟩
    · go_enter Tryz.func93, Tryz.ntmps93
      go_wp2_with fail
      go_loopg [1, 6] 0 (fun g c o wr => wr = w ∧ o = .int .i64 1 ∧ c = .int .i64 0)
      case atStart => exact ⟨rfl, rfl, rfl⟩
      case round =>
        obtain ⟨rfl, rfl, rfl⟩ := hrel
        go_wp2
        go_ret2
        exact ⟨ret2 D.out, rfl⟩
  have hb3 : 0 < b := by omega
  by_cases h5 : a = 0
  · subst h5
    have D := Lib.hid (show powS 0 b = (0, 0) by rw [powS, if_neg (by omega), if_neg (by omega), if_neg h3, if_pos rfl])
    clear ha hb h1 h2 h3 h4
    go_enter Tryz.func93, Tryz.ntmps93
    go_wp2
    go_ret2
    exact ⟨ret2 D.out, rfl⟩
  rw [powS_loop hb3 h1 h2 h5]
  exact rpower_loop a b ha hb3 hb h1 h2 h5 w
theorem and_one {x : Int} (h : i64 x) : bits .and .i64 x 1 = x % 2 := by
  have e : IntKind.i64.wrap ((BitVec.ofInt 64 x &&& BitVec.ofInt 64 1).toNat : Int) = x % 2 := by
    rw [BitVec.toNat_and, show (BitVec.ofInt 64 1).toNat = 1 by decide, Nat.and_one_is_mod, BitVec.toNat_ofInt, IntKind.wrap_i64]
    unfold i64 at h
    omega
  exact e
theorem shr_step {x : Int} (h : i64 x) : wrap64 ((wrap64 (x - x % 2)).tdiv 2) = x / 2 := by
  have h1 : x - x % 2 = 2 * (x / 2) := by omega
  have h2 : i64 (2 * (x / 2)) := by unfold i64 at *; omega
  have h3 : i64 (x / 2) := by unfold i64 at *; omega
  rw [h1, wrap_in h2, Int.mul_tdiv_cancel_left _ (by decide), wrap_in h3]
theorem shr_pow (x : Int) (k : Nat) : x / 2 / 2 ^ k = x / 2 ^ (k + 1) := by
  rw [Int.ediv_ediv_of_nonneg (by decide), Int.pow_succ, Int.mul_comm]
theorem shl_far {x : Int} (k : Nat) (h : 4611686018427387903 < x ∨ x < -4611686018427387904) : ¬ i64 (x * 2 ^ (k + 1)) := by
  have hp : (0 : Int) < 2 ^ k := Int.pow_pos (by decide)
  have e : x * 2 ^ (k + 1) = 2 * x + 2 * (x * (2 ^ k - 1)) := by
    rw [Int.pow_succ, Int.mul_sub, Int.mul_one, ← Int.mul_assoc]; omega
  rw [e]
  unfold i64
  rcases h with h | h
  · have := Int.mul_nonneg (show (0 : Int) ≤ x by omega) (show (0 : Int) ≤ 2 ^ k - 1 by omega)
    omega
  · have := Int.mul_nonneg (show (0 : Int) ≤ -x by omega) (show (0 : Int) ≤ 2 ^ k - 1 by omega)
    rw [Int.neg_mul] at this
    omega
set_option maxHeartbeats 1000000 in
theorem rshift_any (s : ByteArray) (a b : Int) (ha : i64 a) (hb : i64 b) (hop : s.toList = [62, 62] ∨ s.toList = [60, 60]) (w : World) : Calls Tryz.prog 92 #[.string s, .int .i64 a, .int .i64 b] w fun e w' => e = .returned (two64 (shS s.toList a b)) ∧ w = w' := by
  obtain ⟨op, ho⟩ : ∃ op, s.toList = op := ⟨_, rfl⟩
  rw [ho] at hop ⊢
  have A := Lib.hid ha
  obtain ⟨b0, b1⟩ := hb
  by_cases h1 : b < 0 ∨ 64 ≤ b
  · have D := Lib.hid (show shS op a b = (0, 5) by rw [shS, if_pos h1])
    rcases h1 with h1 | h1
    · go_enter Tryz.func92, Tryz.ntmps92
      go_wp2
      go_ret2
      exact ⟨ret2 D.out, rfl⟩
    · have g0 : ¬ b < 0 := by omega
      go_enter Tryz.func92, Tryz.ntmps92
      go_wp2
      go_ret2
      exact ⟨ret2 D.out, rfl⟩
  · have H1 := Lib.hid h1
    have g0 : ¬ b < 0 := by omega
    have g1 : b < 64 := by omega
    clear h1
    obtain ⟨n, rfl⟩ := Int.eq_ofNat_of_zero_le (show 0 ≤ b by omega)
    have hn := Lib.hid (show n < 64 by omega)
    rcases hop with h2 | h2
    · have D := Lib.hid (show shS op a n = (a / 2 ^ n, 0) by rw [shS, if_neg H1.out, if_pos h2, Int.toNat_natCast])
      have h2' : (op == [62, 62]) = true := by simpa using h2
      clear h2 ha
      go_enter Tryz.func92, Tryz.ntmps92
      go_wp2_with fail
      go_loopg [1, 2] n (fun g c o wr => wr = w ∧ ∃ (k : Nat) (x : Int), k ≤ n ∧ g = k ∧ c = .int .i64 x ∧ o = .int .i64 k ∧ Hid (i64 x ∧ x / 2 ^ k = a / 2 ^ n))
      case atStart => exact ⟨rfl, n, a, Nat.le_refl _, rfl, rfl, rfl, ⟨A.out, rfl⟩⟩
      case round =>
        obtain ⟨rfl, k, x, hk, hg, rfl, rfl, hh⟩ := hrel
        have G := Lib.hid hg; clear hg
        cases k with
        | succ k =>
          have k0 : (0 : Int) < ((k + 1 : Nat) : Int) := by omega
          have ha1 := and_one hh.out.1
          have hs1 := shr_step hh.out.1
          go_wp2
          go_roundg k
          case measure => have := G.out; omega
          case rel => exact ⟨rfl, k, x / 2, by omega, rfl, congrArg (Value.int .i64) (shr_step hh.out.1), rfl, ⟨by have := hh.out.1; unfold i64 at *; omega, (shr_pow x k).trans hh.out.2⟩⟩
        | zero =>
          go_wp2
          go_ret2
          exact ⟨ret2 (by rw [D.out, ← hh.out.2]; simp), rfl⟩
    · have h3 : op ≠ [62, 62] := by rw [h2]; decide
      have D := Lib.hid (show shS op a n = lim (a * 2 ^ n) by rw [shS, if_neg H1.out, if_neg h3, Int.toNat_natCast])
      have h2' : (op == [62, 62]) = false := by simpa using h3
      clear h2 ha h3
      go_enter Tryz.func92, Tryz.ntmps92
      go_wp2_with fail
      go_loopg [1, 2] n (fun g c o wr => wr = w ∧ ∃ (k : Nat) (x : Int), k ≤ n ∧ g = k ∧ c = .int .i64 x ∧ o = .int .i64 k ∧ Hid (i64 x ∧ x * 2 ^ k = a * 2 ^ n))
      case atStart => exact ⟨rfl, n, a, Nat.le_refl _, rfl, rfl, rfl, ⟨A.out, rfl⟩⟩
      case round =>
        obtain ⟨rfl, k, x, hk, hg, rfl, rfl, hh⟩ := hrel
        have G := Lib.hid hg; clear hg
        cases k with
        | succ k =>
          have k0 : (0 : Int) < ((k + 1 : Nat) : Int) := by omega
          by_cases hf : 4611686018427387903 < x ∨ x < -4611686018427387904
          · have hno := shl_far k hf
            rw [hh.out.2] at hno
            have HN := Lib.hid hno; clear hno
            rcases hf with hf | hf
            · go_wp2
              go_ret2
              exact ⟨ret2 (by rw [D.out, lim_out HN.out]), rfl⟩
            · have hf2 : ¬ 4611686018427387903 < x := by omega
              go_wp2
              go_ret2
              exact ⟨ret2 (by rw [D.out, lim_out HN.out]), rfl⟩
          · have hf1 : ¬ 4611686018427387903 < x := by omega
            have hf2 : ¬ x < -4611686018427387904 := by omega
            have HF := Lib.hid hf
            clear hf
            go_wp2
            go_roundg k
            case measure => have := G.out; omega
            case rel => exact ⟨rfl, k, 2 * x, by omega, rfl, rfl, rfl, ⟨by have := HF.out; unfold i64; omega, by rw [← hh.out.2, Int.pow_succ, Int.mul_comm 2 x, Int.mul_assoc, Int.mul_comm 2]⟩⟩
        | zero =>
          go_wp2
          go_ret2
          exact ⟨ret2 (by have h := hh.out.2; have h1 := hh.out.1; simp at h; rw [D.out, ← h, lim_in h1]), rfl⟩
set_option maxRecDepth 100000 in
set_option maxHeartbeats 4000000 in
theorem rtwo_any (s : ByteArray) (a b : Int) (ha : i64 a) (hb : i64 b) (w : World) : Calls Tryz.prog 67 #[.string s, .int .i64 a, .int .i64 b] w fun e w' => e = .returned (two64 (twoS s.toList a b)) ∧ w = w' := by
  obtain ⟨op, ho⟩ : ∃ op, s.toList = op := ⟨_, rfl⟩
  rw [ho]
  have A := Lib.hid ha; have B := Lib.hid hb
  obtain ⟨a0, a1⟩ := ha
  obtain ⟨b0, b1⟩ := hb
  by_cases c0 : op = [43]
  · have m0 : (op == [43]) = true := by simpa using c0
    have D := Lib.hid (show twoS op a b = lim (a + b) by rw [c0]; rfl)
    clear c0
    by_cases hi : i64 (a + b)
    · have HI := Lib.hid hi
      have hw : wrap64 (a + b) = a + b := wrap_in hi
      have HW := Lib.hid hw
      unfold i64 at hi
      clear hi hw
      go_enter Tryz.func67, Tryz.ntmps67
      go_wp2
      all_goals go_ret2
      all_goals first
        | (exfalso; have h1 := HI.out; have h2 := HW.out; unfold i64 at h1; (try unfold wrap64 at *); omega)
        | exact ⟨ret2 (by rw [D.out, lim_in HI.out, HW.out]), rfl⟩
    · have HI := Lib.hid hi
      clear hi
      go_enter Tryz.func67, Tryz.ntmps67
      go_wp2
      all_goals go_ret2
      all_goals first
        | (exfalso; have h1 := HI.out; unfold i64 at h1; (try unfold wrap64 at *); omega)
        | exact ⟨ret2 (by rw [D.out, lim_out HI.out]), rfl⟩
  have m0 : (op == [43]) = false := by simpa using c0
  by_cases c1 : op = [45]
  · have m1 : (op == [45]) = true := by simpa using c1
    have D := Lib.hid (show twoS op a b = lim (a - b) by rw [c1]; rfl)
    clear c1
    by_cases hi : i64 (a - b)
    · have HI := Lib.hid hi
      have hw : wrap64 (a - b) = a - b := wrap_in hi
      have HW := Lib.hid hw
      unfold i64 at hi
      clear hi hw
      go_enter Tryz.func67, Tryz.ntmps67
      go_wp2
      all_goals go_ret2
      all_goals first
        | (exfalso; have h1 := HI.out; have h2 := HW.out; unfold i64 at h1; (try unfold wrap64 at *); omega)
        | exact ⟨ret2 (by rw [D.out, lim_in HI.out, HW.out]), rfl⟩
    · have HI := Lib.hid hi
      clear hi
      go_enter Tryz.func67, Tryz.ntmps67
      go_wp2
      all_goals go_ret2
      all_goals first
        | (exfalso; have h1 := HI.out; unfold i64 at h1; (try unfold wrap64 at *); omega)
        | exact ⟨ret2 (by rw [D.out, lim_out HI.out]), rfl⟩
  have m1 : (op == [45]) = false := by simpa using c1
  by_cases c2 : op = [42]
  · have D := Lib.hid (show twoS op a b = lim (a * b) by rw [c2]; rfl)
    rw [D.out]
    exact rstar_any s (ho.trans c2) a b A.out B.out w
  have m2 : (op == [42]) = false := by simpa using c2
  by_cases c3 : op = [47, 47]
  · have m3 : (op == [47, 47]) = true := by simpa using c3
    have D := Lib.hid (show twoS op a b = divS op a b by rw [c3]; rfl)
    rw [D.out]
    obtain ⟨x, y, hxy⟩ : ∃ x y, divS op a b = (x, y) := ⟨_, _, rfl⟩
    have X := Lib.hid (show two64 (divS op a b) = .tuple #[.int .i64 x, .int .i64 y] by rw [hxy]; rfl)
    rw [X.out]
    clear hxy D
    have C : Hid (∀ w, Calls Tryz.prog 91 #[.string s, .int .i64 a, .int .i64 b] w fun e w' => e = .returned (.tuple #[.int .i64 x, .int .i64 y]) ∧ w = w') := fun w => by have := rdiv_any s a b A.out B.out w; rw [ho] at this; rw [X.out] at this; exact this
    clear c3
    go_enter Tryz.func67, Tryz.ntmps67
    go_wp2_with (go_at_call 91; refine (C.out _).mono ?_; rintro e w' ⟨rfl, rfl⟩)
    go_ret2
    exact ⟨rfl, rfl⟩
  have m3 : (op == [47, 47]) = false := by simpa using c3
  by_cases c4 : op = [114, 101, 109]
  · have m4 : (op == [114, 101, 109]) = true := by simpa using c4
    have D := Lib.hid (show twoS op a b = divS op a b by rw [c4]; rfl)
    rw [D.out]
    obtain ⟨x, y, hxy⟩ : ∃ x y, divS op a b = (x, y) := ⟨_, _, rfl⟩
    have X := Lib.hid (show two64 (divS op a b) = .tuple #[.int .i64 x, .int .i64 y] by rw [hxy]; rfl)
    rw [X.out]
    clear hxy D
    have C : Hid (∀ w, Calls Tryz.prog 91 #[.string s, .int .i64 a, .int .i64 b] w fun e w' => e = .returned (.tuple #[.int .i64 x, .int .i64 y]) ∧ w = w') := fun w => by have := rdiv_any s a b A.out B.out w; rw [ho] at this; rw [X.out] at this; exact this
    clear c4
    go_enter Tryz.func67, Tryz.ntmps67
    go_wp2_with (go_at_call 91; refine (C.out _).mono ?_; rintro e w' ⟨rfl, rfl⟩)
    go_ret2
    exact ⟨rfl, rfl⟩
  have m4 : (op == [114, 101, 109]) = false := by simpa using c4
  by_cases c5 : op = [109, 111, 100]
  · have m5 : (op == [109, 111, 100]) = true := by simpa using c5
    have D := Lib.hid (show twoS op a b = divS op a b by rw [c5]; rfl)
    rw [D.out]
    obtain ⟨x, y, hxy⟩ : ∃ x y, divS op a b = (x, y) := ⟨_, _, rfl⟩
    have X := Lib.hid (show two64 (divS op a b) = .tuple #[.int .i64 x, .int .i64 y] by rw [hxy]; rfl)
    rw [X.out]
    clear hxy D
    have C : Hid (∀ w, Calls Tryz.prog 91 #[.string s, .int .i64 a, .int .i64 b] w fun e w' => e = .returned (.tuple #[.int .i64 x, .int .i64 y]) ∧ w = w') := fun w => by have := rdiv_any s a b A.out B.out w; rw [ho] at this; rw [X.out] at this; exact this
    clear c5
    go_enter Tryz.func67, Tryz.ntmps67
    go_wp2_with (go_at_call 91; refine (C.out _).mono ?_; rintro e w' ⟨rfl, rfl⟩)
    go_ret2
    exact ⟨rfl, rfl⟩
  have m5 : (op == [109, 111, 100]) = false := by simpa using c5
  by_cases c6 : op = [47, 92]
  · have m6 : (op == [47, 92]) = true := by simpa using c6
    have D := Lib.hid (show twoS op a b = (bits .and .i64 a b, 0) by rw [c6]; rfl)
    clear c6
    go_enter Tryz.func67, Tryz.ntmps67
    go_wp2
    go_ret2
    exact ⟨ret2 D.out, rfl⟩
  have m6 : (op == [47, 92]) = false := by simpa using c6
  by_cases c7 : op = [92, 47]
  · have m7 : (op == [92, 47]) = true := by simpa using c7
    have D := Lib.hid (show twoS op a b = (bits .or .i64 a b, 0) by rw [c7]; rfl)
    clear c7
    go_enter Tryz.func67, Tryz.ntmps67
    go_wp2
    go_ret2
    exact ⟨ret2 D.out, rfl⟩
  have m7 : (op == [92, 47]) = false := by simpa using c7
  by_cases c8 : op = [120, 111, 114]
  · have m8 : (op == [120, 111, 114]) = true := by simpa using c8
    have D := Lib.hid (show twoS op a b = (bits .xor .i64 a b, 0) by rw [c8]; rfl)
    clear c8
    go_enter Tryz.func67, Tryz.ntmps67
    go_wp2
    go_ret2
    exact ⟨ret2 D.out, rfl⟩
  have m8 : (op == [120, 111, 114]) = false := by simpa using c8
  by_cases c9 : op = [62, 62]
  · have m9 : (op == [62, 62]) = true := by simpa using c9
    have D := Lib.hid (show twoS op a b = shS op a b by rw [c9]; rfl)
    rw [D.out]
    obtain ⟨x, y, hxy⟩ : ∃ x y, shS op a b = (x, y) := ⟨_, _, rfl⟩
    have X := Lib.hid (show two64 (shS op a b) = .tuple #[.int .i64 x, .int .i64 y] by rw [hxy]; rfl)
    rw [X.out]
    clear hxy D
    have C : Hid (∀ w, Calls Tryz.prog 92 #[.string s, .int .i64 a, .int .i64 b] w fun e w' => e = .returned (.tuple #[.int .i64 x, .int .i64 y]) ∧ w = w') := fun w => by have := rshift_any s a b A.out B.out (by rw [ho]; first | exact .inl c9 | exact .inr c9) w; rw [ho] at this; rw [X.out] at this; exact this
    clear c9
    go_enter Tryz.func67, Tryz.ntmps67
    go_wp2_with (go_at_call 92; refine (C.out _).mono ?_; rintro e w' ⟨rfl, rfl⟩)
    go_ret2
    exact ⟨rfl, rfl⟩
  have m9 : (op == [62, 62]) = false := by simpa using c9
  by_cases c10 : op = [60, 60]
  · have m10 : (op == [60, 60]) = true := by simpa using c10
    have D := Lib.hid (show twoS op a b = shS op a b by rw [c10]; rfl)
    rw [D.out]
    obtain ⟨x, y, hxy⟩ : ∃ x y, shS op a b = (x, y) := ⟨_, _, rfl⟩
    have X := Lib.hid (show two64 (shS op a b) = .tuple #[.int .i64 x, .int .i64 y] by rw [hxy]; rfl)
    rw [X.out]
    clear hxy D
    have C : Hid (∀ w, Calls Tryz.prog 92 #[.string s, .int .i64 a, .int .i64 b] w fun e w' => e = .returned (.tuple #[.int .i64 x, .int .i64 y]) ∧ w = w') := fun w => by have := rshift_any s a b A.out B.out (by rw [ho]; first | exact .inl c10 | exact .inr c10) w; rw [ho] at this; rw [X.out] at this; exact this
    clear c10
    go_enter Tryz.func67, Tryz.ntmps67
    go_wp2_with (go_at_call 92; refine (C.out _).mono ?_; rintro e w' ⟨rfl, rfl⟩)
    go_ret2
    exact ⟨rfl, rfl⟩
  have m10 : (op == [60, 60]) = false := by simpa using c10
  by_cases c11 : op = [109, 105, 110]
  · have m11 : (op == [109, 105, 110]) = true := by simpa using c11
    have D := Lib.hid (show twoS op a b = (min a b, 0) by rw [c11]; rfl)
    clear c11
    go_enter Tryz.func67, Tryz.ntmps67
    go_wp2
    all_goals go_ret2
    all_goals exact ⟨ret2 (by first | (rw [D.out]; done) | (rw [D.out]; congr 1; omega)), rfl⟩
  have m11 : (op == [109, 105, 110]) = false := by simpa using c11
  by_cases c12 : op = [109, 97, 120]
  · have m12 : (op == [109, 97, 120]) = true := by simpa using c12
    have D := Lib.hid (show twoS op a b = (max a b, 0) by rw [c12]; rfl)
    clear c12
    go_enter Tryz.func67, Tryz.ntmps67
    go_wp2
    all_goals go_ret2
    all_goals exact ⟨ret2 (by first | (rw [D.out]; done) | (rw [D.out]; congr 1; omega)), rfl⟩
  have m12 : (op == [109, 97, 120]) = false := by simpa using c12
  by_cases c13 : op = [94]
  · have m13 : (op == [94]) = true := by simpa using c13
    have D := Lib.hid (show twoS op a b = powS a b by rw [c13]; rfl)
    rw [D.out]
    obtain ⟨x, y, hxy⟩ : ∃ x y, powS a b = (x, y) := ⟨_, _, rfl⟩
    have X := Lib.hid (show two64 (powS a b) = .tuple #[.int .i64 x, .int .i64 y] by rw [hxy]; rfl)
    rw [X.out]
    clear hxy D
    have C : Hid (∀ w, Calls Tryz.prog 93 #[.int .i64 a, .int .i64 b] w fun e w' => e = .returned (.tuple #[.int .i64 x, .int .i64 y]) ∧ w = w') := fun w => by have := rpower_any a b A.out B.out w; rw [X.out] at this; exact this
    clear c13
    go_enter Tryz.func67, Tryz.ntmps67
    go_wp2_with (go_at_call 93; refine (C.out _).mono ?_; rintro e w' ⟨rfl, rfl⟩)
    go_ret2
    exact ⟨rfl, rfl⟩
  have m13 : (op == [94]) = false := by simpa using c13
  have D := Lib.hid (show twoS op a b = (0, 1) by simp [twoS, c0, c1, c2, c3, c4, c5, c6, c7, c8, c9, c10, c11, c12, c13])
  clear c0 c1 c2 c3 c4 c5 c6 c7 c8 c9 c10 c11 c12 c13
  go_enter Tryz.func67, Tryz.ntmps67
  go_wp2
  go_ret2
  exact ⟨ret2 D.out, rfl⟩
end Go.Proofs.YtcnnobcncklgfaaGreatDoor
namespace Go.Proofs.YtcnnobcncklgfaaGreatDoor
open Go Go.ChangeShapes Go.WideShapes Go.ChangeAt Go.RowKit
set_option linter.unusedVariables false
set_option maxRecDepth 100000 in
set_option maxHeartbeats 1000000 in
theorem rone_any (s : ByteArray) (a : Int) (ha : i64 a) (w : World) : Calls Tryz.prog 66 #[.string s, .int .i64 a] w fun e w' => e = .returned (two64 (oneS s.toList a)) ∧ w = w' := by
  obtain ⟨op, ho⟩ : ∃ op, s.toList = op := ⟨_, rfl⟩
  rw [ho]
  have A := Lib.hid ha
  obtain ⟨a0, a1⟩ := ha
  by_cases c1 : op = [43]
  · have m1 : (op == [43]) = true := by simpa using c1
    have D := Lib.hid (show oneS op a = (a, 0) by rw [c1]; rfl)
    clear c1
    go_enter Tryz.func66, Tryz.ntmps66
    go_wp2
    go_ret2
    exact ⟨ret2 D.out, rfl⟩
  have m1 : (op == [43]) = false := by simpa using c1
  by_cases c0 : op = [45]
  · have m0 : (op == [45]) = true := by simpa using c0
    have D := Lib.hid (show oneS op a = lim (0 - a) by rw [c0]; rfl)
    clear c0
    by_cases h : a = -9223372036854775808
    · subst h
      go_enter Tryz.func66, Tryz.ntmps66
      go_wp2_with ((go_at_call 90; refine (least_any _).mono ?_; rintro e w' ⟨rfl, rfl⟩))
      go_ret2
      exact ⟨ret2 (by rw [D.out]; decide), rfl⟩
    · have h' : (a == -9223372036854775808) = false := by simpa using h
      have L := Lib.hid (show i64 (-a) by unfold i64; omega)
      go_enter Tryz.func66, Tryz.ntmps66
      go_wp2_with ((go_at_call 90; refine (least_any _).mono ?_; rintro e w' ⟨rfl, rfl⟩))
      go_ret2
      exact ⟨ret2 (by rw [D.out, Int.zero_sub, lim_in L.out]), rfl⟩
  have m0 : (op == [45]) = false := by simpa using c0
  by_cases c2 : op = [97, 98, 115]
  · have m2 : (op == [97, 98, 115]) = true := by simpa using c2
    have D := Lib.hid (show oneS op a = lim (if a < 0 then 0 - a else a) by rw [c2]; rfl)
    clear c2
    by_cases h : a = -9223372036854775808
    · subst h
      go_enter Tryz.func66, Tryz.ntmps66
      go_wp2_with ((go_at_call 90; refine (least_any _).mono ?_; rintro e w' ⟨rfl, rfl⟩))
      go_ret2
      exact ⟨ret2 (by rw [D.out]; decide), rfl⟩
    · have h' : (a == -9223372036854775808) = false := by simpa using h
      by_cases hn : a < 0
      · rw [if_pos hn] at D
        have L := Lib.hid (show i64 (-a) by unfold i64; omega)
        go_enter Tryz.func66, Tryz.ntmps66
        go_wp2_with ((go_at_call 90; refine (least_any _).mono ?_; rintro e w' ⟨rfl, rfl⟩))
        go_ret2
        exact ⟨ret2 (by rw [D.out, Int.zero_sub, lim_in L.out]), rfl⟩
      · rw [if_neg hn] at D
        go_enter Tryz.func66, Tryz.ntmps66
        go_wp2_with ((go_at_call 90; refine (least_any _).mono ?_; rintro e w' ⟨rfl, rfl⟩))
        go_ret2
        exact ⟨ret2 (by rw [D.out, lim_in A.out]), rfl⟩
  have m2 : (op == [97, 98, 115]) = false := by simpa using c2
  by_cases c3 : op = [115, 105, 103, 110]
  · have m3 : (op == [115, 105, 103, 110]) = true := by simpa using c3
    have D := Lib.hid (show oneS op a = (max (min a 1) (-1), 0) by rw [c3]; rfl)
    clear c3
    go_enter Tryz.func66, Tryz.ntmps66
    go_wp2
    all_goals go_ret2
    all_goals exact ⟨ret2 (by first | exact D.out | exact D.out.trans (by congr 1; omega)), rfl⟩
  have m3 : (op == [115, 105, 103, 110]) = false := by simpa using c3
  by_cases c4 : op = [92]
  · have m4 : (op == [92]) = true := by simpa using c4
    have D := Lib.hid (show oneS op a = (-1 - a, 0) by rw [c4]; rfl)
    clear c4
    go_enter Tryz.func66, Tryz.ntmps66
    go_wp2
    all_goals go_ret2
    all_goals exact ⟨ret2 (by first | exact D.out | exact D.out.trans (by congr 1; omega)), rfl⟩
  have m4 : (op == [92]) = false := by simpa using c4
  have D := Lib.hid (show oneS op a = (0, 1) by simp [oneS, c0, c1, c2, c3, c4])
  clear c0 c1 c2 c3 c4
  go_enter Tryz.func66, Tryz.ntmps66
  go_wp2
  go_ret2
  exact ⟨ret2 D.out, rfl⟩
set_option maxHeartbeats 1000000 in
theorem rcmp_any (s : ByteArray) (a b : Int) (w : World) : Calls Tryz.prog 65 #[.string s, .int .i64 a, .int .i64 b] w fun e w' => e = .returned (.tuple #[.bool (cmpS s.toList a b).1, .int .i64 (cmpS s.toList a b).2]) ∧ w = w' := by
  obtain ⟨op, ho⟩ : ∃ op, s.toList = op := ⟨_, rfl⟩
  rw [ho]
  by_cases c0 : op = [61, 58, 61]
  · have m0 : (op == [61, 58, 61]) = true := by simpa using c0
    have D := Lib.hid (show cmpS op a b = (a == b, 0) by rw [c0]; rfl)
    clear c0
    go_enter Tryz.func65, Tryz.ntmps65
    go_wp2
    go_ret2
    exact ⟨retb D.out, rfl⟩
  have m0 : (op == [61, 58, 61]) = false := by simpa using c0
  by_cases c1 : op = [61, 92, 61]
  · have m1 : (op == [61, 92, 61]) = true := by simpa using c1
    have D := Lib.hid (show cmpS op a b = (a != b, 0) by rw [c1]; rfl)
    clear c1
    go_enter Tryz.func65, Tryz.ntmps65
    go_wp2
    go_ret2
    exact ⟨retb D.out, rfl⟩
  have m1 : (op == [61, 92, 61]) = false := by simpa using c1
  by_cases c2 : op = [60]
  · have m2 : (op == [60]) = true := by simpa using c2
    have D := Lib.hid (show cmpS op a b = (decide (a < b), 0) by rw [c2]; rfl)
    clear c2
    go_enter Tryz.func65, Tryz.ntmps65
    go_wp2
    go_ret2
    exact ⟨retb D.out, rfl⟩
  have m2 : (op == [60]) = false := by simpa using c2
  by_cases c3 : op = [62]
  · have m3 : (op == [62]) = true := by simpa using c3
    have D := Lib.hid (show cmpS op a b = (decide (b < a), 0) by rw [c3]; rfl)
    clear c3
    go_enter Tryz.func65, Tryz.ntmps65
    go_wp2
    go_ret2
    exact ⟨retb D.out, rfl⟩
  have m3 : (op == [62]) = false := by simpa using c3
  by_cases c4 : op = [61, 60]
  · have m4 : (op == [61, 60]) = true := by simpa using c4
    have D := Lib.hid (show cmpS op a b = (decide (a ≤ b), 0) by rw [c4]; rfl)
    clear c4
    go_enter Tryz.func65, Tryz.ntmps65
    go_wp2
    go_ret2
    exact ⟨retb D.out, rfl⟩
  have m4 : (op == [61, 60]) = false := by simpa using c4
  by_cases c5 : op = [62, 61]
  · have m5 : (op == [62, 61]) = true := by simpa using c5
    have D := Lib.hid (show cmpS op a b = (decide (b ≤ a), 0) by rw [c5]; rfl)
    clear c5
    go_enter Tryz.func65, Tryz.ntmps65
    go_wp2
    go_ret2
    exact ⟨retb D.out, rfl⟩
  have m5 : (op == [62, 61]) = false := by simpa using c5
  have D := Lib.hid (show cmpS op a b = (false, 1) by simp [cmpS, c0, c1, c2, c3, c4, c5])
  clear c0 c1 c2 c3 c4 c5
  go_enter Tryz.func65, Tryz.ntmps65
  go_wp2
  go_ret2
  exact ⟨retb D.out, rfl⟩
end Go.Proofs.YtcnnobcncklgfaaGreatDoor
