/- The contracts of the document's own answer to chapter 2: divided, shifted, power. -/
import Derived.Test.YtnnfmfiaecaahaaDoorRefW
namespace Go.Proofs.YtnnfmfiaecaahaaDoor
open Go.ChangeShapes Go.WideShapes Go.ChangeAt Go.RowKit
set_option linter.unusedVariables false
theorem tmod_m1 (a : Int) : a.tmod (-1) = 0 := by
  rw [Int.tmod_neg, Int.tmod_one]
theorem rdiv_any (s : ByteArray) (a b : Int) (ha : i64 a) (hb : i64 b) (w : World) : Calls Tryd.prog 20 #[.string s, .int .i64 a, .int .i64 b] w fun e w' => e = .returned (two64 (divS s.toList a b)) ∧ w = w' := by
  have A := Lib.hid ha; have B := Lib.hid hb
  obtain ⟨op, ho⟩ : ∃ op, s.toList = op := ⟨_, rfl⟩
  rw [ho]
  by_cases h0 : b = 0
  · subst h0
    go_enter Tryd.func20, Tryd.ntmps20
    go_wp2
    go_ret2
    exact ⟨ret2 (by simp [divS]), rfl⟩
  have H0 := Lib.hid h0
  by_cases hm : b = -1
  · subst hm
    by_cases h1 : op = [47, 47]
    · have h1' : (op == [47, 47]) = true := by simpa using h1
      by_cases h2 : a = -9223372036854775808
      · subst h2
        have H1 := Lib.hid h1; clear h1
        go_enter Tryd.func20, Tryd.ntmps20
        go_wp2_with ((go_at_call 19; refine (least_any _).mono ?_; rintro e w' ⟨rfl, rfl⟩))
        go_ret2
        exact ⟨ret2 (by rw [H1.out]; decide), rfl⟩
      · have h2' : (a == -9223372036854775808) = false := by simpa using h2
        have L := Lib.hid (show i64 (-a) by unfold i64 at *; omega)
        have H1 := Lib.hid h1; clear h1
        go_enter Tryd.func20, Tryd.ntmps20
        go_wp2_with ((go_at_call 19; refine (least_any _).mono ?_; rintro e w' ⟨rfl, rfl⟩))
        go_ret2
        exact ⟨ret2 (by rw [divS, if_neg H0.out, if_pos H1.out, Int.tdiv_neg, Int.tdiv_one, lim_in L.out, wrap_in L.out]), rfl⟩
    · have h1' : (op == [47, 47]) = false := by simpa using h1
      have D := Lib.hid (show divS op a (-1) = (0, 0) by rw [divS, if_neg H0.out, if_neg h1, tmod_m1]; simp)
      clear h1
      go_enter Tryd.func20, Tryd.ntmps20
      go_wp2
      go_ret2
      exact ⟨ret2 D.out, rfl⟩
  have hb0 : (b == 0) = false := by simpa using h0
  have hb1 : (b == -1) = false := by simpa using hm
  have D1 := Lib.hid (tdiv_in (b := b) ha (fun h => hm h.2))
  have D2 := Lib.hid (tmod_in (b := b) ha)
  clear ha hb hm
  by_cases h1 : op = [47, 47]
  · have H1 := Lib.hid h1
    have h1' : (op == [47, 47]) = true := by simpa using h1
    clear h1
    go_enter Tryd.func20, Tryd.ntmps20
    go_wp2
    go_ret2
    exact ⟨ret2 (by rw [divS, if_neg H0.out, if_pos H1.out, lim_in D1.out, wrap_in D1.out]), rfl⟩
  · have H1 := Lib.hid h1
    have h1' : (op == [47, 47]) = false := by simpa using h1
    clear h1
    by_cases h4 : op = [109, 111, 100] ∧ a.tmod b ≠ 0 ∧ (decide (a.tmod b < 0) ≠ decide (b < 0))
    · obtain ⟨k1, k2, k3⟩ := h4
      have K := Lib.hid (And.intro k1 (And.intro k2 k3))
      have W1 := Lib.hid (show wrap64 (a.tmod b + b) = a.tmod b + b from mod_in A.out B.out k2 k3)
      have m1 : (op == [109, 111, 100]) = true := by simpa using k1
      have m2 : (a.tmod b != 0) = true := by simpa using k2
      have m3 : (!(decide (a.tmod b < 0) == decide (b < 0))) = true := not_beq k3
      clear k1 k2 k3
      go_enter Tryd.func20, Tryd.ntmps20
      go_wp2
      go_ret2
      exact ⟨ret2 (by rw [divS, if_neg H0.out, if_neg H1.out, if_pos K.out, W1.out]), rfl⟩
    · have K := Lib.hid h4
      have D := Lib.hid (show divS op a b = (a.tmod b, 0) by rw [divS, if_neg H0.out, if_neg H1.out, if_neg h4])
      by_cases k1 : op = [109, 111, 100]
      · have m1 : (op == [109, 111, 100]) = true := by simpa using k1
        by_cases k2 : a.tmod b = 0
        · have m2 : (a.tmod b != 0) = false := by simpa using k2
          clear k1 k2 h4
          go_enter Tryd.func20, Tryd.ntmps20
          go_wp2
          go_ret2
          exact ⟨ret2 D.out, rfl⟩
        · have m2 : (a.tmod b != 0) = true := by simpa using k2
          have m3 : (!(decide (a.tmod b < 0) == decide (b < 0))) = false := not_beq' (Decidable.byContradiction fun h => h4 ⟨k1, k2, h⟩)
          clear k1 k2 h4
          go_enter Tryd.func20, Tryd.ntmps20
          go_wp2
          go_ret2
          exact ⟨ret2 D.out, rfl⟩
      · have m1 : (op == [109, 111, 100]) = false := by simpa using k1
        clear k1 h4
        go_enter Tryd.func20, Tryd.ntmps20
        go_wp2
        go_ret2
        exact ⟨ret2 D.out, rfl⟩
theorem rstar_ok (s : ByteArray) (hs : s.toList = [42]) (a b : Int) (ha : i64 a) (hb : i64 b) (h : i64 (a * b)) (w : World) : Calls Tryd.prog 6 #[.string s, .int .i64 a, .int .i64 b] w fun e w' => e = .returned (.tuple #[.int .i64 (a * b), .int .i64 0]) ∧ w = w' := by
  have := rstar_any s hs a b ha hb w; rw [lim_b h] at this; exact this
theorem rstar_no (s : ByteArray) (hs : s.toList = [42]) (a b : Int) (ha : i64 a) (hb : i64 b) (h : ¬ i64 (a * b)) (w : World) : Calls Tryd.prog 6 #[.string s, .int .i64 a, .int .i64 b] w fun e w' => e = .returned (.tuple #[.int .i64 0, .int .i64 3]) ∧ w = w' := by
  have := rstar_any s hs a b ha hb w; rw [lim_b' h] at this; exact this
theorem powL_big (a : Int) (h2 : 2 ≤ a ∨ a ≤ -2) : ∀ (n m : Nat) (out : Int), i64 out → 2 ^ m ≤ out.natAbs → 64 ≤ m + n → powL n out a = (0, 3) := by
  intro n
  induction n with
  | zero =>
    intro m out ho hm h64
    exfalso
    have h1 : 2 ^ 64 ≤ 2 ^ m := Nat.pow_le_pow_right (by decide) (by omega)
    unfold i64 at ho
    have h3 : (2 : Nat) ^ 64 = 18446744073709551616 := by decide
    omega
  | succ n ih =>
    intro m out ho hm h64
    by_cases hi : i64 (out * a)
    · rw [powL_step hi]
      refine ih (m + 1) _ hi ?_ (by omega)
      rw [Int.natAbs_mul, Nat.pow_succ]
      exact Nat.mul_le_mul hm (by omega)
    · exact powL_stop hi
/-- What the document's power comes to where the loop turns. -/
theorem powS_loop {a b : Int} (hb : 0 < b) (h1 : a ≠ 1) (h2 : a ≠ -1) (h3 : a ≠ 0) : powS a b = powL b.toNat 1 a := by
  rw [powS, if_neg (by omega), if_neg h2, if_neg (by omega), if_neg h3]
  split
  · exact (powL_big a (by omega) b.toNat 0 1 (by decide) (by decide) (by omega)).symm
  · rfl
set_option maxHeartbeats 1000000 in
theorem rpower_loop (a b : Int) (ha : i64 a) (hb : 0 < b) (hb2 : i64 b) (h1 : a ≠ 1) (h2 : a ≠ -1) (h3 : a ≠ 0) (w : World) : Calls Tryd.prog 22 #[.int .i64 a, .int .i64 b] w fun e w' => e = .returned (two64 (powL b.toNat 1 a)) ∧ w = w' := by
  have A := Lib.hid ha
  obtain ⟨a0, a1⟩ := ha
  obtain ⟨n, rfl⟩ := Int.eq_ofNat_of_zero_le (Int.le_of_lt hb)
  rw [Int.toNat_natCast]
  have hnl : (n : Int) ≤ 9223372036854775807 := hb2.2
  obtain ⟨r, hr⟩ : ∃ r, r = powL n 1 a := ⟨_, rfl⟩
  have HR := Lib.hid hr
  rw [← hr]
  clear hr
  have e1 : (a == 1) = false := by simpa using h1
  have e2 : (a == -1) = false := by simpa using h2
  have e3 : (a == 0) = false := by simpa using h3
  have e4 : ¬ (n : Int) < 0 := by omega
  clear h1 h2 h3 hb2
  go_enter Tryd.func22, Tryd.ntmps22
  go_wp2_with fail
  go_loopg [1, 6] n (fun g c o wr => wr = w ∧ ∃ (k : Nat) (out : Int), k ≤ n ∧ g = k ∧ o = .int .i64 out ∧ c = .int .i64 k ∧ Hid (i64 out ∧ r = powL k out a))
  case atStart => exact ⟨rfl, n, 1, Nat.le_refl _, rfl, rfl, rfl, ⟨by decide, HR.out⟩⟩
  case round =>
    obtain ⟨rfl, k, out, hk, hg, rfl, rfl, hh⟩ := hrel
    have G := Lib.hid hg; clear hg
    cases k with
    | succ k =>
      have k0 : (0 : Int) < ((k + 1 : Nat) : Int) := by omega
      have kw : IntKind.i64.wrap (((k + 1 : Nat) : Int) - 1) = (k : Int) := by rw [show ((k + 1 : Nat) : Int) - 1 = (k : Int) from by omega]; exact IntWalk.i64_in _ (by omega)
      by_cases hi : i64 (out * a)
      · have HI := Lib.hid hi; clear hi
        go_wp2_with (go_at_call 6; refine (rstar_ok _ (by decide +kernel) out a hh.out.1 A.out HI.out _).mono ?_; rintro e w' ⟨rfl, rfl⟩)
        go_roundg k
        case measure => have := G.out; omega
        case rel => exact ⟨rfl, k, out * a, by omega, rfl, rfl, by first | rfl | (congr 1; omega), ⟨HI.out, by have := hh.out.2; rw [powL_step HI.out] at this; exact this⟩⟩
      · have HI := Lib.hid hi; clear hi
        go_wp2_with (go_at_call 6; refine (rstar_no _ (by decide +kernel) out a hh.out.1 A.out HI.out _).mono ?_; rintro e w' ⟨rfl, rfl⟩)
        go_ret2
        exact ⟨ret2 (by have := hh.out.2; rw [powL_stop HI.out] at this; exact this), rfl⟩
    | zero =>
      go_wp2
      go_ret2
      exact ⟨ret2 (by have := hh.out.2; exact this), rfl⟩
end Go.Proofs.YtnnfmfiaecaahaaDoor
