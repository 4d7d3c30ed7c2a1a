/- The contracts of package whole: times, divide, shift, power, Two, One, Cmp: what each gives for every argument; the world is as it was. -/
import Derived.Test.YtcnnobcncklgfaaGreatDoorRows
import Derived.Test.YtcnnobcncklgfaaGreatDoorWholePlain
import Derived.Test.YtcnnobcncklgfaaGreatDoorVars
import Derived.WalkKit
import Derived.ProofKit
import Derived.OpenShut
import Derived.Lib.Hide
import Derived.WalkSpells
import Derived.WalkLawsBesides
import Derived.LoopTactic
import Derived.Deep.LoopGhost
namespace Go.Proofs.YtcnnobcncklgfaaGreatDoor
open Go.ChangeShapes Go.WideShapes Go.ChangeAt Go.RowKit
set_option linter.unusedVariables false
theorem times_any (a b : Int) (ha : i64 a) (hb : i64 b) (w : World) : Calls Tryz.prog 96 #[.int .i64 a, .int .i64 b] w fun e w' => e = .returned (two64 (lim (a * b))) ∧ w = w' := by
  have A := Lib.hid ha; have B := Lib.hid hb
  obtain ⟨a0, a1⟩ := ha
  obtain ⟨b0, b1⟩ := hb
  go_enter Tryz.func96, Tryz.ntmps96
  go_wp2
  · go_ret2
    subst_vars
    exact ⟨ret2 (by simp [lim, i64, wrap64]), rfl⟩
  · go_ret2
    have h : (b == -9223372036854775808) = true := by assumption
    have h1 : a = -1 := by assumption
    exact ⟨ret2 (by rw [h1]; exact lim_out (mul_min (by simpa using h))), rfl⟩
  · go_ret2
    have h : (b == -9223372036854775808) = false := by assumption
    have h1 : a = -1 := by assumption
    have h2 : i64 (-1 * b) := by
      unfold i64
      have : b ≠ -9223372036854775808 := by simpa using h
      omega
    exact ⟨ret2 (by rw [h1, lim_in h2, ← wrap_in h2]; congr 2; omega), rfl⟩
  · go_ret2
    have h0 : ¬ a = 0 := by assumption
    have h1 : wrap64 ((wrap64 (a * b)).tdiv a) = b := by assumption
    have h2 : ¬ a = -1 := by assumption
    have h3 := mul_over A.out B.out h0 h1 (fun h => h2 h.1)
    exact ⟨ret2 (by rw [lim_in h3, wrap_in h3]), rfl⟩
  · go_ret2
    have h0 : ¬ a = 0 := by assumption
    have h1 : ¬ wrap64 ((wrap64 (a * b)).tdiv a) = b := by assumption
    exact ⟨ret2 (lim_out fun h => h1 (mul_ok B.out h0 h)), rfl⟩
theorem divide_any (s : ByteArray) (a b : Int) (ha : i64 a) (hb : i64 b) (w : World) : Calls Tryz.prog 97 #[.string s, .int .i64 a, .int .i64 b] w fun e w' => e = .returned (two64 (divS s.toList a b)) ∧ w = w' := by
  have A := Lib.hid ha; have B := Lib.hid hb
  obtain ⟨op, ho⟩ : ∃ op, s.toList = op := ⟨_, rfl⟩
  rw [ho]
  by_cases h0 : b = 0
  · subst h0
    go_enter Tryz.func97, Tryz.ntmps97
    go_wp2
    go_ret2
    exact ⟨ret2 (by simp [divS]), rfl⟩
  · have H0 := Lib.hid h0
    have hb0 : (b == 0) = false := by simpa using h0
    have D1 := Lib.hid (tdiv_in (b := b) ha)
    have D2 := Lib.hid (tmod_in (b := b) ha)
    clear ha hb
    by_cases h1 : op = [47, 47]
    · have H1 := Lib.hid h1
      have h1' : (op == [47, 47]) = true := by simpa using h1
      clear h1
      by_cases h2 : a = -9223372036854775808
      · have H2 := Lib.hid h2
        have h2' : (a == -9223372036854775808) = true := by simpa using h2
        clear h2
        by_cases h3 : b = -1
        · have H3 := Lib.hid h3
          have h3' : (b == -1) = true := by simpa using h3
          clear h3
          go_enter Tryz.func97, Tryz.ntmps97
          go_wp2
          go_ret2
          exact ⟨ret2 (by rw [H1.out, H2.out, H3.out]; decide), rfl⟩
        · have h3' : (b == -1) = false := by simpa using h3
          have L := Lib.hid (D1.out (fun h => h3 h.2))
          go_enter Tryz.func97, Tryz.ntmps97
          go_wp2
          go_ret2
          exact ⟨ret2 (by rw [divS, if_neg H0.out, if_pos H1.out, lim_in L.out, wrap_in L.out]), rfl⟩
      · have L := Lib.hid (D1.out (fun h => h2 h.1))
        have h2' : (a == -9223372036854775808) = false := by simpa using h2
        go_enter Tryz.func97, Tryz.ntmps97
        go_wp2
        go_ret2
        exact ⟨ret2 (by rw [divS, if_neg H0.out, if_pos H1.out, lim_in L.out, wrap_in L.out]), rfl⟩
    · have H1 := Lib.hid h1
      have h1' : (op == [47, 47]) = false := by simpa using h1
      clear h1
      by_cases h4 : op = [109, 111, 100] ∧ a.tmod b ≠ 0 ∧ (decide (a.tmod b < 0) ≠ decide (b < 0))
      · obtain ⟨k1, k2, k3⟩ := h4
        have K := Lib.hid (And.intro k1 (And.intro k2 k3))
        have W1 := Lib.hid (show wrap64 (a.tmod b + b) = a.tmod b + b from mod_in A.out B.out k2 k3)
        have m1 : (op == [109, 111, 100]) = true := by simpa using k1
        have m2 : (a.tmod b != 0) = true := by simpa using k2
        have m3 : (!(decide (a.tmod b < 0) == decide (b < 0))) = true := not_beq k3
        clear k1 k2 k3
        go_enter Tryz.func97, Tryz.ntmps97
        go_wp2
        go_ret2
        exact ⟨ret2 (by rw [divS, if_neg H0.out, if_neg H1.out, if_pos K.out, W1.out]), rfl⟩
      · have K := Lib.hid h4
        have D := Lib.hid (show divS op a b = (a.tmod b, 0) by rw [divS, if_neg H0.out, if_neg H1.out, if_neg h4])
        by_cases k1 : op = [109, 111, 100]
        · have m1 : (op == [109, 111, 100]) = true := by simpa using k1
          by_cases k2 : a.tmod b = 0
          · have m2 : (a.tmod b != 0) = false := by simpa using k2
            clear k1 k2 h4
            go_enter Tryz.func97, Tryz.ntmps97
            go_wp2
            go_ret2
            exact ⟨ret2 D.out, rfl⟩
          · have m2 : (a.tmod b != 0) = true := by simpa using k2
            have m3 : (!(decide (a.tmod b < 0) == decide (b < 0))) = false := not_beq' (Decidable.byContradiction fun h => h4 ⟨k1, k2, h⟩)
            clear k1 k2 h4
            go_enter Tryz.func97, Tryz.ntmps97
            go_wp2
            go_ret2
            exact ⟨ret2 D.out, rfl⟩
        · have m1 : (op == [109, 111, 100]) = false := by simpa using k1
          clear k1 h4
          go_enter Tryz.func97, Tryz.ntmps97
          go_wp2
          go_ret2
          exact ⟨ret2 D.out, rfl⟩
theorem shift_any (s : ByteArray) (a b : Int) (ha : i64 a) (hb : i64 b) (w : World) : Calls Tryz.prog 98 #[.string s, .int .i64 a, .int .i64 b] w fun e w' => e = .returned (two64 (shS s.toList a b)) ∧ w = w' := by
  obtain ⟨op, ho⟩ : ∃ op, s.toList = op := ⟨_, rfl⟩
  rw [ho]
  have A := Lib.hid ha
  obtain ⟨a0, a1⟩ := ha
  obtain ⟨b0, b1⟩ := hb
  by_cases h1 : b < 0 ∨ 64 ≤ b
  · have D := Lib.hid (show shS op a b = (0, 5) by rw [shS, if_pos h1])
    rcases h1 with h1 | h1
    · go_enter Tryz.func98, Tryz.ntmps98
      go_wp2
      go_ret2
      exact ⟨ret2 D.out, rfl⟩
    · go_enter Tryz.func98, Tryz.ntmps98
      go_wp2
      go_ret2
      exact ⟨ret2 D.out, rfl⟩
  · have H1 := Lib.hid h1
    have g0 : 0 ≤ b := by omega
    have g1 : b < 64 := by omega
    clear h1
    by_cases h2 : op = [62, 62]
    · have D := Lib.hid (show shS op a b = (a / 2 ^ b.toNat, 0) by rw [shS, if_neg H1.out, if_pos h2])
      have h2' : (op == [62, 62]) = true := by simpa using h2
      clear h2
      go_enter Tryz.func98, Tryz.ntmps98
      go_wp2
      go_ret2
      exact ⟨ret2 D.out, rfl⟩
    · have D := Lib.hid (show shS op a b = lim (a * 2 ^ b.toNat) by rw [shS, if_neg H1.out, if_neg h2])
      have h2' : (op == [62, 62]) = false := by simpa using h2
      clear h2
      have hn := Lib.hid (show b.toNat < 64 by omega)
      go_enter Tryz.func98, Tryz.ntmps98
      go_wp2
      · go_ret2
        have h := shl_no (a := a) b.toNat (by assumption)
        exact ⟨ret2 (by rw [D.out, lim_out h]), rfl⟩
      · go_ret2
        have h := shl_ok (a := a) b.toNat (by assumption) hn.out
        exact ⟨ret2 (by rw [D.out, lim_in h, wrap_in h]), rfl⟩
theorem powL_step {n : Nat} {out a : Int} (h : i64 (out * a)) : powL (n + 1) out a = powL n (out * a) a := if_pos h
theorem powL_stop {n : Nat} {out a : Int} (h : ¬ i64 (out * a)) : powL (n + 1) out a = (0, 3) := if_neg h
theorem lim_b {x : Int} (h : i64 x) : two64 (lim x) = .tuple #[.int .i64 x, .int .i64 0] := by rw [lim_in h]; rfl
theorem lim_b' {x : Int} (h : ¬ i64 x) : two64 (lim x) = .tuple #[.int .i64 0, .int .i64 3] := by rw [lim_out h]; rfl
theorem times_ok (a b : Int) (ha : i64 a) (hb : i64 b) (h : i64 (a * b)) (w : World) : Calls Tryz.prog 96 #[.int .i64 a, .int .i64 b] w fun e w' => e = .returned (.tuple #[.int .i64 (a * b), .int .i64 0]) ∧ w = w' := by
  have := times_any a b ha hb w; rw [lim_b h] at this; exact this
theorem times_no (a b : Int) (ha : i64 a) (hb : i64 b) (h : ¬ i64 (a * b)) (w : World) : Calls Tryz.prog 96 #[.int .i64 a, .int .i64 b] w fun e w' => e = .returned (.tuple #[.int .i64 0, .int .i64 3]) ∧ w = w' := by
  have := times_any a b ha hb w; rw [lim_b' h] at this; exact this
set_option maxHeartbeats 1000000 in
theorem power_loop (a b : Int) (ha : i64 a) (hb : 0 < b) (hb2 : b < 64) (h1 : a ≠ 1) (h2 : a ≠ -1) (h3 : a ≠ 0) (w : World) : Calls Tryz.prog 99 #[.int .i64 a, .int .i64 b] w fun e w' => e = .returned (two64 (powL b.toNat 1 a)) ∧ w = w' := by
  have A := Lib.hid ha
  obtain ⟨a0, a1⟩ := ha
  obtain ⟨n, rfl⟩ := Int.eq_ofNat_of_zero_le (Int.le_of_lt hb)
  rw [Int.toNat_natCast]
  obtain ⟨r, hr⟩ : ∃ r, r = powL n 1 a := ⟨_, rfl⟩
  have HR := Lib.hid hr
  rw [← hr]
  clear hr
  have e1 : (a == 1) = false := by simpa using h1
  have e2 : (a == -1) = false := by simpa using h2
  have e3 : (a == 0) = false := by simpa using h3
  have e4 : ((n : Int) == 0) = false := by simp; omega
  clear h1 h2 h3
  go_enter Tryz.func99, Tryz.ntmps99
  go_wp2_with fail
  go_loopg [6, 7, 32] n (fun g o e c wr => wr = w ∧ ∃ (k : Nat) (out : Int), k ≤ n ∧ g = n - k ∧ o = .int .i64 out ∧ e = .int .i64 0 ∧ c = .int .i64 k ∧ Hid (i64 out ∧ r = powL (n - k) out a))
  case atStart => exact ⟨rfl, 0, 1, Nat.zero_le _, rfl, rfl, rfl, rfl, ⟨by decide, HR.out⟩⟩
  case round =>
    obtain ⟨rfl, k, out, hk, hg, rfl, rfl, rfl, hh⟩ := hrel
    have G := Lib.hid hg; clear hg
    by_cases hlt : k < n
    · have hlt' : (k : Int) < (n : Int) := by omega
      have e5 : n - k = (n - (k + 1)) + 1 := by omega
      have E5 := Lib.hid e5
      clear e5
      by_cases hi : i64 (out * a)
      · have HI := Lib.hid hi; clear hi
        go_wp2_with (go_at_call 96; refine (times_ok out a hh.out.1 A.out HI.out _).mono ?_; rintro e w' ⟨rfl, rfl⟩)
        go_roundg (gk - 1)
        case measure => have := G.out; omega
        case rel => exact ⟨rfl, k + 1, out * a, by omega, by have := G.out; omega, rfl, rfl, by go_num, ⟨HI.out, by have := hh.out.2; rw [E5.out, powL_step HI.out] at this; exact this⟩⟩
      · have HI := Lib.hid hi; clear hi
        go_wp2_with (go_at_call 96; refine (times_no out a hh.out.1 A.out HI.out _).mono ?_; rintro e w' ⟨rfl, rfl⟩)
        go_ret2
        exact ⟨ret2 (by have := hh.out.2; rw [E5.out, powL_stop HI.out] at this; exact this), rfl⟩
    · have hlt' : ¬ (k : Int) < (n : Int) := by omega
      have e5 : n - k = 0 := by omega
      have E5 := Lib.hid e5
      clear e5
      go_wp2
      go_ret2
      exact ⟨ret2 (by have := hh.out.2; rw [E5.out] at this; exact this), rfl⟩
theorem power_any (a b : Int) (ha : i64 a) (hb : i64 b) (w : World) : Calls Tryz.prog 99 #[.int .i64 a, .int .i64 b] w fun e w' => e = .returned (two64 (powS a b)) ∧ w = w' := by
  by_cases h1 : b = 0 ∨ a = 1
  · have D := Lib.hid (show powS a b = (1, 0) by rw [powS, if_pos h1])
    by_cases e : b = 0
    · have e' : (b == 0) = true := by simpa using e
      clear e h1
      obtain ⟨a0, a1⟩ := ha
      obtain ⟨b0, b1⟩ := hb
      go_enter Tryz.func99, Tryz.ntmps99
      go_wp2
      go_ret2
      exact ⟨ret2 D.out, rfl⟩
    · have e' : (b == 0) = false := by simpa using e
      have e2 : (a == 1) = true := by simpa [e] using h1
      clear e h1
      obtain ⟨a0, a1⟩ := ha
      obtain ⟨b0, b1⟩ := hb
      go_enter Tryz.func99, Tryz.ntmps99
      go_wp2
      go_ret2
      exact ⟨ret2 D.out, rfl⟩
  · have hb0 : b ≠ 0 := fun e => h1 (Or.inl e)
    have ha1 : a ≠ 1 := fun e => h1 (Or.inr e)
    have e1 : (b == 0) = false := by simpa using hb0
    have e2 : (a == 1) = false := by simpa using ha1
    by_cases h2 : a = -1
    · have e3 : (a == -1) = true := by simpa using h2
      have D := Lib.hid (show powS a b = (if b.tmod 2 = 0 then (1, 0) else (a, 0)) by rw [powS, if_neg h1, if_pos h2])
      by_cases h3 : b.tmod 2 = 0
      · have e4 : (b.tmod 2 == 0) = true := by simpa using h3
        have D2 := Lib.hid (D.out.trans (if_pos h3))
        clear h1 h2 h3 hb0 ha1
        obtain ⟨a0, a1⟩ := ha
        obtain ⟨b0, b1⟩ := hb
        go_enter Tryz.func99, Tryz.ntmps99
        go_wp2
        go_ret2
        exact ⟨ret2 D2.out, rfl⟩
      · have e4 : (b.tmod 2 == 0) = false := by simpa using h3
        have D2 := Lib.hid (D.out.trans (if_neg h3))
        clear h1 h2 h3 hb0 ha1
        obtain ⟨a0, a1⟩ := ha
        obtain ⟨b0, b1⟩ := hb
        go_enter Tryz.func99, Tryz.ntmps99
        go_wp2
        go_ret2
        exact ⟨ret2 D2.out, rfl⟩
    · have e3 : (a == -1) = false := by simpa using h2
      by_cases h3 : b < 0
      · have D := Lib.hid (show powS a b = (0, 5) by rw [powS, if_neg h1, if_neg h2, if_pos h3])
        clear h1 h2 hb0 ha1
        obtain ⟨a0, a1⟩ := ha
        obtain ⟨b0, b1⟩ := hb
        go_enter Tryz.func99, Tryz.ntmps99
        go_wp2
        go_ret2
        exact ⟨ret2 D.out, rfl⟩
      · by_cases h4 : a = 0
        · have e4 : (a == 0) = true := by simpa using h4
          have D := Lib.hid (show powS a b = (0, 0) by rw [powS, if_neg h1, if_neg h2, if_neg h3, if_pos h4])
          clear h1 h2 hb0 ha1 h4
          obtain ⟨a0, a1⟩ := ha
          obtain ⟨b0, b1⟩ := hb
          go_enter Tryz.func99, Tryz.ntmps99
          go_wp2
          go_ret2
          exact ⟨ret2 D.out, rfl⟩
        · have e4 : (a == 0) = false := by simpa using h4
          by_cases h5 : 64 ≤ b
          · have D := Lib.hid (show powS a b = (0, 3) by rw [powS, if_neg h1, if_neg h2, if_neg h3, if_neg h4, if_pos h5])
            clear h1 h2 hb0 ha1 h4
            obtain ⟨a0, a1⟩ := ha
            obtain ⟨b0, b1⟩ := hb
            go_enter Tryz.func99, Tryz.ntmps99
            go_wp2
            go_ret2
            exact ⟨ret2 D.out, rfl⟩
          · rw [show powS a b = powL b.toNat 1 a by rw [powS, if_neg h1, if_neg h2, if_neg h3, if_neg h4, if_neg h5]]
            exact power_loop a b ha (by omega) (by omega) ha1 h2 h4 w
end Go.Proofs.YtcnnobcncklgfaaGreatDoor
