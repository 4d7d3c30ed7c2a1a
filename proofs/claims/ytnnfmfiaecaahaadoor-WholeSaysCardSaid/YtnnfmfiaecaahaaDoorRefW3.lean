/- The contracts of the document's own answer to chapter 2: shifted, power, Two. -/
import Derived.Test.YtnnfmfiaecaahaaDoorRefW2
namespace Go.Proofs.YtnnfmfiaecaahaaDoor
open Go.ChangeShapes Go.WideShapes Go.ChangeAt Go.RowKit
set_option linter.unusedVariables false
theorem rpower_any (a b : Int) (ha : i64 a) (hb : i64 b) (w : World) : Calls Tryd.prog 22 #[.int .i64 a, .int .i64 b] w fun e w' => e = .returned (two64 (powS a b)) ∧ w = w' := by
  by_cases h1 : a = 1
  · have D := Lib.hid (show powS a b = (1, 0) by rw [powS, if_pos (.inr h1)])
    subst h1
    clear ha hb
    go_enter Tryd.func22, Tryd.ntmps22
    go_wp2
    all_goals go_ret2
    all_goals exact ⟨ret2 D.out, rfl⟩
  by_cases h2 : a = -1
  · subst h2
    by_cases hz : b.tmod 2 = 0
    · have D := Lib.hid (show powS (-1) b = (1, 0) by rw [powS]; split; rfl; simp)
      clear ha hb h1
      go_enter Tryd.func22, Tryd.ntmps22
      go_wp2
      all_goals go_ret2
      all_goals exact ⟨ret2 D.out, rfl⟩
    · have hb0 : b ≠ 0 := by rintro rfl; exact hz rfl
      have D := Lib.hid (show powS (-1) b = (-1, 0) by rw [powS, if_neg (by omega), if_pos rfl, if_neg hz])
      clear ha hb h1 hb0
      go_enter Tryd.func22, Tryd.ntmps22
      go_wp2
      all_goals go_ret2
      all_goals exact ⟨ret2 D.out, rfl⟩
  have e1 : (a == 1) = false := by simpa using h1
  have e2 : (a == -1) = false := by simpa using h2
  by_cases h3 : b < 0
  · have D := Lib.hid (show powS a b = (0, 5) by rw [powS, if_neg (by omega), if_neg h2, if_pos h3])
    clear ha hb h1 h2
    go_enter Tryd.func22, Tryd.ntmps22
    go_wp2
    go_ret2
    exact ⟨ret2 D.out, rfl⟩
  by_cases h4 : b = 0
  · subst h4
    have D := Lib.hid (show powS a 0 = (1, 0) by rw [powS, if_pos (.inl rfl)])
    clear ha hb h1 h2
    cases ez : a == 0
    · go_enter Tryd.func22, Tryd.ntmps22
      go_wp2_with fail
      go_loopg [1, 6] 0 (fun g c o wr => wr = w ∧ o = .int .i64 1 ∧ c = .int .i64 0)
      case atStart => exact ⟨rfl, rfl, rfl⟩
      case round =>
        obtain ⟨rfl, rfl, rfl⟩ := hrel
        go_wp2
        go_ret2
        exact ⟨ret2 D.out, rfl⟩
    · go_enter Tryd.func22, Tryd.ntmps22
      go_wp2_with fail
      go_loopg [1, 6] 0 (fun g c o wr => wr = w ∧ o = .int .i64 1 ∧ c = .int .i64 0)
      case atStart => exact ⟨rfl, rfl, rfl⟩
      case round =>
        obtain ⟨rfl, rfl, rfl⟩ := hrel
        go_wp2
        go_ret2
        exact ⟨ret2 D.out, rfl⟩
  have hb3 : 0 < b := by omega
  by_cases h5 : a = 0
  · subst h5
    have D := Lib.hid (show powS 0 b = (0, 0) by rw [powS, if_neg (by omega), if_neg (by omega), if_neg h3, if_pos rfl])
    clear ha hb h1 h2 h3 h4
    go_enter Tryd.func22, Tryd.ntmps22
    go_wp2
    go_ret2
    exact ⟨ret2 D.out, rfl⟩
  rw [powS_loop hb3 h1 h2 h5]
  exact rpower_loop a b ha hb3 hb h1 h2 h5 w
theorem and_one {x : Int} (h : i64 x) : bits .and .i64 x 1 = x % 2 := by
  have e : IntKind.i64.wrap ((BitVec.ofInt 64 x &&& BitVec.ofInt 64 1).toNat : Int) = x % 2 := by
    rw [BitVec.toNat_and, show (BitVec.ofInt 64 1).toNat = 1 by decide, Nat.and_one_is_mod, BitVec.toNat_ofInt, IntKind.wrap_i64]
    unfold i64 at h
    omega
  exact e
theorem shr_step {x : Int} (h : i64 x) : wrap64 ((wrap64 (x - x % 2)).tdiv 2) = x / 2 := by
  have h1 : x - x % 2 = 2 * (x / 2) := by omega
  have h2 : i64 (2 * (x / 2)) := by unfold i64 at *; omega
  have h3 : i64 (x / 2) := by unfold i64 at *; omega
  rw [h1, wrap_in h2, Int.mul_tdiv_cancel_left _ (by decide), wrap_in h3]
theorem shr_pow (x : Int) (k : Nat) : x / 2 / 2 ^ k = x / 2 ^ (k + 1) := by
  rw [Int.ediv_ediv_of_nonneg (by decide), Int.pow_succ, Int.mul_comm]
theorem shl_far {x : Int} (k : Nat) (h : 4611686018427387903 < x ∨ x < -4611686018427387904) : ¬ i64 (x * 2 ^ (k + 1)) := by
  have hp : (0 : Int) < 2 ^ k := Int.pow_pos (by decide)
  have e : x * 2 ^ (k + 1) = 2 * x + 2 * (x * (2 ^ k - 1)) := by
    rw [Int.pow_succ, Int.mul_sub, Int.mul_one, ← Int.mul_assoc]; omega
  rw [e]
  unfold i64
  rcases h with h | h
  · have := Int.mul_nonneg (show (0 : Int) ≤ x by omega) (show (0 : Int) ≤ 2 ^ k - 1 by omega)
    omega
  · have := Int.mul_nonneg (show (0 : Int) ≤ -x by omega) (show (0 : Int) ≤ 2 ^ k - 1 by omega)
    rw [Int.neg_mul] at this
    omega
set_option maxHeartbeats 1000000 in
theorem rshift_any (s : ByteArray) (a b : Int) (ha : i64 a) (hb : i64 b) (hop : s.toList = [62, 62] ∨ s.toList = [60, 60]) (w : World) : Calls Tryd.prog 21 #[.string s, .int .i64 a, .int .i64 b] w fun e w' => e = .returned (two64 (shS s.toList a b)) ∧ w = w' := by
  obtain ⟨op, ho⟩ : ∃ op, s.toList = op := ⟨_, rfl⟩
  rw [ho] at hop ⊢
  have A := Lib.hid ha
  obtain ⟨b0, b1⟩ := hb
  by_cases h1 : b < 0 ∨ 64 ≤ b
  · have D := Lib.hid (show shS op a b = (0, 5) by rw [shS, if_pos h1])
    rcases h1 with h1 | h1
    · go_enter Tryd.func21, Tryd.ntmps21
      go_wp2
      go_ret2
      exact ⟨ret2 D.out, rfl⟩
    · have g0 : ¬ b < 0 := by omega
      go_enter Tryd.func21, Tryd.ntmps21
      go_wp2
      go_ret2
      exact ⟨ret2 D.out, rfl⟩
  · have H1 := Lib.hid h1
    have g0 : ¬ b < 0 := by omega
    have g1 : b < 64 := by omega
    clear h1
    obtain ⟨n, rfl⟩ := Int.eq_ofNat_of_zero_le (show 0 ≤ b by omega)
    have hn := Lib.hid (show n < 64 by omega)
    rcases hop with h2 | h2
    · have D := Lib.hid (show shS op a n = (a / 2 ^ n, 0) by rw [shS, if_neg H1.out, if_pos h2, Int.toNat_natCast])
      have h2' : (op == [62, 62]) = true := by simpa using h2
      clear h2 ha
      go_enter Tryd.func21, Tryd.ntmps21
      go_wp2_with fail
      go_loopg [1, 2] n (fun g c o wr => wr = w ∧ ∃ (k : Nat) (x : Int), k ≤ n ∧ g = k ∧ c = .int .i64 x ∧ o = .int .i64 k ∧ Hid (i64 x ∧ x / 2 ^ k = a / 2 ^ n))
      case atStart => exact ⟨rfl, n, a, Nat.le_refl _, rfl, rfl, rfl, ⟨A.out, rfl⟩⟩
      case round =>
        obtain ⟨rfl, k, x, hk, hg, rfl, rfl, hh⟩ := hrel
        have G := Lib.hid hg; clear hg
        cases k with
        | succ k =>
          have k0 : (0 : Int) < ((k + 1 : Nat) : Int) := by omega
          have ha1 := and_one hh.out.1
          have hs1 := shr_step hh.out.1
          go_wp2
          go_roundg k
          case measure => have := G.out; omega
          case rel => exact ⟨rfl, k, x / 2, by omega, rfl, congrArg (Value.int .i64) (shr_step hh.out.1), rfl, ⟨by have := hh.out.1; unfold i64 at *; omega, (shr_pow x k).trans hh.out.2⟩⟩
        | zero =>
          go_wp2
          go_ret2
          exact ⟨ret2 (by rw [D.out, ← hh.out.2]; simp), rfl⟩
    · have h3 : op ≠ [62, 62] := by rw [h2]; decide
      have D := Lib.hid (show shS op a n = lim (a * 2 ^ n) by rw [shS, if_neg H1.out, if_neg h3, Int.toNat_natCast])
      have h2' : (op == [62, 62]) = false := by simpa using h3
      clear h2 ha h3
      go_enter Tryd.func21, Tryd.ntmps21
      go_wp2_with fail
      go_loopg [1, 2] n (fun g c o wr => wr = w ∧ ∃ (k : Nat) (x : Int), k ≤ n ∧ g = k ∧ c = .int .i64 x ∧ o = .int .i64 k ∧ Hid (i64 x ∧ x * 2 ^ k = a * 2 ^ n))
      case atStart => exact ⟨rfl, n, a, Nat.le_refl _, rfl, rfl, rfl, ⟨A.out, rfl⟩⟩
      case round =>
        obtain ⟨rfl, k, x, hk, hg, rfl, rfl, hh⟩ := hrel
        have G := Lib.hid hg; clear hg
        cases k with
        | succ k =>
          have k0 : (0 : Int) < ((k + 1 : Nat) : Int) := by omega
          by_cases hf : 4611686018427387903 < x ∨ x < -4611686018427387904
          · have hno := shl_far k hf
            rw [hh.out.2] at hno
            have HN := Lib.hid hno; clear hno
            rcases hf with hf | hf
            · go_wp2
              go_ret2
              exact ⟨ret2 (by rw [D.out, lim_out HN.out]), rfl⟩
            · have hf2 : ¬ 4611686018427387903 < x := by omega
              go_wp2
              go_ret2
              exact ⟨ret2 (by rw [D.out, lim_out HN.out]), rfl⟩
          · have hf1 : ¬ 4611686018427387903 < x := by omega
            have hf2 : ¬ x < -4611686018427387904 := by omega
            have HF := Lib.hid hf
            clear hf
            go_wp2
            go_roundg k
            case measure => have := G.out; omega
            case rel => exact ⟨rfl, k, 2 * x, by omega, rfl, rfl, rfl, ⟨by have := HF.out; unfold i64; omega, by rw [← hh.out.2, Int.pow_succ, Int.mul_comm 2 x, Int.mul_assoc, Int.mul_comm 2]⟩⟩
        | zero =>
          go_wp2
          go_ret2
          exact ⟨ret2 (by have h := hh.out.2; have h1 := hh.out.1; simp at h; rw [D.out, ← h, lim_in h1]), rfl⟩
set_option maxRecDepth 100000 in
set_option maxHeartbeats 4000000 in
theorem rtwo_any (s : ByteArray) (a b : Int) (ha : i64 a) (hb : i64 b) (w : World) : Calls Tryd.prog 6 #[.string s, .int .i64 a, .int .i64 b] w fun e w' => e = .returned (two64 (twoS s.toList a b)) ∧ w = w' := by
  obtain ⟨op, ho⟩ : ∃ op, s.toList = op := ⟨_, rfl⟩
  rw [ho]
  have A := Lib.hid ha; have B := Lib.hid hb
  obtain ⟨a0, a1⟩ := ha
  obtain ⟨b0, b1⟩ := hb
  by_cases c0 : op = [43]
  · have m0 : (op == [43]) = true := by simpa using c0
    have D := Lib.hid (show twoS op a b = lim (a + b) by rw [c0]; rfl)
    clear c0
    by_cases hi : i64 (a + b)
    · have HI := Lib.hid hi
      have hw : wrap64 (a + b) = a + b := wrap_in hi
      have HW := Lib.hid hw
      unfold i64 at hi
      clear hi hw
      go_enter Tryd.func6, Tryd.ntmps6
      go_wp2
      all_goals go_ret2
      all_goals first
        | (exfalso; have h1 := HI.out; have h2 := HW.out; unfold i64 at h1; (try unfold wrap64 at *); omega)
        | exact ⟨ret2 (by rw [D.out, lim_in HI.out, HW.out]), rfl⟩
    · have HI := Lib.hid hi
      clear hi
      go_enter Tryd.func6, Tryd.ntmps6
      go_wp2
      all_goals go_ret2
      all_goals first
        | (exfalso; have h1 := HI.out; unfold i64 at h1; (try unfold wrap64 at *); omega)
        | exact ⟨ret2 (by rw [D.out, lim_out HI.out]), rfl⟩
  have m0 : (op == [43]) = false := by simpa using c0
  by_cases c1 : op = [45]
  · have m1 : (op == [45]) = true := by simpa using c1
    have D := Lib.hid (show twoS op a b = lim (a - b) by rw [c1]; rfl)
    clear c1
    by_cases hi : i64 (a - b)
    · have HI := Lib.hid hi
      have hw : wrap64 (a - b) = a - b := wrap_in hi
      have HW := Lib.hid hw
      unfold i64 at hi
      clear hi hw
      go_enter Tryd.func6, Tryd.ntmps6
      go_wp2
      all_goals go_ret2
      all_goals first
        | (exfalso; have h1 := HI.out; have h2 := HW.out; unfold i64 at h1; (try unfold wrap64 at *); omega)
        | exact ⟨ret2 (by rw [D.out, lim_in HI.out, HW.out]), rfl⟩
    · have HI := Lib.hid hi
      clear hi
      go_enter Tryd.func6, Tryd.ntmps6
      go_wp2
      all_goals go_ret2
      all_goals first
        | (exfalso; have h1 := HI.out; unfold i64 at h1; (try unfold wrap64 at *); omega)
        | exact ⟨ret2 (by rw [D.out, lim_out HI.out]), rfl⟩
  have m1 : (op == [45]) = false := by simpa using c1
  by_cases c2 : op = [42]
  · have D := Lib.hid (show twoS op a b = lim (a * b) by rw [c2]; rfl)
    rw [D.out]
    exact rstar_any s (ho.trans c2) a b A.out B.out w
  have m2 : (op == [42]) = false := by simpa using c2
  by_cases c3 : op = [47, 47]
  · have m3 : (op == [47, 47]) = true := by simpa using c3
    have D := Lib.hid (show twoS op a b = divS op a b by rw [c3]; rfl)
    rw [D.out]
    obtain ⟨x, y, hxy⟩ : ∃ x y, divS op a b = (x, y) := ⟨_, _, rfl⟩
    have X := Lib.hid (show two64 (divS op a b) = .tuple #[.int .i64 x, .int .i64 y] by rw [hxy]; rfl)
    rw [X.out]
    clear hxy D
    have C : Hid (∀ w, Calls Tryd.prog 20 #[.string s, .int .i64 a, .int .i64 b] w fun e w' => e = .returned (.tuple #[.int .i64 x, .int .i64 y]) ∧ w = w') := fun w => by have := rdiv_any s a b A.out B.out w; rw [ho] at this; rw [X.out] at this; exact this
    clear c3
    go_enter Tryd.func6, Tryd.ntmps6
    go_wp2_with (go_at_call 20; refine (C.out _).mono ?_; rintro e w' ⟨rfl, rfl⟩)
    go_ret2
    exact ⟨rfl, rfl⟩
  have m3 : (op == [47, 47]) = false := by simpa using c3
  by_cases c4 : op = [114, 101, 109]
  · have m4 : (op == [114, 101, 109]) = true := by simpa using c4
    have D := Lib.hid (show twoS op a b = divS op a b by rw [c4]; rfl)
    rw [D.out]
    obtain ⟨x, y, hxy⟩ : ∃ x y, divS op a b = (x, y) := ⟨_, _, rfl⟩
    have X := Lib.hid (show two64 (divS op a b) = .tuple #[.int .i64 x, .int .i64 y] by rw [hxy]; rfl)
    rw [X.out]
    clear hxy D
    have C : Hid (∀ w, Calls Tryd.prog 20 #[.string s, .int .i64 a, .int .i64 b] w fun e w' => e = .returned (.tuple #[.int .i64 x, .int .i64 y]) ∧ w = w') := fun w => by have := rdiv_any s a b A.out B.out w; rw [ho] at this; rw [X.out] at this; exact this
    clear c4
    go_enter Tryd.func6, Tryd.ntmps6
    go_wp2_with (go_at_call 20; refine (C.out _).mono ?_; rintro e w' ⟨rfl, rfl⟩)
    go_ret2
    exact ⟨rfl, rfl⟩
  have m4 : (op == [114, 101, 109]) = false := by simpa using c4
  by_cases c5 : op = [109, 111, 100]
  · have m5 : (op == [109, 111, 100]) = true := by simpa using c5
    have D := Lib.hid (show twoS op a b = divS op a b by rw [c5]; rfl)
    rw [D.out]
    obtain ⟨x, y, hxy⟩ : ∃ x y, divS op a b = (x, y) := ⟨_, _, rfl⟩
    have X := Lib.hid (show two64 (divS op a b) = .tuple #[.int .i64 x, .int .i64 y] by rw [hxy]; rfl)
    rw [X.out]
    clear hxy D
    have C : Hid (∀ w, Calls Tryd.prog 20 #[.string s, .int .i64 a, .int .i64 b] w fun e w' => e = .returned (.tuple #[.int .i64 x, .int .i64 y]) ∧ w = w') := fun w => by have := rdiv_any s a b A.out B.out w; rw [ho] at this; rw [X.out] at this; exact this
    clear c5
    go_enter Tryd.func6, Tryd.ntmps6
    go_wp2_with (go_at_call 20; refine (C.out _).mono ?_; rintro e w' ⟨rfl, rfl⟩)
    go_ret2
    exact ⟨rfl, rfl⟩
  have m5 : (op == [109, 111, 100]) = false := by simpa using c5
  by_cases c6 : op = [47, 92]
  · have m6 : (op == [47, 92]) = true := by simpa using c6
    have D := Lib.hid (show twoS op a b = (bits .and .i64 a b, 0) by rw [c6]; rfl)
    clear c6
    go_enter Tryd.func6, Tryd.ntmps6
    go_wp2
    go_ret2
    exact ⟨ret2 D.out, rfl⟩
  have m6 : (op == [47, 92]) = false := by simpa using c6
  by_cases c7 : op = [92, 47]
  · have m7 : (op == [92, 47]) = true := by simpa using c7
    have D := Lib.hid (show twoS op a b = (bits .or .i64 a b, 0) by rw [c7]; rfl)
    clear c7
    go_enter Tryd.func6, Tryd.ntmps6
    go_wp2
    go_ret2
    exact ⟨ret2 D.out, rfl⟩
  have m7 : (op == [92, 47]) = false := by simpa using c7
  by_cases c8 : op = [120, 111, 114]
  · have m8 : (op == [120, 111, 114]) = true := by simpa using c8
    have D := Lib.hid (show twoS op a b = (bits .xor .i64 a b, 0) by rw [c8]; rfl)
    clear c8
    go_enter Tryd.func6, Tryd.ntmps6
    go_wp2
    go_ret2
    exact ⟨ret2 D.out, rfl⟩
  have m8 : (op == [120, 111, 114]) = false := by simpa using c8
  by_cases c9 : op = [62, 62]
  · have m9 : (op == [62, 62]) = true := by simpa using c9
    have D := Lib.hid (show twoS op a b = shS op a b by rw [c9]; rfl)
    rw [D.out]
    obtain ⟨x, y, hxy⟩ : ∃ x y, shS op a b = (x, y) := ⟨_, _, rfl⟩
    have X := Lib.hid (show two64 (shS op a b) = .tuple #[.int .i64 x, .int .i64 y] by rw [hxy]; rfl)
    rw [X.out]
    clear hxy D
    have C : Hid (∀ w, Calls Tryd.prog 21 #[.string s, .int .i64 a, .int .i64 b] w fun e w' => e = .returned (.tuple #[.int .i64 x, .int .i64 y]) ∧ w = w') := fun w => by have := rshift_any s a b A.out B.out (by rw [ho]; first | exact .inl c9 | exact .inr c9) w; rw [ho] at this; rw [X.out] at this; exact this
    clear c9
    go_enter Tryd.func6, Tryd.ntmps6
    go_wp2_with (go_at_call 21; refine (C.out _).mono ?_; rintro e w' ⟨rfl, rfl⟩)
    go_ret2
    exact ⟨rfl, rfl⟩
  have m9 : (op == [62, 62]) = false := by simpa using c9
  by_cases c10 : op = [60, 60]
  · have m10 : (op == [60, 60]) = true := by simpa using c10
    have D := Lib.hid (show twoS op a b = shS op a b by rw [c10]; rfl)
    rw [D.out]
    obtain ⟨x, y, hxy⟩ : ∃ x y, shS op a b = (x, y) := ⟨_, _, rfl⟩
    have X := Lib.hid (show two64 (shS op a b) = .tuple #[.int .i64 x, .int .i64 y] by rw [hxy]; rfl)
    rw [X.out]
    clear hxy D
    have C : Hid (∀ w, Calls Tryd.prog 21 #[.string s, .int .i64 a, .int .i64 b] w fun e w' => e = .returned (.tuple #[.int .i64 x, .int .i64 y]) ∧ w = w') := fun w => by have := rshift_any s a b A.out B.out (by rw [ho]; first | exact .inl c10 | exact .inr c10) w; rw [ho] at this; rw [X.out] at this; exact this
    clear c10
    go_enter Tryd.func6, Tryd.ntmps6
    go_wp2_with (go_at_call 21; refine (C.out _).mono ?_; rintro e w' ⟨rfl, rfl⟩)
    go_ret2
    exact ⟨rfl, rfl⟩
  have m10 : (op == [60, 60]) = false := by simpa using c10
  by_cases c11 : op = [109, 105, 110]
  · have m11 : (op == [109, 105, 110]) = true := by simpa using c11
    have D := Lib.hid (show twoS op a b = (min a b, 0) by rw [c11]; rfl)
    clear c11
    go_enter Tryd.func6, Tryd.ntmps6
    go_wp2
    all_goals go_ret2
    all_goals exact ⟨ret2 (by first | (rw [D.out]; done) | (rw [D.out]; congr 1; omega)), rfl⟩
  have m11 : (op == [109, 105, 110]) = false := by simpa using c11
  by_cases c12 : op = [109, 97, 120]
  · have m12 : (op == [109, 97, 120]) = true := by simpa using c12
    have D := Lib.hid (show twoS op a b = (max a b, 0) by rw [c12]; rfl)
    clear c12
    go_enter Tryd.func6, Tryd.ntmps6
    go_wp2
    all_goals go_ret2
    all_goals exact ⟨ret2 (by first | (rw [D.out]; done) | (rw [D.out]; congr 1; omega)), rfl⟩
  have m12 : (op == [109, 97, 120]) = false := by simpa using c12
  by_cases c13 : op = [94]
  · have m13 : (op == [94]) = true := by simpa using c13
    have D := Lib.hid (show twoS op a b = powS a b by rw [c13]; rfl)
    rw [D.out]
    obtain ⟨x, y, hxy⟩ : ∃ x y, powS a b = (x, y) := ⟨_, _, rfl⟩
    have X := Lib.hid (show two64 (powS a b) = .tuple #[.int .i64 x, .int .i64 y] by rw [hxy]; rfl)
    rw [X.out]
    clear hxy D
    have C : Hid (∀ w, Calls Tryd.prog 22 #[.int .i64 a, .int .i64 b] w fun e w' => e = .returned (.tuple #[.int .i64 x, .int .i64 y]) ∧ w = w') := fun w => by have := rpower_any a b A.out B.out w; rw [X.out] at this; exact this
    clear c13
    go_enter Tryd.func6, Tryd.ntmps6
    go_wp2_with (go_at_call 22; refine (C.out _).mono ?_; rintro e w' ⟨rfl, rfl⟩)
    go_ret2
    exact ⟨rfl, rfl⟩
  have m13 : (op == [94]) = false := by simpa using c13
  have D := Lib.hid (show twoS op a b = (0, 1) by simp [twoS, c0, c1, c2, c3, c4, c5, c6, c7, c8, c9, c10, c11, c12, c13])
  clear c0 c1 c2 c3 c4 c5 c6 c7 c8 c9 c10 c11 c12 c13
  go_enter Tryd.func6, Tryd.ntmps6
  go_wp2
  go_ret2
  exact ⟨ret2 D.out, rfl⟩
end Go.Proofs.YtnnfmfiaecaahaaDoor
