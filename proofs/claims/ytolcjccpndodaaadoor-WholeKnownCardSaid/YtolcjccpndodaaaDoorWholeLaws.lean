/- The laws of chapter 2: WholeDivides, WholeSums, WholeShifts, WholeBits. -/
import Derived.Test.YtolcjccpndodaaaDoorWhole2
import Derived.Test.YtolcjccpndodaaaDoorEnv
namespace Go.Proofs.YtolcjccpndodaaaDoor
open Go.ChangeShapes Go.WideShapes Go.ChangeAt Go.RowKit
set_option linter.unusedVariables false
theorem two_b (s : ByteArray) (l : List UInt8) (hs : s.toList = l) (a b : Int) (ha : i64 a) (hb : i64 b) (x y : Int) (h : twoS l a b = (x, y)) (w : World) : Calls Tryd.prog 11 #[.string s, .int .i64 a, .int .i64 b] w fun e w' => e = .returned (.tuple #[.int .i64 x, .int .i64 y]) ∧ w = w' := by
  have := two_any s a b ha hb w
  rw [hs, h] at this; exact this
theorem one_b (s : ByteArray) (l : List UInt8) (hs : s.toList = l) (a : Int) (ha : i64 a) (x y : Int) (h : oneS l a = (x, y)) (w : World) : Calls Tryd.prog 12 #[.string s, .int .i64 a] w fun e w' => e = .returned (.tuple #[.int .i64 x, .int .i64 y]) ∧ w = w' := by
  have := one_any s a ha w
  rw [hs, h] at this; exact this
theorem awake2 (w : World) (ht : Tab w) : Calls Tryd.prog 10 #[] w fun e w' => e = .returned (.bool true) ∧ Below w.heap.size w w' := by
  have T := Lib.hid ht; clear ht
  go_enter Tryd.func10, Tryd.ntmps10
  go_wp2_with fail
  refine (two_b _ [109, 111, 100] (by decide +kernel) (-7) 3 (by decide) (by decide) 2 0 (by decide +kernel) _).mono ?_; rintro e w' ⟨rfl, rfl⟩
  go_wp2_with fail
  refine (two_b _ [114, 101, 109] (by decide +kernel) (-7) 3 (by decide) (by decide) (-1) 0 (by decide +kernel) _).mono ?_; rintro e w' ⟨rfl, rfl⟩
  go_wp2_with fail
  refine (text_b (-7) (by decide) _ T.out [45, 55] (by decide +kernel) ).mono ?_; rintro e w' ⟨rfl, hb⟩
  go_wp2
  go_ret
  exact ⟨rfl, hb⟩
/-! ### WholeDivides -/
theorem divides_0 (a : Int) (ha : i64 a) (w : World) (ht : Tab w) : Calls Tryd.prog 3 #[.int .i64 a, .int .i64 0] w fun e w' => e = .returned (.bool true) ∧ Below w.heap.size w w' := by
  have T := Lib.hid ht; clear ht
  have D := Lib.hid (show twoS [47, 47] a 0 = (0, 4) from rfl)
  have A := Lib.hid ha; clear ha
  go_enter Tryd.func3, Tryd.ntmps3
  go_wp2_with fail
  refine (awake2 _ T.out).mono ?_; rintro e w1 ⟨rfl, hb1⟩
  go_wp2_with fail
  refine (two_b _ [47, 47] (by decide +kernel) a 0 A.out (by decide) _ _ D.out _).mono ?_; rintro e w' ⟨rfl, rfl⟩
  go_wp2
  go_ret
  exact ⟨rfl, hb1⟩
theorem divides_1 (w : World) (ht : Tab w) : Calls Tryd.prog 3 #[.int .i64 (-9223372036854775808), .int .i64 (-1)] w fun e w' => e = .returned (.bool true) ∧ Below w.heap.size w w' := by
  have T := Lib.hid ht; clear ht
  have D := Lib.hid (show twoS [47, 47] (-9223372036854775808) (-1) = (0, 3) by decide)
  go_enter Tryd.func3, Tryd.ntmps3
  go_wp2_with fail
  refine (awake2 _ T.out).mono ?_; rintro e w1 ⟨rfl, hb1⟩
  go_wp2_with fail
  refine (two_b _ [47, 47] (by decide +kernel) _ _ (by decide) (by decide) _ _ D.out _).mono ?_; rintro e w' ⟨rfl, rfl⟩
  go_wp2
  go_ret
  exact ⟨rfl, hb1⟩
structure Div (a b q r m p : Int) : Prop where
  fq : twoS [47, 47] a b = (q, 0)
  fr : twoS [114, 101, 109] a b = (r, 0)
  fm : twoS [109, 111, 100] a b = (m, 0)
  fp : twoS [42] q b = (p, 0)
  fs : twoS [43] p r = (a, 0)
  iq : i64 q
  ir : i64 r
  ip : i64 p
theorem div_facts {a b : Int} (ha : i64 a) (hb : i64 b) (h0 : b ≠ 0) (h1 : ¬ (a = -9223372036854775808 ∧ b = -1)) :
    ∃ q r m p, Div a b q r m p ∧ ((r = 0 ∧ m = 0) ∨ (r ≠ 0 ∧ decide (r < 0) = decide (a < 0) ∧ m = r ∧ decide (m < 0) = decide (b < 0)) ∨
      (r ≠ 0 ∧ decide (r < 0) = decide (a < 0) ∧ m ≠ 0 ∧ decide (m < 0) = decide (b < 0) ∧ m ≠ r ∧ m = wrap64 (r + b))) := by
  have iq := tdiv_in (b := b) ha h1
  have ir := tmod_in (b := b) ha
  have e := Int.mul_tdiv_add_tmod a b
  have hr := Int.natAbs_tmod a b
  have hlt : (a.tmod b).natAbs < b.natAbs := by rw [hr]; exact Nat.mod_lt _ (by omega)
  have hs : 0 ≤ a → 0 ≤ a.tmod b := fun h => Int.tmod_nonneg b h
  have hs' : a ≤ 0 → a.tmod b ≤ 0 := fun h => by
    have := Int.tmod_nonneg b (show 0 ≤ -a by omega)
    rw [Int.neg_tmod] at this; omega
  have hle : (a.tmod b).natAbs ≤ a.natAbs := by rw [hr]; exact Nat.mod_le _ _
  have ip : i64 (a.tdiv b * b) := by
    rw [Int.mul_comm]; unfold i64 at *; omega
  refine ⟨a.tdiv b, a.tmod b, if a.tmod b ≠ 0 ∧ decide (a.tmod b < 0) ≠ decide (b < 0) then a.tmod b + b else a.tmod b, a.tdiv b * b, ⟨?_, ?_, ?_, ?_, ?_, iq, ir, ip⟩, ?_⟩
  · show divS [47, 47] a b = _
    rw [divS, if_neg h0, if_pos rfl, lim_in iq]
  · show divS [114, 101, 109] a b = _
    rw [divS, if_neg h0, if_neg (by decide), if_neg (by simp)]
  · show divS [109, 111, 100] a b = _
    rw [divS, if_neg h0, if_neg (by decide)]
    by_cases h : a.tmod b ≠ 0 ∧ decide (a.tmod b < 0) ≠ decide (b < 0)
    · rw [if_pos ⟨rfl, h⟩, if_pos h]
    · rw [if_neg (fun k => h k.2), if_neg h]
  · show lim _ = _
    rw [lim_in ip]
  · show lim _ = _
    have : a.tdiv b * b + a.tmod b = a := by rw [Int.mul_comm]; exact e
    rw [this, lim_in ha]
  · by_cases hz : a.tmod b = 0
    · left; exact ⟨hz, by rw [if_neg (by simp [hz]), hz]⟩
    · right
      have sg : decide (a.tmod b < 0) = decide (a < 0) := by rw [decide_eq_decide]; omega
      by_cases h : decide (a.tmod b < 0) ≠ decide (b < 0)
      · right
        rw [if_pos ⟨hz, h⟩]
        have h' := h
        simp only [ne_eq, decide_eq_decide] at h'
        refine ⟨hz, sg, by omega, by rw [decide_eq_decide]; omega, by omega, (mod_in ha hb hz h).symm⟩
      · left
        rw [if_neg (fun k => h k.2)]
        have h' : decide (a.tmod b < 0) = decide (b < 0) := Decidable.byContradiction h
        exact ⟨hz, sg, rfl, h'⟩
set_option maxRecDepth 100000 in
set_option maxHeartbeats 1000000 in
theorem divides_2 (a b : Int) (ha : i64 a) (hb : i64 b) (q r m p : Int) (hd : Div a b q r m p) 
    (hc : (r = 0 ∧ m = 0) ∨ (r ≠ 0 ∧ decide (r < 0) = decide (a < 0) ∧ m = r ∧ decide (m < 0) = decide (b < 0)) ∨
      (r ≠ 0 ∧ decide (r < 0) = decide (a < 0) ∧ m ≠ 0 ∧ decide (m < 0) = decide (b < 0) ∧ m ≠ r ∧ m = wrap64 (r + b))) (w : World) (ht : Tab w) : Calls Tryd.prog 3 #[.int .i64 a, .int .i64 b] w fun e w' => e = .returned (.bool true) ∧ Below w.heap.size w w' := by
  have T := Lib.hid ht; clear ht
  have A := Lib.hid ha; clear ha
  have B := Lib.hid hb; clear hb
  have D := Lib.hid hd; clear hd
  rcases hc with ⟨rfl, rfl⟩ | ⟨c1, c2, c3, c4⟩ | ⟨c1, c2, c3, c4, c5, c6⟩
  · skip
    go_enter Tryd.func3, Tryd.ntmps3
    go_wp2_with fail
    refine (awake2 _ T.out).mono ?_; rintro e w1 ⟨rfl, hb1⟩
    go_wp2_with fail
    refine (two_b _ [47, 47] (by decide +kernel) a b A.out B.out _ _ D.out.fq _).mono ?_; rintro e w' ⟨rfl, rfl⟩
    go_wp2_with fail
    refine (two_b _ [114, 101, 109] (by decide +kernel) a b A.out B.out _ _ D.out.fr _).mono ?_; rintro e w' ⟨rfl, rfl⟩
    go_wp2_with fail
    refine (two_b _ [109, 111, 100] (by decide +kernel) a b A.out B.out _ _ D.out.fm _).mono ?_; rintro e w' ⟨rfl, rfl⟩
    go_wp2_with fail
    refine (two_b _ [42] (by decide +kernel) q b D.out.iq B.out _ _ D.out.fp _).mono ?_; rintro e w' ⟨rfl, rfl⟩
    go_wp2_with fail
    refine (two_b _ [43] (by decide +kernel) p 0 D.out.ip D.out.ir _ _ D.out.fs _).mono ?_; rintro e w' ⟨rfl, rfl⟩
    go_wp2
    go_ret
    exact ⟨rfl, hb1⟩
  · have m1 : (r == 0) = false := by simpa using c1
    have m2 : (decide (r < 0) == decide (a < 0)) = true := by simpa using c2
    subst c3
    have m3 : (decide (m < 0) == decide (b < 0)) = true := by simpa using c4
    clear c1 c2 c4
    go_enter Tryd.func3, Tryd.ntmps3
    go_wp2_with fail
    refine (awake2 _ T.out).mono ?_; rintro e w1 ⟨rfl, hb1⟩
    go_wp2_with fail
    refine (two_b _ [47, 47] (by decide +kernel) a b A.out B.out _ _ D.out.fq _).mono ?_; rintro e w' ⟨rfl, rfl⟩
    go_wp2_with fail
    refine (two_b _ [114, 101, 109] (by decide +kernel) a b A.out B.out _ _ D.out.fr _).mono ?_; rintro e w' ⟨rfl, rfl⟩
    go_wp2_with fail
    refine (two_b _ [109, 111, 100] (by decide +kernel) a b A.out B.out _ _ D.out.fm _).mono ?_; rintro e w' ⟨rfl, rfl⟩
    go_wp2_with fail
    refine (two_b _ [42] (by decide +kernel) q b D.out.iq B.out _ _ D.out.fp _).mono ?_; rintro e w' ⟨rfl, rfl⟩
    go_wp2_with fail
    refine (two_b _ [43] (by decide +kernel) p m D.out.ip D.out.ir _ _ D.out.fs _).mono ?_; rintro e w' ⟨rfl, rfl⟩
    go_wp2
    go_ret
    exact ⟨rfl, hb1⟩
  · have m1 : (r == 0) = false := by simpa using c1
    have m2 : (decide (r < 0) == decide (a < 0)) = true := by simpa using c2
    have m3 : (m == 0) = false := by simpa using c3
    have m4 : (decide (m < 0) == decide (b < 0)) = true := by simpa using c4
    have m5 : (m == r) = false := by simpa using c5
    have m6 : (m == wrap64 (r + b)) = true := by simpa using c6
    clear c1 c2 c3 c4 c5 c6
    go_enter Tryd.func3, Tryd.ntmps3
    go_wp2_with fail
    refine (awake2 _ T.out).mono ?_; rintro e w1 ⟨rfl, hb1⟩
    go_wp2_with fail
    refine (two_b _ [47, 47] (by decide +kernel) a b A.out B.out _ _ D.out.fq _).mono ?_; rintro e w' ⟨rfl, rfl⟩
    go_wp2_with fail
    refine (two_b _ [114, 101, 109] (by decide +kernel) a b A.out B.out _ _ D.out.fr _).mono ?_; rintro e w' ⟨rfl, rfl⟩
    go_wp2_with fail
    refine (two_b _ [109, 111, 100] (by decide +kernel) a b A.out B.out _ _ D.out.fm _).mono ?_; rintro e w' ⟨rfl, rfl⟩
    go_wp2_with fail
    refine (two_b _ [42] (by decide +kernel) q b D.out.iq B.out _ _ D.out.fp _).mono ?_; rintro e w' ⟨rfl, rfl⟩
    go_wp2_with fail
    refine (two_b _ [43] (by decide +kernel) p r D.out.ip D.out.ir _ _ D.out.fs _).mono ?_; rintro e w' ⟨rfl, rfl⟩
    go_wp2
    go_ret
    exact ⟨rfl, hb1⟩
theorem wfi64 {a : Int} (h : (Lit.int .i64 a).wf = true) : i64 a := bounds_i64 h
theorem divides_any (a b : Int) (ha : (Lit.int .i64 a).wf = true) (hb : (Lit.int .i64 b).wf = true) (w : World) (ht : Tab w) : Calls Tryd.prog 3 #[.int .i64 a, .int .i64 b] w fun e w' => e = .returned (.bool true) ∧ Below w.heap.size w w' := by
  have ha := wfi64 ha
  have hb := wfi64 hb
  by_cases h0 : b = 0
  · subst h0; exact divides_0 a ha w ht
  · by_cases h1 : a = -9223372036854775808 ∧ b = -1
    · obtain ⟨rfl, rfl⟩ := h1; exact divides_1 w ht
    · obtain ⟨q, r, m, p, hd, hc⟩ := div_facts ha hb h0 h1
      exact divides_2 a b ha hb q r m p hd hc w ht
end Go.Proofs.YtolcjccpndodaaaDoor
