/- The laws of chapter 2: WholeSums, WholeShifts, WholeBits. -/
import Derived.Test.YtolcjccpndodaaaDoorWholeLaws
namespace Go.Proofs.YtolcjccpndodaaaDoor
open Go.ChangeShapes Go.WideShapes Go.ChangeAt Go.RowKit
set_option linter.unusedVariables false
/-! ### WholeSums -/
structure Sums (a b x e p g lo hi : Int) : Prop where
  f1 : twoS [43] a b = (x, e)
  f2 : twoS [43] b a = (x, e)
  f3 : twoS [42] a b = (p, g)
  f4 : twoS [42] b a = (p, g)
  f5 : twoS [109, 105, 110] a b = (lo, 0)
  f6 : twoS [109, 97, 120] a b = (hi, 0)
  f7 : e = 0 → twoS [45] x b = (a, 0)
  ix : i64 x
set_option maxHeartbeats 1000000 in
theorem sums_0l (a b x p g : Int) (ha : i64 a) (hb : i64 b) (hd : Sums a b x 0 p g a b) (h : a ≤ b) (w : World) (ht : Tab w) : Calls Tryd.prog 4 #[.int .i64 a, .int .i64 b] w fun e w' => e = .returned (.bool true) ∧ Below w.heap.size w w' := by
  have T := Lib.hid ht; clear ht
  have A := Lib.hid ha; clear ha
  have B := Lib.hid hb; clear hb
  have D := Lib.hid hd; clear hd
  go_enter Tryd.func4, Tryd.ntmps4
  go_wp2_with fail
  refine (awake2 _ T.out).mono ?_; rintro e1 w1 ⟨rfl, hb1⟩
  go_wp2_with fail
  refine (two_b _ [43] (by decide +kernel) a b A.out B.out _ _ D.out.f1 _).mono ?_; rintro e1 w' ⟨rfl, rfl⟩
  go_wp2_with fail
  refine (two_b _ [43] (by decide +kernel) b a B.out A.out _ _ D.out.f2 _).mono ?_; rintro e1 w' ⟨rfl, rfl⟩
  go_wp2_with fail
  refine (two_b _ [42] (by decide +kernel) a b A.out B.out _ _ D.out.f3 _).mono ?_; rintro e1 w' ⟨rfl, rfl⟩
  go_wp2_with fail
  refine (two_b _ [42] (by decide +kernel) b a B.out A.out _ _ D.out.f4 _).mono ?_; rintro e1 w' ⟨rfl, rfl⟩
  go_wp2_with fail
  refine (two_b _ [45] (by decide +kernel) x b D.out.ix B.out _ _ (D.out.f7 rfl) _).mono ?_; rintro e1 w' ⟨rfl, rfl⟩
  go_wp2_with fail
  refine (two_b _ [109, 105, 110] (by decide +kernel) a b A.out B.out _ _ D.out.f5 _).mono ?_; rintro e1 w' ⟨rfl, rfl⟩
  go_wp2_with fail
  refine (two_b _ [109, 97, 120] (by decide +kernel) a b A.out B.out _ _ D.out.f6 _).mono ?_; rintro e1 w' ⟨rfl, rfl⟩
  go_wp2
  go_ret
  exact ⟨rfl, hb1⟩
set_option maxHeartbeats 1000000 in
theorem sums_0g (a b x p g : Int) (ha : i64 a) (hb : i64 b) (hd : Sums a b x 0 p g b a) (h : b < a) (w : World) (ht : Tab w) : Calls Tryd.prog 4 #[.int .i64 a, .int .i64 b] w fun e w' => e = .returned (.bool true) ∧ Below w.heap.size w w' := by
  have T := Lib.hid ht; clear ht
  have A := Lib.hid ha; clear ha
  have B := Lib.hid hb; clear hb
  have D := Lib.hid hd; clear hd
  have m1 : (b == a) = false := by simp; omega
  have m2 : b ≤ a := by omega
  go_enter Tryd.func4, Tryd.ntmps4
  go_wp2_with fail
  refine (awake2 _ T.out).mono ?_; rintro e1 w1 ⟨rfl, hb1⟩
  go_wp2_with fail
  refine (two_b _ [43] (by decide +kernel) a b A.out B.out _ _ D.out.f1 _).mono ?_; rintro e1 w' ⟨rfl, rfl⟩
  go_wp2_with fail
  refine (two_b _ [43] (by decide +kernel) b a B.out A.out _ _ D.out.f2 _).mono ?_; rintro e1 w' ⟨rfl, rfl⟩
  go_wp2_with fail
  refine (two_b _ [42] (by decide +kernel) a b A.out B.out _ _ D.out.f3 _).mono ?_; rintro e1 w' ⟨rfl, rfl⟩
  go_wp2_with fail
  refine (two_b _ [42] (by decide +kernel) b a B.out A.out _ _ D.out.f4 _).mono ?_; rintro e1 w' ⟨rfl, rfl⟩
  go_wp2_with fail
  refine (two_b _ [45] (by decide +kernel) x b D.out.ix B.out _ _ (D.out.f7 rfl) _).mono ?_; rintro e1 w' ⟨rfl, rfl⟩
  go_wp2_with fail
  refine (two_b _ [109, 105, 110] (by decide +kernel) a b A.out B.out _ _ D.out.f5 _).mono ?_; rintro e1 w' ⟨rfl, rfl⟩
  go_wp2_with fail
  refine (two_b _ [109, 97, 120] (by decide +kernel) a b A.out B.out _ _ D.out.f6 _).mono ?_; rintro e1 w' ⟨rfl, rfl⟩
  go_wp2
  go_ret
  exact ⟨rfl, hb1⟩
set_option maxHeartbeats 1000000 in
theorem sums_3l (a b x p g : Int) (ha : i64 a) (hb : i64 b) (hd : Sums a b x 3 p g a b) (h : a ≤ b) (w : World) (ht : Tab w) : Calls Tryd.prog 4 #[.int .i64 a, .int .i64 b] w fun e w' => e = .returned (.bool true) ∧ Below w.heap.size w w' := by
  have T := Lib.hid ht; clear ht
  have A := Lib.hid ha; clear ha
  have B := Lib.hid hb; clear hb
  have D := Lib.hid hd; clear hd
  go_enter Tryd.func4, Tryd.ntmps4
  go_wp2_with fail
  refine (awake2 _ T.out).mono ?_; rintro e1 w1 ⟨rfl, hb1⟩
  go_wp2_with fail
  refine (two_b _ [43] (by decide +kernel) a b A.out B.out _ _ D.out.f1 _).mono ?_; rintro e1 w' ⟨rfl, rfl⟩
  go_wp2_with fail
  refine (two_b _ [43] (by decide +kernel) b a B.out A.out _ _ D.out.f2 _).mono ?_; rintro e1 w' ⟨rfl, rfl⟩
  go_wp2_with fail
  refine (two_b _ [42] (by decide +kernel) a b A.out B.out _ _ D.out.f3 _).mono ?_; rintro e1 w' ⟨rfl, rfl⟩
  go_wp2_with fail
  refine (two_b _ [42] (by decide +kernel) b a B.out A.out _ _ D.out.f4 _).mono ?_; rintro e1 w' ⟨rfl, rfl⟩
  go_wp2_with fail
  refine (two_b _ [109, 105, 110] (by decide +kernel) a b A.out B.out _ _ D.out.f5 _).mono ?_; rintro e1 w' ⟨rfl, rfl⟩
  go_wp2_with fail
  refine (two_b _ [109, 97, 120] (by decide +kernel) a b A.out B.out _ _ D.out.f6 _).mono ?_; rintro e1 w' ⟨rfl, rfl⟩
  go_wp2
  go_ret
  exact ⟨rfl, hb1⟩
set_option maxHeartbeats 1000000 in
theorem sums_3g (a b x p g : Int) (ha : i64 a) (hb : i64 b) (hd : Sums a b x 3 p g b a) (h : b < a) (w : World) (ht : Tab w) : Calls Tryd.prog 4 #[.int .i64 a, .int .i64 b] w fun e w' => e = .returned (.bool true) ∧ Below w.heap.size w w' := by
  have T := Lib.hid ht; clear ht
  have A := Lib.hid ha; clear ha
  have B := Lib.hid hb; clear hb
  have D := Lib.hid hd; clear hd
  have m1 : (b == a) = false := by simp; omega
  have m2 : b ≤ a := by omega
  go_enter Tryd.func4, Tryd.ntmps4
  go_wp2_with fail
  refine (awake2 _ T.out).mono ?_; rintro e1 w1 ⟨rfl, hb1⟩
  go_wp2_with fail
  refine (two_b _ [43] (by decide +kernel) a b A.out B.out _ _ D.out.f1 _).mono ?_; rintro e1 w' ⟨rfl, rfl⟩
  go_wp2_with fail
  refine (two_b _ [43] (by decide +kernel) b a B.out A.out _ _ D.out.f2 _).mono ?_; rintro e1 w' ⟨rfl, rfl⟩
  go_wp2_with fail
  refine (two_b _ [42] (by decide +kernel) a b A.out B.out _ _ D.out.f3 _).mono ?_; rintro e1 w' ⟨rfl, rfl⟩
  go_wp2_with fail
  refine (two_b _ [42] (by decide +kernel) b a B.out A.out _ _ D.out.f4 _).mono ?_; rintro e1 w' ⟨rfl, rfl⟩
  go_wp2_with fail
  refine (two_b _ [109, 105, 110] (by decide +kernel) a b A.out B.out _ _ D.out.f5 _).mono ?_; rintro e1 w' ⟨rfl, rfl⟩
  go_wp2_with fail
  refine (two_b _ [109, 97, 120] (by decide +kernel) a b A.out B.out _ _ D.out.f6 _).mono ?_; rintro e1 w' ⟨rfl, rfl⟩
  go_wp2
  go_ret
  exact ⟨rfl, hb1⟩
theorem sums_any (a b : Int) (ha : (Lit.int .i64 a).wf = true) (hb : (Lit.int .i64 b).wf = true) (w : World) (ht : Tab w) : Calls Tryd.prog 4 #[.int .i64 a, .int .i64 b] w fun e w' => e = .returned (.bool true) ∧ Below w.heap.size w w' := by
  have ha := wfi64 ha
  have hb := wfi64 hb
  obtain ⟨p, g, hp⟩ : ∃ p g, lim (a * b) = (p, g) := ⟨_, _, rfl⟩
  have hp' : lim (b * a) = (p, g) := by rw [Int.mul_comm]; exact hp
  have mn : a ≤ b → twoS [109, 105, 110] a b = (a, 0) := fun h => by show (min a b, (0 : Int)) = _; congr 1; omega
  have mn' : b < a → twoS [109, 105, 110] a b = (b, 0) := fun h => by show (min a b, (0 : Int)) = _; congr 1; omega
  have mx : a ≤ b → twoS [109, 97, 120] a b = (b, 0) := fun h => by show (max a b, (0 : Int)) = _; congr 1; omega
  have mx' : b < a → twoS [109, 97, 120] a b = (a, 0) := fun h => by show (max a b, (0 : Int)) = _; congr 1; omega
  by_cases hi : i64 (a + b)
  · have f1 : lim (a + b) = (a + b, 0) := lim_in hi
    have f2 : lim (b + a) = (a + b, 0) := by rw [Int.add_comm]; exact f1
    have f7 : lim (a + b - b) = (a, 0) := by rw [show a + b - b = a by omega]; exact lim_in ha
    by_cases hc : a ≤ b
    · exact sums_0l a b (a + b) p g ha hb ⟨f1, f2, hp, hp', mn hc, mx hc, fun _ => f7, hi⟩ hc w ht
    · exact sums_0g a b (a + b) p g ha hb ⟨f1, f2, hp, hp', mn' (by omega), mx' (by omega), fun _ => f7, hi⟩ (by omega) w ht
  · have f1 : lim (a + b) = (0, 3) := lim_out hi
    have f2 : lim (b + a) = (0, 3) := by rw [Int.add_comm]; exact f1
    by_cases hc : a ≤ b
    · exact sums_3l a b 0 p g ha hb ⟨f1, f2, hp, hp', mn hc, mx hc, fun h => absurd h (by decide), by decide⟩ hc w ht
    · exact sums_3g a b 0 p g ha hb ⟨f1, f2, hp, hp', mn' (by omega), mx' (by omega), fun h => absurd h (by decide), by decide⟩ (by omega) w ht
/-! ### WholeBits -/
theorem bits_any (a b : Int) (ha : (Lit.int .i64 a).wf = true) (hb : (Lit.int .i64 b).wf = true) (w : World) (ht : Tab w) : Calls Tryd.prog 6 #[.int .i64 a, .int .i64 b] w fun e w' => e = .returned (.bool true) ∧ Below w.heap.size w w' := by
  have T := Lib.hid ht; clear ht
  have A := Lib.hid (wfi64 ha)
  have B := Lib.hid (wfi64 hb)
  have F1 := Lib.hid (show twoS [47, 92] a b = (bits .and .i64 a b, 0) from rfl)
  have F2 := Lib.hid (show twoS [92, 47] a b = (bits .or .i64 a b, 0) from rfl)
  have F3 := Lib.hid (show twoS [120, 111, 114] a b = (bits .xor .i64 a b, 0) from rfl)
  have F4 := Lib.hid (show oneS [92] a = (-1 - a, 0) from rfl)
  have hw : wrap64 (-1 - a) = -1 - a := wrap_in (by have := wfi64 ha; unfold i64 at *; omega)
  clear ha hb
  go_enter Tryd.func6, Tryd.ntmps6
  go_wp2_with fail
  refine (awake2 _ T.out).mono ?_; rintro e1 w1 ⟨rfl, hb1⟩
  go_wp2_with fail
  refine (two_b _ [47, 92] (by decide +kernel) a b A.out B.out _ _ F1.out _).mono ?_; rintro e1 w' ⟨rfl, rfl⟩
  go_wp2_with fail
  refine (two_b _ [92, 47] (by decide +kernel) a b A.out B.out _ _ F2.out _).mono ?_; rintro e1 w' ⟨rfl, rfl⟩
  go_wp2_with fail
  refine (two_b _ [120, 111, 114] (by decide +kernel) a b A.out B.out _ _ F3.out _).mono ?_; rintro e1 w' ⟨rfl, rfl⟩
  go_wp2_with fail
  refine (one_b _ [92] (by decide +kernel) a A.out _ _ F4.out _).mono ?_; rintro e1 w' ⟨rfl, rfl⟩
  go_wp2
  go_ret
  exact ⟨rfl, hb1⟩
end Go.Proofs.YtolcjccpndodaaaDoor
