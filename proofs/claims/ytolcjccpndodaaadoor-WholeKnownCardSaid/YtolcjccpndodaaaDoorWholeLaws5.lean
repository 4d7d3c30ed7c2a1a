/- The law WholeKnown: a closed statement: each call's answer is reckoned. -/
import Derived.Test.YtolcjccpndodaaaDoorWholeLaws4
import Derived.LoopTactic
import Derived.Deep.LoopGhost
namespace Go.Proofs.YtolcjccpndodaaaDoor
open Go.ChangeShapes Go.WideShapes Go.ChangeAt Go.RowKit
set_option linter.unusedVariables false
theorem twof_ok (s : ByteArray) (l : List UInt8) (hs : s.toList = l) (a b : Int) (ha : i64 a) (hb : i64 b) (x : Int) (h : twoS l a b = (x, 0)) (w : World) : Calls Tryd.prog 16 #[.string s, .int .i64 a, .int .i64 b] w fun e w' => e = .returned (.int .i64 x) ∧ w = w' := by
  have H := Lib.hid h; clear h
  have S := Lib.hid hs; clear hs
  have A := Lib.hid ha; clear ha
  have B := Lib.hid hb; clear hb
  go_enter Tryd.func16, Tryd.ntmps16
  go_wp2_with (go_at_call 11; refine (two_b s l S.out a b A.out B.out _ _ H.out _).mono ?_; rintro e w' ⟨rfl, rfl⟩)
  go_ret
  exact ⟨rfl, rfl⟩
theorem twof_no (s : ByteArray) (l : List UInt8) (hs : s.toList = l) (a b : Int) (ha : i64 a) (hb : i64 b) (y r : Int) (h : twoS l a b = (0, y)) (hy : (y == 0) = false) (hr : wrap64 (99 + y) = r) (hr2 : 99 + y = r) (w : World) : Calls Tryd.prog 16 #[.string s, .int .i64 a, .int .i64 b] w fun e w' => e = .returned (.int .i64 r) ∧ w = w' := by
  have H := Lib.hid h; clear h
  have S := Lib.hid hs; clear hs
  have A := Lib.hid ha; clear ha
  have B := Lib.hid hb; clear hb
  have Y := Lib.hid hr
  have Y2 := Lib.hid hr2
  clear hr hr2
  have hw := i64_wrap y
  go_enter Tryd.func16, Tryd.ntmps16
  go_wp2_with (go_at_call 11; refine (two_b s l S.out a b A.out B.out _ _ H.out _).mono ?_; rintro e w' ⟨rfl, rfl⟩)
  go_ret
  exact ⟨by first | (rw [← Y.out]; rfl) | (rw [← Y2.out]; rfl), rfl⟩
set_option maxRecDepth 100000 in
set_option maxHeartbeats 8000000 in
theorem known_any (w : World) (ht : Tab w) (hr : Rng w) : Calls Tryd.prog 8 #[] w fun e w' => e = .returned (.bool true) ∧ Below w.heap.size w w' := by
  have T := Lib.hid ht; clear ht
  have R := Lib.hid hr; clear hr
  go_enter Tryd.func8, Tryd.ntmps8
  go_wp2_with fail
  refine (awake2 _ T.out).mono ?_; rintro e1 w1 ⟨rfl, hb1⟩
  go_wp2_with fail
  refine (twof_no _ [43] (by decide +kernel) (9223372036854775807) (1) (by decide) (by decide) 3 102 (by decide +kernel) (by decide) (by decide +kernel) (by decide) _).mono ?_; rintro e1 w' ⟨rfl, rfl⟩
  go_wp2_with fail
  refine (twof_no _ [45] (by decide +kernel) (-9223372036854775808) (1) (by decide) (by decide) 3 102 (by decide +kernel) (by decide) (by decide +kernel) (by decide) _).mono ?_; rintro e1 w' ⟨rfl, rfl⟩
  go_wp2_with fail
  refine (twof_no _ [42] (by decide +kernel) (4294967296) (2147483648) (by decide) (by decide) 3 102 (by decide +kernel) (by decide) (by decide +kernel) (by decide) _).mono ?_; rintro e1 w' ⟨rfl, rfl⟩
  go_wp2_with fail
  refine (twof_no _ [47, 47] (by decide +kernel) (-9223372036854775808) (-1) (by decide) (by decide) 3 102 (by decide +kernel) (by decide) (by decide +kernel) (by decide) _).mono ?_; rintro e1 w' ⟨rfl, rfl⟩
  go_wp2_with fail
  refine (twof_no _ [60, 60] (by decide +kernel) (1) (63) (by decide) (by decide) 3 102 (by decide +kernel) (by decide) (by decide +kernel) (by decide) _).mono ?_; rintro e1 w' ⟨rfl, rfl⟩
  go_wp2_with fail
  refine (twof_no _ [94] (by decide +kernel) (10) (19) (by decide) (by decide) 3 102 (by decide +kernel) (by decide) (by decide +kernel) (by decide) _).mono ?_; rintro e1 w' ⟨rfl, rfl⟩
  go_wp2_with fail
  refine (twof_no _ [42] (by decide +kernel) (-9223372036854775808) (-1) (by decide) (by decide) 3 102 (by decide +kernel) (by decide) (by decide +kernel) (by decide) _).mono ?_; rintro e1 w' ⟨rfl, rfl⟩
  go_wp2_with fail
  refine wp_loop_rounds 8 ?_
  rw [rounds_succ]
  go_wp2_with fail
  rw [rounds_succ]
  go_wp2_with fail
  rw [rounds_succ]
  go_wp2_with fail
  rw [rounds_succ]
  go_wp2_with fail
  rw [rounds_succ]
  go_wp2_with fail
  rw [rounds_succ]
  go_wp2_with fail
  rw [rounds_succ]
  go_wp2_with fail
  rw [rounds_succ]
  go_wp2_with fail
  refine (one_b _ [45] (by decide +kernel) (-9223372036854775808) (by decide) (0) 3 (by decide +kernel) _).mono ?_; rintro e1 w' ⟨rfl, rfl⟩
  go_wp2_with fail
  refine (one_b _ [97, 98, 115] (by decide +kernel) (-9223372036854775808) (by decide) (0) 3 (by decide +kernel) _).mono ?_; rintro e1 w' ⟨rfl, rfl⟩
  go_wp2_with fail
  refine (one_b _ [92] (by decide +kernel) (0) (by decide) (-1) 0 (by decide +kernel) _).mono ?_; rintro e1 w' ⟨rfl, rfl⟩
  go_wp2_with fail
  refine (one_b _ [63] (by decide +kernel) (0) (by decide) (0) 1 (by decide +kernel) _).mono ?_; rintro e1 w' ⟨rfl, rfl⟩
  go_wp2_with fail
  refine (cmp_b _ [63] (by decide +kernel) 0 0 false 1 (by decide +kernel) _).mono ?_; rintro e1 w' ⟨rfl, rfl⟩
  go_wp2_with fail
  refine (parse_b [57, 50, 50, 51, 51, 55, 50, 48, 51, 54, 56, 53, 52, 55, 55, 53, 56, 48, 56] (by decide) (0) 3 (by decide +kernel) _ ?_).mono ?_; exact (R.out.keep (hb1.trans (Below.alloc (Below.refl _ _) hb1.size _))); rintro e1 p0 ⟨rfl, hp0⟩; have RR0 := Lib.hid (Rng.keep (R.out.keep (hb1.trans (Below.alloc (Below.refl _ _) hb1.size _))) hp0)
  go_wp2_with fail
  refine (parse_b [45, 57, 50, 50, 51, 51, 55, 50, 48, 51, 54, 56, 53, 52, 55, 55, 53, 56, 48, 56] (by decide) (-9223372036854775808) 0 (by decide +kernel) _ ?_).mono ?_; exact RR0.out; rintro e1 p1 ⟨rfl, hp1⟩; have RR1 := Lib.hid (Rng.keep (RR0.out) hp1)
  go_wp2_with fail
  refine (parse_b [45, 48, 48, 55] (by decide) (-7) 0 (by decide +kernel) _ ?_).mono ?_; exact RR1.out; rintro e1 p2 ⟨rfl, hp2⟩; have RR2 := Lib.hid (Rng.keep (RR1.out) hp2)
  go_wp2_with fail
  refine (parse_b [45] (by decide) (0) 2 (by decide +kernel) _ ?_).mono ?_; exact RR2.out; rintro e1 p3 ⟨rfl, hp3⟩; have RR3 := Lib.hid (Rng.keep (RR2.out) hp3)
  go_wp2_with fail
  refine (parse_b [] (by decide) (0) 2 (by decide +kernel) _ ?_).mono ?_; exact RR3.out; rintro e1 p4 ⟨rfl, hp4⟩; have RR4 := Lib.hid (Rng.keep (RR3.out) hp4)
  go_wp2_with fail
  refine (parse_b [43, 49] (by decide) (0) 2 (by decide +kernel) _ ?_).mono ?_; exact RR4.out; rintro e1 p5 ⟨rfl, hp5⟩; have RR5 := Lib.hid (Rng.keep (RR4.out) hp5)
  go_wp2_with fail
  refine (parse_b [32, 49] (by decide) (0) 2 (by decide +kernel) _ ?_).mono ?_; exact RR5.out; rintro e1 p6 ⟨rfl, hp6⟩; have RR6 := Lib.hid (Rng.keep (RR5.out) hp6)
  go_wp2_with fail
  refine (two_b _ [63] (by decide +kernel) 1 1 (by decide) (by decide) 0 1 (by decide +kernel) _).mono ?_; rintro e1 w' ⟨rfl, rfl⟩
  go_wp2_with fail
  refine (twof_ok _ [47, 47] (by decide +kernel) (-7) (2) (by decide) (by decide) (-3) (by decide +kernel) _).mono ?_; rintro e1 w' ⟨rfl, rfl⟩
  go_wp2_with fail
  refine (twof_ok _ [109, 111, 100] (by decide +kernel) (7) (-3) (by decide) (by decide) (-2) (by decide +kernel) _).mono ?_; rintro e1 w' ⟨rfl, rfl⟩
  go_wp2_with fail
  refine (twof_ok _ [114, 101, 109] (by decide +kernel) (-9223372036854775808) (-1) (by decide) (by decide) (0) (by decide +kernel) _).mono ?_; rintro e1 w' ⟨rfl, rfl⟩
  go_wp2_with fail
  refine (twof_ok _ [109, 111, 100] (by decide +kernel) (-9223372036854775808) (-1) (by decide) (by decide) (0) (by decide +kernel) _).mono ?_; rintro e1 w' ⟨rfl, rfl⟩
  go_wp2_with fail
  refine (twof_no _ [47, 47] (by decide +kernel) (1) (0) (by decide) (by decide) 4 103 (by decide +kernel) (by decide) (by decide +kernel) (by decide) _).mono ?_; rintro e1 w' ⟨rfl, rfl⟩
  go_wp2_with fail
  refine (twof_no _ [109, 111, 100] (by decide +kernel) (1) (0) (by decide) (by decide) 4 103 (by decide +kernel) (by decide) (by decide +kernel) (by decide) _).mono ?_; rintro e1 w' ⟨rfl, rfl⟩
  go_wp2_with fail
  refine (twof_ok _ [62, 62] (by decide +kernel) (-1) (63) (by decide) (by decide) (-1) (by decide +kernel) _).mono ?_; rintro e1 w' ⟨rfl, rfl⟩
  go_wp2_with fail
  refine (twof_no _ [62, 62] (by decide +kernel) (5) (64) (by decide) (by decide) 5 104 (by decide +kernel) (by decide) (by decide +kernel) (by decide) _).mono ?_; rintro e1 w' ⟨rfl, rfl⟩
  go_wp2_with fail
  refine (twof_ok _ [60, 60] (by decide +kernel) (-1) (63) (by decide) (by decide) (-9223372036854775808) (by decide +kernel) _).mono ?_; rintro e1 w' ⟨rfl, rfl⟩
  go_wp2_with fail
  refine (twof_ok _ [94] (by decide +kernel) (2) (62) (by decide) (by decide) (4611686018427387904) (by decide +kernel) _).mono ?_; rintro e1 w' ⟨rfl, rfl⟩
  go_wp2_with fail
  refine (twof_ok _ [94] (by decide +kernel) (-1) (-3) (by decide) (by decide) (-1) (by decide +kernel) _).mono ?_; rintro e1 w' ⟨rfl, rfl⟩
  go_wp2_with fail
  refine (twof_ok _ [94] (by decide +kernel) (1) (-3) (by decide) (by decide) (1) (by decide +kernel) _).mono ?_; rintro e1 w' ⟨rfl, rfl⟩
  go_wp2_with fail
  refine (twof_no _ [94] (by decide +kernel) (2) (-1) (by decide) (by decide) 5 104 (by decide +kernel) (by decide) (by decide +kernel) (by decide) _).mono ?_; rintro e1 w' ⟨rfl, rfl⟩
  go_wp2_with fail
  refine (twof_ok _ [94] (by decide +kernel) (0) (0) (by decide) (by decide) (1) (by decide +kernel) _).mono ?_; rintro e1 w' ⟨rfl, rfl⟩
  go_wp2_with fail
  refine (twof_ok _ [120, 111, 114] (by decide +kernel) (6) (3) (by decide) (by decide) (5) (by decide +kernel) _).mono ?_; rintro e1 w' ⟨rfl, rfl⟩
  go_wp2_with fail
  refine (twof_ok _ [109, 105, 110] (by decide +kernel) (2) (-2) (by decide) (by decide) (-2) (by decide +kernel) _).mono ?_; rintro e1 w' ⟨rfl, rfl⟩
  go_wp2_with fail
  refine (twof_ok _ [109, 97, 120] (by decide +kernel) (2) (-2) (by decide) (by decide) (2) (by decide +kernel) _).mono ?_; rintro e1 w' ⟨rfl, rfl⟩
  go_wp2_with fail
  refine (text_b (-9223372036854775808) (by decide) _ ?_ [45, 57, 50, 50, 51, 51, 55, 50, 48, 51, 54, 56, 53, 52, 55, 55, 53, 56, 48, 56] (by decide +kernel)).mono ?_; exact ((((((((T.out.keep (hb1.trans (Below.alloc (Below.refl _ _) hb1.size _))).keep hp0).keep hp1).keep hp2).keep hp3).keep hp4).keep hp5).keep hp6); rintro e1 w9 ⟨rfl, hb9⟩
  go_wp2
  go_ret
  exact ⟨rfl, (by repeat (first | exact Below.refl _ _ | apply ball | apply Below.drew | (refine Below.setCell ?_ (by first | (simp; done) | omega | (simp; omega)) _) | refine bcall ?_ (by assumption)))⟩
end Go.Proofs.YtolcjccpndodaaaDoor
