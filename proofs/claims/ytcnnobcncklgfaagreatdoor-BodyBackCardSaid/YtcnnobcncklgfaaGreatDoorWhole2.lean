/- The contracts of whole.Two, One, Cmp. -/
import Derived.Test.YtcnnobcncklgfaaGreatDoorWhole
namespace Go.Proofs.YtcnnobcncklgfaaGreatDoor
open Go.ChangeShapes Go.WideShapes Go.ChangeAt Go.RowKit
set_option linter.unusedVariables false
theorem lim_ret {x y : Int} (h : i64 y) (e : y = x) : Ending.returned (.tuple #[.int .i64 x, .int .i64 0]) = .returned (two64 (lim y)) := by rw [lim_in h, e]; rfl
set_option maxRecDepth 100000 in
set_option maxHeartbeats 4000000 in
theorem two_any (s : ByteArray) (a b : Int) (ha : i64 a) (hb : i64 b) (w : World) : Calls Tryz.prog 85 #[.string s, .int .i64 a, .int .i64 b] w fun e w' => e = .returned (two64 (twoS s.toList a b)) ∧ w = w' := by
  obtain ⟨op, ho⟩ : ∃ op, s.toList = op := ⟨_, rfl⟩
  rw [ho]
  have A := Lib.hid ha; have B := Lib.hid hb
  obtain ⟨a0, a1⟩ := ha
  obtain ⟨b0, b1⟩ := hb
  by_cases c0 : op = [43]
  · have m0 : (op == [43]) = true := by simpa using c0
    have D := Lib.hid (show twoS op a b = lim (a + b) by rw [c0]; rfl)
    clear c0
    go_enter Tryz.func85, Tryz.ntmps85
    go_wp2
    · go_ret2
      have h := add_test A.out B.out (by assumption)
      exact ⟨ret2 (by rw [D.out, lim_in h, wrap_in h]), rfl⟩
    · go_ret2
      have h := add_test' A.out B.out (by assumption)
      exact ⟨ret2 (by rw [D.out, lim_out h]), rfl⟩
  have m0 : (op == [43]) = false := by simpa using c0
  by_cases c1 : op = [45]
  · have m1 : (op == [45]) = true := by simpa using c1
    have D := Lib.hid (show twoS op a b = lim (a - b) by rw [c1]; rfl)
    clear c1
    go_enter Tryz.func85, Tryz.ntmps85
    go_wp2
    · go_ret2
      have h := sub_test A.out B.out (by assumption)
      exact ⟨ret2 (by rw [D.out, lim_in h, wrap_in h]), rfl⟩
    · go_ret2
      have h := sub_test' A.out B.out (by assumption)
      exact ⟨ret2 (by rw [D.out, lim_out h]), rfl⟩
  have m1 : (op == [45]) = false := by simpa using c1
  by_cases c2 : op = [42]
  · have m2 : (op == [42]) = true := by simpa using c2
    have D := Lib.hid (show twoS op a b = lim (a * b) by rw [c2]; rfl)
    clear c2
    rw [D.out]
    obtain ⟨x, y, hxy⟩ : ∃ x y, lim (a * b) = (x, y) := ⟨_, _, rfl⟩
    have X := Lib.hid (show two64 (lim (a * b)) = .tuple #[.int .i64 x, .int .i64 y] by rw [hxy]; rfl)
    rw [X.out]
    clear hxy D
    have C : Hid (∀ w, Calls Tryz.prog 96 #[.int .i64 a, .int .i64 b] w fun e w' => e = .returned (.tuple #[.int .i64 x, .int .i64 y]) ∧ w = w') := fun w => by have := times_any a b A.out B.out w; rw [X.out] at this; exact this
    go_enter Tryz.func85, Tryz.ntmps85
    go_wp2_with (go_at_call 96; refine (C.out _).mono ?_; rintro e w' ⟨rfl, rfl⟩)
    go_ret2
    exact ⟨rfl, rfl⟩
  have m2 : (op == [42]) = false := by simpa using c2
  by_cases c3 : op = [47, 47]
  · have m3 : (op == [47, 47]) = true := by simpa using c3
    have D := Lib.hid (show twoS op a b = divS op a b by rw [c3]; rfl)
    clear c3
    rw [D.out]
    obtain ⟨x, y, hxy⟩ : ∃ x y, divS op a b = (x, y) := ⟨_, _, rfl⟩
    have X := Lib.hid (show two64 (divS op a b) = .tuple #[.int .i64 x, .int .i64 y] by rw [hxy]; rfl)
    rw [X.out]
    clear hxy D
    have C : Hid (∀ w, Calls Tryz.prog 97 #[.string s, .int .i64 a, .int .i64 b] w fun e w' => e = .returned (.tuple #[.int .i64 x, .int .i64 y]) ∧ w = w') := fun w => by have := divide_any s a b A.out B.out w; rw [ho] at this; rw [X.out] at this; exact this
    go_enter Tryz.func85, Tryz.ntmps85
    go_wp2_with (go_at_call 97; refine (C.out _).mono ?_; rintro e w' ⟨rfl, rfl⟩)
    go_ret2
    exact ⟨rfl, rfl⟩
  have m3 : (op == [47, 47]) = false := by simpa using c3
  by_cases c4 : op = [114, 101, 109]
  · have m4 : (op == [114, 101, 109]) = true := by simpa using c4
    have D := Lib.hid (show twoS op a b = divS op a b by rw [c4]; rfl)
    clear c4
    rw [D.out]
    obtain ⟨x, y, hxy⟩ : ∃ x y, divS op a b = (x, y) := ⟨_, _, rfl⟩
    have X := Lib.hid (show two64 (divS op a b) = .tuple #[.int .i64 x, .int .i64 y] by rw [hxy]; rfl)
    rw [X.out]
    clear hxy D
    have C : Hid (∀ w, Calls Tryz.prog 97 #[.string s, .int .i64 a, .int .i64 b] w fun e w' => e = .returned (.tuple #[.int .i64 x, .int .i64 y]) ∧ w = w') := fun w => by have := divide_any s a b A.out B.out w; rw [ho] at this; rw [X.out] at this; exact this
    go_enter Tryz.func85, Tryz.ntmps85
    go_wp2_with (go_at_call 97; refine (C.out _).mono ?_; rintro e w' ⟨rfl, rfl⟩)
    go_ret2
    exact ⟨rfl, rfl⟩
  have m4 : (op == [114, 101, 109]) = false := by simpa using c4
  by_cases c5 : op = [109, 111, 100]
  · have m5 : (op == [109, 111, 100]) = true := by simpa using c5
    have D := Lib.hid (show twoS op a b = divS op a b by rw [c5]; rfl)
    clear c5
    rw [D.out]
    obtain ⟨x, y, hxy⟩ : ∃ x y, divS op a b = (x, y) := ⟨_, _, rfl⟩
    have X := Lib.hid (show two64 (divS op a b) = .tuple #[.int .i64 x, .int .i64 y] by rw [hxy]; rfl)
    rw [X.out]
    clear hxy D
    have C : Hid (∀ w, Calls Tryz.prog 97 #[.string s, .int .i64 a, .int .i64 b] w fun e w' => e = .returned (.tuple #[.int .i64 x, .int .i64 y]) ∧ w = w') := fun w => by have := divide_any s a b A.out B.out w; rw [ho] at this; rw [X.out] at this; exact this
    go_enter Tryz.func85, Tryz.ntmps85
    go_wp2_with (go_at_call 97; refine (C.out _).mono ?_; rintro e w' ⟨rfl, rfl⟩)
    go_ret2
    exact ⟨rfl, rfl⟩
  have m5 : (op == [109, 111, 100]) = false := by simpa using c5
  by_cases c6 : op = [47, 92]
  · have m6 : (op == [47, 92]) = true := by simpa using c6
    have D := Lib.hid (show twoS op a b = (bits .and .i64 a b, 0) by rw [c6]; rfl)
    clear c6
    go_enter Tryz.func85, Tryz.ntmps85
    go_wp2
    go_ret2
    exact ⟨ret2 D.out, rfl⟩
  have m6 : (op == [47, 92]) = false := by simpa using c6
  by_cases c7 : op = [92, 47]
  · have m7 : (op == [92, 47]) = true := by simpa using c7
    have D := Lib.hid (show twoS op a b = (bits .or .i64 a b, 0) by rw [c7]; rfl)
    clear c7
    go_enter Tryz.func85, Tryz.ntmps85
    go_wp2
    go_ret2
    exact ⟨ret2 D.out, rfl⟩
  have m7 : (op == [92, 47]) = false := by simpa using c7
  by_cases c8 : op = [120, 111, 114]
  · have m8 : (op == [120, 111, 114]) = true := by simpa using c8
    have D := Lib.hid (show twoS op a b = (bits .xor .i64 a b, 0) by rw [c8]; rfl)
    clear c8
    go_enter Tryz.func85, Tryz.ntmps85
    go_wp2
    go_ret2
    exact ⟨ret2 D.out, rfl⟩
  have m8 : (op == [120, 111, 114]) = false := by simpa using c8
  by_cases c9 : op = [62, 62]
  · have m9 : (op == [62, 62]) = true := by simpa using c9
    have D := Lib.hid (show twoS op a b = shS op a b by rw [c9]; rfl)
    clear c9
    rw [D.out]
    obtain ⟨x, y, hxy⟩ : ∃ x y, shS op a b = (x, y) := ⟨_, _, rfl⟩
    have X := Lib.hid (show two64 (shS op a b) = .tuple #[.int .i64 x, .int .i64 y] by rw [hxy]; rfl)
    rw [X.out]
    clear hxy D
    have C : Hid (∀ w, Calls Tryz.prog 98 #[.string s, .int .i64 a, .int .i64 b] w fun e w' => e = .returned (.tuple #[.int .i64 x, .int .i64 y]) ∧ w = w') := fun w => by have := shift_any s a b A.out B.out w; rw [ho] at this; rw [X.out] at this; exact this
    go_enter Tryz.func85, Tryz.ntmps85
    go_wp2_with (go_at_call 98; refine (C.out _).mono ?_; rintro e w' ⟨rfl, rfl⟩)
    go_ret2
    exact ⟨rfl, rfl⟩
  have m9 : (op == [62, 62]) = false := by simpa using c9
  by_cases c10 : op = [60, 60]
  · have m10 : (op == [60, 60]) = true := by simpa using c10
    have D := Lib.hid (show twoS op a b = shS op a b by rw [c10]; rfl)
    clear c10
    rw [D.out]
    obtain ⟨x, y, hxy⟩ : ∃ x y, shS op a b = (x, y) := ⟨_, _, rfl⟩
    have X := Lib.hid (show two64 (shS op a b) = .tuple #[.int .i64 x, .int .i64 y] by rw [hxy]; rfl)
    rw [X.out]
    clear hxy D
    have C : Hid (∀ w, Calls Tryz.prog 98 #[.string s, .int .i64 a, .int .i64 b] w fun e w' => e = .returned (.tuple #[.int .i64 x, .int .i64 y]) ∧ w = w') := fun w => by have := shift_any s a b A.out B.out w; rw [ho] at this; rw [X.out] at this; exact this
    go_enter Tryz.func85, Tryz.ntmps85
    go_wp2_with (go_at_call 98; refine (C.out _).mono ?_; rintro e w' ⟨rfl, rfl⟩)
    go_ret2
    exact ⟨rfl, rfl⟩
  have m10 : (op == [60, 60]) = false := by simpa using c10
  by_cases c11 : op = [109, 105, 110]
  · have m11 : (op == [109, 105, 110]) = true := by simpa using c11
    have D := Lib.hid (show twoS op a b = (min a b, 0) by rw [c11]; rfl)
    clear c11
    go_enter Tryz.func85, Tryz.ntmps85
    go_wp2
    all_goals go_ret2
    all_goals exact ⟨ret2 (by first | (rw [D.out]; done) | (rw [D.out]; congr 1; omega)), rfl⟩
  have m11 : (op == [109, 105, 110]) = false := by simpa using c11
  by_cases c12 : op = [109, 97, 120]
  · have m12 : (op == [109, 97, 120]) = true := by simpa using c12
    have D := Lib.hid (show twoS op a b = (max a b, 0) by rw [c12]; rfl)
    clear c12
    go_enter Tryz.func85, Tryz.ntmps85
    go_wp2
    all_goals go_ret2
    all_goals exact ⟨ret2 (by first | (rw [D.out]; done) | (rw [D.out]; congr 1; omega)), rfl⟩
  have m12 : (op == [109, 97, 120]) = false := by simpa using c12
  by_cases c13 : op = [94]
  · have m13 : (op == [94]) = true := by simpa using c13
    have D := Lib.hid (show twoS op a b = powS a b by rw [c13]; rfl)
    clear c13
    rw [D.out]
    obtain ⟨x, y, hxy⟩ : ∃ x y, powS a b = (x, y) := ⟨_, _, rfl⟩
    have X := Lib.hid (show two64 (powS a b) = .tuple #[.int .i64 x, .int .i64 y] by rw [hxy]; rfl)
    rw [X.out]
    clear hxy D
    have C : Hid (∀ w, Calls Tryz.prog 99 #[.int .i64 a, .int .i64 b] w fun e w' => e = .returned (.tuple #[.int .i64 x, .int .i64 y]) ∧ w = w') := fun w => by have := power_any a b A.out B.out w; rw [X.out] at this; exact this
    go_enter Tryz.func85, Tryz.ntmps85
    go_wp2_with (go_at_call 99; refine (C.out _).mono ?_; rintro e w' ⟨rfl, rfl⟩)
    go_ret2
    exact ⟨rfl, rfl⟩
  have m13 : (op == [94]) = false := by simpa using c13
  have D := Lib.hid (show twoS op a b = (0, 1) by simp [twoS, c0, c1, c2, c3, c4, c5, c6, c7, c8, c9, c10, c11, c12, c13])
  clear c0 c1 c2 c3 c4 c5 c6 c7 c8 c9 c10 c11 c12 c13
  go_enter Tryz.func85, Tryz.ntmps85
  go_wp2
  go_ret2
  exact ⟨ret2 D.out, rfl⟩
def oneS (op : List UInt8) (a : Int) : Int × Int :=
  if op = [45] then lim (0 - a) else if op = [43] then (a, 0) else if op = [97, 98, 115] then lim (if a < 0 then 0 - a else a)
  else if op = [115, 105, 103, 110] then (max (min a 1) (-1), 0) else if op = [92] then (-1 - a, 0) else (0, 1)
theorem two_minus (a : Int) (ha : i64 a) (x y : Int) (h : lim (0 - a) = (x, y)) (s : ByteArray) (hs : s.toList = [45]) (w : World) : Calls Tryz.prog 85 #[.string s, .int .i64 0, .int .i64 a] w fun e w' => e = .returned (.tuple #[.int .i64 x, .int .i64 y]) ∧ w = w' := by
  have := two_any s 0 a (by decide) ha w
  rw [hs, show twoS [45] 0 a = (x, y) from h] at this; exact this
set_option maxRecDepth 100000 in
set_option maxHeartbeats 1000000 in
theorem one_any (s : ByteArray) (a : Int) (ha : i64 a) (w : World) : Calls Tryz.prog 84 #[.string s, .int .i64 a] w fun e w' => e = .returned (two64 (oneS s.toList a)) ∧ w = w' := by
  obtain ⟨op, ho⟩ : ∃ op, s.toList = op := ⟨_, rfl⟩
  rw [ho]
  have A := Lib.hid ha
  obtain ⟨a0, a1⟩ := ha
  obtain ⟨x, y, hxy⟩ : ∃ x y, lim (0 - a) = (x, y) := ⟨_, _, rfl⟩
  have X := Lib.hid hxy
  clear hxy
  by_cases c0 : op = [45]
  · have m0 : (op == [45]) = true := by simpa using c0
    have D := Lib.hid (show oneS op a = lim (0 - a) by rw [c0]; rfl)
    clear c0
    go_enter Tryz.func84, Tryz.ntmps84
    go_wp2_with (go_at_call 85; refine (two_minus a A.out x y X.out _ (by decide +kernel) _).mono ?_; rintro e w' ⟨rfl, rfl⟩)
    go_ret2
    exact ⟨ret2 (by rw [D.out, X.out]), rfl⟩
  have m0 : (op == [45]) = false := by simpa using c0
  by_cases c1 : op = [43]
  · have m1 : (op == [43]) = true := by simpa using c1
    have D := Lib.hid (show oneS op a = (a, 0) by rw [c1]; rfl)
    clear c1
    go_enter Tryz.func84, Tryz.ntmps84
    go_wp2
    all_goals go_ret2
    all_goals exact ⟨ret2 (by first | exact D.out | exact D.out.trans (by rw [not_i64 A.out]) | exact D.out.trans (by congr 1; omega)), rfl⟩
  have m1 : (op == [43]) = false := by simpa using c1
  by_cases c2 : op = [97, 98, 115]
  · have m2 : (op == [97, 98, 115]) = true := by simpa using c2
    have D := Lib.hid (show oneS op a = lim (if a < 0 then 0 - a else a) by rw [c2]; rfl)
    clear c2
    by_cases hn : a < 0
    · rw [if_pos hn] at D
      go_enter Tryz.func84, Tryz.ntmps84
      go_wp2_with (go_at_call 85; refine (two_minus a A.out x y X.out _ (by decide +kernel) _).mono ?_; rintro e w' ⟨rfl, rfl⟩)
      go_ret2
      exact ⟨ret2 (by rw [D.out, X.out]), rfl⟩
    · rw [if_neg hn] at D
      go_enter Tryz.func84, Tryz.ntmps84
      go_wp2
      go_ret2
      exact ⟨ret2 (by rw [D.out, lim_in A.out]), rfl⟩
  have m2 : (op == [97, 98, 115]) = false := by simpa using c2
  by_cases c3 : op = [115, 105, 103, 110]
  · have m3 : (op == [115, 105, 103, 110]) = true := by simpa using c3
    have D := Lib.hid (show oneS op a = (max (min a 1) (-1), 0) by rw [c3]; rfl)
    clear c3
    go_enter Tryz.func84, Tryz.ntmps84
    go_wp2
    all_goals go_ret2
    all_goals exact ⟨ret2 (by first | exact D.out | exact D.out.trans (by rw [not_i64 A.out]) | exact D.out.trans (by congr 1; omega)), rfl⟩
  have m3 : (op == [115, 105, 103, 110]) = false := by simpa using c3
  by_cases c4 : op = [92]
  · have m4 : (op == [92]) = true := by simpa using c4
    have D := Lib.hid (show oneS op a = (-1 - a, 0) by rw [c4]; rfl)
    clear c4
    go_enter Tryz.func84, Tryz.ntmps84
    go_wp2
    all_goals go_ret2
    all_goals exact ⟨ret2 (by first | exact D.out | exact D.out.trans (by rw [not_i64 A.out]) | exact D.out.trans (by congr 1; omega)), rfl⟩
  have m4 : (op == [92]) = false := by simpa using c4
  have D := Lib.hid (show oneS op a = (0, 1) by simp [oneS, c0, c1, c2, c3, c4])
  clear c0 c1 c2 c3 c4
  go_enter Tryz.func84, Tryz.ntmps84
  go_wp2
  go_ret2
  exact ⟨ret2 D.out, rfl⟩
def cmpS (op : List UInt8) (a b : Int) : Bool × Int :=
  if op = [61, 58, 61] then (a == b, 0) else if op = [61, 92, 61] then (a != b, 0) else if op = [60] then (decide (a < b), 0) else if op = [62] then (decide (b < a), 0)
  else if op = [61, 60] then (decide (a ≤ b), 0) else if op = [62, 61] then (decide (b ≤ a), 0) else (false, 1)
theorem retb {p : Bool × Int} {x : Bool} {y : Int} (h : p = (x, y)) : Ending.returned (.tuple #[.bool x, .int .i64 y]) = .returned (.tuple #[.bool p.1, .int .i64 p.2]) := by rw [h]
set_option maxHeartbeats 1000000 in
theorem cmp_any (s : ByteArray) (a b : Int) (w : World) : Calls Tryz.prog 62 #[.string s, .int .i64 a, .int .i64 b] w fun e w' => e = .returned (.tuple #[.bool (cmpS s.toList a b).1, .int .i64 (cmpS s.toList a b).2]) ∧ w = w' := by
  obtain ⟨op, ho⟩ : ∃ op, s.toList = op := ⟨_, rfl⟩
  rw [ho]
  by_cases c0 : op = [61, 58, 61]
  · have m0 : (op == [61, 58, 61]) = true := by simpa using c0
    have D := Lib.hid (show cmpS op a b = (a == b, 0) by rw [c0]; rfl)
    clear c0
    go_enter Tryz.func62, Tryz.ntmps62
    go_wp2
    go_ret2
    exact ⟨retb D.out, rfl⟩
  have m0 : (op == [61, 58, 61]) = false := by simpa using c0
  by_cases c1 : op = [61, 92, 61]
  · have m1 : (op == [61, 92, 61]) = true := by simpa using c1
    have D := Lib.hid (show cmpS op a b = (a != b, 0) by rw [c1]; rfl)
    clear c1
    go_enter Tryz.func62, Tryz.ntmps62
    go_wp2
    go_ret2
    exact ⟨retb D.out, rfl⟩
  have m1 : (op == [61, 92, 61]) = false := by simpa using c1
  by_cases c2 : op = [60]
  · have m2 : (op == [60]) = true := by simpa using c2
    have D := Lib.hid (show cmpS op a b = (decide (a < b), 0) by rw [c2]; rfl)
    clear c2
    go_enter Tryz.func62, Tryz.ntmps62
    go_wp2
    go_ret2
    exact ⟨retb D.out, rfl⟩
  have m2 : (op == [60]) = false := by simpa using c2
  by_cases c3 : op = [62]
  · have m3 : (op == [62]) = true := by simpa using c3
    have D := Lib.hid (show cmpS op a b = (decide (b < a), 0) by rw [c3]; rfl)
    clear c3
    go_enter Tryz.func62, Tryz.ntmps62
    go_wp2
    go_ret2
    exact ⟨retb D.out, rfl⟩
  have m3 : (op == [62]) = false := by simpa using c3
  by_cases c4 : op = [61, 60]
  · have m4 : (op == [61, 60]) = true := by simpa using c4
    have D := Lib.hid (show cmpS op a b = (decide (a ≤ b), 0) by rw [c4]; rfl)
    clear c4
    go_enter Tryz.func62, Tryz.ntmps62
    go_wp2
    go_ret2
    exact ⟨retb D.out, rfl⟩
  have m4 : (op == [61, 60]) = false := by simpa using c4
  by_cases c5 : op = [62, 61]
  · have m5 : (op == [62, 61]) = true := by simpa using c5
    have D := Lib.hid (show cmpS op a b = (decide (b ≤ a), 0) by rw [c5]; rfl)
    clear c5
    go_enter Tryz.func62, Tryz.ntmps62
    go_wp2
    go_ret2
    exact ⟨retb D.out, rfl⟩
  have m5 : (op == [62, 61]) = false := by simpa using c5
  have D := Lib.hid (show cmpS op a b = (false, 1) by simp [cmpS, c0, c1, c2, c3, c4, c5])
  clear c0 c1 c2 c3 c4 c5
  go_enter Tryz.func62, Tryz.ntmps62
  go_wp2
  go_ret2
  exact ⟨retb D.out, rfl⟩
end Go.Proofs.YtcnnobcncklgfaaGreatDoor
