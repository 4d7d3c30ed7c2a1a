/- The law WholeSays. -/
import Derived.Test.YtnnfmfiaecaahaaDoorRefW5
import Derived.Test.YtnnfmfiaecaahaaDoorAw2
namespace Go.Proofs.YtnnfmfiaecaahaaDoor
open Go Go.ChangeShapes Go.WideShapes Go.ChangeAt Go.RowKit
set_option linter.unusedVariables false
set_option maxRecDepth 100000 in
set_option maxHeartbeats 4000000 in
theorem says_any (s : ByteArray) (a b : Int) (t : ByteArray) (ha : i64 a) (hb : i64 b) (w : World) (ht : Tab w) (hr : Rng w) : Calls Tryd.prog 3 #[.string s, .int .i64 a, .int .i64 b, .string t] w fun e w' => e = .returned (.bool true) ∧ Below w.heap.size w w' := by
  have T := Lib.hid ht; have R := Lib.hid hr; have A := Lib.hid ha; have B := Lib.hid hb
  clear ht hr ha hb
  obtain ⟨x1, e1, h1⟩ : ∃ x y, twoS s.toList a b = (x, y) := ⟨_, _, rfl⟩
  have C1 : Hid (∀ w : World, Calls Tryd.prog 5 #[.string s, .int .i64 a, .int .i64 b] w fun e w' => e = .returned (.tuple #[.int .i64 x1, .int .i64 e1]) ∧ w = w') := fun w => by have := two_any s a b A.out B.out w; rw [h1] at this; exact this
  have D1 : Hid (∀ w : World, Calls Tryd.prog 6 #[.string s, .int .i64 a, .int .i64 b] w fun e w' => e = .returned (.tuple #[.int .i64 x1, .int .i64 e1]) ∧ w = w') := fun w => by have := rtwo_any s a b A.out B.out w; rw [h1] at this; exact this
  obtain ⟨x2, e2, h2⟩ : ∃ x y, oneS s.toList a = (x, y) := ⟨_, _, rfl⟩
  have C2 : Hid (∀ w : World, Calls Tryd.prog 7 #[.string s, .int .i64 a] w fun e w' => e = .returned (.tuple #[.int .i64 x2, .int .i64 e2]) ∧ w = w') := fun w => by have := one_any s a A.out w; rw [h2] at this; exact this
  have D2 : Hid (∀ w : World, Calls Tryd.prog 8 #[.string s, .int .i64 a] w fun e w' => e = .returned (.tuple #[.int .i64 x2, .int .i64 e2]) ∧ w = w') := fun w => by have := rone_any s a A.out w; rw [h2] at this; exact this
  obtain ⟨x3, e3, h3⟩ : ∃ x y, cmpS s.toList a b = (x, y) := ⟨_, _, rfl⟩
  have C3 : Hid (∀ w : World, Calls Tryd.prog 9 #[.string s, .int .i64 a, .int .i64 b] w fun e w' => e = .returned (.tuple #[.bool x3, .int .i64 e3]) ∧ w = w') := fun w => by have := cmp_any s a b w; rw [h3] at this; exact this
  have D3 : Hid (∀ w : World, Calls Tryd.prog 10 #[.string s, .int .i64 a, .int .i64 b] w fun e w' => e = .returned (.tuple #[.bool x3, .int .i64 e3]) ∧ w = w') := fun w => by have := rcmp_any s a b w; rw [h3] at this; exact this
  obtain ⟨x4, e4, h4⟩ : ∃ x y, parseS t.data.toList = (x, y) := ⟨_, _, rfl⟩
  obtain ⟨L, hL⟩ : ∃ L, Lib.itoa a = L := ⟨_, rfl⟩
  have H4 := Lib.hid h4; have HL := Lib.hid hL
  clear h1 h2 h3 h4 hL
  go_enter Tryd.func3, Tryd.ntmps3
  go_wp2_with fail
  refine (awake2 w T.out).mono ?_; rintro e w1 ⟨rfl, hb1⟩
  by_cases hs : t.size ≤ 200
  · have hs' : ¬ (200 : Int) < (t.size : Int) := by omega
    go_wp2_with fail
    refine (C1.out _).mono ?_; rintro e w' ⟨rfl, rfl⟩
    go_wp2_with fail
    refine (D1.out _).mono ?_; rintro e w' ⟨rfl, rfl⟩
    go_wp2_with fail
    refine (C2.out _).mono ?_; rintro e w' ⟨rfl, rfl⟩
    go_wp2_with fail
    refine (D2.out _).mono ?_; rintro e w' ⟨rfl, rfl⟩
    go_wp2_with fail
    refine (C3.out _).mono ?_; rintro e w' ⟨rfl, rfl⟩
    go_wp2_with fail
    refine (D3.out _).mono ?_; rintro e w' ⟨rfl, rfl⟩
    go_wp2_with fail
    refine (parse_any t (by omega) _ (R.out.keep hb1)).mono ?_; rw [H4.out]; rintro e w2 ⟨rfl, hb2⟩
    have HB2 := Lib.hid (bcall hb1 hb2)
    simp only [two64]
    go_wp2_with fail
    refine (rparse_any t hs _).mono ?_; rw [H4.out]; rintro e w' ⟨rfl, rfl⟩
    simp only [two64]
    go_wp2_with fail
    refine (text_b a A.out _ (T.out.keep HB2.out) L HL.out).mono ?_; rintro e w3 ⟨rfl, hb3⟩
    have HB3 := Lib.hid (bcall HB2.out hb3)
    go_wp2_with fail
    refine (rnum_any (a.natAbs + 1) a (by omega) A.out _).mono ?_; rw [HL.out]; rintro e w4 ⟨rfl, hb4⟩
    go_wp2
    go_ret
    exact ⟨rfl, bcall HB3.out hb4⟩
  · have hs' : (200 : Int) < (t.size : Int) := by omega
    go_wp2
    go_ret
    exact ⟨rfl, hb1⟩
theorem wfsay {a : Int} (h : (Lit.int .i64 a).wf = true) : i64 a := bounds_i64 h
theorem says_wf (s : ByteArray) (a b : Int) (t : ByteArray) (ha : (Lit.int .i64 a).wf = true) (hb : (Lit.int .i64 b).wf = true) (w : World) (ht : Tab w) (hr : Rng w) : Calls Tryd.prog 3 #[.string s, .int .i64 a, .int .i64 b, .string t] w fun e w' => e = .returned (.bool true) ∧ Below w.heap.size w w' :=
  says_any s a b t (wfsay ha) (wfsay hb) w ht hr
end Go.Proofs.YtnnfmfiaecaahaaDoor
