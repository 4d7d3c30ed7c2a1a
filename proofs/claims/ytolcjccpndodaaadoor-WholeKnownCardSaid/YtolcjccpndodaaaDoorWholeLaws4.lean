/- The law WholeTexts. -/
import Derived.Test.YtolcjccpndodaaaDoorWholeLaws
import Derived.Test.YtolcjccpndodaaaDoorParse
namespace Go.Proofs.YtolcjccpndodaaaDoor
open Go.ChangeShapes Go.WideShapes Go.ChangeAt Go.RowKit
set_option linter.unusedVariables false
theorem cmp_b (s : ByteArray) (l : List UInt8) (hs : s.toList = l) (a b : Int) (t : Bool) (y : Int) (h : cmpS l a b = (t, y)) (w : World) : Calls Tryd.prog 15 #[.string s, .int .i64 a, .int .i64 b] w fun e w' => e = .returned (.tuple #[.bool t, .int .i64 y]) ∧ w = w' := by
  have := cmp_any s a b w
  rw [hs, h] at this; exact this
theorem parse_b (l : List UInt8) (hs : l.length ≤ 281474976710656) (x y : Int) (h : parseS l = (x, y)) (w : World) (hr : Rng w) : Calls Tryd.prog 13 #[.string ⟨l.toArray⟩] w fun e w' => e = .returned (.tuple #[.int .i64 x, .int .i64 y]) ∧ Below w.heap.size w w' := by
  have := parse_any ⟨l.toArray⟩ (by show l.toArray.size ≤ _; simpa using hs) w hr
  rw [show (ByteArray.mk l.toArray).data.toList = l by simp, h] at this; exact this
set_option maxRecDepth 100000 in
set_option maxHeartbeats 1000000 in
theorem texts_lt (a b : Int) (ha : i64 a) (hb : i64 b) (h : a < b) (w : World) (ht : Tab w) (hr : Rng w) : Calls Tryd.prog 7 #[.int .i64 a, .int .i64 b] w fun e w' => e = .returned (.bool true) ∧ Below w.heap.size w w' := by
  have T := Lib.hid ht; clear ht
  have R := Lib.hid hr; clear hr
  have A := Lib.hid ha; clear ha
  have B := Lib.hid hb; clear hb
  obtain ⟨la, hla⟩ : ∃ la, Lib.itoa a = la := ⟨_, rfl⟩
  have LA := Lib.hid hla
  have PA := Lib.hid (show parseS la = (a, 0) by rw [← hla]; exact parse_itoa A.out)
  have NA := Lib.hid (show la.length ≤ 281474976710656 by have := itoa_len a A.out; rw [hla] at this; omega)
  obtain ⟨lb, hlb⟩ : ∃ lb, Lib.itoa b = lb := ⟨_, rfl⟩
  have LB := Lib.hid hlb
  have hne : (la == lb) = false := by
    rw [beq_eq_false_iff_ne]; intro h
    have := itoa_inj A.out B.out (by rw [hla, hlb, h])
    omega
  clear hlb
  clear hla
  have Q0 := Lib.hid (show cmpS [60] a b = (true, 0) by simp [cmpS]; omega)
  have Q1 := Lib.hid (show cmpS [61, 58, 61] a b = (false, 0) by simp [cmpS]; omega)
  have Q2 := Lib.hid (show cmpS [62] a b = (false, 0) by simp [cmpS]; omega)
  have Q3 := Lib.hid (show cmpS [61, 60] a b = (true, 0) by simp [cmpS]; omega)
  have Q4 := Lib.hid (show cmpS [62, 61] a b = (false, 0) by simp [cmpS]; omega)
  have Q5 := Lib.hid (show cmpS [61, 92, 61] a b = (true, 0) by simp [cmpS]; omega)
  clear h
  go_enter Tryd.func7, Tryd.ntmps7
  go_wp2_with fail
  refine (awake2 _ T.out).mono ?_; rintro e1 w1 ⟨rfl, hb1⟩
  go_wp2_with fail
  refine (text_b a A.out _ (T.out.keep hb1) la LA.out).mono ?_; rintro e1 w2 ⟨rfl, hb2⟩
  go_wp2_with fail
  refine (parse_b la NA.out a 0 PA.out _ ((R.out.keep hb1).keep hb2)).mono ?_; rintro e1 w3 ⟨rfl, hb3⟩
  go_wp2_with fail
  refine (cmp_b _ [60] (by decide +kernel) a b _ _ Q0.out _).mono ?_; rintro e1 w' ⟨rfl, rfl⟩
  go_wp2_with fail
  refine (cmp_b _ [61, 58, 61] (by decide +kernel) a b _ _ Q1.out _).mono ?_; rintro e1 w' ⟨rfl, rfl⟩
  go_wp2_with fail
  refine (cmp_b _ [62] (by decide +kernel) a b _ _ Q2.out _).mono ?_; rintro e1 w' ⟨rfl, rfl⟩
  go_wp2_with fail
  refine (cmp_b _ [61, 60] (by decide +kernel) a b _ _ Q3.out _).mono ?_; rintro e1 w' ⟨rfl, rfl⟩
  go_wp2_with fail
  refine (cmp_b _ [62, 61] (by decide +kernel) a b _ _ Q4.out _).mono ?_; rintro e1 w' ⟨rfl, rfl⟩
  go_wp2_with fail
  refine (cmp_b _ [61, 92, 61] (by decide +kernel) a b _ _ Q5.out _).mono ?_; rintro e1 w' ⟨rfl, rfl⟩
  go_wp2_with fail
  refine (text_b a A.out _ (((T.out.keep hb1).keep hb2).keep hb3) la LA.out).mono ?_; rintro e1 w4 ⟨rfl, hb4⟩
  go_wp2_with fail
  refine (text_b b B.out _ ((((T.out.keep hb1).keep hb2).keep hb3).keep hb4) lb LB.out).mono ?_; rintro e1 w5 ⟨rfl, hb5⟩
  go_wp2
  go_ret
  exact ⟨rfl, (by repeat (first | exact Below.refl _ _ | apply ball | apply Below.drew | (refine Below.setCell ?_ (by first | (simp; done) | omega | (simp; omega)) _) | refine bcall ?_ (by assumption)))⟩
set_option maxRecDepth 100000 in
set_option maxHeartbeats 1000000 in
theorem texts_gt (a b : Int) (ha : i64 a) (hb : i64 b) (h : b < a) (w : World) (ht : Tab w) (hr : Rng w) : Calls Tryd.prog 7 #[.int .i64 a, .int .i64 b] w fun e w' => e = .returned (.bool true) ∧ Below w.heap.size w w' := by
  have T := Lib.hid ht; clear ht
  have R := Lib.hid hr; clear hr
  have A := Lib.hid ha; clear ha
  have B := Lib.hid hb; clear hb
  obtain ⟨la, hla⟩ : ∃ la, Lib.itoa a = la := ⟨_, rfl⟩
  have LA := Lib.hid hla
  have PA := Lib.hid (show parseS la = (a, 0) by rw [← hla]; exact parse_itoa A.out)
  have NA := Lib.hid (show la.length ≤ 281474976710656 by have := itoa_len a A.out; rw [hla] at this; omega)
  obtain ⟨lb, hlb⟩ : ∃ lb, Lib.itoa b = lb := ⟨_, rfl⟩
  have LB := Lib.hid hlb
  have hne : (la == lb) = false := by
    rw [beq_eq_false_iff_ne]; intro h
    have := itoa_inj A.out B.out (by rw [hla, hlb, h])
    omega
  clear hlb
  clear hla
  have Q0 := Lib.hid (show cmpS [60] a b = (false, 0) by simp [cmpS]; omega)
  have Q1 := Lib.hid (show cmpS [61, 58, 61] a b = (false, 0) by simp [cmpS]; omega)
  have Q2 := Lib.hid (show cmpS [62] a b = (true, 0) by simp [cmpS]; omega)
  have Q3 := Lib.hid (show cmpS [61, 60] a b = (false, 0) by simp [cmpS]; omega)
  have Q4 := Lib.hid (show cmpS [62, 61] a b = (true, 0) by simp [cmpS]; omega)
  have Q5 := Lib.hid (show cmpS [61, 92, 61] a b = (true, 0) by simp [cmpS]; omega)
  clear h
  go_enter Tryd.func7, Tryd.ntmps7
  go_wp2_with fail
  refine (awake2 _ T.out).mono ?_; rintro e1 w1 ⟨rfl, hb1⟩
  go_wp2_with fail
  refine (text_b a A.out _ (T.out.keep hb1) la LA.out).mono ?_; rintro e1 w2 ⟨rfl, hb2⟩
  go_wp2_with fail
  refine (parse_b la NA.out a 0 PA.out _ ((R.out.keep hb1).keep hb2)).mono ?_; rintro e1 w3 ⟨rfl, hb3⟩
  go_wp2_with fail
  refine (cmp_b _ [60] (by decide +kernel) a b _ _ Q0.out _).mono ?_; rintro e1 w' ⟨rfl, rfl⟩
  go_wp2_with fail
  refine (cmp_b _ [61, 58, 61] (by decide +kernel) a b _ _ Q1.out _).mono ?_; rintro e1 w' ⟨rfl, rfl⟩
  go_wp2_with fail
  refine (cmp_b _ [62] (by decide +kernel) a b _ _ Q2.out _).mono ?_; rintro e1 w' ⟨rfl, rfl⟩
  go_wp2_with fail
  refine (cmp_b _ [61, 60] (by decide +kernel) a b _ _ Q3.out _).mono ?_; rintro e1 w' ⟨rfl, rfl⟩
  go_wp2_with fail
  refine (cmp_b _ [62, 61] (by decide +kernel) a b _ _ Q4.out _).mono ?_; rintro e1 w' ⟨rfl, rfl⟩
  go_wp2_with fail
  refine (cmp_b _ [61, 92, 61] (by decide +kernel) a b _ _ Q5.out _).mono ?_; rintro e1 w' ⟨rfl, rfl⟩
  go_wp2_with fail
  refine (text_b a A.out _ (((T.out.keep hb1).keep hb2).keep hb3) la LA.out).mono ?_; rintro e1 w4 ⟨rfl, hb4⟩
  go_wp2_with fail
  refine (text_b b B.out _ ((((T.out.keep hb1).keep hb2).keep hb3).keep hb4) lb LB.out).mono ?_; rintro e1 w5 ⟨rfl, hb5⟩
  go_wp2
  go_ret
  exact ⟨rfl, (by repeat (first | exact Below.refl _ _ | apply ball | apply Below.drew | (refine Below.setCell ?_ (by first | (simp; done) | omega | (simp; omega)) _) | refine bcall ?_ (by assumption)))⟩
set_option maxRecDepth 100000 in
set_option maxHeartbeats 1000000 in
theorem texts_eq (a : Int) (ha : i64 a) (w : World) (ht : Tab w) (hr : Rng w) : Calls Tryd.prog 7 #[.int .i64 a, .int .i64 a] w fun e w' => e = .returned (.bool true) ∧ Below w.heap.size w w' := by
  have T := Lib.hid ht; clear ht
  have R := Lib.hid hr; clear hr
  have A := Lib.hid ha; clear ha
  obtain ⟨la, hla⟩ : ∃ la, Lib.itoa a = la := ⟨_, rfl⟩
  have LA := Lib.hid hla
  have PA := Lib.hid (show parseS la = (a, 0) by rw [← hla]; exact parse_itoa A.out)
  have NA := Lib.hid (show la.length ≤ 281474976710656 by have := itoa_len a A.out; rw [hla] at this; omega)
  clear hla
  have Q0 := Lib.hid (show cmpS [60] a a = (false, 0) by simp [cmpS])
  have Q1 := Lib.hid (show cmpS [61, 58, 61] a a = (true, 0) by simp [cmpS])
  have Q2 := Lib.hid (show cmpS [62] a a = (false, 0) by simp [cmpS])
  have Q3 := Lib.hid (show cmpS [61, 60] a a = (true, 0) by simp [cmpS])
  have Q4 := Lib.hid (show cmpS [62, 61] a a = (true, 0) by simp [cmpS])
  have Q5 := Lib.hid (show cmpS [61, 92, 61] a a = (false, 0) by simp [cmpS])
  go_enter Tryd.func7, Tryd.ntmps7
  go_wp2_with fail
  refine (awake2 _ T.out).mono ?_; rintro e1 w1 ⟨rfl, hb1⟩
  go_wp2_with fail
  refine (text_b a A.out _ (T.out.keep hb1) la LA.out).mono ?_; rintro e1 w2 ⟨rfl, hb2⟩
  go_wp2_with fail
  refine (parse_b la NA.out a 0 PA.out _ ((R.out.keep hb1).keep hb2)).mono ?_; rintro e1 w3 ⟨rfl, hb3⟩
  go_wp2_with fail
  refine (cmp_b _ [60] (by decide +kernel) a a _ _ Q0.out _).mono ?_; rintro e1 w' ⟨rfl, rfl⟩
  go_wp2_with fail
  refine (cmp_b _ [61, 58, 61] (by decide +kernel) a a _ _ Q1.out _).mono ?_; rintro e1 w' ⟨rfl, rfl⟩
  go_wp2_with fail
  refine (cmp_b _ [62] (by decide +kernel) a a _ _ Q2.out _).mono ?_; rintro e1 w' ⟨rfl, rfl⟩
  go_wp2_with fail
  refine (cmp_b _ [61, 60] (by decide +kernel) a a _ _ Q3.out _).mono ?_; rintro e1 w' ⟨rfl, rfl⟩
  go_wp2_with fail
  refine (cmp_b _ [62, 61] (by decide +kernel) a a _ _ Q4.out _).mono ?_; rintro e1 w' ⟨rfl, rfl⟩
  go_wp2_with fail
  refine (cmp_b _ [61, 92, 61] (by decide +kernel) a a _ _ Q5.out _).mono ?_; rintro e1 w' ⟨rfl, rfl⟩
  go_wp2_with fail
  refine (text_b a A.out _ (((T.out.keep hb1).keep hb2).keep hb3) la LA.out).mono ?_; rintro e1 w4 ⟨rfl, hb4⟩
  go_wp2_with fail
  refine (text_b a A.out _ ((((T.out.keep hb1).keep hb2).keep hb3).keep hb4) la LA.out).mono ?_; rintro e1 w5 ⟨rfl, hb5⟩
  go_wp2
  go_ret
  exact ⟨rfl, (by repeat (first | exact Below.refl _ _ | apply ball | apply Below.drew | (refine Below.setCell ?_ (by first | (simp; done) | omega | (simp; omega)) _) | refine bcall ?_ (by assumption)))⟩
theorem texts_any (a b : Int) (ha : (Lit.int .i64 a).wf = true) (hb : (Lit.int .i64 b).wf = true) (w : World) (ht : Tab w) (hr : Rng w) : Calls Tryd.prog 7 #[.int .i64 a, .int .i64 b] w fun e w' => e = .returned (.bool true) ∧ Below w.heap.size w w' := by
  have ha := wfi64 ha
  have hb := wfi64 hb
  rcases Int.lt_trichotomy a b with h | rfl | h
  · exact texts_lt a b ha hb h w ht hr
  · exact texts_eq a ha w ht hr
  · exact texts_gt a b ha hb h w ht hr
end Go.Proofs.YtolcjccpndodaaaDoor
