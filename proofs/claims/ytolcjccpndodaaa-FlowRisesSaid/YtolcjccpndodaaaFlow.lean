/- The contracts of package flow: what each call gives, and that it leaves all old memory as it was. -/
import Derived.Test.YtolcjccpndodaaaLab
namespace Go.Proofs.Ytolcjccpndodaaa
open Go.ChangeShapes Go.WideShapes Go.ChangeAt Go.RowKit
set_option linter.unusedVariables false
def fl (a b : Int) : Value := .agg #[.int .u64 a, .int .u64 b]
set_option maxHeartbeats 2000000 in
theorem call_any (a b c : Int) (w : World) (hz : bits .or .u64 0 a = a) : Calls Try.prog 10 #[.agg #[.int .u64 a, .int .u64 b], .int .u64 c] w fun e w' => 
   e = .returned (fl (jn a (mt c b)) b) ∧ Below w.heap.size w w' := by
  have Z := Lib.hid hz; clear hz
  go_enter Try.func10, Try.ntmps10
  go_wp2
  go_region_with (first | (go_at_call 17; refine (meet_any _ _ _).mono ?_; rintro e w' ⟨rfl, rfl⟩) | (go_at_call 16; refine Calls.mono (join_any a (mt c b) (w.heap.size + 1 + 1) 2 _ ?_ ?_ Z.out) ?_; go_simp; go_simp; rintro e w' ⟨rfl, rfl⟩))
  all_goals go_wp2
  all_goals exact bodyPost_ret (v := .agg #[.int .u64 (jn a (mt c b)), .int .u64 b]) (by simp [results, Try.results10, go_sem]) rfl ⟨rfl, (by repeat (first | exact Below.refl _ _ | assumption | apply Below.drew | (refine Below.setCell ?_ (by first | (simp; done) | omega | (simp; omega)) _) | (refine Below.alloc ?_ (by first | (simp; done) | omega | (simp; omega)) _)))⟩
theorem call_b (a b c : Int) (w : World) (r : Int) (hz : bits .or .u64 0 a = a) (hr : jn a (mt c b) = r) : Calls Try.prog 10 #[.agg #[.int .u64 a, .int .u64 b], .int .u64 c] w fun e w' => 
   e = .returned (.agg #[.int .u64 r, .int .u64 b]) ∧ Below w.heap.size w w' := by have := call_any a b c w hz; rw [hr] at this; exact this
theorem sees_any (a b l : Int) (w : World) : Calls Try.prog 12 #[.agg #[.int .u64 a, .int .u64 b], .int .u64 l] w fun e w' => 
   e = .returned (.bool (lq l b)) ∧ w.alloc (.cells #[.int .u64 a, .int .u64 b] 26) = w' := by
  go_enter Try.func12, Try.ntmps12
  go_wp2_with (go_at_call 11; refine (leq_any _ _ _).mono ?_; rintro e w' ⟨rfl, rfl⟩)
  go_ret
  exact ⟨rfl, rfl⟩
theorem sees_b (a b l : Int) (w : World) (t : Bool) (h : lq l b = t) : Calls Try.prog 12 #[.agg #[.int .u64 a, .int .u64 b], .int .u64 l] w fun e w' => 
   e = .returned (.bool t) ∧ w.alloc (.cells #[.int .u64 a, .int .u64 b] 26) = w' := by have := sees_any a b l w; rw [h] at this; exact this
theorem may_any (a b l : Int) (w : World) : Calls Try.prog 14 #[.agg #[.int .u64 a, .int .u64 b], .int .u64 l] w fun e w' => 
   e = .returned (.bool (lq a l)) ∧ w.alloc (.cells #[.int .u64 a, .int .u64 b] 26) = w' := by
  go_enter Try.func14, Try.ntmps14
  go_wp2_with (go_at_call 11; refine (leq_any _ _ _).mono ?_; rintro e w' ⟨rfl, rfl⟩)
  go_ret
  exact ⟨rfl, rfl⟩
theorem may_b (a b l : Int) (w : World) (t : Bool) (h : lq a l = t) : Calls Try.prog 14 #[.agg #[.int .u64 a, .int .u64 b], .int .u64 l] w fun e w' => 
   e = .returned (.bool t) ∧ w.alloc (.cells #[.int .u64 a, .int .u64 b] 26) = w' := by have := may_any a b l w; rw [h] at this; exact this
theorem own_any (a b l : Int) (w : World) : Calls Try.prog 15 #[.agg #[.int .u64 a, .int .u64 b], .int .u64 l] w fun e w' => 
   e = .returned (.bool (a == l)) ∧ w.alloc (.cells #[.int .u64 a, .int .u64 b] 26) = w' := by
  go_enter Try.func15, Try.ntmps15
  go_wp2
  go_ret
  exact ⟨rfl, rfl⟩
theorem own_b (a b l : Int) (w : World) (t : Bool) (h : (a == l) = t) : Calls Try.prog 15 #[.agg #[.int .u64 a, .int .u64 b], .int .u64 l] w fun e w' => 
   e = .returned (.bool t) ∧ w.alloc (.cells #[.int .u64 a, .int .u64 b] 26) = w' := by have := own_any a b l w; rw [h] at this; exact this
theorem sees_w (a b l : Int) (w : World) (t : Bool) (h : (lq l b) = t) : Calls Try.prog 12 #[.agg #[.int .u64 a, .int .u64 b], .int .u64 l] w fun e w' => 
   e = .returned (.bool t) ∧ Below w.heap.size w w' := (sees_b a b l w t h).mono fun e w' ⟨h1, h2⟩ => ⟨h1, by rw [← h2]; exact (by repeat (first | exact Below.refl _ _ | assumption | apply Below.drew | (refine Below.setCell ?_ (by first | (simp; done) | omega | (simp; omega)) _) | (refine Below.alloc ?_ (by first | (simp; done) | omega | (simp; omega)) _)))⟩
theorem may_w (a b l : Int) (w : World) (t : Bool) (h : (lq a l) = t) : Calls Try.prog 14 #[.agg #[.int .u64 a, .int .u64 b], .int .u64 l] w fun e w' => 
   e = .returned (.bool t) ∧ Below w.heap.size w w' := (may_b a b l w t h).mono fun e w' ⟨h1, h2⟩ => ⟨h1, by rw [← h2]; exact (by repeat (first | exact Below.refl _ _ | assumption | apply Below.drew | (refine Below.setCell ?_ (by first | (simp; done) | omega | (simp; omega)) _) | (refine Below.alloc ?_ (by first | (simp; done) | omega | (simp; omega)) _)))⟩
theorem own_w (a b l : Int) (w : World) (t : Bool) (h : (a == l) = t) : Calls Try.prog 15 #[.agg #[.int .u64 a, .int .u64 b], .int .u64 l] w fun e w' => 
   e = .returned (.bool t) ∧ Below w.heap.size w w' := (own_b a b l w t h).mono fun e w' ⟨h1, h2⟩ => ⟨h1, by rw [← h2]; exact (by repeat (first | exact Below.refl _ _ | assumption | apply Below.drew | (refine Below.setCell ?_ (by first | (simp; done) | omega | (simp; omega)) _) | (refine Below.alloc ?_ (by first | (simp; done) | omega | (simp; omega)) _)))⟩
theorem new_f (a b : Int) (w : World) (h : lq a b = false) : Calls Try.prog 8 #[.int .u64 a, .int .u64 b] w fun e w' => 
   e = .returned (.tuple #[.agg #[.int .u64 0, .int .u64 0], .int .i64 9]) ∧ Below w.heap.size w w' := by
  have H := Lib.hid h; clear h
  go_enter Try.func8, Try.ntmps8
  go_wp2_with (go_at_call 11; refine (leq_b a b _ H.out _).mono ?_; rintro e w' ⟨rfl, rfl⟩)
  exact bodyPost_ret (v := .tuple #[.agg #[.int .u64 0, .int .u64 0], .int .i64 9]) (by simp [results, Try.results8, go_sem]) rfl ⟨rfl, (by repeat (first | exact Below.refl _ _ | assumption | apply Below.drew | (refine Below.setCell ?_ (by first | (simp; done) | omega | (simp; omega)) _) | (refine Below.alloc ?_ (by first | (simp; done) | omega | (simp; omega)) _)))⟩
theorem new_t (a b : Int) (w : World) (h : lq a b = true) : Calls Try.prog 8 #[.int .u64 a, .int .u64 b] w fun e w' => 
   e = .returned (.tuple #[.agg #[.int .u64 a, .int .u64 b], .int .i64 0]) ∧ Below w.heap.size w w' := by
  have H := Lib.hid h; clear h
  go_enter Try.func8, Try.ntmps8
  go_wp2_with (go_at_call 11; refine (leq_b a b _ H.out _).mono ?_; rintro e w' ⟨rfl, rfl⟩)
  exact bodyPost_ret (v := .tuple #[.agg #[.int .u64 a, .int .u64 b], .int .i64 0]) (by simp [results, Try.results8, go_sem]) rfl ⟨rfl, (by repeat (first | exact Below.refl _ _ | assumption | apply Below.drew | (refine Below.setCell ?_ (by first | (simp; done) | omega | (simp; omega)) _) | (refine Below.alloc ?_ (by first | (simp; done) | omega | (simp; omega)) _)))⟩
theorem into_1 (a b l : Int) (w : World) (h : lq a l = false) : Calls Try.prog 9 #[.agg #[.int .u64 a, .int .u64 b], .int .u64 l] w fun e w' => 
   e = .returned (.tuple #[.agg #[.int .u64 0, .int .u64 0], .int .i64 9]) ∧ Below w.heap.size w w' := by
  have H := Lib.hid h; clear h
  go_enter Try.func9, Try.ntmps9
  go_wp2_with (go_at_call 11; refine (leq_b _ _ _ H.out _).mono ?_; rintro e w' ⟨rfl, rfl⟩)
  exact bodyPost_ret (v := .tuple #[.agg #[.int .u64 0, .int .u64 0], .int .i64 9]) (by simp [results, Try.results9, go_sem]) rfl ⟨rfl, (by repeat (first | exact Below.refl _ _ | assumption | apply Below.drew | (refine Below.setCell ?_ (by first | (simp; done) | omega | (simp; omega)) _) | (refine Below.alloc ?_ (by first | (simp; done) | omega | (simp; omega)) _)))⟩
theorem into_2 (a b l : Int) (w : World) (h : lq a l = true) (h2 : lq l b = false) : Calls Try.prog 9 #[.agg #[.int .u64 a, .int .u64 b], .int .u64 l] w fun e w' => 
   e = .returned (.tuple #[.agg #[.int .u64 0, .int .u64 0], .int .i64 9]) ∧ Below w.heap.size w w' := by
  have H := Lib.hid h; clear h
  have H2 := Lib.hid h2; clear h2
  go_enter Try.func9, Try.ntmps9
  go_wp2_with (first | (go_at_call 11; refine (leq_b a l _ H.out _).mono ?_; rintro e w' ⟨rfl, rfl⟩) |  (go_at_call 11; refine (leq_b l b _ H2.out _).mono ?_; rintro e w' ⟨rfl, rfl⟩))
  exact bodyPost_ret (v := .tuple #[.agg #[.int .u64 0, .int .u64 0], .int .i64 9]) (by simp [results, Try.results9, go_sem]) rfl ⟨rfl, (by repeat (first | exact Below.refl _ _ | assumption | apply Below.drew | (refine Below.setCell ?_ (by first | (simp; done) | omega | (simp; omega)) _) | (refine Below.alloc ?_ (by first | (simp; done) | omega | (simp; omega)) _)))⟩
theorem into_t (a b l : Int) (w : World) (h : lq a l = true) (h2 : lq l b = true) : Calls Try.prog 9 #[.agg #[.int .u64 a, .int .u64 b], .int .u64 l] w fun e w' => 
   e = .returned (.tuple #[.agg #[.int .u64 a, .int .u64 l], .int .i64 0]) ∧ Below w.heap.size w w' := by
  have H := Lib.hid h; clear h
  have H2 := Lib.hid h2; clear h2
  go_enter Try.func9, Try.ntmps9
  go_wp2_with (first | (go_at_call 11; refine (leq_b a l _ H.out _).mono ?_; rintro e w' ⟨rfl, rfl⟩) |  (go_at_call 11; refine (leq_b l b _ H2.out _).mono ?_; rintro e w' ⟨rfl, rfl⟩))
  exact bodyPost_ret (v := .tuple #[.agg #[.int .u64 a, .int .u64 l], .int .i64 0]) (by simp [results, Try.results9, go_sem]) rfl ⟨rfl, (by repeat (first | exact Below.refl _ _ | assumption | apply Below.drew | (refine Below.setCell ?_ (by first | (simp; done) | omega | (simp; omega)) _) | (refine Below.alloc ?_ (by first | (simp; done) | omega | (simp; omega)) _)))⟩
theorem into_f (a b l : Int) (w : World) (h : (lq a l && lq l b) = false) : Calls Try.prog 9 #[.agg #[.int .u64 a, .int .u64 b], .int .u64 l] w fun e w' => 
   e = .returned (.tuple #[.agg #[.int .u64 0, .int .u64 0], .int .i64 9]) ∧ Below w.heap.size w w' := by
  cases h1 : lq a l
  · exact into_1 a b l w h1
  · rw [h1] at h; exact into_2 a b l w h1 (by simpa using h)
theorem open_f (a b l : Int) (w : World) (h : lq l b = false) : Calls Try.prog 13 #[.agg #[.int .u64 a, .int .u64 b], .int .u64 l] w fun e w' => 
   e = .returned (.tuple #[.agg #[.int .u64 0, .int .u64 0], .int .i64 9]) ∧ Below w.heap.size w w' := by
  have H := Lib.hid h; clear h
  go_enter Try.func13, Try.ntmps13
  go_wp2_with (go_at_call 12; refine (sees_b _ _ _ _ _ H.out).mono ?_; rintro e w1 ⟨rfl, rfl⟩)
  exact bodyPost_ret (v := .tuple #[.agg #[.int .u64 0, .int .u64 0], .int .i64 9]) (by simp [results, Try.results13, go_sem]) rfl ⟨rfl, (by repeat (first | exact Below.refl _ _ | assumption | apply Below.drew | (refine Below.setCell ?_ (by first | (simp; done) | omega | (simp; omega)) _) | (refine Below.alloc ?_ (by first | (simp; done) | omega | (simp; omega)) _)))⟩
set_option maxHeartbeats 1000000 in
theorem open_t (a b l : Int) (w : World) (hz : bits .or .u64 0 a = a) (h : lq l b = true) : Calls Try.prog 13 #[.agg #[.int .u64 a, .int .u64 b], .int .u64 l] w fun e w' => 
   e = .returned (.tuple #[.agg #[.int .u64 (jn a l), .int .u64 b], .int .i64 0]) ∧ Below w.heap.size w w' := by
  have H := Lib.hid h; clear h
  have Z := Lib.hid hz; clear hz
  go_enter Try.func13, Try.ntmps13
  go_wp2_with (first | (go_at_call 12; refine (sees_b _ _ _ _ _ H.out).mono ?_; rintro e w1 ⟨rfl, rfl⟩) | (go_at_call 16; refine Calls.mono (join_any a l (w.heap.size + 1 + 1 + 1) 2 _ ?_ ?_ Z.out) ?_; go_simp; go_simp; rintro e w' ⟨rfl, rfl⟩))
  exact bodyPost_ret (v := .tuple #[.agg #[.int .u64 (jn a l), .int .u64 b], .int .i64 0]) (by simp [results, Try.results13, go_sem]) rfl ⟨rfl, (by repeat (first | exact Below.refl _ _ | assumption | apply Below.drew | (refine Below.setCell ?_ (by first | (simp; done) | omega | (simp; omega)) _) | (refine Below.alloc ?_ (by first | (simp; done) | omega | (simp; omega)) _)))⟩
theorem open_b (a b l : Int) (w : World) (r : Int) (hz : bits .or .u64 0 a = a) (h : lq l b = true) (hr : jn a l = r) : Calls Try.prog 13 #[.agg #[.int .u64 a, .int .u64 b], .int .u64 l] w fun e w' => 
   e = .returned (.tuple #[.agg #[.int .u64 r, .int .u64 b], .int .i64 0]) ∧ Below w.heap.size w w' := by have := open_t a b l w hz h; rw [hr] at this; exact this
end Go.Proofs.Ytolcjccpndodaaa
