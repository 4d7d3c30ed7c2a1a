/- The laws of chapter 19: FlowInto, FlowKnown, FlowSays. -/
import Derived.Test.YtolcjccpndodaaaFlow
import Derived.Test.YtolcjccpndodaaaLaw
import Derived.Outline
namespace Go.Proofs.Ytolcjccpndodaaa
open Go.ChangeShapes Go.WideShapes Go.ChangeAt Go.RowKit
set_option linter.unusedVariables false
/-- A struct of two cells in a block of the call's own, behind a call. -/
theorem keep2 {W w1 : World} {b : Nat} {x y : Value} (hb : Below W.heap.size W w1) (h : W.cell? ⟨b, 0, none⟩ = some x ∧ W.cell? ⟨b, 1, none⟩ = some y) : 
    (w1.cell? ⟨b, 0, none⟩ = some x ∧ w1.cell? ⟨b, 1, none⟩ = some y) ∧ b < w1.heap.size :=
  ⟨⟨keep hb h.1, keep hb h.2⟩, cell_lt (a := ⟨b, 0, none⟩) (keep hb h.1)⟩
theorem wfu64 {a : Int} (h : (Lit.int .u64 a).wf = true) : 0 ≤ a ∧ a < 18446744073709551616 := by
  have := bounds_u64 h; omega
theorem two_new (w : World) (x y : Value) (t : TypeId) : (w.alloc (.cells #[x, y] t)).cell? ⟨w.heap.size, 0, none⟩ = some x ∧ (w.alloc (.cells #[x, y] t)).cell? ⟨w.heap.size, 1, none⟩ = some y := by
  constructor <;> go_simp
theorem two_old {w : World} {b : Nat} {x y : Value} (o : Obj) (h : w.cell? ⟨b, 0, none⟩ = some x ∧ w.cell? ⟨b, 1, none⟩ = some y) : (w.alloc o).cell? ⟨b, 0, none⟩ = some x ∧ (w.alloc o).cell? ⟨b, 1, none⟩ = some y := by
  have := cell_lt h.1
  have := cell_lt h.2
  obtain ⟨h1, h2⟩ := h
  constructor <;> go_simp
theorem awake_any (w : World) : Calls Try.prog 7 #[] w fun e w' => e = .returned (.bool true) ∧ Below w.heap.size w w' := by
  have H := Lib.hid (show lq 0 1 = true by decide +kernel)
  have Z := Lib.hid (show bits .or .u64 0 0 = 0 by decide +kernel)
  have J := Lib.hid (show jn 0 (mt 3 1) = 1 by decide +kernel)
  go_enter Try.func7, Try.ntmps7
  go_wp2_with (first | (go_at_call 8; refine (new_t 0 1 _ H.out).mono ?_; rintro e w1 ⟨rfl, hb1⟩) | (go_at_call 10; refine (call_b 0 1 3 _ 1 Z.out J.out).mono ?_; rintro e w2 ⟨rfl, hb2⟩; obtain ⟨⟨c0, c1⟩, z1⟩ := keep2 hb2 (two_new _ _ _ _)))
  go_ret
  exact ⟨rfl, (by repeat (first | exact Below.refl _ _ | apply ball | apply Below.drew | (refine Below.setCell ?_ (by first | (simp; done) | omega | (simp; omega)) _) | refine bcall ?_ (by assumption)))⟩
set_option maxHeartbeats 1000000 in
theorem flowInto_any (a0 a1 a2 a3 : Int) (w : World) :
    Calls Try.prog 3 #[.int .u64 a0, .int .u64 a1, .int .u64 a2, .int .u64 a3] w fun e w' => e = .returned (.bool true) ∧ Below w.heap.size w w' := by
  obtain ⟨p, hp⟩ : ∃ p, p = bits .and .u64 a0 a1 := ⟨_, rfl⟩
  have P := Lib.hid hp
  have H := Lib.hid (show lq p a1 = true by rw [hp]; exact lq_mt a0 a1)
  have Z := Lib.hid (show bits .or .u64 0 p = p by rw [hp]; exact zero_or (mt_range a0 a1).1 (mt_range a0 a1).2)
  clear hp
  cases hk : lq p a2 && lq a2 a1
  · have K := Lib.hid hk; clear hk
    go_enter Try.func3, Try.ntmps3
    go_wp2_with (first | (go_at_call 7; refine (awake_any _).mono ?_; rintro e w1 ⟨rfl, hb1⟩) | (go_at_call 8; rw [← P.out]; refine (new_t p a1 _ H.out).mono ?_; rintro e w2 ⟨rfl, hb2⟩) | (go_at_call 9; refine (into_f p a1 a2 _ K.out).mono ?_; rintro e w3 ⟨rfl, hb3⟩; obtain ⟨⟨c0, c1⟩, z1⟩ := keep2 hb3 (two_new _ _ _ _)))
    go_ret
    exact ⟨rfl, (by repeat (first | exact Below.refl _ _ | apply ball | apply Below.drew | (refine Below.setCell ?_ (by first | (simp; done) | omega | (simp; omega)) _) | refine bcall ?_ (by assumption)))⟩
  · have k1 : lq p a2 = true := by simp at hk; exact hk.1
    have k2 : lq a2 a1 = true := by simp at hk; exact hk.2
    obtain ⟨q, hq⟩ : ∃ q, q = jn p (mt a3 a2) := ⟨_, rfl⟩
    have Q := Lib.hid hq.symm
    have G1 := Lib.hid (show lq p q = true by rw [hq]; exact lq_jn_left _ _)
    have G2 := Lib.hid (show lq q a2 = true by rw [hq]; exact lq_jn_of k1 (lq_mt _ _))
    have K1 := Lib.hid k1
    have K2 := Lib.hid k2
    clear hq hk k1
    cases h3 : lq a3 a2
    · have K3 := Lib.hid h3; clear h3 k2
      go_enter Try.func3, Try.ntmps3
      go_wp2_with (first | (go_at_call 7; refine (awake_any _).mono ?_; rintro e w1 ⟨rfl, hb1⟩) | (go_at_call 8; rw [← P.out]; refine (new_t p a1 _ H.out).mono ?_; rintro e w2 ⟨rfl, hb2⟩) | (go_at_call 9; refine (into_t p a1 a2 _ K1.out K2.out).mono ?_; rintro e w3 ⟨rfl, hb3⟩; obtain ⟨⟨c0, c1⟩, z1⟩ := keep2 hb3 (two_new _ _ _ _)) | (go_at_call 10; refine (call_b p a2 a3 _ q Z.out Q.out).mono ?_; rintro e w4 ⟨rfl, hb4⟩; obtain ⟨⟨c2, c3⟩, z2⟩ := keep2 hb4 (two_old _ ⟨c0, c1⟩); obtain ⟨⟨c4, c5⟩, z3⟩ := keep2 hb4 (two_new _ _ _ _); clear c0 c1) | (go_at_call 11; (first | (with_reducible refine (leq_b a2 a1 _ K2.out _).mono ?_) | (with_reducible refine (leq_b p q _ G1.out _).mono ?_) | (with_reducible refine (leq_b q a2 _ G2.out _).mono ?_)); rintro e w' ⟨rfl, rfl⟩) | (go_at_call 12; refine (sees_b p a2 a3 _ _ K3.out).mono ?_; rintro e w' ⟨rfl, rfl⟩))
      go_ret
      exact ⟨rfl, (by repeat (first | exact Below.refl _ _ | apply ball | apply Below.drew | (refine Below.setCell ?_ (by first | (simp; done) | omega | (simp; omega)) _) | refine bcall ?_ (by assumption)))⟩
    · have K3 := Lib.hid h3
      have K4 := Lib.hid (lq_trans h3 k2)
      clear h3 k2
      go_enter Try.func3, Try.ntmps3
      go_wp2_with (first | (go_at_call 7; refine (awake_any _).mono ?_; rintro e w1 ⟨rfl, hb1⟩) | (go_at_call 8; rw [← P.out]; refine (new_t p a1 _ H.out).mono ?_; rintro e w2 ⟨rfl, hb2⟩) | (go_at_call 9; refine (into_t p a1 a2 _ K1.out K2.out).mono ?_; rintro e w3 ⟨rfl, hb3⟩; obtain ⟨⟨c0, c1⟩, z1⟩ := keep2 hb3 (two_new _ _ _ _)) | (go_at_call 10; refine (call_b p a2 a3 _ q Z.out Q.out).mono ?_; rintro e w4 ⟨rfl, hb4⟩; obtain ⟨⟨c2, c3⟩, z2⟩ := keep2 hb4 (two_old _ ⟨c0, c1⟩); obtain ⟨⟨c4, c5⟩, z3⟩ := keep2 hb4 (two_new _ _ _ _); clear c0 c1) | (go_at_call 11; (first | (with_reducible refine (leq_b a2 a1 _ K2.out _).mono ?_) | (with_reducible refine (leq_b p q _ G1.out _).mono ?_) | (with_reducible refine (leq_b q a2 _ G2.out _).mono ?_)); rintro e w' ⟨rfl, rfl⟩) | (go_at_call 12; (first | (with_reducible refine (sees_b p a2 a3 _ _ K3.out).mono ?_) | (with_reducible refine (sees_b p a1 a3 _ _ K4.out).mono ?_)); rintro e w' ⟨rfl, rfl⟩))
      go_ret
      exact ⟨rfl, (by repeat (first | exact Below.refl _ _ | apply ball | apply Below.drew | (refine Below.setCell ?_ (by first | (simp; done) | omega | (simp; omega)) _) | refine bcall ?_ (by assumption)))⟩
set_option maxHeartbeats 1000000 in
theorem flowKnown_any (w : World) : Calls Try.prog 5 #[] w fun e w' => e = .returned (.bool true) ∧ Below w.heap.size w w' := by
  have N1 := Lib.hid (show lq 2 1 = false by decide +kernel)
  have N2 := Lib.hid (show lq 1 7 = true by decide +kernel)
  have I1 := Lib.hid (show lq 1 3 = true by decide +kernel)
  have I2 := Lib.hid (show lq 3 7 = true by decide +kernel)
  have I3 := Lib.hid (show (lq 1 2 && lq 2 7) = false by decide +kernel)
  have I4 := Lib.hid (show (lq 1 9 && lq 9 7) = false by decide +kernel)
  have O1 := Lib.hid (show lq 4 7 = true by decide +kernel)
  have O2 := Lib.hid (show lq 8 7 = false by decide +kernel)
  have Z := Lib.hid (show bits .or .u64 0 1 = 1 by decide +kernel)
  have JJ := Lib.hid (show jn 1 4 = 5 by decide +kernel)
  have M1 := Lib.hid (show lq 1 5 = true by decide +kernel)
  have M2 := Lib.hid (show lq 1 6 = false by decide +kernel)
  have S1 := Lib.hid (show lq 6 7 = true by decide +kernel)
  go_enter Try.func5, Try.ntmps5
  go_wp2_with fail
  refine (awake_any _).mono ?_; rintro e w1 ⟨rfl, hb1⟩
  go_wp2_with fail
  refine (new_f 2 1 _ N1.out).mono ?_; rintro e w2 ⟨rfl, hb2⟩
  go_wp2_with fail
  refine (new_t 1 7 _ N2.out).mono ?_; rintro e w3 ⟨rfl, hb3⟩
  go_wp2_with fail
  refine (into_t 1 7 3 _ I1.out I2.out).mono ?_; rintro e w4 ⟨rfl, hb4⟩; obtain ⟨⟨f0, f1⟩, fz⟩ := keep2 hb4 (two_new _ _ _ _)
  go_wp2_with fail
  refine (into_f 1 7 2 _ I3.out).mono ?_; rintro e w5 ⟨rfl, hb5⟩; obtain ⟨⟨g0, g1⟩, gz⟩ := keep2 hb5 (two_old _ ⟨f0, f1⟩); clear f0 f1 fz; obtain ⟨⟨b0, b1⟩, bz⟩ := keep2 hb5 (two_new _ _ _ _)
  go_wp2_with fail
  refine (into_f 1 7 9 _ I4.out).mono ?_; rintro e w6 ⟨rfl, hb6⟩; obtain ⟨⟨f0, f1⟩, fz⟩ := keep2 hb6 (two_old _ ⟨g0, g1⟩); obtain ⟨⟨c0, c1⟩, cz⟩ := keep2 hb6 (two_old _ ⟨b0, b1⟩); clear b0 b1 bz g0 g1 gz
  go_wp2_with fail
  refine Calls.mono (open_t 1 7 4 _ Z.out O1.out) ?_; rw [JJ.out]; rintro e w7 ⟨rfl, hb7⟩; obtain ⟨⟨g0, g1⟩, gz⟩ := keep2 hb7 (two_old _ ⟨f0, f1⟩); obtain ⟨⟨b0, b1⟩, bz⟩ := keep2 hb7 (two_old _ ⟨c0, c1⟩); clear c0 c1 cz f0 f1 fz
  go_wp2_with fail
  refine (open_f 1 7 8 _ O2.out).mono ?_; rintro e w8 ⟨rfl, hb8⟩; obtain ⟨⟨f0, f1⟩, fz⟩ := keep2 hb8 (two_old _ ⟨g0, g1⟩); obtain ⟨⟨c0, c1⟩, cz⟩ := keep2 hb8 (two_old _ ⟨b0, b1⟩); clear b0 b1 bz g0 g1 gz; obtain ⟨⟨d0, d1⟩, dz⟩ := keep2 hb8 (two_new _ _ _ _)
  go_wp2_with fail
  refine (may_w 1 7 5 _ _ M1.out).mono ?_; rintro e x0 ⟨rfl, hx0⟩; obtain ⟨⟨g0, g1⟩, gz⟩ := keep2 hx0 (two_old _ ⟨f0, f1⟩); clear f0 f1 fz
  go_wp2_with fail
  refine (may_w 1 7 6 _ _ M2.out).mono ?_; rintro e x1 ⟨rfl, hx1⟩; obtain ⟨⟨f0, f1⟩, fz⟩ := keep2 hx1 ⟨g0, g1⟩; clear g0 g1 gz
  go_wp2_with fail
  refine (own_w 1 7 1 _ true (by decide)).mono ?_; rintro e x2 ⟨rfl, hx2⟩; obtain ⟨⟨g0, g1⟩, gz⟩ := keep2 hx2 ⟨f0, f1⟩; clear f0 f1 fz
  go_wp2_with fail
  refine (own_w 1 7 0 _ false (by decide)).mono ?_; rintro e x3 ⟨rfl, hx3⟩; obtain ⟨⟨f0, f1⟩, fz⟩ := keep2 hx3 ⟨g0, g1⟩; clear g0 g1 gz
  go_wp2_with fail
  refine (sees_w 1 7 6 _ _ S1.out).mono ?_; rintro e x4 ⟨rfl, hx4⟩; obtain ⟨⟨g0, g1⟩, gz⟩ := keep2 hx4 ⟨f0, f1⟩; clear f0 f1 fz
  go_wp2_with fail
  refine (sees_w 1 7 8 _ _ O2.out).mono ?_; rintro e x5 ⟨rfl, hx5⟩; obtain ⟨⟨f0, f1⟩, fz⟩ := keep2 hx5 ⟨g0, g1⟩; clear g0 g1 gz
  go_wp2
  go_ret
  exact ⟨rfl, (by repeat (first | exact Below.refl _ _ | apply ball | apply Below.drew | (refine Below.setCell ?_ (by first | (simp; done) | omega | (simp; omega)) _) | refine bcall ?_ (by assumption)))⟩
set_option maxRecDepth 100000 in
set_option maxHeartbeats 1000000 in
theorem flowSays_a (a0 a1 a2 : Int) (w : World) (g0 : 0 ≤ a1 ∧ a1 < 18446744073709551616) (h : lq a0 a1 = false) : Calls Try.prog 6 #[.int .u64 a0, .int .u64 a1, .int .u64 a2] w fun e w' => e = .returned (.bool true) ∧ Below w.heap.size w w' := by
  have H := Lib.hid h
  have T : (bits .or .u64 a0 a1 != a1) = true := by rw [bne, show (bits .or .u64 a0 a1 == a1) = lq a0 a1 from jn_eq_iff g0.1 g0.2, h]; rfl
  clear h g0
  go_enter Try.func6, Try.ntmps6
  go_wp2_with fail
  refine (awake_any _).mono ?_; rintro e w1 ⟨rfl, hb1⟩
  go_wp2_with fail
  refine (new_f a0 a1 _ H.out).mono ?_; rintro e w2 ⟨rfl, hb2⟩
  go_wp2
  go_ret
  exact ⟨rfl, (by repeat (first | exact Below.refl _ _ | apply ball | apply Below.drew | (refine Below.setCell ?_ (by first | (simp; done) | omega | (simp; omega)) _) | refine bcall ?_ (by assumption)))⟩
set_option maxRecDepth 100000 in
set_option maxHeartbeats 2000000 in
theorem flowSays_tt (a0 a1 a2 : Int) (w : World) (f0 : 0 ≤ a0 ∧ a0 < 18446744073709551616) (g0 : 0 ≤ a1 ∧ a1 < 18446744073709551616) (k0 : 0 ≤ a2 ∧ a2 < 18446744073709551616) (h : lq a0 a1 = true) (h1 : lq a0 a2 = true) (h2 : lq a2 a1 = true) : Calls Try.prog 6 #[.int .u64 a0, .int .u64 a1, .int .u64 a2] w fun e w' => e = .returned (.bool true) ∧ Below w.heap.size w w' := by
  have H := Lib.hid h
  have H1 := Lib.hid h1
  have H2 := Lib.hid h2
  have Z := Lib.hid (zero_or f0.1 f0.2)
  have T : (bits .or .u64 a0 a1 != a1) = false := by rw [bne, show (bits .or .u64 a0 a1 == a1) = lq a0 a1 from jn_eq_iff g0.1 g0.2, h]; rfl
  have T1 : (bits .or .u64 a0 a2 == a2) = true := by rw [show (bits .or .u64 a0 a2 == a2) = lq a0 a2 from jn_eq_iff k0.1 k0.2, h1]
  have T2 : (bits .or .u64 a2 a1 == a1) = true := by rw [show (bits .or .u64 a2 a1 == a1) = lq a2 a1 from jn_eq_iff g0.1 g0.2, h2]
  have J1 : jn a0 a2 = bits .or .u64 a0 a2 := rfl
  obtain ⟨q, hq⟩ : ∃ q, bits .or .u64 a0 (bits .and .u64 a2 a1) = q := ⟨_, rfl⟩
  have Q := Lib.hid (show jn a0 (mt a2 a1) = q from hq)
  clear h h1 h2 f0 g0 k0
  go_enter Try.func6, Try.ntmps6
  go_wp2_with fail
  refine (awake_any _).mono ?_; rintro e w1 ⟨rfl, hb1⟩
  go_wp2_with fail
  refine (new_t a0 a1 _ H.out).mono ?_; rintro e w2 ⟨rfl, hb2⟩
  go_wp2_with fail
  refine (into_t a0 a1 a2 _ H1.out H2.out).mono ?_; rintro e w3 ⟨rfl, hb3⟩; obtain ⟨⟨f0, f1⟩, fz⟩ := keep2 hb3 (two_new _ _ _ _)
  go_wp2_with fail
  refine Calls.mono (open_t a0 a1 a2 _ Z.out H2.out) ?_; rw [J1]; rintro e w4 ⟨rfl, hb4⟩; obtain ⟨⟨g0, g1⟩, gz⟩ := keep2 hb4 (two_old _ ⟨f0, f1⟩); clear f0 f1 fz; obtain ⟨⟨b0, b1⟩, bz⟩ := keep2 hb4 (two_new _ _ _ _)
  go_wp2_with fail
  refine (call_b a0 a1 a2 _ q Z.out Q.out).mono ?_; rintro e w5 ⟨rfl, hb5⟩; obtain ⟨⟨f0, f1⟩, fz⟩ := keep2 hb5 (two_old _ ⟨g0, g1⟩); obtain ⟨⟨c0, c1⟩, cz⟩ := keep2 hb5 (two_old _ ⟨b0, b1⟩); clear b0 b1 bz g0 g1 gz; obtain ⟨⟨d0, d1⟩, dz⟩ := keep2 hb5 (two_new _ _ _ _)
  go_wp2_with fail
  refine (may_w a0 a1 a2 _ _ H1.out).mono ?_; rintro e w6 ⟨rfl, hb6⟩; obtain ⟨⟨g0, g1⟩, gz⟩ := keep2 hb6 (two_old _ ⟨f0, f1⟩); clear f0 f1 fz
  go_wp2_with fail
  refine (own_w a0 a1 a2 _ _ rfl).mono ?_; rintro e w7 ⟨rfl, hb7⟩; obtain ⟨⟨f0, f1⟩, fz⟩ := keep2 hb7 ⟨g0, g1⟩; clear g0 g1 gz
  go_wp2_with fail
  refine (sees_w a0 a1 a2 _ _ H2.out).mono ?_; rintro e w8 ⟨rfl, hb8⟩
  go_wp2
  go_ret
  exact ⟨rfl, (by repeat (first | exact Below.refl _ _ | apply ball | apply Below.drew | (refine Below.setCell ?_ (by first | (simp; done) | omega | (simp; omega)) _) | refine bcall ?_ (by assumption)))⟩
set_option maxRecDepth 100000 in
set_option maxHeartbeats 2000000 in
theorem flowSays_tf (a0 a1 a2 : Int) (w : World) (f0 : 0 ≤ a0 ∧ a0 < 18446744073709551616) (g0 : 0 ≤ a1 ∧ a1 < 18446744073709551616) (k0 : 0 ≤ a2 ∧ a2 < 18446744073709551616) (h : lq a0 a1 = true) (h1 : lq a0 a2 = true) (h2 : lq a2 a1 = false) : Calls Try.prog 6 #[.int .u64 a0, .int .u64 a1, .int .u64 a2] w fun e w' => e = .returned (.bool true) ∧ Below w.heap.size w w' := by
  have H := Lib.hid h
  have H1 := Lib.hid h1
  have H2 := Lib.hid h2
  have Z := Lib.hid (zero_or f0.1 f0.2)
  have T : (bits .or .u64 a0 a1 != a1) = false := by rw [bne, show (bits .or .u64 a0 a1 == a1) = lq a0 a1 from jn_eq_iff g0.1 g0.2, h]; rfl
  have T1 : (bits .or .u64 a0 a2 == a2) = true := by rw [show (bits .or .u64 a0 a2 == a2) = lq a0 a2 from jn_eq_iff k0.1 k0.2, h1]
  have T2 : (bits .or .u64 a2 a1 == a1) = false := by rw [show (bits .or .u64 a2 a1 == a1) = lq a2 a1 from jn_eq_iff g0.1 g0.2, h2]
  have J1 : jn a0 a2 = bits .or .u64 a0 a2 := rfl
  obtain ⟨q, hq⟩ : ∃ q, bits .or .u64 a0 (bits .and .u64 a2 a1) = q := ⟨_, rfl⟩
  have Q := Lib.hid (show jn a0 (mt a2 a1) = q from hq)
  clear h h1 h2 f0 g0 k0
  go_enter Try.func6, Try.ntmps6
  go_wp2_with fail
  refine (awake_any _).mono ?_; rintro e w1 ⟨rfl, hb1⟩
  go_wp2_with fail
  refine (new_t a0 a1 _ H.out).mono ?_; rintro e w2 ⟨rfl, hb2⟩
  go_wp2_with fail
  refine (into_f a0 a1 a2 _ (by rw [H1.out, H2.out]; rfl)).mono ?_; rintro e w3 ⟨rfl, hb3⟩; obtain ⟨⟨f0, f1⟩, fz⟩ := keep2 hb3 (two_new _ _ _ _)
  go_wp2_with fail
  refine (open_f a0 a1 a2 _ H2.out).mono ?_; rintro e w4 ⟨rfl, hb4⟩; obtain ⟨⟨g0, g1⟩, gz⟩ := keep2 hb4 (two_old _ ⟨f0, f1⟩); clear f0 f1 fz; obtain ⟨⟨b0, b1⟩, bz⟩ := keep2 hb4 (two_new _ _ _ _)
  go_wp2_with fail
  refine (call_b a0 a1 a2 _ q Z.out Q.out).mono ?_; rintro e w5 ⟨rfl, hb5⟩; obtain ⟨⟨f0, f1⟩, fz⟩ := keep2 hb5 (two_old _ ⟨g0, g1⟩); obtain ⟨⟨c0, c1⟩, cz⟩ := keep2 hb5 (two_old _ ⟨b0, b1⟩); clear b0 b1 bz g0 g1 gz; obtain ⟨⟨d0, d1⟩, dz⟩ := keep2 hb5 (two_new _ _ _ _)
  go_wp2_with fail
  refine (may_w a0 a1 a2 _ _ H1.out).mono ?_; rintro e w6 ⟨rfl, hb6⟩; obtain ⟨⟨g0, g1⟩, gz⟩ := keep2 hb6 (two_old _ ⟨f0, f1⟩); clear f0 f1 fz
  go_wp2_with fail
  refine (own_w a0 a1 a2 _ _ rfl).mono ?_; rintro e w7 ⟨rfl, hb7⟩; obtain ⟨⟨f0, f1⟩, fz⟩ := keep2 hb7 ⟨g0, g1⟩; clear g0 g1 gz
  go_wp2_with fail
  refine (sees_w a0 a1 a2 _ _ H2.out).mono ?_; rintro e w8 ⟨rfl, hb8⟩
  go_wp2
  go_ret
  exact ⟨rfl, (by repeat (first | exact Below.refl _ _ | apply ball | apply Below.drew | (refine Below.setCell ?_ (by first | (simp; done) | omega | (simp; omega)) _) | refine bcall ?_ (by assumption)))⟩
set_option maxRecDepth 100000 in
set_option maxHeartbeats 2000000 in
theorem flowSays_ft (a0 a1 a2 : Int) (w : World) (f0 : 0 ≤ a0 ∧ a0 < 18446744073709551616) (g0 : 0 ≤ a1 ∧ a1 < 18446744073709551616) (k0 : 0 ≤ a2 ∧ a2 < 18446744073709551616) (h : lq a0 a1 = true) (h1 : lq a0 a2 = false) (h2 : lq a2 a1 = true) : Calls Try.prog 6 #[.int .u64 a0, .int .u64 a1, .int .u64 a2] w fun e w' => e = .returned (.bool true) ∧ Below w.heap.size w w' := by
  have H := Lib.hid h
  have H1 := Lib.hid h1
  have H2 := Lib.hid h2
  have Z := Lib.hid (zero_or f0.1 f0.2)
  have T : (bits .or .u64 a0 a1 != a1) = false := by rw [bne, show (bits .or .u64 a0 a1 == a1) = lq a0 a1 from jn_eq_iff g0.1 g0.2, h]; rfl
  have T1 : (bits .or .u64 a0 a2 == a2) = false := by rw [show (bits .or .u64 a0 a2 == a2) = lq a0 a2 from jn_eq_iff k0.1 k0.2, h1]
  have T2 : (bits .or .u64 a2 a1 == a1) = true := by rw [show (bits .or .u64 a2 a1 == a1) = lq a2 a1 from jn_eq_iff g0.1 g0.2, h2]
  have J1 : jn a0 a2 = bits .or .u64 a0 a2 := rfl
  obtain ⟨q, hq⟩ : ∃ q, bits .or .u64 a0 (bits .and .u64 a2 a1) = q := ⟨_, rfl⟩
  have Q := Lib.hid (show jn a0 (mt a2 a1) = q from hq)
  clear h h1 h2 f0 g0 k0
  go_enter Try.func6, Try.ntmps6
  go_wp2_with fail
  refine (awake_any _).mono ?_; rintro e w1 ⟨rfl, hb1⟩
  go_wp2_with fail
  refine (new_t a0 a1 _ H.out).mono ?_; rintro e w2 ⟨rfl, hb2⟩
  go_wp2_with fail
  refine (into_f a0 a1 a2 _ (by rw [H1.out, H2.out]; rfl)).mono ?_; rintro e w3 ⟨rfl, hb3⟩; obtain ⟨⟨f0, f1⟩, fz⟩ := keep2 hb3 (two_new _ _ _ _)
  go_wp2_with fail
  refine Calls.mono (open_t a0 a1 a2 _ Z.out H2.out) ?_; rw [J1]; rintro e w4 ⟨rfl, hb4⟩; obtain ⟨⟨g0, g1⟩, gz⟩ := keep2 hb4 (two_old _ ⟨f0, f1⟩); clear f0 f1 fz; obtain ⟨⟨b0, b1⟩, bz⟩ := keep2 hb4 (two_new _ _ _ _)
  go_wp2_with fail
  refine (call_b a0 a1 a2 _ q Z.out Q.out).mono ?_; rintro e w5 ⟨rfl, hb5⟩; obtain ⟨⟨f0, f1⟩, fz⟩ := keep2 hb5 (two_old _ ⟨g0, g1⟩); obtain ⟨⟨c0, c1⟩, cz⟩ := keep2 hb5 (two_old _ ⟨b0, b1⟩); clear b0 b1 bz g0 g1 gz; obtain ⟨⟨d0, d1⟩, dz⟩ := keep2 hb5 (two_new _ _ _ _)
  go_wp2_with fail
  refine (may_w a0 a1 a2 _ _ H1.out).mono ?_; rintro e w6 ⟨rfl, hb6⟩; obtain ⟨⟨g0, g1⟩, gz⟩ := keep2 hb6 (two_old _ ⟨f0, f1⟩); clear f0 f1 fz
  go_wp2_with fail
  refine (own_w a0 a1 a2 _ _ rfl).mono ?_; rintro e w7 ⟨rfl, hb7⟩; obtain ⟨⟨f0, f1⟩, fz⟩ := keep2 hb7 ⟨g0, g1⟩; clear g0 g1 gz
  go_wp2_with fail
  refine (sees_w a0 a1 a2 _ _ H2.out).mono ?_; rintro e w8 ⟨rfl, hb8⟩
  go_wp2
  go_ret
  exact ⟨rfl, (by repeat (first | exact Below.refl _ _ | apply ball | apply Below.drew | (refine Below.setCell ?_ (by first | (simp; done) | omega | (simp; omega)) _) | refine bcall ?_ (by assumption)))⟩
set_option maxRecDepth 100000 in
set_option maxHeartbeats 2000000 in
theorem flowSays_ff (a0 a1 a2 : Int) (w : World) (f0 : 0 ≤ a0 ∧ a0 < 18446744073709551616) (g0 : 0 ≤ a1 ∧ a1 < 18446744073709551616) (k0 : 0 ≤ a2 ∧ a2 < 18446744073709551616) (h : lq a0 a1 = true) (h1 : lq a0 a2 = false) (h2 : lq a2 a1 = false) : Calls Try.prog 6 #[.int .u64 a0, .int .u64 a1, .int .u64 a2] w fun e w' => e = .returned (.bool true) ∧ Below w.heap.size w w' := by
  have H := Lib.hid h
  have H1 := Lib.hid h1
  have H2 := Lib.hid h2
  have Z := Lib.hid (zero_or f0.1 f0.2)
  have T : (bits .or .u64 a0 a1 != a1) = false := by rw [bne, show (bits .or .u64 a0 a1 == a1) = lq a0 a1 from jn_eq_iff g0.1 g0.2, h]; rfl
  have T1 : (bits .or .u64 a0 a2 == a2) = false := by rw [show (bits .or .u64 a0 a2 == a2) = lq a0 a2 from jn_eq_iff k0.1 k0.2, h1]
  have T2 : (bits .or .u64 a2 a1 == a1) = false := by rw [show (bits .or .u64 a2 a1 == a1) = lq a2 a1 from jn_eq_iff g0.1 g0.2, h2]
  have J1 : jn a0 a2 = bits .or .u64 a0 a2 := rfl
  obtain ⟨q, hq⟩ : ∃ q, bits .or .u64 a0 (bits .and .u64 a2 a1) = q := ⟨_, rfl⟩
  have Q := Lib.hid (show jn a0 (mt a2 a1) = q from hq)
  clear h h1 h2 f0 g0 k0
  go_enter Try.func6, Try.ntmps6
  go_wp2_with fail
  refine (awake_any _).mono ?_; rintro e w1 ⟨rfl, hb1⟩
  go_wp2_with fail
  refine (new_t a0 a1 _ H.out).mono ?_; rintro e w2 ⟨rfl, hb2⟩
  go_wp2_with fail
  refine (into_f a0 a1 a2 _ (by rw [H1.out, H2.out]; rfl)).mono ?_; rintro e w3 ⟨rfl, hb3⟩; obtain ⟨⟨f0, f1⟩, fz⟩ := keep2 hb3 (two_new _ _ _ _)
  go_wp2_with fail
  refine (open_f a0 a1 a2 _ H2.out).mono ?_; rintro e w4 ⟨rfl, hb4⟩; obtain ⟨⟨g0, g1⟩, gz⟩ := keep2 hb4 (two_old _ ⟨f0, f1⟩); clear f0 f1 fz; obtain ⟨⟨b0, b1⟩, bz⟩ := keep2 hb4 (two_new _ _ _ _)
  go_wp2_with fail
  refine (call_b a0 a1 a2 _ q Z.out Q.out).mono ?_; rintro e w5 ⟨rfl, hb5⟩; obtain ⟨⟨f0, f1⟩, fz⟩ := keep2 hb5 (two_old _ ⟨g0, g1⟩); obtain ⟨⟨c0, c1⟩, cz⟩ := keep2 hb5 (two_old _ ⟨b0, b1⟩); clear b0 b1 bz g0 g1 gz; obtain ⟨⟨d0, d1⟩, dz⟩ := keep2 hb5 (two_new _ _ _ _)
  go_wp2_with fail
  refine (may_w a0 a1 a2 _ _ H1.out).mono ?_; rintro e w6 ⟨rfl, hb6⟩; obtain ⟨⟨g0, g1⟩, gz⟩ := keep2 hb6 (two_old _ ⟨f0, f1⟩); clear f0 f1 fz
  go_wp2_with fail
  refine (own_w a0 a1 a2 _ _ rfl).mono ?_; rintro e w7 ⟨rfl, hb7⟩; obtain ⟨⟨f0, f1⟩, fz⟩ := keep2 hb7 ⟨g0, g1⟩; clear g0 g1 gz
  go_wp2_with fail
  refine (sees_w a0 a1 a2 _ _ H2.out).mono ?_; rintro e w8 ⟨rfl, hb8⟩
  go_wp2
  go_ret
  exact ⟨rfl, (by repeat (first | exact Below.refl _ _ | apply ball | apply Below.drew | (refine Below.setCell ?_ (by first | (simp; done) | omega | (simp; omega)) _) | refine bcall ?_ (by assumption)))⟩
theorem flowSays_any (a0 a1 a2 : Int) (h0 : (Lit.int .u64 a0).wf = true) (h1 : (Lit.int .u64 a1).wf = true) (h2 : (Lit.int .u64 a2).wf = true) (w : World) : Calls Try.prog 6 #[.int .u64 a0, .int .u64 a1, .int .u64 a2] w fun e w' => e = .returned (.bool true) ∧ Below w.heap.size w w' := by
  have r0 := wfu64 h0
  have r1 := wfu64 h1
  have r2 := wfu64 h2
  cases h : lq a0 a1
  · exact flowSays_a a0 a1 a2 w r1 h
  · cases k1 : lq a0 a2 <;> cases k2 : lq a2 a1
    · exact flowSays_ff a0 a1 a2 w r0 r1 r2 h k1 k2
    · exact flowSays_ft a0 a1 a2 w r0 r1 r2 h k1 k2
    · exact flowSays_tf a0 a1 a2 w r0 r1 r2 h k1 k2
    · exact flowSays_tt a0 a1 a2 w r0 r1 r2 h k1 k2
end Go.Proofs.Ytolcjccpndodaaa
