/- The laws of chapter 19: FlowInto, FlowKnown, FlowSays. -/
import Derived.Test.YtolcjccpndodaaaFlow
import Derived.Test.YtolcjccpndodaaaLaw
import Derived.Outline
namespace Go.Proofs.Ytolcjccpndodaaa
open Go.ChangeShapes Go.WideShapes Go.ChangeAt Go.RowKit
set_option linter.unusedVariables false
/-- A struct of two cells in a block of the call's own, behind a call. -/
theorem keep2 {W w1 : World} {b : Nat} {x y : Value} (hb : Below W.heap.size W w1) (h : W.cell? ⟨b, 0, none⟩ = some x ∧ W.cell? ⟨b, 1, none⟩ = some y) : 
    (w1.cell? ⟨b, 0, none⟩ = some x ∧ w1.cell? ⟨b, 1, none⟩ = some y) ∧ b < w1.heap.size :=
  ⟨⟨keep hb h.1, keep hb h.2⟩, cell_lt (a := ⟨b, 0, none⟩) (keep hb h.1)⟩
theorem two_new (w : World) (x y : Value) (t : TypeId) : (w.alloc (.cells #[x, y] t)).cell? ⟨w.heap.size, 0, none⟩ = some x ∧ (w.alloc (.cells #[x, y] t)).cell? ⟨w.heap.size, 1, none⟩ = some y := by
  constructor <;> go_simp
theorem two_old {w : World} {b : Nat} {x y : Value} (o : Obj) (h : w.cell? ⟨b, 0, none⟩ = some x ∧ w.cell? ⟨b, 1, none⟩ = some y) : (w.alloc o).cell? ⟨b, 0, none⟩ = some x ∧ (w.alloc o).cell? ⟨b, 1, none⟩ = some y := by
  have := cell_lt h.1
  have := cell_lt h.2
  obtain ⟨h1, h2⟩ := h
  constructor <;> go_simp
theorem awake_any (w : World) : Calls Try.prog 7 #[] w fun e w' => e = .returned (.bool true) ∧ Below w.heap.size w w' := by
  have H := Lib.hid (show lq 0 1 = true by decide +kernel)
  have Z := Lib.hid (show bits .or .u64 0 0 = 0 by decide +kernel)
  have J := Lib.hid (show jn 0 (mt 3 1) = 1 by decide +kernel)
  go_enter Try.func7, Try.ntmps7
  go_wp2_with (first | (go_at_call 8; refine (new_t 0 1 _ H.out).mono ?_; rintro e w1 ⟨rfl, hb1⟩) | (go_at_call 10; refine (call_b 0 1 3 _ 1 Z.out J.out).mono ?_; rintro e w2 ⟨rfl, hb2⟩; obtain ⟨⟨c0, c1⟩, z1⟩ := keep2 hb2 (two_new _ _ _ _)))
  go_ret
  exact ⟨rfl, (by repeat (first | exact Below.refl _ _ | apply ball | apply Below.drew | (refine Below.setCell ?_ (by first | (simp; done) | omega | (simp; omega)) _) | refine bcall ?_ (by assumption)))⟩
set_option maxHeartbeats 1000000 in
theorem flowInto_any (a0 a1 a2 a3 : Int) (w : World) :
    Calls Try.prog 3 #[.int .u64 a0, .int .u64 a1, .int .u64 a2, .int .u64 a3] w fun e w' => e = .returned (.bool true) ∧ Below w.heap.size w w' := by
  obtain ⟨p, hp⟩ : ∃ p, p = bits .and .u64 a0 a1 := ⟨_, rfl⟩
  have P := Lib.hid hp
  have H := Lib.hid (show lq p a1 = true by rw [hp]; exact lq_mt a0 a1)
  have Z := Lib.hid (show bits .or .u64 0 p = p by rw [hp]; exact zero_or (mt_range a0 a1).1 (mt_range a0 a1).2)
  clear hp
  cases hk : lq p a2 && lq a2 a1
  · have K := Lib.hid hk; clear hk
    go_enter Try.func3, Try.ntmps3
    go_wp2_with (first | (go_at_call 7; refine (awake_any _).mono ?_; rintro e w1 ⟨rfl, hb1⟩) | (go_at_call 8; rw [← P.out]; refine (new_t p a1 _ H.out).mono ?_; rintro e w2 ⟨rfl, hb2⟩) | (go_at_call 9; refine (into_f p a1 a2 _ K.out).mono ?_; rintro e w3 ⟨rfl, hb3⟩; obtain ⟨⟨c0, c1⟩, z1⟩ := keep2 hb3 (two_new _ _ _ _)))
    go_ret
    exact ⟨rfl, (by repeat (first | exact Below.refl _ _ | apply ball | apply Below.drew | (refine Below.setCell ?_ (by first | (simp; done) | omega | (simp; omega)) _) | refine bcall ?_ (by assumption)))⟩
  · have k1 : lq p a2 = true := by simp at hk; exact hk.1
    have k2 : lq a2 a1 = true := by simp at hk; exact hk.2
    obtain ⟨q, hq⟩ : ∃ q, q = jn p (mt a3 a2) := ⟨_, rfl⟩
    have Q := Lib.hid hq.symm
    have G1 := Lib.hid (show lq p q = true by rw [hq]; exact lq_jn_left _ _)
    have G2 := Lib.hid (show lq q a2 = true by rw [hq]; exact lq_jn_of k1 (lq_mt _ _))
    have K1 := Lib.hid k1
    have K2 := Lib.hid k2
    clear hq hk k1
    cases h3 : lq a3 a2
    · have K3 := Lib.hid h3; clear h3 k2
      go_enter Try.func3, Try.ntmps3
      go_wp2_with (first | (go_at_call 7; refine (awake_any _).mono ?_; rintro e w1 ⟨rfl, hb1⟩) | (go_at_call 8; rw [← P.out]; refine (new_t p a1 _ H.out).mono ?_; rintro e w2 ⟨rfl, hb2⟩) | (go_at_call 9; refine (into_t p a1 a2 _ K1.out K2.out).mono ?_; rintro e w3 ⟨rfl, hb3⟩; obtain ⟨⟨c0, c1⟩, z1⟩ := keep2 hb3 (two_new _ _ _ _)) | (go_at_call 10; refine (call_b p a2 a3 _ q Z.out Q.out).mono ?_; rintro e w4 ⟨rfl, hb4⟩; obtain ⟨⟨c2, c3⟩, z2⟩ := keep2 hb4 (two_old _ ⟨c0, c1⟩); obtain ⟨⟨c4, c5⟩, z3⟩ := keep2 hb4 (two_new _ _ _ _); clear c0 c1) | (go_at_call 11; (first | (with_reducible refine (leq_b a2 a1 _ K2.out _).mono ?_) | (with_reducible refine (leq_b p q _ G1.out _).mono ?_) | (with_reducible refine (leq_b q a2 _ G2.out _).mono ?_)); rintro e w' ⟨rfl, rfl⟩) | (go_at_call 12; refine (sees_b p a2 a3 _ _ K3.out).mono ?_; rintro e w' ⟨rfl, rfl⟩))
      go_ret
      exact ⟨rfl, (by repeat (first | exact Below.refl _ _ | apply ball | apply Below.drew | (refine Below.setCell ?_ (by first | (simp; done) | omega | (simp; omega)) _) | refine bcall ?_ (by assumption)))⟩
    · have K3 := Lib.hid h3
      have K4 := Lib.hid (lq_trans h3 k2)
      clear h3 k2
      go_enter Try.func3, Try.ntmps3
      go_wp2_with (first | (go_at_call 7; refine (awake_any _).mono ?_; rintro e w1 ⟨rfl, hb1⟩) | (go_at_call 8; rw [← P.out]; refine (new_t p a1 _ H.out).mono ?_; rintro e w2 ⟨rfl, hb2⟩) | (go_at_call 9; refine (into_t p a1 a2 _ K1.out K2.out).mono ?_; rintro e w3 ⟨rfl, hb3⟩; obtain ⟨⟨c0, c1⟩, z1⟩ := keep2 hb3 (two_new _ _ _ _)) | (go_at_call 10; refine (call_b p a2 a3 _ q Z.out Q.out).mono ?_; rintro e w4 ⟨rfl, hb4⟩; obtain ⟨⟨c2, c3⟩, z2⟩ := keep2 hb4 (two_old _ ⟨c0, c1⟩); obtain ⟨⟨c4, c5⟩, z3⟩ := keep2 hb4 (two_new _ _ _ _); clear c0 c1) | (go_at_call 11; (first | (with_reducible refine (leq_b a2 a1 _ K2.out _).mono ?_) | (with_reducible refine (leq_b p q _ G1.out _).mono ?_) | (with_reducible refine (leq_b q a2 _ G2.out _).mono ?_)); rintro e w' ⟨rfl, rfl⟩) | (go_at_call 12; (first | (with_reducible refine (sees_b p a2 a3 _ _ K3.out).mono ?_) | (with_reducible refine (sees_b p a1 a3 _ _ K4.out).mono ?_)); rintro e w' ⟨rfl, rfl⟩))
      go_ret
      exact ⟨rfl, (by repeat (first | exact Below.refl _ _ | apply ball | apply Below.drew | (refine Below.setCell ?_ (by first | (simp; done) | omega | (simp; omega)) _) | refine bcall ?_ (by assumption)))⟩
end Go.Proofs.Ytolcjccpndodaaa
