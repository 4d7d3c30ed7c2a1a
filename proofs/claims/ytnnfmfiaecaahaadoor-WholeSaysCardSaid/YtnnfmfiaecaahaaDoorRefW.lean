/- The contracts of the document's own answer to chapter 2: Two at products; divided. -/
import Derived.Test.YtnnfmfiaecaahaaDoorWhole2
namespace Go.Proofs.YtnnfmfiaecaahaaDoor
open Go.ChangeShapes Go.WideShapes Go.ChangeAt Go.RowKit
set_option linter.unusedVariables false
theorem least_any (w : World) : Calls Tryd.prog 19 #[] w fun e w' => e = .returned (.int .i64 (-9223372036854775808)) ∧ w = w' := by
  go_enter Tryd.func19, Tryd.ntmps19
  go_wp2
  go_ret
  exact ⟨rfl, rfl⟩
theorem mul_over' {a b : Int} (ha : i64 a) (hb : i64 b) (h0 : b ≠ 0) (h : wrap64 ((wrap64 (a * b)).tdiv b) = a) (h2 : ¬ (b = -1 ∧ a = -9223372036854775808)) : i64 (a * b) := by
  rw [Int.mul_comm] at h ⊢
  exact mul_over hb ha h0 h h2
theorem mul_ok' {a b : Int} (ha : i64 a) (h0 : b ≠ 0) (h : i64 (a * b)) : wrap64 ((wrap64 (a * b)).tdiv b) = a := by
  rw [Int.mul_comm] at h ⊢
  exact mul_ok ha h0 h
set_option maxRecDepth 100000 in
set_option maxHeartbeats 4000000 in
theorem rstar_any (s : ByteArray) (hs : s.toList = [42]) (a b : Int) (ha : i64 a) (hb : i64 b) (w : World) : Calls Tryd.prog 6 #[.string s, .int .i64 a, .int .i64 b] w fun e w' => e = .returned (two64 (lim (a * b))) ∧ w = w' := by
  have A := Lib.hid ha; have B := Lib.hid hb
  obtain ⟨a0, a1⟩ := ha
  obtain ⟨b0, b1⟩ := hb
  by_cases h0 : a = 0
  · subst h0
    go_enter Tryd.func6, Tryd.ntmps6
    go_wp2
    go_ret2
    exact ⟨ret2 (by rw [Int.zero_mul]; rfl), rfl⟩
  by_cases h1 : b = 0
  · subst h1
    go_enter Tryd.func6, Tryd.ntmps6
    go_wp2
    go_ret2
    exact ⟨ret2 (by rw [Int.mul_zero]; rfl), rfl⟩
  have e0 : (a == 0) = false := by simpa using h0
  have e1 : (b == 0) = false := by simpa using h1
  have H0 := Lib.hid h0; have H1 := Lib.hid h1
  clear h0 h1
  by_cases hx : a = -1 ∧ b = -9223372036854775808
  · obtain ⟨rfl, rfl⟩ := hx
    go_enter Tryd.func6, Tryd.ntmps6
    go_wp2_with ((go_at_call 19; refine (least_any _).mono ?_; rintro e w' ⟨rfl, rfl⟩))
    go_ret2
    exact ⟨ret2 (by decide), rfl⟩
  by_cases hy : b = -1 ∧ a = -9223372036854775808
  · obtain ⟨rfl, rfl⟩ := hy
    go_enter Tryd.func6, Tryd.ntmps6
    go_wp2_with ((go_at_call 19; refine (least_any _).mono ?_; rintro e w' ⟨rfl, rfl⟩))
    go_ret2
    exact ⟨ret2 (by decide), rfl⟩
  have HY := Lib.hid hy
  have x1 : ((a == -1) && (b == -9223372036854775808)) = false := by
    rw [Bool.and_eq_false_iff]; simp; omega
  have y1 : ((b == -1) && (a == -9223372036854775808)) = false := by
    rw [Bool.and_eq_false_iff]; simp; omega
  by_cases hd : wrap64 ((wrap64 (a * b)).tdiv b) = a
  · have hi := mul_over' A.out B.out H1.out hd hy
    have HI := Lib.hid hi; have HD := Lib.hid hd
    have d1 : (wrap64 ((wrap64 (a * b)).tdiv b) != a) = false := by rw [hd]; simp
    clear hi hx hy hd
    cases g1 : a == -1 <;> cases g2 : b == -1 <;> simp only [g1, g2, Bool.true_and, Bool.false_and] at x1 y1
    all_goals (go_enter Tryd.func6, Tryd.ntmps6; go_wp2_with ((go_at_call 19; refine (least_any _).mono ?_; rintro e w' ⟨rfl, rfl⟩)); go_ret2; exact ⟨ret2 (by rw [lim_in HI.out, wrap_in HI.out]), rfl⟩)
  · have hi : ¬ i64 (a * b) := fun h => hd (mul_ok' A.out H1.out h)
    have HI := Lib.hid hi
    have d1 : (wrap64 ((wrap64 (a * b)).tdiv b) != a) = true := by simpa using hd
    clear hi hx hy hd
    cases g1 : a == -1 <;> cases g2 : b == -1 <;> simp only [g1, g2, Bool.true_and, Bool.false_and] at x1 y1
    all_goals (go_enter Tryd.func6, Tryd.ntmps6; go_wp2_with ((go_at_call 19; refine (least_any _).mono ?_; rintro e w' ⟨rfl, rfl⟩)); go_ret2; exact ⟨ret2 (lim_out HI.out), rfl⟩)
end Go.Proofs.YtnnfmfiaecaahaaDoor
