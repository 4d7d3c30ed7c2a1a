/- The law WholeShifts. -/
import Derived.Test.YtolcjccpndodaaaDoorWholeLaws
namespace Go.Proofs.YtolcjccpndodaaaDoor
open Go.ChangeShapes Go.WideShapes Go.ChangeAt Go.RowKit
set_option linter.unusedVariables false
/-! ### WholeShifts -/
structure Shifts (a n x e d m c y : Int) : Prop where
  f1 : twoS [60, 60] a n = (x, e)
  f2 : e = 0 → twoS [62, 62] x n = (a, 0)
  f3 : e = 0 → twoS [42] a c = (x, 0)
  f4 : twoS [62, 62] a n = (d, 0)
  f5 : twoS [109, 111, 100] a c = (m, 0)
  ix : i64 x
  ic : i64 c
theorem pow_facts : ∀ k : Nat, k < 63 → (2 : Int) ^ k ≤ 4611686018427387904 ∧ (9223372036854775808 : Int) % 2 ^ k = 0 := by decide +kernel
theorem shift_facts {a n : Int} (ha : i64 a) (h0 : 0 ≤ n) (h1 : n ≤ 62) : ∃ x e d m c y, Shifts a n x e d m c y ∧ (e = 0 ∨ e = 3) ∧ wrap64 (2 ^ n.toNat) = c ∧ wrap64 (d * c) = y ∧ wrap64 a = a ∧ y + m = a := by
  obtain ⟨k, rfl⟩ := Int.eq_ofNat_of_zero_le h0
  rw [Int.toNat_natCast]
  have hk : k ≤ 62 := by omega
  have hpos : (0 : Int) < 2 ^ k := Int.pow_pos (by decide)
  have hle : (2 : Int) ^ k ≤ 4611686018427387904 := (pow_facts k (by omega)).1
  have hdv := (pow_facts k (by omega)).2
  generalize hc : (2 : Int) ^ k = c at *
  have ic : i64 c := by unfold i64; omega
  have e1 := Int.mul_ediv_add_emod a c
  have e2 := Int.emod_nonneg a (Int.ne_of_gt hpos)
  have e3 := Int.emod_lt_of_pos a hpos
  have hcomm : a / c * c = c * (a / c) := Int.mul_comm _ _
  have idc : i64 (a / c * c) := by
    unfold i64 at *
    have hq : a ≤ -1 → -9223372036854775808 ≤ c * (a / c) := fun hneg => by
      -- 9223372036854775808 is a multiple of c
      have hm : (-9223372036854775808 : Int) / c ≤ a / c := Int.ediv_le_ediv hpos ha.1
      have hd : c * ((-9223372036854775808 : Int) / c) = -9223372036854775808 := by
        have hdvd : c ∣ (-9223372036854775808 : Int) := Int.dvd_neg.2 (Int.dvd_of_emod_eq_zero hdv)
        exact Int.mul_ediv_cancel' hdvd
      have := Int.mul_le_mul_of_nonneg_left hm (Int.le_of_lt hpos)
      omega
    by_cases hneg : a ≤ -1
    · have := hq hneg; omega
    · have : 0 ≤ c * (a / c) := Int.mul_nonneg (Int.le_of_lt hpos) (Int.ediv_nonneg (by omega) (Int.le_of_lt hpos))
      omega
  have fmod : twoS [109, 111, 100] a c = (a % c, 0) := by
    show divS [109, 111, 100] a c = _
    rw [divS, if_neg (by omega), if_neg (by decide)]
    have t1 := Int.mul_tdiv_add_tmod a c
    by_cases hn : 0 ≤ a
    · have : a.tmod c = a % c := Int.tmod_eq_emod_of_nonneg hn
      rw [this, if_neg]
      rintro ⟨_, h2, h3⟩
      simp only [ne_eq, decide_eq_decide] at h3
      omega
    · have h4 : a.tmod c = -((-a) % c) := by
        have := Int.neg_tmod (-a) c
        rw [Int.neg_neg] at this
        rw [this, Int.tmod_eq_emod_of_nonneg (by omega)]
      have h5 := Int.emod_nonneg (-a) (Int.ne_of_gt hpos)
      have h6 := Int.emod_lt_of_pos (-a) hpos
      have h7 : a % c = if (-a) % c = 0 then 0 else c - (-a) % c := by
        have h8 := Int.mul_ediv_add_emod (-a) c
        split
        · rename_i hz
          rw [hz] at h8
          have : a = c * (-((-a) / c)) := by rw [Int.mul_neg]; omega
          rw [this]; exact Int.mul_emod_right _ _
        · rename_i hz
          have : a = (c - (-a) % c) + c * (-((-a) / c) - 1) := by rw [Int.mul_sub, Int.mul_neg]; omega
          rw [this, Int.add_mul_emod_self_left]
          rw [show c - -(c - -a % c + c * (-(-a / c) - 1)) % c = c - -a % c by rw [← this]]
          exact Int.emod_eq_of_lt (by omega) (by omega)
      by_cases hz : (-a) % c = 0
      · rw [if_pos hz] at h7
        rw [h4, h7, hz, if_neg (by simp)]; rfl
      · rw [if_neg hz] at h7
        rw [h4, h7, if_pos ⟨rfl, by omega, by simp only [ne_eq, decide_eq_decide]; omega⟩]
        congr 1; omega
  have fsh : twoS [62, 62] a k = (a / c, 0) := by
    show shS [62, 62] a k = _
    rw [shS, if_neg (by omega), if_pos rfl, Int.toNat_natCast, hc]
  have idc' := wrap_in idc
  have sum : a / c * c + a % c = a := by omega
  by_cases hi : i64 (a * c)
  · refine ⟨a * c, 0, a / c, a % c, c, a / c * c, ⟨?_, fun _ => ?_, fun _ => ?_, fsh, fmod, hi, ic⟩, Or.inl rfl, wrap_in ic, idc', wrap_in ha, sum⟩
    · show shS [60, 60] a k = _
      rw [shS, if_neg (by omega), if_neg (by decide), Int.toNat_natCast, hc, lim_in hi]
    · show shS [62, 62] (a * c) k = _
      rw [shS, if_neg (by omega), if_pos rfl, Int.toNat_natCast, hc, Int.mul_ediv_cancel _ (Int.ne_of_gt hpos)]
    · show lim _ = _
      rw [lim_in hi]
  · refine ⟨0, 3, a / c, a % c, c, a / c * c, ⟨?_, fun h => absurd h (by decide), fun h => absurd h (by decide), fsh, fmod, by decide, ic⟩, Or.inr rfl, wrap_in ic, idc', wrap_in ha, sum⟩
    · show shS [60, 60] a k = _
      rw [shS, if_neg (by omega), if_neg (by decide), Int.toNat_natCast, hc, lim_out hi]
set_option maxHeartbeats 1000000 in
theorem shifts_0 (a n x d m c y : Int) (ha : i64 a) (hn : i64 n) (h0 : 0 ≤ n) (h1 : n ≤ 62) (hd : Shifts a n x 0 d m c y) (hc : wrap64 (2 ^ n.toNat) = c) (hy : wrap64 (d * c) = y) (hs : wrap64 a = a) (hs2 : y + m = a) (w : World) (ht : Tab w) : Calls Tryd.prog 5 #[.int .i64 a, .int .i64 n] w fun e w' => e = .returned (.bool true) ∧ Below w.heap.size w w' := by
  have T := Lib.hid ht; clear ht
  have A := Lib.hid ha; clear ha
  have B := Lib.hid hn; clear hn
  have D := Lib.hid hd; clear hd
  go_enter Tryd.func5, Tryd.ntmps5
  go_wp2_with fail
  refine (awake2 _ T.out).mono ?_; rintro e1 w1 ⟨rfl, hb1⟩
  go_wp2_with fail
  refine (two_b _ [60, 60] (by decide +kernel) a n A.out B.out _ _ D.out.f1 _).mono ?_; rintro e1 w' ⟨rfl, rfl⟩
  go_wp2_with fail
  refine (two_b _ [62, 62] (by decide +kernel) x n D.out.ix B.out _ _ (D.out.f2 rfl) _).mono ?_; rintro e1 w' ⟨rfl, rfl⟩
  go_wp2_with fail
  refine (two_b _ [42] (by decide +kernel) a c A.out D.out.ic _ _ (D.out.f3 rfl) _).mono ?_; rintro e1 w' ⟨rfl, rfl⟩
  go_wp2_with fail
  refine (two_b _ [62, 62] (by decide +kernel) a n A.out B.out _ _ D.out.f4 _).mono ?_; rintro e1 w' ⟨rfl, rfl⟩
  go_wp2_with fail
  refine (two_b _ [109, 111, 100] (by decide +kernel) a c A.out D.out.ic _ _ D.out.f5 _).mono ?_; rintro e1 w' ⟨rfl, rfl⟩
  go_wp2
  go_ret
  exact ⟨rfl, hb1⟩
set_option maxHeartbeats 1000000 in
theorem shifts_3 (a n x d m c y : Int) (ha : i64 a) (hn : i64 n) (h0 : 0 ≤ n) (h1 : n ≤ 62) (hd : Shifts a n x 3 d m c y) (hc : wrap64 (2 ^ n.toNat) = c) (hy : wrap64 (d * c) = y) (hs : wrap64 a = a) (hs2 : y + m = a) (w : World) (ht : Tab w) : Calls Tryd.prog 5 #[.int .i64 a, .int .i64 n] w fun e w' => e = .returned (.bool true) ∧ Below w.heap.size w w' := by
  have T := Lib.hid ht; clear ht
  have A := Lib.hid ha; clear ha
  have B := Lib.hid hn; clear hn
  have D := Lib.hid hd; clear hd
  go_enter Tryd.func5, Tryd.ntmps5
  go_wp2_with fail
  refine (awake2 _ T.out).mono ?_; rintro e1 w1 ⟨rfl, hb1⟩
  go_wp2_with fail
  refine (two_b _ [60, 60] (by decide +kernel) a n A.out B.out _ _ D.out.f1 _).mono ?_; rintro e1 w' ⟨rfl, rfl⟩
  go_wp2_with fail
  refine (two_b _ [62, 62] (by decide +kernel) a n A.out B.out _ _ D.out.f4 _).mono ?_; rintro e1 w' ⟨rfl, rfl⟩
  go_wp2_with fail
  refine (two_b _ [109, 111, 100] (by decide +kernel) a c A.out D.out.ic _ _ D.out.f5 _).mono ?_; rintro e1 w' ⟨rfl, rfl⟩
  go_wp2
  go_ret
  exact ⟨rfl, hb1⟩
theorem shifts_out (a n : Int) (hn : n < 0 ∨ 62 < n) (w : World) (ht : Tab w) : Calls Tryd.prog 5 #[.int .i64 a, .int .i64 n] w fun e w' => e = .returned (.bool true) ∧ Below w.heap.size w w' := by
  have T := Lib.hid ht; clear ht
  rcases hn with hn | hn
  · go_enter Tryd.func5, Tryd.ntmps5
    go_wp2_with fail
    refine (awake2 _ T.out).mono ?_; rintro e1 w1 ⟨rfl, hb1⟩
    go_wp2
    go_ret
    exact ⟨rfl, hb1⟩
  · have hn2 : ¬ n < 0 := by omega
    go_enter Tryd.func5, Tryd.ntmps5
    go_wp2_with fail
    refine (awake2 _ T.out).mono ?_; rintro e1 w1 ⟨rfl, hb1⟩
    go_wp2
    go_ret
    exact ⟨rfl, hb1⟩
theorem shifts_any (a n : Int) (ha : (Lit.int .i64 a).wf = true) (hb : (Lit.int .i64 n).wf = true) (w : World) (ht : Tab w) : Calls Tryd.prog 5 #[.int .i64 a, .int .i64 n] w fun e w' => e = .returned (.bool true) ∧ Below w.heap.size w w' := by
  have ha := wfi64 ha
  have hb := wfi64 hb
  by_cases h : 0 ≤ n ∧ n ≤ 62
  · obtain ⟨x, e, d, m, c, y, hd, he, hc, hy, hs, hs2⟩ := shift_facts ha h.1 h.2
    rcases he with rfl | rfl
    · exact shifts_0 a n x d m c y ha hb h.1 h.2 hd hc hy hs hs2 w ht
    · exact shifts_3 a n x d m c y ha hb h.1 h.2 hd hc hy hs hs2 w ht
  · exact shifts_out a n (by omega) w ht
end Go.Proofs.YtolcjccpndodaaaDoor
