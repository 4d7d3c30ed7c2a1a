/- 'sizarlaw20.EvalTests': at every two terms it returns true. -/
import Derived.Test.YtcnnobcncklgfaaGreatDoorEvalT
import Derived.Test.YtcnnobcncklgfaaGreatDoorEvAw
namespace Go.Proofs.YtcnnobcncklgfaaGreatDoor
open Go Go.ChangeShapes Go.WideShapes Go.ChangeAt Go.RowKit
set_option linter.unusedVariables false
theorem dle (x y : Int) : decide (y ≤ x) = !decide (x < y) := by rw [← decide_not]; exact decide_eq_decide.2 (by omega)
theorem testP_lt (x y : Int × Int) : testP [60] x y = if x.2 = 0 then (if y.2 = 0 then (decide (x.1 < y.1), 0) else (false, y.2)) else (false, x.2) := by
  unfold testP; rw [if_pos (by decide)]; rfl
theorem testP_eq (x y : Int × Int) : testP [61, 58, 61] x y = if x.2 = 0 then (if y.2 = 0 then (x.1 == y.1, 0) else (false, y.2)) else (false, x.2) := by
  unfold testP; rw [if_pos (by decide)]; rfl
theorem testP_ge (x y : Int × Int) : testP [62, 61] x y = if x.2 = 0 then (if y.2 = 0 then (decide (y.1 ≤ x.1), 0) else (false, y.2)) else (false, x.2) := by
  unfold testP; rw [if_pos (by decide)]; rfl
set_option maxHeartbeats 8000000 in
set_option maxRecDepth 100000 in
theorem tests_any {X Y : Nat → Prop} (M : Nat) (a b : Tm) (hfa : Fine M a) (hfb : Fine M b) (w : World) (va vb : Value) (ha : Holds w X a va) (hb : Holds w Y b vb) :
    Calls Tryz.prog 9 #[va, vb] w fun e w' => e = .returned (.bool true) ∧ Below w.heap.size w w' := by
  obtain ⟨sa, rfl⟩ := ha.form
  obtain ⟨aa, ac, rfl⟩ := ha.args
  obtain ⟨sb, rfl⟩ := hb.form
  obtain ⟨ba, bc, rfl⟩ := hb.args
  have HA := Lib.hid ha; have HB := Lib.hid hb; clear ha hb
  have hn1 := (Blk.new w #[.int .i64 a.kind, .int .i64 a.num, .string ⟨a.name.toArray⟩, .slice aa a.args.length ac] 24).alloc (.cells #[.int .i64 b.kind, .int .i64 b.num, .string ⟨b.name.toArray⟩, .slice ba b.args.length bc] 24)
  have hn2 := Blk.new (w.alloc (.cells #[.int .i64 a.kind, .int .i64 a.num, .string ⟨a.name.toArray⟩, .slice aa a.args.length ac] 24)) #[.int .i64 b.kind, .int .i64 b.num, .string ⟨b.name.toArray⟩, .slice ba b.args.length bc] 24
  rw [World.size_alloc] at hn2
  have hb0 : Below w.heap.size w ((w.alloc (.cells #[.int .i64 a.kind, .int .i64 a.num, .string ⟨a.name.toArray⟩, .slice aa a.args.length ac] 24)).alloc (.cells #[.int .i64 b.kind, .int .i64 b.num, .string ⟨b.name.toArray⟩, .slice ba b.args.length bc] 24)) := Below.alloc (Below.alloc (Below.refl _ _) (Nat.le_refl _) _) (by simp) _
  simp only [tmV]
  have hda := deep_any 40 (by omega) a (X := X)
  have hdb := deep_any 40 (by omega) b (X := Y)
  have HDA := Lib.hid hda; have HDB := Lib.hid hdb; have HFA := Lib.hid hfa; have HFB := Lib.hid hfb; clear hda hdb hfa hfb
  go_enter Tryz.func9, Tryz.ntmps9
  go_wp2_with fail
  refine (awake_any _).mono ?_; rintro e w1 ⟨rfl, hb1⟩
  have m1 := hn1.keep hb1; have m2 := hn2.keep hb1; have c1 := bcall hb0 hb1
  clear hn1 hn2 hb0 hb1
  obtain ⟨t0, t1, t2, t3, z0, z1, z2, z3, ltt⟩ := m1.fourT
  go_wp2_with fail
  refine (HDA.out _ _ (HA.out.bel c1)).mono ?_; rintro e w2 ⟨rfl, hb2⟩
  replace m1 := m1.keep hb2; replace m2 := m2.keep hb2; have c2 := bcall c1 hb2; clear hb2
  cases hd : deepP 40 a with
  | true =>
    go_wp2
    go_ret
    exact ⟨rfl, c2⟩
  | false =>
    have HD1 := Lib.hid (deep_fine 40 a hd HFA.out); clear hd
    (try clear s0 s1 s2 s3 y0 y1 y2 y3 lts); obtain ⟨s0, s1, s2, s3, y0, y1, y2, y3, lts⟩ := m2.fourT
    go_wp2_with fail
    refine (HDB.out _ _ (HB.out.bel c2)).mono ?_; rintro e w3 ⟨rfl, hb3⟩
    replace m1 := m1.keep hb3; replace m2 := m2.keep hb3; have c3 := bcall c2 hb3; clear hb3
    cases hd : deepP 40 b with
    | true =>
      go_wp2
      go_ret
      exact ⟨rfl, c3⟩
    | false =>
      have HD2 := Lib.hid (deep_fine 40 b hd HFB.out); clear hd
      obtain ⟨x, hx⟩ : ∃ x, x = a.evT := ⟨_, rfl⟩
      obtain ⟨y, hy⟩ : ∃ y, y = b.evT := ⟨_, rfl⟩
      have HX := Lib.hid hx; have HY := Lib.hid hy; clear hx hy
      (try clear t0 t1 t2 t3 z0 z1 z2 z3 ltt); obtain ⟨t0, t1, t2, t3, z0, z1, z2, z3, ltt⟩ := m1.fourT
      go_wp2_with fail
      refine (Of_any 12 (by omega) a HD1.out _ _ (HA.out.bel c3)).mono ?_; rintro e w4 ⟨rfl, hb4⟩
      rw [← HX.out]; simp only [two64]
      replace m1 := m1.keep hb4; replace m2 := m2.keep hb4; have c4 := bcall c3 hb4; clear hb4
      (try clear s0 s1 s2 s3 y0 y1 y2 y3 lts); obtain ⟨s0, s1, s2, s3, y0, y1, y2, y3, lts⟩ := m2.fourT
      go_wp2_with fail
      refine (Of_any 12 (by omega) b HD2.out _ _ (HB.out.bel c4)).mono ?_; rintro e w5 ⟨rfl, hb5⟩
      rw [← HY.out]; simp only [two64]
      replace m1 := m1.keep hb5; replace m2 := m2.keep hb5; have c5 := bcall c4 hb5; clear hb5
      by_cases h1 : x.2 = 0
      · by_cases h2 : y.2 = 0
        · have H1 := Lib.hid h1; have H2 := Lib.hid h2
          rw [h1, h2]; clear h1 h2
          (try clear t0 t1 t2 t3 z0 z1 z2 z3 ltt); obtain ⟨t0, t1, t2, t3, z0, z1, z2, z3, ltt⟩ := m1.fourT
          (try clear s0 s1 s2 s3 y0 y1 y2 y3 lts); obtain ⟨s0, s1, s2, s3, y0, y1, y2, y3, lts⟩ := m2.fourT
          go_wp2_with fail
          refine (test_any 12 (by omega) [60] a b HD1.out HD2.out _ _ _ (HA.out.bel c5) (HB.out.bel c5)).mono ?_; rintro e w6 ⟨rfl, hb6⟩
          rw [← HX.out, ← HY.out, testP_lt, if_pos H1.out, if_pos H2.out]
          dsimp only
          replace m1 := m1.keep hb6; replace m2 := m2.keep hb6; have c6 := bcall c5 hb6; clear hb6
          (try clear t0 t1 t2 t3 z0 z1 z2 z3 ltt); obtain ⟨t0, t1, t2, t3, z0, z1, z2, z3, ltt⟩ := m1.fourT
          (try clear s0 s1 s2 s3 y0 y1 y2 y3 lts); obtain ⟨s0, s1, s2, s3, y0, y1, y2, y3, lts⟩ := m2.fourT
          go_wp2_with fail
          refine (test_any 12 (by omega) [61, 58, 61] a b HD1.out HD2.out _ _ _ (HA.out.bel c6) (HB.out.bel c6)).mono ?_; rintro e w7 ⟨rfl, hb7⟩
          rw [← HX.out, ← HY.out, testP_eq, if_pos H1.out, if_pos H2.out]
          dsimp only
          replace m1 := m1.keep hb7; replace m2 := m2.keep hb7; have c7 := bcall c6 hb7; clear hb7
          (try clear t0 t1 t2 t3 z0 z1 z2 z3 ltt); obtain ⟨t0, t1, t2, t3, z0, z1, z2, z3, ltt⟩ := m1.fourT
          (try clear s0 s1 s2 s3 y0 y1 y2 y3 lts); obtain ⟨s0, s1, s2, s3, y0, y1, y2, y3, lts⟩ := m2.fourT
          go_wp2_with fail
          refine (test_any 12 (by omega) [62, 61] a b HD1.out HD2.out _ _ _ (HA.out.bel c7) (HB.out.bel c7)).mono ?_; rintro e w8 ⟨rfl, hb8⟩
          rw [← HX.out, ← HY.out, testP_ge, if_pos H1.out, if_pos H2.out]
          dsimp only
          replace m1 := m1.keep hb8; replace m2 := m2.keep hb8; have c8 := bcall c7 hb8; clear hb8
          go_wp2
          go_ret
          exact ⟨by simp; exact dle _ _, c8⟩
        · have H1 := Lib.hid h1; have H2 := Lib.hid h2
          have n2 : (y.2 != 0) = true := by simpa using h2
          have n3 : (y.2 == 0) = false := by simpa using h2
          rw [h1]; clear h1 h2
          (try clear t0 t1 t2 t3 z0 z1 z2 z3 ltt); obtain ⟨t0, t1, t2, t3, z0, z1, z2, z3, ltt⟩ := m1.fourT
          (try clear s0 s1 s2 s3 y0 y1 y2 y3 lts); obtain ⟨s0, s1, s2, s3, y0, y1, y2, y3, lts⟩ := m2.fourT
          go_wp2_with fail
          refine (test_any 12 (by omega) [60] a b HD1.out HD2.out _ _ _ (HA.out.bel c5) (HB.out.bel c5)).mono ?_; rintro e w6 ⟨rfl, hb6⟩
          rw [← HX.out, ← HY.out, testP_lt, if_pos H1.out, if_neg H2.out]
          dsimp only
          replace m1 := m1.keep hb6; replace m2 := m2.keep hb6; have c6 := bcall c5 hb6; clear hb6
          (try clear t0 t1 t2 t3 z0 z1 z2 z3 ltt); obtain ⟨t0, t1, t2, t3, z0, z1, z2, z3, ltt⟩ := m1.fourT
          (try clear s0 s1 s2 s3 y0 y1 y2 y3 lts); obtain ⟨s0, s1, s2, s3, y0, y1, y2, y3, lts⟩ := m2.fourT
          go_wp2_with fail
          refine (test_any 12 (by omega) [61, 58, 61] a b HD1.out HD2.out _ _ _ (HA.out.bel c6) (HB.out.bel c6)).mono ?_; rintro e w7 ⟨rfl, hb7⟩
          rw [← HX.out, ← HY.out, testP_eq, if_pos H1.out, if_neg H2.out]
          dsimp only
          replace m1 := m1.keep hb7; replace m2 := m2.keep hb7; have c7 := bcall c6 hb7; clear hb7
          (try clear t0 t1 t2 t3 z0 z1 z2 z3 ltt); obtain ⟨t0, t1, t2, t3, z0, z1, z2, z3, ltt⟩ := m1.fourT
          (try clear s0 s1 s2 s3 y0 y1 y2 y3 lts); obtain ⟨s0, s1, s2, s3, y0, y1, y2, y3, lts⟩ := m2.fourT
          go_wp2_with fail
          refine (test_any 12 (by omega) [62, 61] a b HD1.out HD2.out _ _ _ (HA.out.bel c7) (HB.out.bel c7)).mono ?_; rintro e w8 ⟨rfl, hb8⟩
          rw [← HX.out, ← HY.out, testP_ge, if_pos H1.out, if_neg H2.out]
          dsimp only
          replace m1 := m1.keep hb8; replace m2 := m2.keep hb8; have c8 := bcall c7 hb8; clear hb8
          go_wp2
          go_ret
          exact ⟨by simp, c8⟩
      · have H1 := Lib.hid h1
        have n2 : (x.2 != 0) = true := by simpa using h1
        have n3 : (x.2 == 0) = false := by simpa using h1
        clear h1
        (try clear t0 t1 t2 t3 z0 z1 z2 z3 ltt); obtain ⟨t0, t1, t2, t3, z0, z1, z2, z3, ltt⟩ := m1.fourT
        (try clear s0 s1 s2 s3 y0 y1 y2 y3 lts); obtain ⟨s0, s1, s2, s3, y0, y1, y2, y3, lts⟩ := m2.fourT
        go_wp2_with fail
        refine (test_any 12 (by omega) [60] a b HD1.out HD2.out _ _ _ (HA.out.bel c5) (HB.out.bel c5)).mono ?_; rintro e w6 ⟨rfl, hb6⟩
        rw [← HX.out, ← HY.out, testP_lt, if_neg H1.out]
        dsimp only
        replace m1 := m1.keep hb6; replace m2 := m2.keep hb6; have c6 := bcall c5 hb6; clear hb6
        (try clear t0 t1 t2 t3 z0 z1 z2 z3 ltt); obtain ⟨t0, t1, t2, t3, z0, z1, z2, z3, ltt⟩ := m1.fourT
        (try clear s0 s1 s2 s3 y0 y1 y2 y3 lts); obtain ⟨s0, s1, s2, s3, y0, y1, y2, y3, lts⟩ := m2.fourT
        go_wp2_with fail
        refine (test_any 12 (by omega) [61, 58, 61] a b HD1.out HD2.out _ _ _ (HA.out.bel c6) (HB.out.bel c6)).mono ?_; rintro e w7 ⟨rfl, hb7⟩
        rw [← HX.out, ← HY.out, testP_eq, if_neg H1.out]
        dsimp only
        replace m1 := m1.keep hb7; replace m2 := m2.keep hb7; have c7 := bcall c6 hb7; clear hb7
        (try clear t0 t1 t2 t3 z0 z1 z2 z3 ltt); obtain ⟨t0, t1, t2, t3, z0, z1, z2, z3, ltt⟩ := m1.fourT
        (try clear s0 s1 s2 s3 y0 y1 y2 y3 lts); obtain ⟨s0, s1, s2, s3, y0, y1, y2, y3, lts⟩ := m2.fourT
        go_wp2_with fail
        refine (test_any 12 (by omega) [62, 61] a b HD1.out HD2.out _ _ _ (HA.out.bel c7) (HB.out.bel c7)).mono ?_; rintro e w8 ⟨rfl, hb8⟩
        rw [← HX.out, ← HY.out, testP_ge, if_neg H1.out]
        dsimp only
        replace m1 := m1.keep hb8; replace m2 := m2.keep hb8; have c8 := bcall c7 hb8; clear hb8
        go_wp2
        go_ret
        exact ⟨by simp, c8⟩
end Go.Proofs.YtcnnobcncklgfaaGreatDoor
