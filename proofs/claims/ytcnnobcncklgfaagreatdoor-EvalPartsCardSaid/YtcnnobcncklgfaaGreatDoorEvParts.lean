/- 'sizarlaw20.EvalParts': at every name and every two terms it returns true. -/
import Derived.Test.YtcnnobcncklgfaaGreatDoorEvalT
import Derived.Test.YtcnnobcncklgfaaGreatDoorEvAw
import Derived.Test.YtcnnobcncklgfaaGreatDoorListW2
namespace Go.Proofs.YtcnnobcncklgfaaGreatDoor
open Go Go.ChangeShapes Go.WideShapes Go.ChangeAt Go.RowKit
set_option linter.unusedVariables false
theorem nth2 {P : Nat → Tm → Prop} {a b : Tm} (h0 : P 0 a) (h1 : P 1 b) : ∀ i (hi : i < [a, b].length), P i [a, b][i]
  | 0, _ => h0
  | 1, _ => h1
/-- term.Comp of two, out of a row that has just been laid. -/
theorem comp2_any (op : List UInt8) (a b : Tm) (B : Nat) (aa ba : Option Addr) (al ac bl bc : Nat) (w : World) (X Y : Nat → Prop)
    (hB : Blk w B #[.int .i64 a.kind, .int .i64 a.num, .string ⟨a.name.toArray⟩, .slice aa al ac, .int .i64 b.kind, .int .i64 b.num, .string ⟨b.name.toArray⟩, .slice ba bl bc] 24)
    (ha : Holds w X a (tmV a.kind a.num a.name (.slice aa al ac))) (hb : Holds w Y b (tmV b.kind b.num b.name (.slice ba bl bc))) :
    Calls Tryz.prog 14 #[.string ⟨op.toArray⟩, .slice (some ⟨B, 0, none⟩) 2 2] w fun e w' => ∃ sl n c, e = .returned (tmV 2 0 op (.slice sl n c)) ∧ Below w.heap.size w w' ∧ Holds w' (fun _ => True) (.mk 2 0 op [a, b]) (tmV 2 0 op (.slice sl n c)) := by
  refine (comp_raw ⟨op.toArray⟩ ⟨B, 0, none⟩ 2 2 [.int .i64 a.kind, .int .i64 a.num, .string ⟨a.name.toArray⟩, .slice aa al ac, .int .i64 b.kind, .int .i64 b.num, .string ⟨b.name.toArray⟩, .slice ba bl bc] w rfl (fun j u hj => ?_) (fun u hu => ?_) (by omega)).mono ?_
  · have e : (⟨B, 0, none⟩ : Addr).add j = ⟨B, j, none⟩ := by cases j <;> simp [Addr.add]
    rw [e]
    exact hB.cell (by simpa using hj)
  · simp only [List.mem_cons, List.not_mem_nil, or_false] at hu
    rcases hu with rfl | rfl | rfl | rfl | rfl | rfl | rfl | rfl <;> rfl
  · rintro e w' ⟨sl, rfl, hbel, hown⟩
    obtain ⟨oa, oc, rfl⟩ := own_shapeT hown
    refine ⟨oa, 2, oc, rfl, hbel, ?_⟩
    refine holds_own (base := w.heap.size) (ts := [a, b]) (L := fun i => if i = 0 then .slice aa al ac else .slice ba bl bc) hown (fun _ _ => trivial) ?_ 2 0 op
    exact nth2 (P := fun i t => Holds w' (fun _ => True) t (tmV t.kind t.num t.name (if i = 0 then .slice aa al ac else .slice ba bl bc))) ((ha.bel hbel).mono fun _ _ => trivial) ((hb.bel hbel).mono fun _ _ => trivial)
theorem good_two {op : List UInt8} {a b : Tm} (h : (Tm.mk 2 0 op [a, b]).good = true) : gname op = true := by
  simp only [Tm.good, Tm.allG, Bool.and_eq_true] at h
  have h1 := h.2.1
  simp only [goneP, List.length_cons, List.length_nil] at h1
  simp at h1
  exact h1
theorem good_ints {op : List UInt8} (x y : Int) (h : gname op = true) : (Tm.mk 2 0 op [.mk 1 x [] [], .mk 1 y [] []]).good = true := by
  simp [Tm.good, Tm.size, Tm.sizes, Tm.height, Tm.heights, Tm.allG, Tm.allsG, goneP, h]
theorem ev_two {op : List UInt8} {a b : Tm} (h : gname op = true) (hg : (Tm.mk 2 0 op [a, b]).good = true) (ha : a.evT.2 = 0) (hb : b.evT.2 = 0) :
    (Tm.mk 2 0 op [a, b]).evT = (Tm.mk 2 0 op [.mk 1 a.evT.1 [] [], .mk 1 b.evT.1 [] []]).evT := by
  have e1 : (Tm.mk 2 0 op [a, b]).evT = evK 2 0 op [a.ev, b.ev] := by rw [Tm.evT, if_pos hg]; simp [Tm.ev, Tm.evs]
  have e2 : (Tm.mk 2 0 op [.mk 1 a.evT.1 [] [], .mk 1 b.evT.1 [] []]).evT = evK 2 0 op [(a.evT.1, 0), (b.evT.1, 0)] := by
    rw [Tm.evT, if_pos (good_ints _ _ h)]
    simp [Tm.ev, Tm.evs, evK_int]
  have ga : a.evT = a.ev := by
    unfold Tm.evT at ha ⊢
    split at ha
    · rename_i hga; rw [if_pos hga]
    · simp at ha
  have gb : b.evT = b.ev := by
    unfold Tm.evT at hb ⊢
    split at hb
    · rename_i hgb; rw [if_pos hgb]
    · simp at hb
  rw [e1, e2, ← ga, ← gb]
  have pa : a.evT = (a.evT.1, 0) := by rw [← ha]
  have pb : b.evT = (b.evT.1, 0) := by rw [← hb]
  rw [← pa, ← pb]
theorem i64_evT {N : Nat} {t : Tm} (h : Fine N t) : i64 t.evT.1 := by
  unfold Tm.evT
  split
  · exact I64_ev t.height t (Nat.le_refl _) h
  · decide
set_option maxHeartbeats 8000000 in
set_option maxRecDepth 100000 in
theorem parts_any {X Y : Nat → Prop} (M : Nat) (op : List UInt8) (hop : op.length ≤ maxLen) (a b : Tm) (hfa : Fine M a) (hfb : Fine M b) (w : World) (va vb : Value) (ha : Holds w X a va) (hb : Holds w Y b vb) :
    Calls Tryz.prog 5 #[.string ⟨op.toArray⟩, va, vb] w fun e w' => e = .returned (.bool true) ∧ Below w.heap.size w w' := by
  obtain ⟨sa, rfl⟩ := ha.form
  obtain ⟨aa, ac, rfl⟩ := ha.args
  obtain ⟨sb, rfl⟩ := hb.form
  obtain ⟨ba, bc, rfl⟩ := hb.args
  have HA := Lib.hid ha; have HB := Lib.hid hb; clear ha hb
  have hn1 := (Blk.new w #[.int .i64 a.kind, .int .i64 a.num, .string ⟨a.name.toArray⟩, .slice aa a.args.length ac] 24).alloc (.cells #[.int .i64 b.kind, .int .i64 b.num, .string ⟨b.name.toArray⟩, .slice ba b.args.length bc] 24)
  have hn2 := Blk.new (w.alloc (.cells #[.int .i64 a.kind, .int .i64 a.num, .string ⟨a.name.toArray⟩, .slice aa a.args.length ac] 24)) #[.int .i64 b.kind, .int .i64 b.num, .string ⟨b.name.toArray⟩, .slice ba b.args.length bc] 24
  rw [World.size_alloc] at hn2
  have hb0 : Below w.heap.size w ((w.alloc (.cells #[.int .i64 a.kind, .int .i64 a.num, .string ⟨a.name.toArray⟩, .slice aa a.args.length ac] 24)).alloc (.cells #[.int .i64 b.kind, .int .i64 b.num, .string ⟨b.name.toArray⟩, .slice ba b.args.length bc] 24)) := Below.alloc (Below.alloc (Below.refl _ _) (Nat.le_refl _) _) (by simp) _
  simp only [tmV]
  have hda := deep_any 30 (by omega) a (X := X)
  have hdb := deep_any 30 (by omega) b (X := Y)
  have HDA := Lib.hid hda; have HDB := Lib.hid hdb; have HFA := Lib.hid hfa; have HFB := Lib.hid hfb; clear hda hdb hfa hfb
  go_enter Tryz.func5, Tryz.ntmps5
  go_wp2_with fail
  refine (awake_any _).mono ?_; rintro e w1 ⟨rfl, hb1⟩
  have m1 := hn1.keep hb1; have m2 := hn2.keep hb1; have c1 := bcall hb0 hb1
  clear hn1 hn2 hb0 hb1
  obtain ⟨t0, t1, t2, t3, z0, z1, z2, z3, ltt⟩ := m1.fourT
  go_wp2_with fail
  refine (HDA.out _ _ (HA.out.bel c1)).mono ?_; rintro e w2 ⟨rfl, hb2⟩
  replace m1 := m1.keep hb2; replace m2 := m2.keep hb2; have c2 := bcall c1 hb2; clear hb2
  cases hd : deepP 30 a with
  | true =>
    go_wp2
    go_ret
    exact ⟨rfl, c2⟩
  | false =>
    have HD1 := Lib.hid (deep_fine 30 a hd HFA.out); clear hd
    (try clear s0 s1 s2 s3 y0 y1 y2 y3 lts); obtain ⟨s0, s1, s2, s3, y0, y1, y2, y3, lts⟩ := m2.fourT
    go_wp2_with fail
    refine (HDB.out _ _ (HB.out.bel c2)).mono ?_; rintro e w3 ⟨rfl, hb3⟩
    replace m1 := m1.keep hb3; replace m2 := m2.keep hb3; have c3 := bcall c2 hb3; clear hb3
    cases hd : deepP 30 b with
    | true =>
      go_wp2
      go_ret
      exact ⟨rfl, c3⟩
    | false =>
      have HD2 := Lib.hid (deep_fine 30 b hd HFB.out); clear hd
      obtain ⟨x, hx⟩ : ∃ x, x = a.evT := ⟨_, rfl⟩
      obtain ⟨y, hy⟩ : ∃ y, y = b.evT := ⟨_, rfl⟩
      have HX := Lib.hid hx; have HY := Lib.hid hy; clear hx hy
      (try clear t0 t1 t2 t3 z0 z1 z2 z3 ltt); obtain ⟨t0, t1, t2, t3, z0, z1, z2, z3, ltt⟩ := m1.fourT
      (try clear s0 s1 s2 s3 y0 y1 y2 y3 lts); obtain ⟨s0, s1, s2, s3, y0, y1, y2, y3, lts⟩ := m2.fourT
      go_wp2_with fail
      have hrow := Blk.new w3 #[.int .i64 a.kind, .int .i64 a.num, .string ⟨a.name.toArray⟩, .slice aa a.args.length ac, .int .i64 b.kind, .int .i64 b.num, .string ⟨b.name.toArray⟩, .slice ba b.args.length bc] 24
      have hra : Below w3.heap.size w3 (w3.alloc (.cells #[.int .i64 a.kind, .int .i64 a.num, .string ⟨a.name.toArray⟩, .slice aa a.args.length ac, .int .i64 b.kind, .int .i64 b.num, .string ⟨b.name.toArray⟩, .slice ba b.args.length bc] 24)) := Below.alloc (Below.refl _ _) (Nat.le_refl _) _
      have ca := bcall c3 hra
      replace m1 := m1.keep hra; replace m2 := m2.keep hra
      refine (comp2_any op a b w3.heap.size aa ba a.args.length ac b.args.length bc _ X Y hrow (HA.out.bel ca) (HB.out.bel ca)).mono ?_; rintro e w4 ⟨tsl, tn, tc, rfl, hb4, ht⟩
      replace m1 := m1.keep hb4; replace m2 := m2.keep hb4; have c4 := bcall ca hb4; clear hb4 ca hra hrow
      have HT := Lib.hid ht; clear ht
      obtain ⟨T, hT⟩ : ∃ T, T = Tm.mk 2 0 op [a, b] := ⟨_, rfl⟩
      rw [← hT] at HT
      have hfT : Fine 12 T := by rw [hT]; exact .mk _ _ _ _ (by omega) (by omega) hop (by simp) (fun z hz => by simp at hz; rcases hz with rfl | rfl; exact HD1.out; exact HD2.out)
      have HFT := Lib.hid hfT; have HTE := Lib.hid hT; clear hfT hT
      have m3 := Blk.new w4 #[.int .i64 2, .int .i64 0, .string ⟨op.toArray⟩, .slice tsl tn tc] 24
      have hb5 : Below w4.heap.size w4 (w4.alloc (.cells #[.int .i64 2, .int .i64 0, .string ⟨op.toArray⟩, .slice tsl tn tc] 24)) := Below.alloc (Below.refl _ _) (Nat.le_refl _) _
      have c5 := bcall c4 hb5
      have ht5 := HT.out.bel hb5; have HT5 := Lib.hid ht5; clear ht5
      replace m1 := m1.keep hb5; replace m2 := m2.keep hb5; clear hb5
      simp only [tmV]
      go_wp2_with fail
      refine (good_any 12 (by omega) T HFT.out _ _ HT5.out).mono ?_; rintro e w6 ⟨rfl, hb6⟩
      have ht6 := HT5.out.bel hb6; have HT6 := Lib.hid ht6; clear ht6 HT5
      replace m1 := m1.keep hb6; replace m2 := m2.keep hb6; replace m3 := m3.keep hb6; have c6 := bcall c5 hb6; clear hb6
      cases hg : T.good with
      | false =>
        go_wp2
        go_ret
        exact ⟨rfl, c6⟩
      | true =>
        have HG := Lib.hid hg; clear hg
        (try clear t0 t1 t2 t3 z0 z1 z2 z3 ltt); obtain ⟨t0, t1, t2, t3, z0, z1, z2, z3, ltt⟩ := m1.fourT
        (try clear s0 s1 s2 s3 y0 y1 y2 y3 lts); obtain ⟨s0, s1, s2, s3, y0, y1, y2, y3, lts⟩ := m2.fourT
        (try clear u0 u1 u2 u3 x0 x1 x2 x3 ltu); obtain ⟨u0, u1, u2, u3, x0, x1, x2, x3, ltu⟩ := m3.fourT
        go_wp2_with fail
        refine (Of_any 12 (by omega) a HD1.out _ _ (HA.out.bel c6)).mono ?_; rintro e w7 ⟨rfl, hb7⟩
        rw [← HX.out]; simp only [two64]
        have ht7 := HT6.out.bel hb7; have HT7 := Lib.hid ht7; clear ht7 HT6
        replace m1 := m1.keep hb7; replace m2 := m2.keep hb7; replace m3 := m3.keep hb7; have c7 := bcall c6 hb7; clear hb7
        (try clear t0 t1 t2 t3 z0 z1 z2 z3 ltt); obtain ⟨t0, t1, t2, t3, z0, z1, z2, z3, ltt⟩ := m1.fourT
        (try clear s0 s1 s2 s3 y0 y1 y2 y3 lts); obtain ⟨s0, s1, s2, s3, y0, y1, y2, y3, lts⟩ := m2.fourT
        (try clear u0 u1 u2 u3 x0 x1 x2 x3 ltu); obtain ⟨u0, u1, u2, u3, x0, x1, x2, x3, ltu⟩ := m3.fourT
        go_wp2_with fail
        refine (Of_any 12 (by omega) b HD2.out _ _ (HB.out.bel c7)).mono ?_; rintro e w8 ⟨rfl, hb8⟩
        rw [← HY.out]; simp only [two64]
        have ht8 := HT7.out.bel hb8; have HT8 := Lib.hid ht8; clear ht8 HT7
        replace m1 := m1.keep hb8; replace m2 := m2.keep hb8; replace m3 := m3.keep hb8; have c8 := bcall c7 hb8; clear hb8
        by_cases h1 : x.2 = 0
        · by_cases h2 : y.2 = 0
          · have H1 := Lib.hid h1; have H2 := Lib.hid h2
            rw [h1, h2]; clear h1 h2
            (try clear t0 t1 t2 t3 z0 z1 z2 z3 ltt); obtain ⟨t0, t1, t2, t3, z0, z1, z2, z3, ltt⟩ := m1.fourT
            (try clear s0 s1 s2 s3 y0 y1 y2 y3 lts); obtain ⟨s0, s1, s2, s3, y0, y1, y2, y3, lts⟩ := m2.fourT
            (try clear u0 u1 u2 u3 x0 x1 x2 x3 ltu); obtain ⟨u0, u1, u2, u3, x0, x1, x2, x3, ltu⟩ := m3.fourT
            go_wp2_with fail
            refine (Of_any 12 (by omega) T HFT.out _ _ HT8.out).mono ?_; rintro e w9 ⟨rfl, hb9⟩
            simp only [two64]
            replace m1 := m1.keep hb9; replace m2 := m2.keep hb9; replace m3 := m3.keep hb9; have c9 := bcall c8 hb9; clear hb9
            go_wp2_with fail
            refine (int_any _ _).mono ?_; rintro e w10 ⟨rfl, hb10⟩
            have c10 := bcall c9 hb10; replace m1 := m1.keep hb10; replace m2 := m2.keep hb10; clear hb10
            go_wp2_with fail
            refine (int_any _ _).mono ?_; rintro e w11 ⟨rfl, hb11⟩
            have c11 := bcall c10 hb11; clear hb11
            go_wp2_with fail
            have hrow := Blk.new w11 #[.int .i64 1, .int .i64 x.1, .string ⟨#[]⟩, .slice none 0 0, .int .i64 1, .int .i64 y.1, .string ⟨#[]⟩, .slice none 0 0] 24
            have hra : Below w11.heap.size w11 (w11.alloc (.cells #[.int .i64 1, .int .i64 x.1, .string ⟨#[]⟩, .slice none 0 0, .int .i64 1, .int .i64 y.1, .string ⟨#[]⟩, .slice none 0 0] 24)) := Below.alloc (Below.refl _ _) (Nat.le_refl _) _
            have ca := bcall c11 hra
            refine (comp2_any op (.mk 1 x.1 [] []) (.mk 1 y.1 [] []) w11.heap.size none none 0 0 0 0 _ (fun _ => True) (fun _ => True) hrow (.leaf _ _ _ _ _) (.leaf _ _ _ _ _)).mono ?_; rintro e w12 ⟨usl, un, uc, rfl, hb12, ht⟩
            have c12 := bcall ca hb12; clear hb12 ca hrow hra
            have HU := Lib.hid ht; clear ht
            have hfu : Fine 12 (Tm.mk 2 0 op [.mk 1 x.1 [] [], .mk 1 y.1 [] []]) := .mk _ _ _ _ (by omega) (by omega) hop (by simp) (fun z hz => by
              simp at hz
              rcases hz with rfl | rfl
              · exact .mk _ _ _ _ (by omega) (by rw [HX.out]; exact i64_evT HD1.out) (by simp) (by simp) (fun z hz => by simp at hz)
              · exact .mk _ _ _ _ (by omega) (by rw [HY.out]; exact i64_evT HD2.out) (by simp) (by simp) (fun z hz => by simp at hz))
            have HFU := Lib.hid hfu; clear hfu
            have heq : T.evT = (Tm.mk 2 0 op [.mk 1 x.1 [] [], .mk 1 y.1 [] []]).evT := by
              have hg := HG.out
              rw [HTE.out] at hg ⊢
              rw [HX.out, HY.out]
              exact ev_two (good_two hg) hg (by rw [← HX.out]; exact H1.out) (by rw [← HY.out]; exact H2.out)
            have HEQ := Lib.hid heq; clear heq
            simp only [tmV]
            go_wp2_with fail
            refine (Of_any 12 (by omega) _ HFU.out _ _ HU.out).mono ?_; rintro e w13 ⟨rfl, hb13⟩
            rw [← HEQ.out]; simp only [two64]
            have c13 := bcall c12 hb13; clear hb13
            go_wp2
            go_ret
            exact ⟨by simp, c13⟩
          · have n2 : (y.2 != 0) = true := by simpa using h2
            have n3 : (y.2 == 0) = false := by simpa using h2
            rw [h1]; clear h1 h2
            go_wp2
            go_ret
            exact ⟨rfl, c8⟩
        · have n2 : (x.2 != 0) = true := by simpa using h1
          have n3 : (x.2 == 0) = false := by simpa using h1
          clear h1
          go_wp2
          go_ret
          exact ⟨rfl, c8⟩
end Go.Proofs.YtcnnobcncklgfaaGreatDoor
