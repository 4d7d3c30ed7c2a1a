/- The document's own Eval, EvalTest. -/
import Derived.Test.YtcnnobcncklgfaaGreatDoorEvalT
import Derived.Test.YtcnnobcncklgfaaGreatDoorRefB
import Derived.Test.YtcnnobcncklgfaaGreatDoorRefA
namespace Go.Proofs.YtcnnobcncklgfaaGreatDoor
open Go Go.ChangeShapes Go.WideShapes Go.ChangeAt Go.RowKit
set_option linter.unusedVariables false
theorem reck_one0 {s : List UInt8} (h : reckP s 1 = false) : ((oneS s 1).2 == 1) = true := by
  have h2 : ((oneS s 1).2 != 1) = false := h
  rw [bne] at h2
  simpa using h2
theorem reck_one1 {s : List UInt8} (h : reckP s 1 = true) : ((oneS s 1).2 == 1) = false := by
  have h2 : ((oneS s 1).2 != 1) = true := h
  rw [bne] at h2
  simpa using h2
theorem reck_two0 {s : List UInt8} (h : reckP s 2 = false) : ((twoS s 1 1).2 == 1) = true := by
  have h2 : ((twoS s 1 1).2 != 1) = false := h
  rw [bne] at h2
  simpa using h2
theorem reck_two1 {s : List UInt8} (h : reckP s 2 = true) : ((twoS s 1 1).2 == 1) = false := by
  have h2 : ((twoS s 1 1).2 != 1) = true := h
  rw [bne] at h2
  simpa using h2
theorem cmpS_err (op : List UInt8) (a b c d : Int) : (cmpS op a b).2 = (cmpS op c d).2 := by
  unfold cmpS
  repeat' split
  all_goals rfl
def testQ (op : List UInt8) (a b : Int × Int) : Bool × Int :=
  if (cmpS op 1 1).2 = 0 then (if a.2 = 0 then (if b.2 = 0 then cmpS op a.1 b.1 else (false, b.2)) else (false, a.2)) else (false, (cmpS op 1 1).2)
theorem testP_one (op : List UInt8) (a b : Int × Int) : testP op a b = testQ op a b := by
  unfold testP testQ
  rw [cmpS_err op 1 1 0 0]
set_option maxHeartbeats 8000000 in
theorem reval_any {X : Nat → Prop} (N : Nat) : ∀ (M : Nat) (t : Tm), t.height ≤ M → Fine N t → ∀ (w : World) (v : Value), Holds w X t v →
    Calls Tryz.prog 64 #[v] w fun e w' => e = .returned (two64 t.ev) ∧ Below w.heap.size w w' := by
  intro M
  induction M with
  | zero => intro t ht; have := height_eq t; omega
  | succ M ih =>
    intro t ht hf w v h
    obtain ⟨sl, rfl⟩ := h.form
    obtain ⟨a, c, rfl⟩ := h.args
    have hh := height_eq t
    obtain ⟨t, ht0⟩ : ∃ t', t' = t := ⟨_, rfl⟩
    subst ht0
    have hev := ev_eq t
    have HH := Lib.hid h; have HF := Lib.hid hf; have HE := Lib.hid hev; clear h hf hev
    have hn := Blk.new w #[.int .i64 t.kind, .int .i64 t.num, .string ⟨t.name.toArray⟩, .slice a t.args.length c] 41
    have hb0 : Below w.heap.size w (w.alloc (.cells #[.int .i64 t.kind, .int .i64 t.num, .string ⟨t.name.toArray⟩, .slice a t.args.length c] 41)) := Below.alloc (Below.refl _ _) (Nat.le_refl _) _
    obtain ⟨k, hk⟩ : ∃ k, k = t.kind := ⟨_, rfl⟩
    obtain ⟨n, hnum⟩ : ∃ n, n = t.num := ⟨_, rfl⟩
    obtain ⟨s, hs⟩ : ∃ s, s = t.name := ⟨_, rfl⟩
    rw [← hk, ← hnum, ← hs] at hn hb0 HE ⊢
    have HK := Lib.hid hk; have HNU := Lib.hid hnum; have HS := Lib.hid hs; clear hk hnum hs
    simp only [tmV]
    by_cases h0 : k = 0
    · have h0' : (k == 0) = true := by simpa using h0
      have D := Lib.hid (show t.ev = (0, 6) by rw [HE.out, evK_var h0])
      subst h0
      go_enter Tryz.func64, Tryz.ntmps64
      go_wp2
      go_ret2
      exact ⟨ret2 D.out, hb0⟩
    by_cases h1 : k = 1
    · have D := Lib.hid (show t.ev = (n, 0) by rw [HE.out, evK_int h1])
      subst h1
      go_enter Tryz.func64, Tryz.ntmps64
      go_wp2
      go_ret2
      exact ⟨ret2 D.out, hb0⟩
    have h0' : (k == 0) = false := by simpa using h0
    have h1' : (k == 1) = false := by simpa using h1
    cases hr : reckP s t.args.length with
    | false =>
      have D := Lib.hid (show t.ev = (0, 5) by rw [HE.out, evK_no h0 h1 (by rw [evs_len]; exact hr)])
      clear h0 h1
      by_cases l1 : t.args.length = 1
      · rw [l1] at hr hn hb0 ⊢
        have q := reck_one0 hr
        have hr' := Lib.hid hr; clear hr
        go_enter Tryz.func64, Tryz.ntmps64
        go_wp2_with fail
        refine (rone_any ⟨s.toArray⟩ 1 (by decide) _).mono ?_; rintro e w1 ⟨rfl, rfl⟩
        rw [tl]
        simp only [two64]
        go_wp2
        go_ret2
        exact ⟨ret2 D.out, hb0⟩
      by_cases l2 : t.args.length = 2
      · rw [l2] at hr hn hb0 ⊢
        have q := reck_two0 hr
        have hr' := Lib.hid hr; clear hr
        go_enter Tryz.func64, Tryz.ntmps64
        go_wp2_with fail
        refine (rtwo_any ⟨s.toArray⟩ 1 1 (by decide) (by decide) _).mono ?_; rintro e w1 ⟨rfl, rfl⟩
        rw [tl]
        simp only [two64]
        go_wp2
        go_ret2
        exact ⟨ret2 D.out, hb0⟩
      · have l1' : ((t.args.length : Int) == 1) = false := by simp; omega
        have l2' : ((t.args.length : Int) == 2) = false := by simp; omega
        have hr' := Lib.hid hr; clear hr
        go_enter Tryz.func64, Tryz.ntmps64
        go_wp2
        go_ret2
        exact ⟨ret2 D.out, hb0⟩
    | true =>
      have hh2 : Tm.heights t.args ≤ M := by omega
      rcases reckP_len hr with hl | hl
      · obtain ⟨x, hx⟩ : ∃ x, t.args = [x] := by
          match t.args, hl with
          | [x], _ => exact ⟨x, rfl⟩
        rw [hx] at hr HE HH hh2 hn hb0 ⊢
        have HE1 : Hid (t.ev = if x.ev.2 = 0 then oneS s x.ev.1 else (0, x.ev.2)) := Lib.hid (by rw [HE.out]; simp only [Tm.evs]; exact evK_one h0 h1 hr)
        have q := reck_one1 hr
        clear hr h0 h1
        obtain ⟨b, xsl, rfl, -, c0, c1, c2, c3, hc⟩ := HH.out.arg (i := 0) (by rw [hx]; simp)
        simp only [hx, List.getElem_cons_zero, List.length_cons, List.length_nil, Nat.zero_add, Nat.zero_mul] at c0 c1 c2 c3 hc hn hb0 ⊢
        have hcf : Fine N x := (HF.out.args.2.1 x (by rw [hx]; simp))
        obtain ⟨ax, cx, rfl⟩ := hc.args
        have hix : I64 x.ev := I64_ev x.height x (Nat.le_refl _) hcf
        have hxh : x.height ≤ M := by simp [Tm.heights] at hh2; omega
        have hlt : ∀ o u, w.cell? (b.add o) = some u → (w.alloc (.cells #[.int .i64 k, .int .i64 n, .string ⟨s.toArray⟩, .slice (some b) 1 c] 41)).cell? (b.add o) = some u := fun o u hu => (World.cell?_alloc_lt _ _ _ (World.block_lt_of_cell? w _ hu)).trans hu
        have HC := Lib.hid hc; have HCF := Lib.hid hcf; have HIX := Lib.hid hix; clear hc hcf hix hx
        go_enter Tryz.func64, Tryz.ntmps64
        go_wp2_with fail
        refine (rone_any ⟨s.toArray⟩ 1 (by decide) _).mono ?_; rintro e w1 ⟨rfl, rfl⟩
        rw [tl]; simp only [two64]
        have hb1' := hb0
        obtain ⟨t0, t1, t2, t3, z0, z1, z2, z3, ltt⟩ := hn.fourT
        have hk : ∀ o u, w.cell? (b.add o) = some u → (w.alloc (.cells #[.int .i64 k, .int .i64 n, .string ⟨s.toArray⟩, .slice (some b) 1 c] 41)).cell? (b.add o) = some u := fun o u hu => (World.cell?_of_block (hb1'.block _ (World.block_lt_of_cell? w _ hu))).trans hu
        replace c0 := hk _ _ c0; replace c1 := hk _ _ c1; replace c2 := hk _ _ c2; replace c3 := hk _ _ c3
        rw [add_zero] at c0
        replace c1 : (w.alloc (.cells #[.int .i64 k, .int .i64 n, .string ⟨s.toArray⟩, .slice (some b) 1 c] 41)).cell? ⟨b.block, b.off + 1, none⟩ = _ := c1
        replace c2 : (w.alloc (.cells #[.int .i64 k, .int .i64 n, .string ⟨s.toArray⟩, .slice (some b) 1 c] 41)).cell? ⟨b.block, b.off + 2, none⟩ = _ := c2
        replace c3 : (w.alloc (.cells #[.int .i64 k, .int .i64 n, .string ⟨s.toArray⟩, .slice (some b) 1 c] 41)).cell? ⟨b.block, b.off + 3, none⟩ = _ := c3
        go_wp2_with fail
        refine (ih x hxh HCF.out _ _ (HC.out.bel hb1')).mono ?_; rintro e w2 ⟨rfl, hb2⟩
        obtain ⟨t0, t1, t2, t3, z0, z1, z2, z3, ltt⟩ := (hn.keep hb2).fourT
        have hb2' := bcall hb1' hb2
        simp only [two64]
        by_cases he : x.ev.2 = 0
        · have he' : (x.ev.2 != 0) = false := by simp [he]
          have he2 : (x.ev.2 == 0) = true := by simp [he]
          have D := Lib.hid (show t.ev = oneS s x.ev.1 by rw [HE1.out, if_pos he])
          have HEE := Lib.hid he; clear he
          go_wp2_with fail
          refine (rone_any ⟨s.toArray⟩ x.ev.1 HIX.out _).mono ?_; rintro e w3 ⟨rfl, rfl⟩
          rw [tl]
          simp only [two64]
          go_wp2
          go_ret2
          exact ⟨by rw [D.out]; rfl, hb2'⟩
        · have he' : (x.ev.2 != 0) = true := by simp [he]
          have he2 : (x.ev.2 == 0) = false := by simp [he]
          have D := Lib.hid (show t.ev = (0, x.ev.2) by rw [HE1.out, if_neg he])
          have HEE := Lib.hid he; clear he
          go_wp2
          go_ret2
          exact ⟨ret2 D.out, hb2'⟩
      · obtain ⟨x, y, hx⟩ : ∃ x y, t.args = [x, y] := by
          match t.args, hl with
          | [x, y], _ => exact ⟨x, y, rfl⟩
        rw [hx] at hr HE HH hh2 hn hb0 ⊢
        have HE1 : Hid (t.ev = if x.ev.2 = 0 then (if y.ev.2 = 0 then twoS s x.ev.1 y.ev.1 else (0, y.ev.2)) else (0, x.ev.2)) := Lib.hid (by rw [HE.out]; simp only [Tm.evs]; exact evK_two h0 h1 hr)
        have q := reck_two1 hr
        clear hr h0 h1
        obtain ⟨b, xsl, rfl, -, c0, c1, c2, c3, hc⟩ := HH.out.arg (i := 0) (by rw [hx]; simp)
        obtain ⟨b', ysl, hbb, -, d0, d1, d2, d3, hd⟩ := HH.out.arg (i := 1) (by rw [hx]; simp)
        cases hbb
        simp only [hx, List.getElem_cons_zero, List.getElem_cons_succ, List.length_cons, List.length_nil, Nat.zero_add, Nat.zero_mul, Nat.one_mul, Nat.reduceAdd] at c0 c1 c2 c3 hc d0 d1 d2 d3 hd hn hb0 ⊢
        have hcf : Fine N x := (HF.out.args.2.1 x (by rw [hx]; simp))
        have hdf : Fine N y := (HF.out.args.2.1 y (by rw [hx]; simp))
        obtain ⟨ax, cx, rfl⟩ := hc.args
        obtain ⟨ay, cy, rfl⟩ := hd.args
        have hix : I64 x.ev := I64_ev x.height x (Nat.le_refl _) hcf
        have hiy : I64 y.ev := I64_ev y.height y (Nat.le_refl _) hdf
        have hxh : x.height ≤ M := by simp [Tm.heights] at hh2; omega
        have hyh : y.height ≤ M := by simp [Tm.heights] at hh2; omega
        have HC := Lib.hid hc; have HCF := Lib.hid hcf; have HIX := Lib.hid hix; have HD := Lib.hid hd; have HDF := Lib.hid hdf; have HIY := Lib.hid hiy; clear hc hcf hix hd hdf hiy hx
        go_enter Tryz.func64, Tryz.ntmps64
        go_wp2_with fail
        refine (rtwo_any ⟨s.toArray⟩ 1 1 (by decide) (by decide) _).mono ?_; rintro e w1 ⟨rfl, rfl⟩
        rw [tl]; simp only [two64]
        have hb1' := hb0
        obtain ⟨t0, t1, t2, t3, z0, z1, z2, z3, ltt⟩ := hn.fourT
        have hk : ∀ o u, w.cell? (b.add o) = some u → (w.alloc (.cells #[.int .i64 k, .int .i64 n, .string ⟨s.toArray⟩, .slice (some b) 2 c] 41)).cell? (b.add o) = some u := fun o u hu => (World.cell?_of_block (hb1'.block _ (World.block_lt_of_cell? w _ hu))).trans hu
        have q0 := hk _ _ c0; have q1 := hk _ _ c1; have q2 := hk _ _ c2; have q3 := hk _ _ c3
        rw [add_zero] at q0
        replace q1 : (w.alloc (.cells #[.int .i64 k, .int .i64 n, .string ⟨s.toArray⟩, .slice (some b) 2 c] 41)).cell? ⟨b.block, b.off + 1, none⟩ = _ := q1
        replace q2 : (w.alloc (.cells #[.int .i64 k, .int .i64 n, .string ⟨s.toArray⟩, .slice (some b) 2 c] 41)).cell? ⟨b.block, b.off + 2, none⟩ = _ := q2
        replace q3 : (w.alloc (.cells #[.int .i64 k, .int .i64 n, .string ⟨s.toArray⟩, .slice (some b) 2 c] 41)).cell? ⟨b.block, b.off + 3, none⟩ = _ := q3
        go_wp2_with fail
        refine (ih x hxh HCF.out _ _ (HC.out.bel hb1')).mono ?_; rintro e w2 ⟨rfl, hb2⟩
        obtain ⟨t0, t1, t2, t3, z0, z1, z2, z3, ltt⟩ := (hn.keep hb2).fourT
        have hb2' := bcall hb1' hb2
        simp only [two64]
        by_cases he : x.ev.2 = 0
        · have he' : (x.ev.2 != 0) = false := by simp [he]
          have he2 : (x.ev.2 == 0) = true := by simp [he]
          have HE2 : Hid (t.ev = if y.ev.2 = 0 then twoS s x.ev.1 y.ev.1 else (0, y.ev.2)) := Lib.hid (by rw [HE1.out, if_pos he])
          have HEE := Lib.hid he; clear he
          have hk2 : ∀ o u, w.cell? (b.add o) = some u → w2.cell? (b.add o) = some u := fun o u hu => (World.cell?_of_block (hb2'.block _ (World.block_lt_of_cell? w _ hu))).trans hu
          have p0 := hk2 _ _ d0; have p1 := hk2 _ _ d1; have p2 := hk2 _ _ d2; have p3 := hk2 _ _ d3
          replace p0 : w2.cell? ⟨b.block, b.off + 4, none⟩ = _ := p0
          replace p1 : w2.cell? ⟨b.block, b.off + 4 + 1, none⟩ = _ := p1
          replace p2 : w2.cell? ⟨b.block, b.off + 4 + 2, none⟩ = _ := p2
          replace p3 : w2.cell? ⟨b.block, b.off + 4 + 3, none⟩ = _ := p3
          go_wp2_with fail
          refine (ih y hyh HDF.out _ _ (HD.out.bel hb2')).mono ?_; rintro e w3 ⟨rfl, hb3⟩
          obtain ⟨t0, t1, t2, t3, z0, z1, z2, z3, ltt⟩ := ((hn.keep hb2).keep hb3).fourT
          have hb3' := bcall hb2' hb3
          simp only [two64]
          by_cases hy : y.ev.2 = 0
          · have hy' : (y.ev.2 != 0) = false := by simp [hy]
            have D := Lib.hid (show t.ev = twoS s x.ev.1 y.ev.1 by rw [HE2.out, if_pos hy])
            have HYY := Lib.hid hy; clear hy
            go_wp2_with fail
            refine (rtwo_any ⟨s.toArray⟩ x.ev.1 y.ev.1 HIX.out HIY.out _).mono ?_; rintro e w4 ⟨rfl, rfl⟩
            rw [tl]
            simp only [two64]
            go_wp2
            go_ret2
            exact ⟨by rw [D.out]; rfl, hb3'⟩
          · have hy' : (y.ev.2 != 0) = true := by simp [hy]
            have D := Lib.hid (show t.ev = (0, y.ev.2) by rw [HE2.out, if_neg hy])
            have HYY := Lib.hid hy; clear hy
            go_wp2
            go_ret2
            exact ⟨ret2 D.out, hb3'⟩
        · have he' : (x.ev.2 != 0) = true := by simp [he]
          have he2 : (x.ev.2 == 0) = false := by simp [he]
          have D := Lib.hid (show t.ev = (0, x.ev.2) by rw [HE1.out, if_neg he])
          have HEE := Lib.hid he; clear he
          go_wp2
          go_ret2
          exact ⟨ret2 D.out, hb2'⟩
set_option maxHeartbeats 4000000 in
theorem rEval_any {X : Nat → Prop} (N : Nat) (hN : N ≤ 1000) (t : Tm) (hf : Fine N t) (w : World) (v : Value) (h : Holds w X t v) :
    Calls Tryz.prog 36 #[v] w fun e w' => e = .returned (two64 t.evT) ∧ Below w.heap.size w w' := by
  obtain ⟨sl, rfl⟩ := h.form
  obtain ⟨a, c, rfl⟩ := h.args
  have HH := Lib.hid h; have HF := Lib.hid hf; clear h hf
  have hn := Blk.new w #[.int .i64 t.kind, .int .i64 t.num, .string ⟨t.name.toArray⟩, .slice a t.args.length c] 41
  have hb0 : Below w.heap.size w (w.alloc (.cells #[.int .i64 t.kind, .int .i64 t.num, .string ⟨t.name.toArray⟩, .slice a t.args.length c] 41)) := Below.alloc (Below.refl _ _) (Nat.le_refl _) _
  simp only [tmV]
  cases hg : t.good with
  | true =>
    have D := Lib.hid (show t.evT = t.ev by simp [Tm.evT, hg])
    go_enter Tryz.func36, Tryz.ntmps36
    go_wp2_with fail
    refine (rgood_any N hN t HF.out _ _ (HH.out.bel hb0)).mono ?_; rintro e w1 ⟨rfl, hb1⟩
    rw [hg]
    obtain ⟨t0, t1, t2, t3, z0, z1, z2, z3, ltt⟩ := (hn.keep hb1).fourT
    have hb1' := bcall hb0 hb1
    go_wp2_with fail
    refine (reval_any N t.height t (Nat.le_refl _) HF.out _ _ (HH.out.bel hb1')).mono ?_; rintro e w2 ⟨rfl, hb2⟩
    simp only [two64]
    go_wp2
    go_ret2
    exact ⟨by rw [D.out]; rfl, bcall hb1' hb2⟩
  | false =>
    have D := Lib.hid (show t.evT = (0, 1) by simp [Tm.evT, hg])
    go_enter Tryz.func36, Tryz.ntmps36
    go_wp2_with fail
    refine (rgood_any N hN t HF.out _ _ (HH.out.bel hb0)).mono ?_; rintro e w1 ⟨rfl, hb1⟩
    rw [hg]
    go_wp2
    go_ret2
    exact ⟨ret2 D.out, bcall hb0 hb1⟩
set_option maxHeartbeats 4000000 in
theorem rtest_any {X Y : Nat → Prop} (N : Nat) (hN : N ≤ 1000) (op : List UInt8) (a b : Tm) (hfa : Fine N a) (hfb : Fine N b) (w : World) (va vb : Value) (ha : Holds w X a va) (hb : Holds w Y b vb) :
    Calls Tryz.prog 38 #[.string ⟨op.toArray⟩, va, vb] w fun e w' => e = .returned (.tuple #[.bool (testP op a.evT b.evT).1, .int .i64 (testP op a.evT b.evT).2]) ∧ Below w.heap.size w w' := by
  obtain ⟨sa, rfl⟩ := ha.form
  obtain ⟨aa, ac, rfl⟩ := ha.args
  obtain ⟨sb, rfl⟩ := hb.form
  obtain ⟨ba, bc, rfl⟩ := hb.args
  have HA := Lib.hid ha; have HB := Lib.hid hb; have HFA := Lib.hid hfa; have HFB := Lib.hid hfb; clear ha hb hfa hfb
  have hn1 := (Blk.new w #[.int .i64 a.kind, .int .i64 a.num, .string ⟨a.name.toArray⟩, .slice aa a.args.length ac] 41).alloc (.cells #[.int .i64 b.kind, .int .i64 b.num, .string ⟨b.name.toArray⟩, .slice ba b.args.length bc] 41)
  have hn2 := Blk.new (w.alloc (.cells #[.int .i64 a.kind, .int .i64 a.num, .string ⟨a.name.toArray⟩, .slice aa a.args.length ac] 41)) #[.int .i64 b.kind, .int .i64 b.num, .string ⟨b.name.toArray⟩, .slice ba b.args.length bc] 41
  rw [World.size_alloc] at hn2
  have hb0 : Below w.heap.size w ((w.alloc (.cells #[.int .i64 a.kind, .int .i64 a.num, .string ⟨a.name.toArray⟩, .slice aa a.args.length ac] 41)).alloc (.cells #[.int .i64 b.kind, .int .i64 b.num, .string ⟨b.name.toArray⟩, .slice ba b.args.length bc] 41)) := Below.alloc (Below.alloc (Below.refl _ _) (Nat.le_refl _) _) (by simp) _
  obtain ⟨x, hx⟩ : ∃ x, x = a.evT := ⟨_, rfl⟩
  obtain ⟨y, hy⟩ : ∃ y, y = b.evT := ⟨_, rfl⟩
  rw [← hx, ← hy]
  have HX := Lib.hid hx; have HY := Lib.hid hy; clear hx hy
  simp only [tmV]
  rw [testP_one]
  by_cases h0 : (cmpS op 1 1).2 = 0
  · have h0' : ((cmpS op 1 1).2 != 0) = false := by simp [h0]
    have H0 := Lib.hid h0; clear h0
    by_cases h1 : x.2 = 0
    · have h1' : (x.2 != 0) = false := by simp [h1]
      have H1 := Lib.hid h1; clear h1
      by_cases h2 : y.2 = 0
      · have h2' : (y.2 != 0) = false := by simp [h2]
        have D := Lib.hid (show testQ op x y = cmpS op x.1 y.1 by rw [testQ, if_pos H0.out, if_pos H1.out, if_pos h2])
        clear h2
        go_enter Tryz.func38, Tryz.ntmps38
        go_wp2_with fail
        refine (rcmp_any ⟨op.toArray⟩ 1 1 _).mono ?_; rintro e w1 ⟨rfl, rfl⟩
        rw [tl]
        obtain ⟨t0, t1, t2, t3, z0, z1, z2, z3, ltt⟩ := hn1.fourT
        go_wp2_with fail
        refine (rEval_any N hN a HFA.out _ _ (HA.out.bel hb0)).mono ?_; rintro e w1 ⟨rfl, hb1⟩
        rw [← HX.out]
        simp only [two64]
        obtain ⟨t0, t1, t2, t3, z0, z1, z2, z3, ltt⟩ := (hn2.keep hb1).fourT
        have hb1' := bcall hb0 hb1
        go_wp2_with fail
        refine (rEval_any N hN b HFB.out _ _ (HB.out.bel hb1')).mono ?_; rintro e w2 ⟨rfl, hb2⟩
        rw [← HY.out]
        simp only [two64]
        have hb2' := bcall hb1' hb2
        go_wp2_with fail
        refine (rcmp_any ⟨op.toArray⟩ x.1 y.1 _).mono ?_; rintro e w3 ⟨rfl, rfl⟩
        rw [tl]
        go_wp2
        go_ret2
        exact ⟨by rw [D.out]; rfl, hb2'⟩
      · have h2' : (y.2 != 0) = true := by simp [h2]
        have D := Lib.hid (show testQ op x y = (false, y.2) by rw [testQ, if_pos H0.out, if_pos H1.out, if_neg h2])
        clear h2
        go_enter Tryz.func38, Tryz.ntmps38
        go_wp2_with fail
        refine (rcmp_any ⟨op.toArray⟩ 1 1 _).mono ?_; rintro e w1 ⟨rfl, rfl⟩
        rw [tl]
        obtain ⟨t0, t1, t2, t3, z0, z1, z2, z3, ltt⟩ := hn1.fourT
        go_wp2_with fail
        refine (rEval_any N hN a HFA.out _ _ (HA.out.bel hb0)).mono ?_; rintro e w1 ⟨rfl, hb1⟩
        rw [← HX.out]
        simp only [two64]
        obtain ⟨t0, t1, t2, t3, z0, z1, z2, z3, ltt⟩ := (hn2.keep hb1).fourT
        have hb1' := bcall hb0 hb1
        go_wp2_with fail
        refine (rEval_any N hN b HFB.out _ _ (HB.out.bel hb1')).mono ?_; rintro e w2 ⟨rfl, hb2⟩
        rw [← HY.out]
        simp only [two64]
        have hb2' := bcall hb1' hb2
        go_wp2
        go_ret2
        exact ⟨retb3 D.out, hb2'⟩
    · have h1' : (x.2 != 0) = true := by simp [h1]
      have D := Lib.hid (show testQ op x y = (false, x.2) by rw [testQ, if_pos H0.out, if_neg h1])
      clear h1
      go_enter Tryz.func38, Tryz.ntmps38
      go_wp2_with fail
      refine (rcmp_any ⟨op.toArray⟩ 1 1 _).mono ?_; rintro e w1 ⟨rfl, rfl⟩
      rw [tl]
      obtain ⟨t0, t1, t2, t3, z0, z1, z2, z3, ltt⟩ := hn1.fourT
      go_wp2_with fail
      refine (rEval_any N hN a HFA.out _ _ (HA.out.bel hb0)).mono ?_; rintro e w1 ⟨rfl, hb1⟩
      rw [← HX.out]
      simp only [two64]
      have hb1' := bcall hb0 hb1
      go_wp2
      go_ret2
      exact ⟨retb3 D.out, hb1'⟩
  · have h0' : ((cmpS op 1 1).2 != 0) = true := by simp [h0]
    have D := Lib.hid (show testQ op x y = (false, (cmpS op 1 1).2) by rw [testQ, if_neg h0])
    clear h0
    go_enter Tryz.func38, Tryz.ntmps38
    go_wp2_with fail
    refine (rcmp_any ⟨op.toArray⟩ 1 1 _).mono ?_; rintro e w1 ⟨rfl, rfl⟩
    rw [tl]
    go_wp2
    go_ret2
    exact ⟨retb3 D.out, hb0⟩
end Go.Proofs.YtcnnobcncklgfaaGreatDoor
