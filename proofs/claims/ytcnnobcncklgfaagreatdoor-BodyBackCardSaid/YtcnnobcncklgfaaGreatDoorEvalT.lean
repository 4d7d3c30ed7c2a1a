/- The contracts of eval.Test, of the laws' own deep. -/
import Derived.Test.YtcnnobcncklgfaaGreatDoorEvalW
namespace Go.Proofs.YtcnnobcncklgfaaGreatDoor
open Go Go.ChangeShapes Go.WideShapes Go.ChangeAt Go.RowKit
set_option linter.unusedVariables false
def testP (op : List UInt8) (a b : Int × Int) : Bool × Int :=
  if (cmpS op 0 0).2 = 0 then (if a.2 = 0 then (if b.2 = 0 then cmpS op a.1 b.1 else (false, b.2)) else (false, a.2)) else (false, (cmpS op 0 0).2)
theorem retb3 {p : Bool × Int} {x : Bool} {y : Int} (h : p = (x, y)) : Ending.returned (.tuple #[.bool x, .int .i64 y]) = .returned (.tuple #[.bool p.1, .int .i64 p.2]) := by rw [h]
set_option maxHeartbeats 4000000 in
theorem test_any {X Y : Nat → Prop} (N : Nat) (hN : N ≤ 1000) (op : List UInt8) (a b : Tm) (hfa : Fine N a) (hfb : Fine N b) (w : World) (va vb : Value) (ha : Holds w X a va) (hb : Holds w Y b vb) :
    Calls Tryz.prog 33 #[.string ⟨op.toArray⟩, va, vb] w fun e w' => e = .returned (.tuple #[.bool (testP op a.evT b.evT).1, .int .i64 (testP op a.evT b.evT).2]) ∧ Below w.heap.size w w' := by
  obtain ⟨sa, rfl⟩ := ha.form
  obtain ⟨aa, ac, rfl⟩ := ha.args
  obtain ⟨sb, rfl⟩ := hb.form
  obtain ⟨ba, bc, rfl⟩ := hb.args
  have HA := Lib.hid ha; have HB := Lib.hid hb; have HFA := Lib.hid hfa; have HFB := Lib.hid hfb; clear ha hb hfa hfb
  have hn1 := (Blk.new w #[.int .i64 a.kind, .int .i64 a.num, .string ⟨a.name.toArray⟩, .slice aa a.args.length ac] 24).alloc (.cells #[.int .i64 b.kind, .int .i64 b.num, .string ⟨b.name.toArray⟩, .slice ba b.args.length bc] 24)
  have hn2 := Blk.new (w.alloc (.cells #[.int .i64 a.kind, .int .i64 a.num, .string ⟨a.name.toArray⟩, .slice aa a.args.length ac] 24)) #[.int .i64 b.kind, .int .i64 b.num, .string ⟨b.name.toArray⟩, .slice ba b.args.length bc] 24
  rw [World.size_alloc] at hn2
  have hb0 : Below w.heap.size w ((w.alloc (.cells #[.int .i64 a.kind, .int .i64 a.num, .string ⟨a.name.toArray⟩, .slice aa a.args.length ac] 24)).alloc (.cells #[.int .i64 b.kind, .int .i64 b.num, .string ⟨b.name.toArray⟩, .slice ba b.args.length bc] 24)) := Below.alloc (Below.alloc (Below.refl _ _) (Nat.le_refl _) _) (by simp) _
  obtain ⟨x, hx⟩ : ∃ x, x = a.evT := ⟨_, rfl⟩
  obtain ⟨y, hy⟩ : ∃ y, y = b.evT := ⟨_, rfl⟩
  rw [← hx, ← hy]
  have HX := Lib.hid hx; have HY := Lib.hid hy; clear hx hy
  simp only [tmV]
  by_cases h0 : (cmpS op 0 0).2 = 0
  · have h0' : ((cmpS op 0 0).2 != 0) = false := by simp [h0]
    have H0 := Lib.hid h0; clear h0
    by_cases h1 : x.2 = 0
    · have h1' : (x.2 != 0) = false := by simp [h1]
      have H1 := Lib.hid h1; clear h1
      by_cases h2 : y.2 = 0
      · have h2' : (y.2 != 0) = false := by simp [h2]
        have D := Lib.hid (show testP op x y = cmpS op x.1 y.1 by rw [testP, if_pos H0.out, if_pos H1.out, if_pos h2])
        clear h2
        go_enter Tryz.func33, Tryz.ntmps33
        go_wp2_with fail
        refine (cmp_any ⟨op.toArray⟩ 0 0 _).mono ?_; rintro e w1 ⟨rfl, rfl⟩
        rw [tl]
        obtain ⟨t0, t1, t2, t3, z0, z1, z2, z3, ltt⟩ := hn1.fourT
        go_wp2_with fail
        refine (Of_any N hN a HFA.out _ _ (HA.out.bel hb0)).mono ?_; rintro e w1 ⟨rfl, hb1⟩
        rw [← HX.out]
        simp only [two64]
        obtain ⟨t0, t1, t2, t3, z0, z1, z2, z3, ltt⟩ := (hn2.keep hb1).fourT
        have hb1' := bcall hb0 hb1
        go_wp2_with fail
        refine (Of_any N hN b HFB.out _ _ (HB.out.bel hb1')).mono ?_; rintro e w2 ⟨rfl, hb2⟩
        rw [← HY.out]
        simp only [two64]
        have hb2' := bcall hb1' hb2
        go_wp2_with fail
        refine (cmp_any ⟨op.toArray⟩ x.1 y.1 _).mono ?_; rintro e w3 ⟨rfl, rfl⟩
        rw [tl]
        go_wp2
        go_ret2
        exact ⟨by rw [D.out]; rfl, hb2'⟩
      · have h2' : (y.2 != 0) = true := by simp [h2]
        have D := Lib.hid (show testP op x y = (false, y.2) by rw [testP, if_pos H0.out, if_pos H1.out, if_neg h2])
        clear h2
        go_enter Tryz.func33, Tryz.ntmps33
        go_wp2_with fail
        refine (cmp_any ⟨op.toArray⟩ 0 0 _).mono ?_; rintro e w1 ⟨rfl, rfl⟩
        rw [tl]
        obtain ⟨t0, t1, t2, t3, z0, z1, z2, z3, ltt⟩ := hn1.fourT
        go_wp2_with fail
        refine (Of_any N hN a HFA.out _ _ (HA.out.bel hb0)).mono ?_; rintro e w1 ⟨rfl, hb1⟩
        rw [← HX.out]
        simp only [two64]
        obtain ⟨t0, t1, t2, t3, z0, z1, z2, z3, ltt⟩ := (hn2.keep hb1).fourT
        have hb1' := bcall hb0 hb1
        go_wp2_with fail
        refine (Of_any N hN b HFB.out _ _ (HB.out.bel hb1')).mono ?_; rintro e w2 ⟨rfl, hb2⟩
        rw [← HY.out]
        simp only [two64]
        have hb2' := bcall hb1' hb2
        go_wp2
        go_ret2
        exact ⟨retb3 D.out, hb2'⟩
    · have h1' : (x.2 != 0) = true := by simp [h1]
      have D := Lib.hid (show testP op x y = (false, x.2) by rw [testP, if_pos H0.out, if_neg h1])
      clear h1
      go_enter Tryz.func33, Tryz.ntmps33
      go_wp2_with fail
      refine (cmp_any ⟨op.toArray⟩ 0 0 _).mono ?_; rintro e w1 ⟨rfl, rfl⟩
      rw [tl]
      obtain ⟨t0, t1, t2, t3, z0, z1, z2, z3, ltt⟩ := hn1.fourT
      go_wp2_with fail
      refine (Of_any N hN a HFA.out _ _ (HA.out.bel hb0)).mono ?_; rintro e w1 ⟨rfl, hb1⟩
      rw [← HX.out]
      simp only [two64]
      have hb1' := bcall hb0 hb1
      go_wp2
      go_ret2
      exact ⟨retb3 D.out, hb1'⟩
  · have h0' : ((cmpS op 0 0).2 != 0) = true := by simp [h0]
    have D := Lib.hid (show testP op x y = (false, (cmpS op 0 0).2) by rw [testP, if_neg h0])
    clear h0
    go_enter Tryz.func33, Tryz.ntmps33
    go_wp2_with fail
    refine (cmp_any ⟨op.toArray⟩ 0 0 _).mono ?_; rintro e w1 ⟨rfl, rfl⟩
    rw [tl]
    go_wp2
    go_ret2
    exact ⟨retb3 D.out, hb0⟩
/-- More than is asked of here? -/
def deepP : Nat → Tm → Bool
  | 0, _ => true
  | n + 1, t => decide (12 < t.args.length) || t.args.any (deepP n)
theorem deep_fine {M : Nat} : ∀ (n : Nat) (t : Tm), deepP n t = false → Fine M t → Fine 12 t
  | 0, t, h, _ => by cases h
  | n + 1, t, h, hf => by
    cases hf with
    | mk k m s l hk hn hs hl hx =>
      simp only [deepP, Tm.args, Bool.or_eq_false_iff] at h
      exact .mk k m s l hk hn hs (by have := of_decide_eq_false h.1; omega) fun x hxl => deep_fine n x (by simpa using List.any_eq_false.1 h.2 x hxl) (hx x hxl)
set_option maxHeartbeats 4000000 in
theorem deep_any {X : Nat → Prop} : ∀ (n : Nat), n ≤ 1000 → ∀ (t : Tm) (w : World) (v : Value), Holds w X t v →
    Calls Tryz.prog 28 #[v, .int .i64 n] w fun e w' => e = .returned (.bool (deepP n t)) ∧ Below w.heap.size w w' := by
  intro n
  induction n with
  | zero =>
    intro _ t w v h
    obtain ⟨sl, rfl⟩ := h.form
    obtain ⟨a, c, rfl⟩ := h.args
    simp only [tmV]
    go_enter Tryz.func28, Tryz.ntmps28
    go_wp2
    go_ret
    exact ⟨rfl, (by repeat (first | exact Below.refl _ _ | assumption | apply Below.drew | (refine Below.setCell ?_ (by first | (simp; done) | omega | (simp; omega)) _) | (refine Below.alloc ?_ (by first | (simp; done) | omega | (simp; omega)) _)))⟩
  | succ n ih =>
    intro hn t w v h
    obtain ⟨sl, rfl⟩ := h.form
    obtain ⟨a, c, rfl⟩ := h.args
    have HH := Lib.hid h; clear h
    have hnb := Blk.new w #[.int .i64 t.kind, .int .i64 t.num, .string ⟨t.name.toArray⟩, .slice a t.args.length c] 24
    have hb0 : Below w.heap.size w (w.alloc (.cells #[.int .i64 t.kind, .int .i64 t.num, .string ⟨t.name.toArray⟩, .slice a t.args.length c] 24)) := Below.alloc (Below.refl _ _) (Nat.le_refl _) _
    have hml := HH.out.len
    have hn1 : ¬ ((n + 1 : Nat) : Int) < 1 := by omega
    have kw : IntKind.i64.wrap (((n + 1 : Nat) : Int) - 1) = (n : Int) := by rw [IntWalk.i64_in _ (by omega)]; omega
    simp only [tmV]
    by_cases hl : 12 < t.args.length
    · have hl' : (12 : Int) < (t.args.length : Int) := by omega
      go_enter Tryz.func28, Tryz.ntmps28
      go_wp2
      go_ret
      exact ⟨by simp [deepP, hl], hb0⟩
    · have hl' : ¬ (12 : Int) < (t.args.length : Int) := by omega
      go_enter Tryz.func28, Tryz.ntmps28
      go_wp2_with fail
      go_loopg [5] t.args.length (fun g x wr => ∃ i : Nat, g = t.args.length - i ∧ i ≤ t.args.length ∧ x = .int .i64 i ∧ Hid (Below w.heap.size w wr) ∧ Hid (Blk wr w.heap.size #[.int .i64 t.kind, .int .i64 t.num, .string ⟨t.name.toArray⟩, .slice a t.args.length c] 24) ∧ Hid ((t.args.take i).any (deepP n) = false))
      case atStart => exact ⟨0, rfl, by omega, rfl, Lib.hid hb0, Lib.hid hnb, Lib.hid (by simp)⟩
      case round =>
        obtain ⟨i, hg, hi, rfl, HB, HN, HA⟩ := hrel
        have G := Lib.hid hg; clear hg
        obtain ⟨t0, t1, t2, t3, z0, z1, z2, z3, ltt⟩ := HN.out.fourT
        by_cases hlt : i < t.args.length
        · have hlt' : (i : Int) < (t.args.length : Int) := by omega
          have i0 : (0 : Int) ≤ (i : Int) := by omega
          have kw2 : IntKind.i64.wrap ((i : Int) + 1) = (i : Int) + 1 := IntWalk.i64_in _ (by omega)
          obtain ⟨b, sl, rfl, -, c0, c1, c2, c3, hc⟩ := (HH.out.bel HB.out).arg hlt
          obtain ⟨a2, cc2, rfl⟩ := hc.args
          have HC := Lib.hid hc; clear hc
          replace c1 := cellat c1; replace c2 := cellat c2; replace c3 := cellat c3
          have htk : (t.args.take (i + 1)).any (deepP n) = deepP n t.args[i] := by
            rw [List.take_succ_eq_append_getElem hlt, List.any_append, HA.out]; simp
          have HT := Lib.hid htk; clear htk
          go_wp2_with fail
          refine (ih (by omega) t.args[i] _ _ HC.out).mono ?_; rintro e w2 ⟨rfl, hb2⟩
          cases hd : deepP n t.args[i] with
          | true =>
            go_wp2
            go_ret
            refine ⟨?_, bcall HB.out hb2⟩
            have : t.args.any (deepP n) = true := List.any_eq_true.2 ⟨_, List.getElem_mem hlt, hd⟩
            simp [deepP, this]
          | false =>
            go_wp2
            go_roundg (t.args.length - (i + 1))
            case measure => have := G.out; omega
            case rel => exact ⟨i + 1, rfl, hlt, rfl, Lib.hid (bcall HB.out hb2), Lib.hid (HN.out.keep hb2), Lib.hid (by rw [HT.out]; exact hd)⟩
        · have hlt' : ¬ (i : Int) < (t.args.length : Int) := by omega
          have hie : i = t.args.length := by omega
          go_wp2
          go_ret
          refine ⟨?_, HB.out⟩
          have := HA.out
          rw [hie, List.take_length] at this
          simp only [deepP, this, decide_eq_false hl, Bool.or_false]
          rfl
end Go.Proofs.YtcnnobcncklgfaaGreatDoor
