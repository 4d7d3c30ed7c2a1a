/- How much is reckoned in a term: eval.Steps and the document's own EvalSteps. (Printed by wip/gen_refs.py.) -/
import Derived.Test.YtcnnobcncklgfaaGreatDoorRefE
namespace Go.Proofs.YtcnnobcncklgfaaGreatDoor
open Go Go.ChangeShapes Go.WideShapes Go.ChangeAt Go.RowKit
set_option linter.unusedVariables false
mutual
def Tm.steps : Tm → Nat
  | .mk _ _ s l => (if reckP s l.length = true then 1 else 0) + Tm.stepss l
def Tm.stepss : List Tm → Nat
  | [] => 0
  | x :: l => x.steps + Tm.stepss l
end
theorem steps_eq (t : Tm) : t.steps = (if reckP t.name t.args.length = true then 1 else 0) + Tm.stepss t.args := by cases t; rw [Tm.steps]; rfl
theorem stepss_append (l m : List Tm) : Tm.stepss (l ++ m) = Tm.stepss l + Tm.stepss m := by
  induction l with
  | nil => simp [Tm.stepss]
  | cons x l ih => simp [Tm.stepss, ih, Nat.add_assoc]
theorem stepss_take {l : List Tm} {i : Nat} (h : i < l.length) : Tm.stepss (l.take (i + 1)) = Tm.stepss (l.take i) + l[i].steps := by
  rw [List.take_succ_eq_append_getElem h, stepss_append]
  simp [Tm.stepss]
theorem stepss_take_le (l : List Tm) (i : Nat) : Tm.stepss (l.take i) ≤ Tm.stepss l := by
  have := stepss_append (l.take i) (l.drop i)
  rw [List.take_append_drop] at this
  omega
mutual
theorem steps_size : ∀ t : Tm, t.steps ≤ t.size
  | .mk _ _ s l => by
    have := stepss_sizes l
    simp only [Tm.steps, Tm.size]
    split <;> omega
theorem stepss_sizes : ∀ l : List Tm, Tm.stepss l ≤ Tm.sizes l
  | [] => Nat.le_refl _
  | x :: l => by
    have h1 := steps_size x
    have h2 := stepss_sizes l
    simp only [Tm.stepss, Tm.sizes]
    omega
end
theorem sizes_mem {l : List Tm} {i : Nat} (h : i < l.length) : l[i].size ≤ Tm.sizes l := by
  have h1 := sizes_take h
  have h2 := sizes_take_le l (i + 1)
  omega
theorem good_arg {t : Tm} (h : t.good = true) {i : Nat} (hi : i < t.args.length) : t.args[i].good = true := by
  simp only [Tm.good, Bool.and_eq_true, decide_eq_true_eq] at h ⊢
  obtain ⟨⟨h1, h2⟩, h3⟩ := h
  have e1 := size_eq t
  have e2 := sizes_mem hi
  have e3 := height_eq t
  have e4 := heights_mem hi
  refine ⟨⟨by omega, by omega⟩, ?_⟩
  rw [allG_eq, Bool.and_eq_true] at h3
  cases hx : t.args[i].allG with
  | true => rfl
  | false => have := allsG_bad hi hx; rw [this] at h3; exact absurd h3.2 (by decide)
theorem lim_zero {x : Int} (h : i64 x) : (lim x).2 = 0 := by rw [lim_in h]
theorem one_01 (s : List UInt8) : (oneS s 1).2 = 0 ∨ (oneS s 1).2 = 1 := by
  unfold oneS
  repeat' split
  all_goals first | exact .inl rfl | exact .inr rfl | exact .inl (lim_zero (by decide))
theorem two_01 (s : List UInt8) : (twoS s 1 1).2 = 0 ∨ (twoS s 1 1).2 = 1 := by
  have hd : (divS s 1 1).2 = 0 := by
    unfold divS
    rw [if_neg (by decide)]
    repeat' split
    all_goals first | rfl | exact lim_zero (by decide)
  have hs : (shS s 1 1).2 = 0 := by
    unfold shS
    rw [if_neg (by decide)]
    repeat' split
    all_goals first | rfl | exact lim_zero (by decide)
  have hp : (powS 1 1).2 = 0 := by decide
  unfold twoS
  repeat' split
  all_goals first | exact .inl hd | exact .inl hs | exact .inl hp | exact .inl rfl | exact .inr rfl | exact .inl (lim_zero (by decide))
theorem one_is {s : List UInt8} : ((oneS s 1).2 == 0) = reckP s 1 := by
  have h : reckP s 1 = ((oneS s 1).2 != 1) := rfl
  rw [h]
  rcases one_01 s with h | h <;> rw [h] <;> rfl
theorem two_is {s : List UInt8} : ((twoS s 1 1).2 == 0) = reckP s 2 := by
  have h : reckP s 2 = ((twoS s 1 1).2 != 1) := rfl
  rw [h]
  rcases two_01 s with h | h <;> rw [h] <;> rfl
set_option maxHeartbeats 8000000 in
set_option maxRecDepth 100000 in
theorem steps_any {X : Nat → Prop} (N : Nat) (hN : N ≤ 1000) : ∀ (M : Nat) (t : Tm), t.height ≤ M → Fine N t → t.size ≤ 1000000 → ∀ (w : World) (v : Value), Holds w X t v →
    Calls Tryz.prog 63 #[v] w fun e w' => e = .returned (.int .i64 (t.steps : Nat)) ∧ Below w.heap.size w w' := by
  intro M
  induction M with
  | zero => intro t ht; have := height_eq t; omega
  | succ M ih =>
    intro t ht hf hsz w v h
    obtain ⟨sl, rfl⟩ := h.form
    obtain ⟨a, c, rfl⟩ := h.args
    have hh := height_eq t
    obtain ⟨hm, hfa, -⟩ := hf.args
    have hse := steps_eq t
    have hss := stepss_sizes t.args
    have hsz0 := size_eq t
    have HH := Lib.hid h; have HF := Lib.hid hfa; have HSE := Lib.hid hse; have HSS := Lib.hid hss; have HS0 := Lib.hid hsz0; clear h hfa hse hss hsz0
    have hn := Blk.new w #[.int .i64 t.kind, .int .i64 t.num, .string ⟨t.name.toArray⟩, .slice a t.args.length c] 24
    have hb0 : Below w.heap.size w (w.alloc (.cells #[.int .i64 t.kind, .int .i64 t.num, .string ⟨t.name.toArray⟩, .slice a t.args.length c] 24)) := Below.alloc (Below.refl _ _) (Nat.le_refl _) _
    simp only [tmV]
    go_enter Tryz.func63, Tryz.ntmps63
    go_wp2_with fail
    refine (reckons_any t.kind t.num t.name a t.args.length c _).mono ?_; rintro e w1 ⟨rfl, hb1⟩
    have hb1' := bcall hb0 hb1
    obtain ⟨t0, t1, t2, t3, z0, z1, z2, z3, ltt⟩ := (hn.keep hb1).fourT
    cases hr : reckP t.name t.args.length with
    | true =>
      have hse' : t.steps = 1 + Tm.stepss t.args := by rw [HSE.out, hr]; rfl
      have HSE' := Lib.hid hse'; have HR := Lib.hid hr; clear hse' hr HSE
      go_wp2_with fail
      go_loopg [3, 11] t.args.length (fun g x y wr => ∃ i n : Nat, g = t.args.length - i ∧ i ≤ t.args.length ∧ y = .int .i64 i ∧ x = .int .i64 (n : Nat) ∧ Hid (n = 1 + Tm.stepss (t.args.take i)) ∧ Hid (Below w.heap.size w wr))
      case atStart => exact ⟨0, 1, rfl, by omega, rfl, rfl, Lib.hid (by simp [Tm.stepss]), Lib.hid hb1'⟩
      case round =>
        obtain ⟨i, n, hg, hi, rfl, rfl, HN, HB⟩ := hrel
        have G := Lib.hid hg; clear hg
        have i0 : (0 : Int) ≤ (i : Int) := by omega
        by_cases hlt : i < t.args.length
        · have hlt' : (i : Int) < (t.args.length : Int) := by omega
          have kw3 : IntKind.i64.wrap ((i : Int) + 1) = (i : Int) + 1 := IntWalk.i64_in _ (by omega)
          obtain ⟨b, sl, rfl, -, c0, c1, c2, c3, hc⟩ := (HH.out.bel HB.out).arg hlt
          obtain ⟨a2, cc2, rfl⟩ := hc.args
          have HC := Lib.hid hc; clear hc
          have hxh : t.args[i].height ≤ M := by have := heights_mem hlt; omega
          have hxs : t.args[i].size ≤ 1000000 := by have := sizes_mem hlt; have := HS0.out; omega
          have HXF := Lib.hid (HF.out _ (List.getElem_mem hlt))
          obtain ⟨r, hr⟩ : ∃ r, r = t.args[i].steps := ⟨_, rfl⟩
          have hsum : n + r = 1 + Tm.stepss (t.args.take (i + 1)) := by rw [stepss_take hlt, HN.out, hr]; omega
          have kw5 : IntKind.i64.wrap ((n : Int) + (r : Int)) = ((n + r : Nat) : Int) := by
            have h1 := stepss_take_le t.args (i + 1)
            have h2 := HSS.out
            have h3 := HS0.out
            rw [IntWalk.i64_in _ (by omega)]; omega
          have HR2 := Lib.hid hr; have HSUM := Lib.hid hsum; clear hr hsum
          replace c1 := cellat c1; replace c2 := cellat c2; replace c3 := cellat c3
          have hsb := HB.out.size
          go_wp2_with fail
          refine (ih t.args[i] hxh HXF.out hxs _ _ (HC.out.bel (Below.alloc (Below.refl _ _) (Nat.le_refl _) _))).mono ?_; rintro e w2 ⟨rfl, hb2⟩
          rw [← HR2.out]
          have HB2 := Lib.hid (bcall (Below.alloc HB.out hsb _) hb2)
          go_wp2
          go_roundg (t.args.length - (i + 1))
          case measure => have := G.out; omega
          case rel => exact ⟨i + 1, n + r, rfl, hlt, rfl, rfl, HSUM, HB2⟩
        · have hlt' : ¬ (i : Int) < (t.args.length : Int) := by omega
          have hie : i = t.args.length := by omega
          go_wp2
          go_ret
          refine ⟨congrArg (fun x : Nat => Ending.returned (.int .i64 x)) ?_, HB.out⟩
          have e1 := HN.out
          rw [hie, List.take_length] at e1
          have e3 := HSE'.out
          omega
    | false =>
      have hse' : t.steps = 0 + Tm.stepss t.args := by rw [HSE.out, hr]; rfl
      have HSE' := Lib.hid hse'; have HR := Lib.hid hr; clear hse' hr HSE
      go_wp2_with fail
      go_loopg [3, 11] t.args.length (fun g x y wr => ∃ i n : Nat, g = t.args.length - i ∧ i ≤ t.args.length ∧ y = .int .i64 i ∧ x = .int .i64 (n : Nat) ∧ Hid (n = 0 + Tm.stepss (t.args.take i)) ∧ Hid (Below w.heap.size w wr))
      case atStart => exact ⟨0, 0, rfl, by omega, rfl, rfl, Lib.hid (by simp [Tm.stepss]), Lib.hid hb1'⟩
      case round =>
        obtain ⟨i, n, hg, hi, rfl, rfl, HN, HB⟩ := hrel
        have G := Lib.hid hg; clear hg
        have i0 : (0 : Int) ≤ (i : Int) := by omega
        by_cases hlt : i < t.args.length
        · have hlt' : (i : Int) < (t.args.length : Int) := by omega
          have kw3 : IntKind.i64.wrap ((i : Int) + 1) = (i : Int) + 1 := IntWalk.i64_in _ (by omega)
          obtain ⟨b, sl, rfl, -, c0, c1, c2, c3, hc⟩ := (HH.out.bel HB.out).arg hlt
          obtain ⟨a2, cc2, rfl⟩ := hc.args
          have HC := Lib.hid hc; clear hc
          have hxh : t.args[i].height ≤ M := by have := heights_mem hlt; omega
          have hxs : t.args[i].size ≤ 1000000 := by have := sizes_mem hlt; have := HS0.out; omega
          have HXF := Lib.hid (HF.out _ (List.getElem_mem hlt))
          obtain ⟨r, hr⟩ : ∃ r, r = t.args[i].steps := ⟨_, rfl⟩
          have hsum : n + r = 0 + Tm.stepss (t.args.take (i + 1)) := by rw [stepss_take hlt, HN.out, hr]; omega
          have kw5 : IntKind.i64.wrap ((n : Int) + (r : Int)) = ((n + r : Nat) : Int) := by
            have h1 := stepss_take_le t.args (i + 1)
            have h2 := HSS.out
            have h3 := HS0.out
            rw [IntWalk.i64_in _ (by omega)]; omega
          have HR2 := Lib.hid hr; have HSUM := Lib.hid hsum; clear hr hsum
          replace c1 := cellat c1; replace c2 := cellat c2; replace c3 := cellat c3
          have hsb := HB.out.size
          go_wp2_with fail
          refine (ih t.args[i] hxh HXF.out hxs _ _ (HC.out.bel (Below.alloc (Below.refl _ _) (Nat.le_refl _) _))).mono ?_; rintro e w2 ⟨rfl, hb2⟩
          rw [← HR2.out]
          have HB2 := Lib.hid (bcall (Below.alloc HB.out hsb _) hb2)
          go_wp2
          go_roundg (t.args.length - (i + 1))
          case measure => have := G.out; omega
          case rel => exact ⟨i + 1, n + r, rfl, hlt, rfl, rfl, HSUM, HB2⟩
        · have hlt' : ¬ (i : Int) < (t.args.length : Int) := by omega
          have hie : i = t.args.length := by omega
          go_wp2
          go_ret
          refine ⟨congrArg (fun x : Nat => Ending.returned (.int .i64 x)) ?_, HB.out⟩
          have e1 := HN.out
          rw [hie, List.take_length] at e1
          have e3 := HSE'.out
          omega
set_option maxHeartbeats 4000000 in
theorem Steps_any {X : Nat → Prop} (N : Nat) (hN : N ≤ 1000) (t : Tm) (hf : Fine N t) (w : World) (v : Value) (h : Holds w X t v) :
    Calls Tryz.prog 35 #[v] w fun e w' => e = .returned (.int .i64 ((if t.good = true then t.steps else 0 : Nat) : Int)) ∧ Below w.heap.size w w' := by
  obtain ⟨sl, rfl⟩ := h.form
  obtain ⟨a, c, rfl⟩ := h.args
  have HH := Lib.hid h; have HF := Lib.hid hf; clear h hf
  have hn := Blk.new w #[.int .i64 t.kind, .int .i64 t.num, .string ⟨t.name.toArray⟩, .slice a t.args.length c] 24
  have hb0 : Below w.heap.size w (w.alloc (.cells #[.int .i64 t.kind, .int .i64 t.num, .string ⟨t.name.toArray⟩, .slice a t.args.length c] 24)) := Below.alloc (Below.refl _ _) (Nat.le_refl _) _
  simp only [tmV]
  cases hg : t.good with
  | true =>
    have hsz : t.size ≤ 1000000 := by
      simp only [Tm.good, Bool.and_eq_true, decide_eq_true_eq] at hg
      omega
    have HG := Lib.hid hg
    go_enter Tryz.func35, Tryz.ntmps35
    go_wp2_with fail
    refine (good_any N hN t HF.out _ _ (HH.out.bel hb0)).mono ?_; rintro e w1 ⟨rfl, hb1⟩
    rw [hg]
    obtain ⟨t0, t1, t2, t3, z0, z1, z2, z3, ltt⟩ := (hn.keep hb1).fourT
    have hb1' := bcall hb0 hb1
    clear hg
    go_wp2_with fail
    refine (steps_any N hN t.height t (Nat.le_refl _) HF.out hsz _ _ (HH.out.bel hb1')).mono ?_; rintro e w2 ⟨rfl, hb2⟩
    go_wp2
    go_ret
    exact ⟨by simp, bcall hb1' hb2⟩
  | false =>
    go_enter Tryz.func35, Tryz.ntmps35
    go_wp2_with fail
    refine (good_any N hN t HF.out _ _ (HH.out.bel hb0)).mono ?_; rintro e w1 ⟨rfl, hb1⟩
    rw [hg]
    clear hg
    go_wp2
    go_ret
    exact ⟨by simp, bcall hb0 hb1⟩
set_option maxHeartbeats 16000000 in
set_option maxRecDepth 100000 in
theorem rsteps_good {X : Nat → Prop} (N : Nat) (hN : N ≤ 1000) : ∀ (M : Nat) (t : Tm), t.height ≤ M → Fine N t → t.good = true → ∀ (w : World) (v : Value), Holds w X t v →
    Calls Tryz.prog 39 #[v] w fun e w' => e = .returned (.int .i64 (t.steps : Nat)) ∧ Below w.heap.size w w' := by
  intro M
  induction M with
  | zero => intro t ht; have := height_eq t; omega
  | succ M ih =>
    intro t ht hf hgd w v h
    have hsz : t.size ≤ 1000000 := by
      simp only [Tm.good, Bool.and_eq_true, decide_eq_true_eq] at hgd
      omega
    have HGD := Lib.hid hgd; clear hgd
    have HF0 := Lib.hid hf
    obtain ⟨sl, rfl⟩ := h.form
    obtain ⟨a, c, rfl⟩ := h.args
    have hh := height_eq t
    obtain ⟨hm, hfa, -⟩ := hf.args
    have hse := steps_eq t
    have hss := stepss_sizes t.args
    have hsz0 := size_eq t
    have HH := Lib.hid h; have HF := Lib.hid hfa; have HSE := Lib.hid hse; have HSS := Lib.hid hss; have HS0 := Lib.hid hsz0; clear h hfa hse hss hsz0
    have hn := Blk.new w #[.int .i64 t.kind, .int .i64 t.num, .string ⟨t.name.toArray⟩, .slice a t.args.length c] 41
    have hb0 : Below w.heap.size w (w.alloc (.cells #[.int .i64 t.kind, .int .i64 t.num, .string ⟨t.name.toArray⟩, .slice a t.args.length c] 41)) := Below.alloc (Below.refl _ _) (Nat.le_refl _) _
    simp only [tmV]
    by_cases l1 : t.args.length = 1
    · have l1' : ((t.args.length : Int) == 1) = true := by simp [l1]
      have l2' : ((t.args.length : Int) == 2) = false := by simp [l1]
      have hq : reckP t.name t.args.length = reckP t.name 1 := by rw [l1]
      cases hr : reckP t.name t.args.length with
      | true =>
        have q : ((oneS t.name 1).2 == 0) = true := by rw [one_is, ← hq, hr]
        have L := Lib.hid l1; clear l1 hq
        have hse' : t.steps = 1 + Tm.stepss t.args := by rw [HSE.out, hr]; rfl
        have HSE' := Lib.hid hse'; have HR := Lib.hid hr; clear hse' hr HSE
        go_enter Tryz.func39, Tryz.ntmps39
        go_wp2_with fail
        refine (rgood_any N hN t HF0.out _ _ (HH.out.bel hb0)).mono ?_; rintro e w1 ⟨rfl, hb1⟩
        rw [HGD.out]
        have hb1' := bcall hb0 hb1
        obtain ⟨t0, t1, t2, t3, z0, z1, z2, z3, ltt⟩ := (hn.keep hb1).fourT
        go_wp2_with fail
        refine (rone_any ⟨t.name.toArray⟩ 1 (by decide) _).mono ?_; rintro e w1 ⟨rfl, rfl⟩
        rw [tl]; simp only [two64]
        go_wp2_with fail
        go_loopg [3, 8] t.args.length (fun g x y wr => ∃ i n : Nat, g = t.args.length - i ∧ i ≤ t.args.length ∧ y = .int .i64 i ∧ x = .int .i64 (n : Nat) ∧ Hid (n = 1 + Tm.stepss (t.args.take i)) ∧ Hid (Below w.heap.size w wr) ∧ Hid (Blk wr w.heap.size #[.int .i64 t.kind, .int .i64 t.num, .string ⟨t.name.toArray⟩, .slice a t.args.length c] 41))
        case atStart => exact ⟨0, 1, rfl, by omega, rfl, rfl, Lib.hid (by simp [Tm.stepss]), Lib.hid hb1', Lib.hid (hn.keep hb1)⟩
        case round =>
          obtain ⟨i, n, hg, hi, rfl, rfl, HN, HB, HBK⟩ := hrel
          obtain ⟨t0, t1, t2, t3, z0, z1, z2, z3, ltt⟩ := HBK.out.fourT
          have G := Lib.hid hg; clear hg
          have i0 : (0 : Int) ≤ (i : Int) := by omega
          by_cases hlt : i < t.args.length
          · have hlt' : (i : Int) < (t.args.length : Int) := by omega
            have kw3 : IntKind.i64.wrap ((i : Int) + 1) = (i : Int) + 1 := IntWalk.i64_in _ (by omega)
            obtain ⟨b, sl, rfl, -, c0, c1, c2, c3, hc⟩ := (HH.out.bel HB.out).arg hlt
            obtain ⟨a2, cc2, rfl⟩ := hc.args
            have HC := Lib.hid hc; clear hc
            have hxh : t.args[i].height ≤ M := by have := heights_mem hlt; omega
            have HXF := Lib.hid (HF.out _ (List.getElem_mem hlt))
            obtain ⟨r, hr⟩ : ∃ r, r = t.args[i].steps := ⟨_, rfl⟩
            have hsum : n + r = 1 + Tm.stepss (t.args.take (i + 1)) := by rw [stepss_take hlt, HN.out, hr]; omega
            have kw5 : IntKind.i64.wrap ((n : Int) + (r : Int)) = ((n + r : Nat) : Int) := by
              have h1 := stepss_take_le t.args (i + 1)
              have h2 := HSS.out
              have h3 := HS0.out
              rw [IntWalk.i64_in _ (by omega)]; omega
            have HR2 := Lib.hid hr; have HSUM := Lib.hid hsum; clear hr hsum
            replace c1 := cellat c1; replace c2 := cellat c2; replace c3 := cellat c3
            go_wp2_with fail
            refine (ih t.args[i] hxh HXF.out (good_arg HGD.out hlt) _ _ HC.out).mono ?_; rintro e w2 ⟨rfl, hb2⟩
            rw [← HR2.out]
            have HK2 := Lib.hid (HBK.out.keep hb2)
            have HB2 := Lib.hid (bcall HB.out hb2)
            go_wp2
            go_roundg (t.args.length - (i + 1))
            case measure => have := G.out; omega
            case rel => exact ⟨i + 1, n + r, rfl, hlt, rfl, rfl, HSUM, HB2, HK2⟩
          · have hlt' : ¬ (i : Int) < (t.args.length : Int) := by omega
            have hie : i = t.args.length := by omega
            go_wp2
            go_ret
            refine ⟨congrArg (fun x : Nat => Ending.returned (.int .i64 x)) ?_, HB.out⟩
            have e1 := HN.out
            rw [hie, List.take_length] at e1
            have e3 := HSE'.out
            omega
      | false =>
        have q : ((oneS t.name 1).2 == 0) = false := by rw [one_is, ← hq, hr]
        have L := Lib.hid l1; clear l1 hq
        have hse' : t.steps = 0 + Tm.stepss t.args := by rw [HSE.out, hr]; rfl
        have HSE' := Lib.hid hse'; have HR := Lib.hid hr; clear hse' hr HSE
        go_enter Tryz.func39, Tryz.ntmps39
        go_wp2_with fail
        refine (rgood_any N hN t HF0.out _ _ (HH.out.bel hb0)).mono ?_; rintro e w1 ⟨rfl, hb1⟩
        rw [HGD.out]
        have hb1' := bcall hb0 hb1
        obtain ⟨t0, t1, t2, t3, z0, z1, z2, z3, ltt⟩ := (hn.keep hb1).fourT
        go_wp2_with fail
        refine (rone_any ⟨t.name.toArray⟩ 1 (by decide) _).mono ?_; rintro e w1 ⟨rfl, rfl⟩
        rw [tl]; simp only [two64]
        go_wp2_with fail
        go_loopg [3, 8] t.args.length (fun g x y wr => ∃ i n : Nat, g = t.args.length - i ∧ i ≤ t.args.length ∧ y = .int .i64 i ∧ x = .int .i64 (n : Nat) ∧ Hid (n = 0 + Tm.stepss (t.args.take i)) ∧ Hid (Below w.heap.size w wr) ∧ Hid (Blk wr w.heap.size #[.int .i64 t.kind, .int .i64 t.num, .string ⟨t.name.toArray⟩, .slice a t.args.length c] 41))
        case atStart => exact ⟨0, 0, rfl, by omega, rfl, rfl, Lib.hid (by simp [Tm.stepss]), Lib.hid hb1', Lib.hid (hn.keep hb1)⟩
        case round =>
          obtain ⟨i, n, hg, hi, rfl, rfl, HN, HB, HBK⟩ := hrel
          obtain ⟨t0, t1, t2, t3, z0, z1, z2, z3, ltt⟩ := HBK.out.fourT
          have G := Lib.hid hg; clear hg
          have i0 : (0 : Int) ≤ (i : Int) := by omega
          by_cases hlt : i < t.args.length
          · have hlt' : (i : Int) < (t.args.length : Int) := by omega
            have kw3 : IntKind.i64.wrap ((i : Int) + 1) = (i : Int) + 1 := IntWalk.i64_in _ (by omega)
            obtain ⟨b, sl, rfl, -, c0, c1, c2, c3, hc⟩ := (HH.out.bel HB.out).arg hlt
            obtain ⟨a2, cc2, rfl⟩ := hc.args
            have HC := Lib.hid hc; clear hc
            have hxh : t.args[i].height ≤ M := by have := heights_mem hlt; omega
            have HXF := Lib.hid (HF.out _ (List.getElem_mem hlt))
            obtain ⟨r, hr⟩ : ∃ r, r = t.args[i].steps := ⟨_, rfl⟩
            have hsum : n + r = 0 + Tm.stepss (t.args.take (i + 1)) := by rw [stepss_take hlt, HN.out, hr]; omega
            have kw5 : IntKind.i64.wrap ((n : Int) + (r : Int)) = ((n + r : Nat) : Int) := by
              have h1 := stepss_take_le t.args (i + 1)
              have h2 := HSS.out
              have h3 := HS0.out
              rw [IntWalk.i64_in _ (by omega)]; omega
            have HR2 := Lib.hid hr; have HSUM := Lib.hid hsum; clear hr hsum
            replace c1 := cellat c1; replace c2 := cellat c2; replace c3 := cellat c3
            go_wp2_with fail
            refine (ih t.args[i] hxh HXF.out (good_arg HGD.out hlt) _ _ HC.out).mono ?_; rintro e w2 ⟨rfl, hb2⟩
            rw [← HR2.out]
            have HK2 := Lib.hid (HBK.out.keep hb2)
            have HB2 := Lib.hid (bcall HB.out hb2)
            go_wp2
            go_roundg (t.args.length - (i + 1))
            case measure => have := G.out; omega
            case rel => exact ⟨i + 1, n + r, rfl, hlt, rfl, rfl, HSUM, HB2, HK2⟩
          · have hlt' : ¬ (i : Int) < (t.args.length : Int) := by omega
            have hie : i = t.args.length := by omega
            go_wp2
            go_ret
            refine ⟨congrArg (fun x : Nat => Ending.returned (.int .i64 x)) ?_, HB.out⟩
            have e1 := HN.out
            rw [hie, List.take_length] at e1
            have e3 := HSE'.out
            omega
    by_cases l2 : t.args.length = 2
    · have l1' : ((t.args.length : Int) == 1) = false := by simp [l2]
      have l2' : ((t.args.length : Int) == 2) = true := by simp [l2]
      have hq : reckP t.name t.args.length = reckP t.name 2 := by rw [l2]
      cases hr : reckP t.name t.args.length with
      | true =>
        have q : ((twoS t.name 1 1).2 == 0) = true := by rw [two_is, ← hq, hr]
        have L := Lib.hid l2; clear l2 hq
        have hse' : t.steps = 1 + Tm.stepss t.args := by rw [HSE.out, hr]; rfl
        have HSE' := Lib.hid hse'; have HR := Lib.hid hr; clear hse' hr HSE
        go_enter Tryz.func39, Tryz.ntmps39
        go_wp2_with fail
        refine (rgood_any N hN t HF0.out _ _ (HH.out.bel hb0)).mono ?_; rintro e w1 ⟨rfl, hb1⟩
        rw [HGD.out]
        have hb1' := bcall hb0 hb1
        obtain ⟨t0, t1, t2, t3, z0, z1, z2, z3, ltt⟩ := (hn.keep hb1).fourT
        go_wp2_with fail
        refine (rtwo_any ⟨t.name.toArray⟩ 1 1 (by decide) (by decide) _).mono ?_; rintro e w1 ⟨rfl, rfl⟩
        rw [tl]; simp only [two64]
        go_wp2_with fail
        go_loopg [3, 8] t.args.length (fun g x y wr => ∃ i n : Nat, g = t.args.length - i ∧ i ≤ t.args.length ∧ y = .int .i64 i ∧ x = .int .i64 (n : Nat) ∧ Hid (n = 1 + Tm.stepss (t.args.take i)) ∧ Hid (Below w.heap.size w wr) ∧ Hid (Blk wr w.heap.size #[.int .i64 t.kind, .int .i64 t.num, .string ⟨t.name.toArray⟩, .slice a t.args.length c] 41))
        case atStart => exact ⟨0, 1, rfl, by omega, rfl, rfl, Lib.hid (by simp [Tm.stepss]), Lib.hid hb1', Lib.hid (hn.keep hb1)⟩
        case round =>
          obtain ⟨i, n, hg, hi, rfl, rfl, HN, HB, HBK⟩ := hrel
          obtain ⟨t0, t1, t2, t3, z0, z1, z2, z3, ltt⟩ := HBK.out.fourT
          have G := Lib.hid hg; clear hg
          have i0 : (0 : Int) ≤ (i : Int) := by omega
          by_cases hlt : i < t.args.length
          · have hlt' : (i : Int) < (t.args.length : Int) := by omega
            have kw3 : IntKind.i64.wrap ((i : Int) + 1) = (i : Int) + 1 := IntWalk.i64_in _ (by omega)
            obtain ⟨b, sl, rfl, -, c0, c1, c2, c3, hc⟩ := (HH.out.bel HB.out).arg hlt
            obtain ⟨a2, cc2, rfl⟩ := hc.args
            have HC := Lib.hid hc; clear hc
            have hxh : t.args[i].height ≤ M := by have := heights_mem hlt; omega
            have HXF := Lib.hid (HF.out _ (List.getElem_mem hlt))
            obtain ⟨r, hr⟩ : ∃ r, r = t.args[i].steps := ⟨_, rfl⟩
            have hsum : n + r = 1 + Tm.stepss (t.args.take (i + 1)) := by rw [stepss_take hlt, HN.out, hr]; omega
            have kw5 : IntKind.i64.wrap ((n : Int) + (r : Int)) = ((n + r : Nat) : Int) := by
              have h1 := stepss_take_le t.args (i + 1)
              have h2 := HSS.out
              have h3 := HS0.out
              rw [IntWalk.i64_in _ (by omega)]; omega
            have HR2 := Lib.hid hr; have HSUM := Lib.hid hsum; clear hr hsum
            replace c1 := cellat c1; replace c2 := cellat c2; replace c3 := cellat c3
            go_wp2_with fail
            refine (ih t.args[i] hxh HXF.out (good_arg HGD.out hlt) _ _ HC.out).mono ?_; rintro e w2 ⟨rfl, hb2⟩
            rw [← HR2.out]
            have HK2 := Lib.hid (HBK.out.keep hb2)
            have HB2 := Lib.hid (bcall HB.out hb2)
            go_wp2
            go_roundg (t.args.length - (i + 1))
            case measure => have := G.out; omega
            case rel => exact ⟨i + 1, n + r, rfl, hlt, rfl, rfl, HSUM, HB2, HK2⟩
          · have hlt' : ¬ (i : Int) < (t.args.length : Int) := by omega
            have hie : i = t.args.length := by omega
            go_wp2
            go_ret
            refine ⟨congrArg (fun x : Nat => Ending.returned (.int .i64 x)) ?_, HB.out⟩
            have e1 := HN.out
            rw [hie, List.take_length] at e1
            have e3 := HSE'.out
            omega
      | false =>
        have q : ((twoS t.name 1 1).2 == 0) = false := by rw [two_is, ← hq, hr]
        have L := Lib.hid l2; clear l2 hq
        have hse' : t.steps = 0 + Tm.stepss t.args := by rw [HSE.out, hr]; rfl
        have HSE' := Lib.hid hse'; have HR := Lib.hid hr; clear hse' hr HSE
        go_enter Tryz.func39, Tryz.ntmps39
        go_wp2_with fail
        refine (rgood_any N hN t HF0.out _ _ (HH.out.bel hb0)).mono ?_; rintro e w1 ⟨rfl, hb1⟩
        rw [HGD.out]
        have hb1' := bcall hb0 hb1
        obtain ⟨t0, t1, t2, t3, z0, z1, z2, z3, ltt⟩ := (hn.keep hb1).fourT
        go_wp2_with fail
        refine (rtwo_any ⟨t.name.toArray⟩ 1 1 (by decide) (by decide) _).mono ?_; rintro e w1 ⟨rfl, rfl⟩
        rw [tl]; simp only [two64]
        go_wp2_with fail
        go_loopg [3, 8] t.args.length (fun g x y wr => ∃ i n : Nat, g = t.args.length - i ∧ i ≤ t.args.length ∧ y = .int .i64 i ∧ x = .int .i64 (n : Nat) ∧ Hid (n = 0 + Tm.stepss (t.args.take i)) ∧ Hid (Below w.heap.size w wr) ∧ Hid (Blk wr w.heap.size #[.int .i64 t.kind, .int .i64 t.num, .string ⟨t.name.toArray⟩, .slice a t.args.length c] 41))
        case atStart => exact ⟨0, 0, rfl, by omega, rfl, rfl, Lib.hid (by simp [Tm.stepss]), Lib.hid hb1', Lib.hid (hn.keep hb1)⟩
        case round =>
          obtain ⟨i, n, hg, hi, rfl, rfl, HN, HB, HBK⟩ := hrel
          obtain ⟨t0, t1, t2, t3, z0, z1, z2, z3, ltt⟩ := HBK.out.fourT
          have G := Lib.hid hg; clear hg
          have i0 : (0 : Int) ≤ (i : Int) := by omega
          by_cases hlt : i < t.args.length
          · have hlt' : (i : Int) < (t.args.length : Int) := by omega
            have kw3 : IntKind.i64.wrap ((i : Int) + 1) = (i : Int) + 1 := IntWalk.i64_in _ (by omega)
            obtain ⟨b, sl, rfl, -, c0, c1, c2, c3, hc⟩ := (HH.out.bel HB.out).arg hlt
            obtain ⟨a2, cc2, rfl⟩ := hc.args
            have HC := Lib.hid hc; clear hc
            have hxh : t.args[i].height ≤ M := by have := heights_mem hlt; omega
            have HXF := Lib.hid (HF.out _ (List.getElem_mem hlt))
            obtain ⟨r, hr⟩ : ∃ r, r = t.args[i].steps := ⟨_, rfl⟩
            have hsum : n + r = 0 + Tm.stepss (t.args.take (i + 1)) := by rw [stepss_take hlt, HN.out, hr]; omega
            have kw5 : IntKind.i64.wrap ((n : Int) + (r : Int)) = ((n + r : Nat) : Int) := by
              have h1 := stepss_take_le t.args (i + 1)
              have h2 := HSS.out
              have h3 := HS0.out
              rw [IntWalk.i64_in _ (by omega)]; omega
            have HR2 := Lib.hid hr; have HSUM := Lib.hid hsum; clear hr hsum
            replace c1 := cellat c1; replace c2 := cellat c2; replace c3 := cellat c3
            go_wp2_with fail
            refine (ih t.args[i] hxh HXF.out (good_arg HGD.out hlt) _ _ HC.out).mono ?_; rintro e w2 ⟨rfl, hb2⟩
            rw [← HR2.out]
            have HK2 := Lib.hid (HBK.out.keep hb2)
            have HB2 := Lib.hid (bcall HB.out hb2)
            go_wp2
            go_roundg (t.args.length - (i + 1))
            case measure => have := G.out; omega
            case rel => exact ⟨i + 1, n + r, rfl, hlt, rfl, rfl, HSUM, HB2, HK2⟩
          · have hlt' : ¬ (i : Int) < (t.args.length : Int) := by omega
            have hie : i = t.args.length := by omega
            go_wp2
            go_ret
            refine ⟨congrArg (fun x : Nat => Ending.returned (.int .i64 x)) ?_, HB.out⟩
            have e1 := HN.out
            rw [hie, List.take_length] at e1
            have e3 := HSE'.out
            omega
    have l1' : ((t.args.length : Int) == 1) = false := by simp; omega
    have l2' : ((t.args.length : Int) == 2) = false := by simp; omega
    have hr : reckP t.name t.args.length = false := by unfold reckP; rw [if_neg l1, if_neg l2]
    have hse' : t.steps = 0 + Tm.stepss t.args := by rw [HSE.out, hr]; rfl
    have HSE' := Lib.hid hse'; have HR := Lib.hid hr; clear hse' hr HSE
    go_enter Tryz.func39, Tryz.ntmps39
    go_wp2_with fail
    refine (rgood_any N hN t HF0.out _ _ (HH.out.bel hb0)).mono ?_; rintro e w1 ⟨rfl, hb1⟩
    rw [HGD.out]
    have hb1' := bcall hb0 hb1
    obtain ⟨t0, t1, t2, t3, z0, z1, z2, z3, ltt⟩ := (hn.keep hb1).fourT
    go_wp2_with fail
    go_loopg [3, 8] t.args.length (fun g x y wr => ∃ i n : Nat, g = t.args.length - i ∧ i ≤ t.args.length ∧ y = .int .i64 i ∧ x = .int .i64 (n : Nat) ∧ Hid (n = 0 + Tm.stepss (t.args.take i)) ∧ Hid (Below w.heap.size w wr) ∧ Hid (Blk wr w.heap.size #[.int .i64 t.kind, .int .i64 t.num, .string ⟨t.name.toArray⟩, .slice a t.args.length c] 41))
    case atStart => exact ⟨0, 0, rfl, by omega, rfl, rfl, Lib.hid (by simp [Tm.stepss]), Lib.hid hb1', Lib.hid (hn.keep hb1)⟩
    case round =>
      obtain ⟨i, n, hg, hi, rfl, rfl, HN, HB, HBK⟩ := hrel
      obtain ⟨t0, t1, t2, t3, z0, z1, z2, z3, ltt⟩ := HBK.out.fourT
      have G := Lib.hid hg; clear hg
      have i0 : (0 : Int) ≤ (i : Int) := by omega
      by_cases hlt : i < t.args.length
      · have hlt' : (i : Int) < (t.args.length : Int) := by omega
        have kw3 : IntKind.i64.wrap ((i : Int) + 1) = (i : Int) + 1 := IntWalk.i64_in _ (by omega)
        obtain ⟨b, sl, rfl, -, c0, c1, c2, c3, hc⟩ := (HH.out.bel HB.out).arg hlt
        obtain ⟨a2, cc2, rfl⟩ := hc.args
        have HC := Lib.hid hc; clear hc
        have hxh : t.args[i].height ≤ M := by have := heights_mem hlt; omega
        have HXF := Lib.hid (HF.out _ (List.getElem_mem hlt))
        obtain ⟨r, hr⟩ : ∃ r, r = t.args[i].steps := ⟨_, rfl⟩
        have hsum : n + r = 0 + Tm.stepss (t.args.take (i + 1)) := by rw [stepss_take hlt, HN.out, hr]; omega
        have kw5 : IntKind.i64.wrap ((n : Int) + (r : Int)) = ((n + r : Nat) : Int) := by
          have h1 := stepss_take_le t.args (i + 1)
          have h2 := HSS.out
          have h3 := HS0.out
          rw [IntWalk.i64_in _ (by omega)]; omega
        have HR2 := Lib.hid hr; have HSUM := Lib.hid hsum; clear hr hsum
        replace c1 := cellat c1; replace c2 := cellat c2; replace c3 := cellat c3
        go_wp2_with fail
        refine (ih t.args[i] hxh HXF.out (good_arg HGD.out hlt) _ _ HC.out).mono ?_; rintro e w2 ⟨rfl, hb2⟩
        rw [← HR2.out]
        have HK2 := Lib.hid (HBK.out.keep hb2)
        have HB2 := Lib.hid (bcall HB.out hb2)
        go_wp2
        go_roundg (t.args.length - (i + 1))
        case measure => have := G.out; omega
        case rel => exact ⟨i + 1, n + r, rfl, hlt, rfl, rfl, HSUM, HB2, HK2⟩
      · have hlt' : ¬ (i : Int) < (t.args.length : Int) := by omega
        have hie : i = t.args.length := by omega
        go_wp2
        go_ret
        refine ⟨congrArg (fun x : Nat => Ending.returned (.int .i64 x)) ?_, HB.out⟩
        have e1 := HN.out
        rw [hie, List.take_length] at e1
        have e3 := HSE'.out
        omega
set_option maxHeartbeats 4000000 in
theorem rsteps_any {X : Nat → Prop} (N : Nat) (hN : N ≤ 1000) (t : Tm) (hf : Fine N t) (w : World) (v : Value) (h : Holds w X t v) :
    Calls Tryz.prog 39 #[v] w fun e w' => e = .returned (.int .i64 ((if t.good = true then t.steps else 0 : Nat) : Int)) ∧ Below w.heap.size w w' := by
  cases hg : t.good with
  | true =>
    rw [if_pos rfl]
    exact rsteps_good N hN t.height t (Nat.le_refl _) hf hg w v h
  | false =>
    obtain ⟨sl, rfl⟩ := h.form
    obtain ⟨a, c, rfl⟩ := h.args
    have HH := Lib.hid h; have HF := Lib.hid hf; clear h hf
    have hb0 : Below w.heap.size w (w.alloc (.cells #[.int .i64 t.kind, .int .i64 t.num, .string ⟨t.name.toArray⟩, .slice a t.args.length c] 41)) := Below.alloc (Below.refl _ _) (Nat.le_refl _) _
    simp only [tmV]
    go_enter Tryz.func39, Tryz.ntmps39
    go_wp2_with fail
    refine (rgood_any N hN t HF.out _ _ (HH.out.bel hb0)).mono ?_; rintro e w1 ⟨rfl, hb1⟩
    rw [hg]
    clear hg
    go_wp2
    go_ret
    exact ⟨by simp, bcall hb0 hb1⟩
end Go.Proofs.YtcnnobcncklgfaaGreatDoor
