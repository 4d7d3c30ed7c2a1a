/- The contracts of package eval. -/
import Derived.Test.YtcnnobcncklgfaaGreatDoorEvPlain
import Derived.Laws.Strings
namespace Go.Proofs.YtcnnobcncklgfaaGreatDoor
open Go Go.ChangeShapes Go.WideShapes Go.ChangeAt Go.RowKit
set_option linter.unusedVariables false
def reckP (s : List UInt8) (len : Nat) : Bool := if len = 1 then (oneS s 1).2 != 1 else if len = 2 then (twoS s 1 1).2 != 1 else false
def evK (k n : Int) (s : List UInt8) (rs : List (Int × Int)) : Int × Int :=
  if k = 0 then (0, 6) else if k = 1 then (n, 0) else if reckP s rs.length = false then (0, 5) else
  match rs with
  | [a] => if a.2 = 0 then oneS s a.1 else (0, a.2)
  | [a, b] => if a.2 = 0 then (if b.2 = 0 then twoS s a.1 b.1 else (0, b.2)) else (0, a.2)
  | _ => (0, 5)
mutual
def Tm.ev : Tm → Int × Int
  | .mk k n s l => evK k n s (Tm.evs l)
def Tm.evs : List Tm → List (Int × Int)
  | [] => []
  | x :: l => x.ev :: Tm.evs l
end
theorem evK_var {k n : Int} {s : List UInt8} {rs : List (Int × Int)} (h : k = 0) : evK k n s rs = (0, 6) := by unfold evK; rw [if_pos h]
theorem evK_int {k n : Int} {s : List UInt8} {rs : List (Int × Int)} (h : k = 1) : evK k n s rs = (n, 0) := by unfold evK; rw [if_neg (by omega), if_pos h]
theorem evK_no {k n : Int} {s : List UInt8} {rs : List (Int × Int)} (h0 : ¬ k = 0) (h1 : ¬ k = 1) (h : reckP s rs.length = false) : evK k n s rs = (0, 5) := by unfold evK; rw [if_neg h0, if_neg h1, if_pos h]
theorem evK_one {k n : Int} {s : List UInt8} {a : Int × Int} (h0 : ¬ k = 0) (h1 : ¬ k = 1) (h : reckP s 1 = true) : evK k n s [a] = if a.2 = 0 then oneS s a.1 else (0, a.2) := by
  unfold evK
  rw [if_neg h0, if_neg h1, if_neg (by show ¬ reckP s 1 = false; rw [h]; decide)]
theorem evK_two {k n : Int} {s : List UInt8} {a b : Int × Int} (h0 : ¬ k = 0) (h1 : ¬ k = 1) (h : reckP s 2 = true) : evK k n s [a, b] = if a.2 = 0 then (if b.2 = 0 then twoS s a.1 b.1 else (0, b.2)) else (0, a.2) := by
  unfold evK
  rw [if_neg h0, if_neg h1, if_neg (by show ¬ reckP s 2 = false; rw [h]; decide)]
theorem reckP_len {s : List UInt8} {len : Nat} (h : reckP s len = true) : len = 1 ∨ len = 2 := by
  unfold reckP at h
  split at h
  · left; assumption
  · split at h
    · right; assumption
    · cases h
theorem evs_len (l : List Tm) : (Tm.evs l).length = l.length := by
  induction l with
  | nil => rfl
  | cons x l ih => simp [Tm.evs, ih]
theorem ev_eq (t : Tm) : t.ev = evK t.kind t.num t.name (Tm.evs t.args) := by cases t; simp [Tm.ev, Tm.args, Tm.kind, Tm.num, Tm.name]
theorem I64_evK {k n : Int} {s : List UInt8} {rs : List (Int × Int)} (hn : i64 n) (h : ∀ r ∈ rs, I64 r) : I64 (evK k n s rs) := by
  unfold evK
  refine I64.ite (fun _ => I64.mk (by decide)) fun _ => I64.ite (fun _ => I64.mk hn) fun _ => I64.ite (fun _ => I64.mk (by decide)) fun _ => ?_
  split
  · rename_i a _
    exact I64.ite (fun _ => i64_one _ (h a (by simp))) fun _ => I64.mk (by decide)
  · rename_i a b _
    exact I64.ite (fun _ => I64.ite (fun _ => i64_two _ (h a (by simp)) (h b (by simp))) fun _ => I64.mk (by decide)) fun _ => I64.mk (by decide)
  · exact I64.mk (by decide)
theorem I64_ev {N : Nat} : ∀ (M : Nat) (t : Tm), t.height ≤ M → Fine N t → I64 t.ev := by
  intro M
  induction M with
  | zero => intro t ht; have := height_eq t; omega
  | succ M ih =>
    intro t ht hf
    cases hf with
    | mk k n s l hk hn hs hl h =>
      rw [ev_eq]
      refine I64_evK hn ?_
      simp only [Tm.args]
      have hh := height_eq (.mk k n s l)
      simp only [Tm.args] at hh
      have key : ∀ (l : List Tm), Tm.heights l ≤ M → (∀ x ∈ l, Fine N x) → ∀ r ∈ Tm.evs l, I64 r := by
        intro l
        induction l with
        | nil => intro _ _ r hr; simp [Tm.evs] at hr
        | cons x l ihl =>
          intro hm hf r hr
          simp only [Tm.heights] at hm
          simp only [Tm.evs, List.mem_cons] at hr
          rcases hr with rfl | hr
          · exact ih x (by omega) (hf x (by simp))
          · exact ihl (by omega) (fun y hy => hf y (List.mem_cons_of_mem _ hy)) r hr
      exact key l (by omega) h
theorem add_pos (b : Addr) (n : Nat) : b.add (n + 1) = ⟨b.block, b.off + (n + 1), none⟩ := by unfold Addr.add; rw [if_neg (by omega)]
theorem add_zero (b : Addr) : b.add 0 = b := by unfold Addr.add; rw [if_pos rfl]
theorem tl (s : List UInt8) : (⟨s.toArray⟩ : ByteArray).toList = s := ByteArray.toList_mk s
set_option maxHeartbeats 4000000 in
theorem reckons_any (k n : Int) (s : List UInt8) (a : Option Addr) (len c : Nat) (w : World) :
    Calls Tryz.prog 83 #[tmV k n s (.slice a len c)] w fun e w' => e = .returned (.bool (reckP s len)) ∧ Below w.heap.size w w' := by
  simp only [tmV]
  by_cases h1 : len = 1
  · subst h1
    go_enter Tryz.func83, Tryz.ntmps83
    go_wp2_with fail
    refine (one_any ⟨s.toArray⟩ 1 (by decide) _).mono ?_; rintro e w1 ⟨rfl, rfl⟩
    rw [tl]
    simp only [two64]
    go_wp2
    go_ret
    exact ⟨by simp [reckP], (by repeat (first | exact Below.refl _ _ | assumption | apply Below.drew | (refine Below.setCell ?_ (by first | (simp; done) | omega | (simp; omega)) _) | (refine Below.alloc ?_ (by first | (simp; done) | omega | (simp; omega)) _)))⟩
  · have h1' : ((len : Int) == 1) = false := by simp; omega
    by_cases h2 : len = 2
    · subst h2
      go_enter Tryz.func83, Tryz.ntmps83
      go_wp2_with fail
      refine (two_any ⟨s.toArray⟩ 1 1 (by decide) (by decide) _).mono ?_; rintro e w1 ⟨rfl, rfl⟩
      rw [tl]
      simp only [two64]
      go_wp2
      go_ret
      exact ⟨by simp [reckP], (by repeat (first | exact Below.refl _ _ | assumption | apply Below.drew | (refine Below.setCell ?_ (by first | (simp; done) | omega | (simp; omega)) _) | (refine Below.alloc ?_ (by first | (simp; done) | omega | (simp; omega)) _)))⟩
    · have h2' : ((len : Int) == 2) = false := by simp; omega
      go_enter Tryz.func83, Tryz.ntmps83
      go_wp2
      go_ret
      exact ⟨by simp [reckP, h1, h2], (by repeat (first | exact Below.refl _ _ | assumption | apply Below.drew | (refine Below.setCell ?_ (by first | (simp; done) | omega | (simp; omega)) _) | (refine Below.alloc ?_ (by first | (simp; done) | omega | (simp; omega)) _)))⟩
set_option maxHeartbeats 8000000 in
theorem of_any {X : Nat → Prop} (N : Nat) : ∀ (M : Nat) (t : Tm), t.height ≤ M → Fine N t → ∀ (w : World) (v : Value), Holds w X t v →
    Calls Tryz.prog 58 #[v] w fun e w' => e = .returned (two64 t.ev) ∧ Below w.heap.size w w' := by
  intro M
  induction M with
  | zero => intro t ht; have := height_eq t; omega
  | succ M ih =>
    intro t ht hf w v h
    obtain ⟨sl, rfl⟩ := h.form
    obtain ⟨a, c, rfl⟩ := h.args
    have hh := height_eq t
    obtain ⟨t, ht0⟩ : ∃ t', t' = t := ⟨_, rfl⟩
    subst ht0
    have hev := ev_eq t
    have HH := Lib.hid h; have HF := Lib.hid hf; have HE := Lib.hid hev; clear h hf hev
    have hn := Blk.new w #[.int .i64 t.kind, .int .i64 t.num, .string ⟨t.name.toArray⟩, .slice a t.args.length c] 24
    have hb0 : Below w.heap.size w (w.alloc (.cells #[.int .i64 t.kind, .int .i64 t.num, .string ⟨t.name.toArray⟩, .slice a t.args.length c] 24)) := Below.alloc (Below.refl _ _) (Nat.le_refl _) _
    obtain ⟨k, hk⟩ : ∃ k, k = t.kind := ⟨_, rfl⟩
    obtain ⟨n, hnum⟩ : ∃ n, n = t.num := ⟨_, rfl⟩
    obtain ⟨s, hs⟩ : ∃ s, s = t.name := ⟨_, rfl⟩
    rw [← hk, ← hnum, ← hs] at hn hb0 HE ⊢
    have HK := Lib.hid hk; have HNU := Lib.hid hnum; have HS := Lib.hid hs; clear hk hnum hs
    simp only [tmV]
    by_cases h0 : k = 0
    · have h0' : (k == 0) = true := by simpa using h0
      have D := Lib.hid (show t.ev = (0, 6) by rw [HE.out, evK_var h0])
      subst h0
      go_enter Tryz.func58, Tryz.ntmps58
      go_wp2
      go_ret2
      exact ⟨ret2 D.out, hb0⟩
    by_cases h1 : k = 1
    · have D := Lib.hid (show t.ev = (n, 0) by rw [HE.out, evK_int h1])
      subst h1
      go_enter Tryz.func58, Tryz.ntmps58
      go_wp2
      go_ret2
      exact ⟨ret2 D.out, hb0⟩
    have h0' : (k == 0) = false := by simpa using h0
    have h1' : (k == 1) = false := by simpa using h1
    cases hr : reckP s t.args.length with
    | false =>
      have D := Lib.hid (show t.ev = (0, 5) by rw [HE.out, evK_no h0 h1 (by rw [evs_len]; exact hr)])
      have hr' := Lib.hid hr; clear hr h0 h1
      go_enter Tryz.func58, Tryz.ntmps58
      go_wp2_with fail
      refine (reckons_any k n s a t.args.length c _).mono ?_; rintro e w1 ⟨rfl, hb1⟩
      rw [hr'.out]
      go_wp2
      go_ret2
      exact ⟨ret2 D.out, bcall hb0 hb1⟩
    | true =>
      have hh2 : Tm.heights t.args ≤ M := by omega
      rcases reckP_len hr with hl | hl
      · obtain ⟨x, hx⟩ : ∃ x, t.args = [x] := by
          match t.args, hl with
          | [x], _ => exact ⟨x, rfl⟩
        rw [hx] at hr HE HH hh2 hn hb0 ⊢
        have HE1 : Hid (t.ev = if x.ev.2 = 0 then oneS s x.ev.1 else (0, x.ev.2)) := Lib.hid (by rw [HE.out]; simp only [Tm.evs]; exact evK_one h0 h1 hr)
        have hr' := Lib.hid (show reckP s 1 = true from hr); clear hr h0 h1
        obtain ⟨b, xsl, rfl, -, c0, c1, c2, c3, hc⟩ := HH.out.arg (i := 0) (by rw [hx]; simp)
        simp only [hx, List.getElem_cons_zero, List.length_cons, List.length_nil, Nat.zero_add, Nat.zero_mul] at c0 c1 c2 c3 hc hn hb0 ⊢
        have hcf : Fine N x := (HF.out.args.2.1 x (by rw [hx]; simp))
        obtain ⟨ax, cx, rfl⟩ := hc.args
        have hix : I64 x.ev := I64_ev x.height x (Nat.le_refl _) hcf
        have hxh : x.height ≤ M := by simp [Tm.heights] at hh2; omega
        have hlt : ∀ o u, w.cell? (b.add o) = some u → (w.alloc (.cells #[.int .i64 k, .int .i64 n, .string ⟨s.toArray⟩, .slice (some b) 1 c] 24)).cell? (b.add o) = some u := fun o u hu => (World.cell?_alloc_lt _ _ _ (World.block_lt_of_cell? w _ hu)).trans hu
        have HC := Lib.hid hc; have HCF := Lib.hid hcf; have HIX := Lib.hid hix; clear hc hcf hix hx
        go_enter Tryz.func58, Tryz.ntmps58
        go_wp2_with fail
        refine (reckons_any k n s (some b) 1 c _).mono ?_; rintro e w1 ⟨rfl, hb1⟩
        rw [hr'.out]
        have hb1' := bcall hb0 hb1
        obtain ⟨t0, t1, t2, t3, z0, z1, z2, z3, ltt⟩ := (hn.keep hb1).fourT
        have hk : ∀ o u, w.cell? (b.add o) = some u → w1.cell? (b.add o) = some u := fun o u hu => (World.cell?_of_block (hb1'.block _ (World.block_lt_of_cell? w _ hu))).trans hu
        replace c0 := hk _ _ c0; replace c1 := hk _ _ c1; replace c2 := hk _ _ c2; replace c3 := hk _ _ c3
        rw [add_zero] at c0
        replace c1 : w1.cell? ⟨b.block, b.off + 1, none⟩ = _ := c1
        replace c2 : w1.cell? ⟨b.block, b.off + 2, none⟩ = _ := c2
        replace c3 : w1.cell? ⟨b.block, b.off + 3, none⟩ = _ := c3
        go_wp2_with fail
        refine (ih x hxh HCF.out _ _ (HC.out.bel hb1')).mono ?_; rintro e w2 ⟨rfl, hb2⟩
        obtain ⟨t0, t1, t2, t3, z0, z1, z2, z3, ltt⟩ := ((hn.keep hb1).keep hb2).fourT
        have hb2' := bcall hb1' hb2
        simp only [two64]
        by_cases he : x.ev.2 = 0
        · have he' : (x.ev.2 != 0) = false := by simp [he]
          have he2 : (x.ev.2 == 0) = true := by simp [he]
          have D := Lib.hid (show t.ev = oneS s x.ev.1 by rw [HE1.out, if_pos he])
          have HEE := Lib.hid he; clear he
          go_wp2_with fail
          refine (one_any ⟨s.toArray⟩ x.ev.1 HIX.out _).mono ?_; rintro e w3 ⟨rfl, rfl⟩
          rw [tl]
          simp only [two64]
          go_wp2
          go_ret2
          exact ⟨by rw [D.out]; rfl, hb2'⟩
        · have he' : (x.ev.2 != 0) = true := by simp [he]
          have he2 : (x.ev.2 == 0) = false := by simp [he]
          have D := Lib.hid (show t.ev = (0, x.ev.2) by rw [HE1.out, if_neg he])
          have HEE := Lib.hid he; clear he
          go_wp2
          go_ret2
          exact ⟨ret2 D.out, hb2'⟩
      · obtain ⟨x, y, hx⟩ : ∃ x y, t.args = [x, y] := by
          match t.args, hl with
          | [x, y], _ => exact ⟨x, y, rfl⟩
        rw [hx] at hr HE HH hh2 hn hb0 ⊢
        have HE1 : Hid (t.ev = if x.ev.2 = 0 then (if y.ev.2 = 0 then twoS s x.ev.1 y.ev.1 else (0, y.ev.2)) else (0, x.ev.2)) := Lib.hid (by rw [HE.out]; simp only [Tm.evs]; exact evK_two h0 h1 hr)
        have hr' := Lib.hid (show reckP s 2 = true from hr); clear hr h0 h1
        obtain ⟨b, xsl, rfl, -, c0, c1, c2, c3, hc⟩ := HH.out.arg (i := 0) (by rw [hx]; simp)
        obtain ⟨b', ysl, hbb, -, d0, d1, d2, d3, hd⟩ := HH.out.arg (i := 1) (by rw [hx]; simp)
        cases hbb
        simp only [hx, List.getElem_cons_zero, List.getElem_cons_succ, List.length_cons, List.length_nil, Nat.zero_add, Nat.zero_mul, Nat.one_mul, Nat.reduceAdd] at c0 c1 c2 c3 hc d0 d1 d2 d3 hd hn hb0 ⊢
        have hcf : Fine N x := (HF.out.args.2.1 x (by rw [hx]; simp))
        have hdf : Fine N y := (HF.out.args.2.1 y (by rw [hx]; simp))
        obtain ⟨ax, cx, rfl⟩ := hc.args
        obtain ⟨ay, cy, rfl⟩ := hd.args
        have hix : I64 x.ev := I64_ev x.height x (Nat.le_refl _) hcf
        have hiy : I64 y.ev := I64_ev y.height y (Nat.le_refl _) hdf
        have hxh : x.height ≤ M := by simp [Tm.heights] at hh2; omega
        have hyh : y.height ≤ M := by simp [Tm.heights] at hh2; omega
        have HC := Lib.hid hc; have HCF := Lib.hid hcf; have HIX := Lib.hid hix; have HD := Lib.hid hd; have HDF := Lib.hid hdf; have HIY := Lib.hid hiy; clear hc hcf hix hd hdf hiy hx
        go_enter Tryz.func58, Tryz.ntmps58
        go_wp2_with fail
        refine (reckons_any k n s (some b) 2 c _).mono ?_; rintro e w1 ⟨rfl, hb1⟩
        rw [hr'.out]
        have hb1' := bcall hb0 hb1
        obtain ⟨t0, t1, t2, t3, z0, z1, z2, z3, ltt⟩ := (hn.keep hb1).fourT
        have hk : ∀ o u, w.cell? (b.add o) = some u → w1.cell? (b.add o) = some u := fun o u hu => (World.cell?_of_block (hb1'.block _ (World.block_lt_of_cell? w _ hu))).trans hu
        have q0 := hk _ _ c0; have q1 := hk _ _ c1; have q2 := hk _ _ c2; have q3 := hk _ _ c3
        rw [add_zero] at q0
        replace q1 : w1.cell? ⟨b.block, b.off + 1, none⟩ = _ := q1
        replace q2 : w1.cell? ⟨b.block, b.off + 2, none⟩ = _ := q2
        replace q3 : w1.cell? ⟨b.block, b.off + 3, none⟩ = _ := q3
        go_wp2_with fail
        refine (ih x hxh HCF.out _ _ (HC.out.bel hb1')).mono ?_; rintro e w2 ⟨rfl, hb2⟩
        obtain ⟨t0, t1, t2, t3, z0, z1, z2, z3, ltt⟩ := ((hn.keep hb1).keep hb2).fourT
        have hb2' := bcall hb1' hb2
        simp only [two64]
        by_cases he : x.ev.2 = 0
        · have he' : (x.ev.2 != 0) = false := by simp [he]
          have he2 : (x.ev.2 == 0) = true := by simp [he]
          have HE2 : Hid (t.ev = if y.ev.2 = 0 then twoS s x.ev.1 y.ev.1 else (0, y.ev.2)) := Lib.hid (by rw [HE1.out, if_pos he])
          have HEE := Lib.hid he; clear he
          have hk2 : ∀ o u, w.cell? (b.add o) = some u → w2.cell? (b.add o) = some u := fun o u hu => (World.cell?_of_block (hb2'.block _ (World.block_lt_of_cell? w _ hu))).trans hu
          have p0 := hk2 _ _ d0; have p1 := hk2 _ _ d1; have p2 := hk2 _ _ d2; have p3 := hk2 _ _ d3
          replace p0 : w2.cell? ⟨b.block, b.off + 4, none⟩ = _ := p0
          replace p1 : w2.cell? ⟨b.block, b.off + 4 + 1, none⟩ = _ := p1
          replace p2 : w2.cell? ⟨b.block, b.off + 4 + 2, none⟩ = _ := p2
          replace p3 : w2.cell? ⟨b.block, b.off + 4 + 3, none⟩ = _ := p3
          go_wp2_with fail
          refine (ih y hyh HDF.out _ _ (HD.out.bel hb2')).mono ?_; rintro e w3 ⟨rfl, hb3⟩
          obtain ⟨t0, t1, t2, t3, z0, z1, z2, z3, ltt⟩ := (((hn.keep hb1).keep hb2).keep hb3).fourT
          have hb3' := bcall hb2' hb3
          simp only [two64]
          by_cases hy : y.ev.2 = 0
          · have hy' : (y.ev.2 != 0) = false := by simp [hy]
            have D := Lib.hid (show t.ev = twoS s x.ev.1 y.ev.1 by rw [HE2.out, if_pos hy])
            have HYY := Lib.hid hy; clear hy
            go_wp2_with fail
            refine (two_any ⟨s.toArray⟩ x.ev.1 y.ev.1 HIX.out HIY.out _).mono ?_; rintro e w4 ⟨rfl, rfl⟩
            rw [tl]
            simp only [two64]
            go_wp2
            go_ret2
            exact ⟨by rw [D.out]; rfl, hb3'⟩
          · have hy' : (y.ev.2 != 0) = true := by simp [hy]
            have D := Lib.hid (show t.ev = (0, y.ev.2) by rw [HE2.out, if_neg hy])
            have HYY := Lib.hid hy; clear hy
            go_wp2
            go_ret2
            exact ⟨ret2 D.out, hb3'⟩
        · have he' : (x.ev.2 != 0) = true := by simp [he]
          have he2 : (x.ev.2 == 0) = false := by simp [he]
          have D := Lib.hid (show t.ev = (0, x.ev.2) by rw [HE1.out, if_neg he])
          have HEE := Lib.hid he; clear he
          go_wp2
          go_ret2
          exact ⟨ret2 D.out, hb2'⟩
/-- What eval.Of answers. -/
def Tm.evT (t : Tm) : Int × Int := if t.good = true then t.ev else (0, 1)
set_option maxHeartbeats 4000000 in
theorem Of_any {X : Nat → Prop} (N : Nat) (hN : N ≤ 1000) (t : Tm) (hf : Fine N t) (w : World) (v : Value) (h : Holds w X t v) :
    Calls Tryz.prog 29 #[v] w fun e w' => e = .returned (two64 t.evT) ∧ Below w.heap.size w w' := by
  obtain ⟨sl, rfl⟩ := h.form
  obtain ⟨a, c, rfl⟩ := h.args
  have HH := Lib.hid h; have HF := Lib.hid hf; clear h hf
  have hn := Blk.new w #[.int .i64 t.kind, .int .i64 t.num, .string ⟨t.name.toArray⟩, .slice a t.args.length c] 24
  have hb0 : Below w.heap.size w (w.alloc (.cells #[.int .i64 t.kind, .int .i64 t.num, .string ⟨t.name.toArray⟩, .slice a t.args.length c] 24)) := Below.alloc (Below.refl _ _) (Nat.le_refl _) _
  simp only [tmV]
  cases hg : t.good with
  | true =>
    have D := Lib.hid (show t.evT = t.ev by simp [Tm.evT, hg])
    go_enter Tryz.func29, Tryz.ntmps29
    go_wp2_with fail
    refine (good_any N hN t HF.out _ _ (HH.out.bel hb0)).mono ?_; rintro e w1 ⟨rfl, hb1⟩
    rw [hg]
    obtain ⟨t0, t1, t2, t3, z0, z1, z2, z3, ltt⟩ := (hn.keep hb1).fourT
    have hb1' := bcall hb0 hb1
    go_wp2_with fail
    refine (of_any N t.height t (Nat.le_refl _) HF.out _ _ (HH.out.bel hb1')).mono ?_; rintro e w2 ⟨rfl, hb2⟩
    simp only [two64]
    go_wp2
    go_ret2
    exact ⟨by rw [D.out]; rfl, bcall hb1' hb2⟩
  | false =>
    have D := Lib.hid (show t.evT = (0, 1) by simp [Tm.evT, hg])
    go_enter Tryz.func29, Tryz.ntmps29
    go_wp2_with fail
    refine (good_any N hN t HF.out _ _ (HH.out.bel hb0)).mono ?_; rintro e w1 ⟨rfl, hb1⟩
    rw [hg]
    go_wp2
    go_ret2
    exact ⟨ret2 D.out, bcall hb0 hb1⟩
end Go.Proofs.YtcnnobcncklgfaaGreatDoor
