/- The document's own terms: sizarlaw20.own makes one out of a term.   The document's own Size, Depth, formed, Good of terms.   The document's own formed and Good of terms. -/
import Derived.Test.YtcnnobcncklgfaaGreatDoorGoodA
import Derived.Deep.AppendLies
import Derived.Deep.RegionLaw
import Derived.Deep.DeepCutAuto
namespace Go.Proofs.YtcnnobcncklgfaaGreatDoor
open Go Go.ChangeShapes Go.WideShapes Go.ChangeAt Go.RowKit
set_option linter.unusedVariables false
theorem info_rterm : (Tryz.prog.info? 41).map (·.size) = some 4 := by kernel_rfl
theorem info_rtermz : (Tryz.prog.info? 41).map (fun i => (i.zero, i.size, i.bytes)) = some (some (.agg #[.int .i64 0, .int .i64 0, .string ⟨#[]⟩, .slice none 0 0]), 4, 56) := by kernel_rfl
theorem res_rowR {fn : Func} {p : Tmp} (h : fn.results = #[.cell p 41]) (tmps : Array Value) (B : Nat) (hB : tmps.getD p undef = .pointer (some ⟨B, 0, none⟩)) (x y z u : Value)
    (w : World) (hw : Blk w B #[x, y, z, u] 41) : (results fn tmps).run Tryz.prog w = .ok (.agg #[x, y, z, u]) w := by
  exact results_cell_row h tmps w B 41 #[x, y, z, u] (0, 0) _ hB hw Tryz.underlying41 rfl info_rterm
theorem stC_spec : ∀ (S : List (Tm × Value)) (i : Nat) (hi : i < S.length) (c : Nat), c < 4 → (stC S)[i * 4 + c]? = (stV S[i])[c]?
  | p :: S, 0, hi, c, hc => by
    show (stV p ++ stC S)[0 * 4 + c]? = _
    rw [List.getElem?_append_left (by simp [stV]; omega)]
    simp
  | p :: S, i + 1, hi, c, hc => by
    show (stV p ++ stC S)[(i + 1) * 4 + c]? = _
    have h4 : (stV p).length = 4 := rfl
    rw [List.getElem?_append_right (by rw [h4]; omega), h4, show (i + 1) * 4 + c - 4 = i * 4 + c by omega]
    exact stC_spec S i (by simpa using hi) c hc
/-- A row of the run's own that holds the cells of held terms is held as Args. -/
theorem held_stack {w : World} {X : Nat → Prop} {S : List (Tm × Value)} {sl : Value} {base : Nat} {e : TypeId} (hown : w.ownsRow base e 4 sl S.length (stC S)) (hx : ∀ b, base ≤ b → X b)
    (h : ∀ p ∈ S, Holds w X p.1 (tmV p.1.kind p.1.num p.1.name p.2)) (k n : Int) (s : List UInt8) : Holds w X (.mk k n s (S.map (·.1))) (tmV k n s sl) := by
  have hc := hown
  rcases hown.2 with ⟨rfl, h0⟩ | ⟨g, cap, cur, rfl, hb, hg, hnc, hcm, _⟩
  · have : S = [] := List.eq_nil_of_length_eq_zero h0
    subst this
    exact .leaf _ _ _ _ _
  · have hk := hc.cells (g := g) rfl
    have e : S.length = (S.map (·.1)).length := by simp
    have hi' : ∀ i (hi : i < (S.map (·.1)).length), i < S.length := fun i hi => by rw [e]; exact hi
    have eV : ∀ i (hi : i < S.length) (hi2 : i < (S.map (·.1)).length), S[i].1 = (S.map (·.1))[i] := fun i hi hi2 => by simp
    generalize hL : (fun i : Nat => match S[i]? with | some p => p.2 | none => Value.nilFunc) = L
    have hLi : ∀ i (hi : i < S.length), L i = S[i].2 := fun i hi => by rw [← hL]; simp [List.getElem?_eq_getElem hi]
    have := Holds.node (w := w) (X := X) k n s (S.map (·.1)) ⟨g, 0, none⟩ cap L (hx g hb) (by rw [← e]; omega)
      (fun i hi => by rw [← eV i (hi' i hi) hi, hLi i (hi' i hi)]; exact h _ (List.getElem_mem _))
      (fun i hi => hk _ _ (by rw [stC_spec S i (hi' i hi) 0 (by omega), ← eV i (hi' i hi) hi]; rfl))
      (fun i hi => hk _ _ (by rw [stC_spec S i (hi' i hi) 1 (by omega), ← eV i (hi' i hi) hi]; rfl))
      (fun i hi => hk _ _ (by rw [stC_spec S i (hi' i hi) 2 (by omega), ← eV i (hi' i hi) hi]; rfl))
      (fun i hi => hk _ _ (by rw [stC_spec S i (hi' i hi) 3 (by omega), hLi i (hi' i hi)]; rfl))
    rw [← e] at this
    exact this
/-- What holds in own's loop. -/
structure OwnI (w : World) (t : Tm) (slt : Value) (S : List (Tm × Value)) (sl : Value) (wr : World) : Prop where
  bel : Below w.heap.size w wr
  sz : w.heap.size + 3 ≤ wr.heap.size
  b1 : Blk wr w.heap.size #[.int .i64 t.kind, .int .i64 t.num, .string ⟨t.name.toArray⟩, slt] 24
  b2 : Blk wr (w.heap.size + 1) #[.int .i64 0, .int .i64 0, .string ⟨#[]⟩, .slice none 0 0] 41
  b3 : Blk wr (w.heap.size + 2) #[.int .i64 t.kind, .int .i64 t.num, .string ⟨t.name.toArray⟩, sl] 41
  row : wr.ownsRow (w.heap.size + 3) 41 4 sl S.length (stC S)
  held : ∀ p ∈ S, Holds wr (fun b => w.heap.size + 3 ≤ b ∧ some b ≠ sl.ownBlock) p.1 (tmV p.1.kind p.1.num p.1.name p.2)
theorem OwnI.cell3 {w : World} {t : Tm} {slt : Value} {S : List (Tm × Value)} {sl : Value} {wr w2 w3 : World} (h : OwnI w t slt S sl wr) (h12 : Below wr.heap.size wr w2) {cs : Array Value} {ty : TypeId} (hgr : (w2.alloc (.cells cs ty)).grownBy w3 sl.ownBlock) :
    w3.cell? ⟨w.heap.size + 1 + 1, 3, none⟩ = some sl ∧ w3.frozen? ⟨w.heap.size + 1 + 1, 3, none⟩ = false := by
  have hb : Blk w3 (w.heap.size + 1 + 1) _ _ := ((h.b3.keep h12).alloc _).grown' hgr (fun g' e he => by have := (h.row.lt g' e).1; omega)
  exact ⟨hb.cell rfl, hb.free 3⟩
theorem OwnI.cell2 {w : World} {t : Tm} {slt : Value} {S : List (Tm × Value)} {sl : Value} {wr w2 : World} (h : OwnI w t slt S sl wr) (h12 : Below wr.heap.size wr w2) :
    w2.cell? ⟨w.heap.size + 1 + 1, 3, none⟩ = some sl ∧ w2.frozen? ⟨w.heap.size + 1 + 1, 3, none⟩ = false ∧ w.heap.size + 1 + 1 < w2.heap.size := by
  have hb : Blk w2 (w.heap.size + 1 + 1) _ _ := h.b3.keep h12
  exact ⟨hb.cell rfl, hb.free 3, hb.lt⟩
theorem OwnI.step {w : World} {t : Tm} {slt : Value} {S : List (Tm × Value)} {sl : Value} {wr wd w2 w3 : World} (h : OwnI w t slt S sl wr) (hd : Below wr.heap.size wr wd) (hds : wr.heap.size ≤ wd.heap.size) {x : Tm} {slx : Value} (hb : Below wd.heap.size wd w2)
    (hx : Holds w2 (fun b => wd.heap.size ≤ b) x (tmV x.kind x.num x.name slx)) {cs : Array Value} {ty : TypeId} {g cap : Nat} {v : Value} (hv : v = .slice (some ⟨g, 0, none⟩) (S.length + 1) cap)
    (hown : w3.ownsRow (w.heap.size + 3) 41 4 v (S.length + 1) (stC S ++ stV (x, slx))) (hgr : (w2.alloc (.cells cs ty)).grownBy w3 sl.ownBlock) (hat : sl.ownBlock = some g ∨ g = (w2.alloc (.cells cs ty)).heap.size) :
    OwnI w t slt (S ++ [(x, slx)]) v (w3.setCell ⟨w.heap.size + 2, 3, none⟩ v) := by
  have hrow : ∀ g', sl.ownBlock = some g' → w.heap.size + 3 ≤ g' ∧ g' < wr.heap.size := fun g' e => h.row.lt g' e
  have h12 : Below wr.heap.size wr w2 := hd.trans (hb.mono hds)
  have s2 : wr.heap.size ≤ w2.heap.size := h12.size
  have h2a : Below w.heap.size w (w2.alloc (.cells cs ty)) := Below.alloc (bcall h.bel h12) (by have := h.sz; omega) _
  have sa : (w2.alloc (.cells cs ty)).heap.size = w2.heap.size + 1 := by simp
  have s3 := hgr.size
  have hbel : Below w.heap.size w w3 := below_grownT h2a hgr (fun g' e => by have := (hrow g' e).1; omega) (by have := h.sz; omega)
  have key : ∀ b cs' ty', b < w.heap.size + 3 → Blk wr b cs' ty' → Blk w3 b cs' ty' := fun b cs' ty' hlt hk => ((hk.keep h12).alloc _).grown' hgr (fun g' e he => by have := (hrow g' e).1; omega)
  have heap3 : ∀ b, w.heap.size + 3 ≤ b → (w3.setCell ⟨w.heap.size + 2, 3, none⟩ v).heap[b]? = w3.heap[b]? := fun b hb => Below.heap_setCell _ _ _ _ (by show b ≠ w.heap.size + 2; omega)
  refine ⟨Below.setCell hbel (by show w.heap.size ≤ w.heap.size + 2; omega) _, ?_, (key _ _ _ (by omega) h.b1).other (by show w.heap.size + 2 ≠ w.heap.size; omega) _, (key _ _ _ (by omega) h.b2).other (by show w.heap.size + 2 ≠ w.heap.size + 1; omega) _, ?_, ?_, ?_⟩
  · have := h.sz
    have e : (w3.setCell ⟨w.heap.size + 2, 3, none⟩ v).heap.size = w3.heap.size := by simp
    omega
  · exact (key _ _ _ (by omega) h.b3).store 3 _
  · rw [List.length_append, stC_snoc]
    exact ownsRow_setCell_below hown (by show w.heap.size + 2 < w.heap.size + 3; omega) _
  · have hbe : v.ownBlock = some g := by rw [hv]; rfl
    have gn : ∀ b, b < w2.heap.size → w.heap.size + 3 ≤ b → some b ≠ sl.ownBlock → some b ≠ v.ownBlock := by
      intro b hb1 hb2 hb3 e
      rw [hbe] at e
      cases e
      rcases hat with h1 | h1
      · exact hb3 h1.symm
      · omega
    intro p hp
    rcases List.mem_append.1 hp with hp | hp
    · have h1 := ((h.held p hp).bel h12).there
      refine (h1.keep fun b hb => ?_).mono fun b hb => ⟨hb.1.1, gn b hb.2 hb.1.1 hb.1.2⟩
      rw [heap3 b hb.1.1, hgr.block b (by omega) hb.1.2, Below.heap_alloc _ _ _ hb.2]
    · simp only [List.mem_singleton] at hp
      subst hp
      have h1 := hx.there
      have far : ∀ b, wd.heap.size ≤ b → some b ≠ sl.ownBlock := fun b hb e => by have := (hrow b e.symm).2; omega
      refine (h1.keep fun b hb => ?_).mono fun b hb => ⟨by have := h.sz; omega, gn b hb.2 (by have := h.sz; omega) (far b hb.1)⟩
      rw [heap3 b (by have := h.sz; omega), hgr.block b (by omega) (far b hb.1), Below.heap_alloc _ _ _ hb.2]
set_option maxHeartbeats 8000000 in
set_option maxRecDepth 100000 in
theorem own_any {X : Nat → Prop} (N : Nat) (hN : N ≤ 1000) : ∀ (M : Nat) (t : Tm), t.height ≤ M → Fine N t → ∀ (w : World) (v : Value), Holds w X t v →
    Calls Tryz.prog 37 #[v] w fun e w' => ∃ sl, e = .returned (tmV t.kind t.num t.name sl) ∧ Below w.heap.size w w' ∧ Holds w' (fun b => w.heap.size ≤ b) t (tmV t.kind t.num t.name sl) := by
  intro M
  induction M with
  | zero => intro t ht; have := height_eq t; omega
  | succ M ih =>
    intro t ht hf w v h
    obtain ⟨sl, rfl⟩ := h.form
    obtain ⟨a, c, rfl⟩ := h.args
    have hh := height_eq t
    obtain ⟨hm, hfa, -⟩ := hf.args
    have HH := Lib.hid h; have HF := Lib.hid hfa; clear h hf hfa
    obtain ⟨i0, hi0, hz0, hz1, hz2⟩ := info_parts info_rtermz
    simp only [tmV]
    go_enter Tryz.func37, Tryz.ntmps37
    go_wp2_with fail
    have hm' : t.args.length ≤ maxLen := by unfold maxLen; omega
    go_loopg [4] t.args.length (fun g x wr => ∃ (i : Nat) (S : List (Tm × Value)) (sl : Value), g = t.args.length - i ∧ i ≤ t.args.length ∧ x = .int .i64 i ∧ Hid (S.map (·.1) = t.args.take i) ∧ Hid (OwnI w t (.slice a t.args.length c) S sl wr))
    case atStart =>
      refine ⟨0, [], .slice none 0 0, rfl, by omega, rfl, Lib.hid rfl, Lib.hid ⟨(by repeat (first | exact Below.refl _ _ | assumption | apply Below.drew | (refine Below.setCell ?_ (by first | (simp; done) | omega | (simp; omega)) _) | (refine Below.alloc ?_ (by first | (simp; done) | omega | (simp; omega)) _))), by simp, ?_, ?_, ?_, ⟨rfl, .inl ⟨rfl, rfl⟩⟩, fun p hp => by cases hp⟩⟩
      · exact ((Blk.new w _ _).alloc _).alloc _
      · have := (Blk.new (w.alloc (.cells #[.int .i64 t.kind, .int .i64 t.num, .string ⟨t.name.toArray⟩, .slice a t.args.length c] 24)) #[.int .i64 0, .int .i64 0, .string ⟨#[]⟩, .slice none 0 0] 41)
        rw [World.size_alloc] at this
        exact this.alloc _
      · have := (Blk.new ((w.alloc (.cells #[.int .i64 t.kind, .int .i64 t.num, .string ⟨t.name.toArray⟩, .slice a t.args.length c] 24)).alloc (.cells #[.int .i64 0, .int .i64 0, .string ⟨#[]⟩, .slice none 0 0] 41)) #[.int .i64 t.kind, .int .i64 t.num, .string ⟨t.name.toArray⟩, .slice none 0 0] 41)
        rw [World.size_alloc, World.size_alloc] at this
        exact this
    case round =>
      obtain ⟨i, S, sl, hg, hi, rfl, HS, HI⟩ := hrel
      have G := Lib.hid hg; clear hg
      obtain ⟨t0, t1, t2, t3, z0, z1, z2, z3, ltt⟩ := HI.out.b1.fourT
      obtain ⟨s0, s1, s2, s3, y0, y1, y2, y3, lts⟩ := (show Blk wr (w.heap.size + 1 + 1) _ _ from HI.out.b3).fourT
      have hSl : S.length = i := by have := congrArg List.length HS.out; simpa [Nat.min_eq_left hi] using this
      by_cases hlt : i < t.args.length
      · have hlt' : (i : Int) < (t.args.length : Int) := by omega
        have i0' : (0 : Int) ≤ (i : Int) := by omega
        have kw2 : IntKind.i64.wrap ((i : Int) + 1) = (i : Int) + 1 := IntWalk.i64_in _ (by omega)
        obtain ⟨b, slx, rfl, -, c0, c1, c2, c3, hc⟩ := (HH.out.bel HI.out.bel).arg hlt
        obtain ⟨a2, cc2, rfl⟩ := hc.args
        have HC := Lib.hid hc; clear hc
        replace c1 := cellat c1; replace c2 := cellat c2; replace c3 := cellat c3
        have hxh : t.args[i].height ≤ M := by have := heights_mem hlt; omega
        have hxf := HF.out _ (List.getElem_mem hlt)
        have HXF := Lib.hid hxf; clear hxf
        go_upto_region 5 with fail
        have hown' : ∀ W', Below wr.heap.size wr W' → W'.ownsRow (w.heap.size + 3) 41 4 sl S.length (stC S) := fun W' hb => own_below HI.out.row hb
        have HOW := Lib.hid hown'; clear hown'
        go_region_law (first | (refine step_append_lies _ rfl (.tmp 20) (.tmp 27) 39 rfl (w.heap.size + 3) 41 i0 _ 4 56 Tryz.underlying39 hi0 hz0 hz1 hz2 rfl (by decide) sl S.length (stC S) (by simp [Act.eval]) (HOW.out _ (ball (bcall (Below.drew (Below.refl _ _)) hb2) _)) ⟨w2.heap.size, 0, none⟩ 1 1 [.int .i64 t.args[i].kind, .int .i64 t.args[i].num, .string ⟨t.args[i].name.toArray⟩, .slice a3 t.args[i].args.length c3] (by simp [Act.eval]) rfl (four_new _ _ _ _ _ _) (by intro u hu; simp at hu; rcases hu with rfl | rfl | rfl | rfl <;> rfl) (by omega) (by unfold maxLen; omega) (by omega) (by have := hb2.size; have := HI.out.sz; simp at *; omega) _ rfl ?_; intro g cap w3 hown' hgrow hat hltg; obtain ⟨e0, e1⟩ := HI.out.cell3 (bcall (Below.drew (Below.refl _ _)) hb2) hgrow) | (go_simp; go_at_call 37; refine (ih t.args[i] hxh HXF.out _ _ (HC.out.bel (Below.drew (Below.refl _ _)))).mono ?_; rintro e w2 ⟨sly, rfl, hb2, hh2⟩; obtain ⟨a3, c3, rfl⟩ := hh2.args; simp only [tmV]; obtain ⟨f0, f1, f2⟩ := HI.out.cell2 (bcall (Below.drew (Below.refl _ _)) hb2)))
        all_goals
          have hI := HI.out.step (x := t.args[i]) (Below.drew (Below.refl _ _)) (Nat.le_refl _) hb2 hh2 (v := .slice (some ⟨g, 0, none⟩) (S.length + 1) cap) rfl hown' hgrow hat
          rw [hSl] at hI
          have HI' := Lib.hid hI
          clear hI hown' hgrow hat hltg hb2 hh2 f0 f1 f2 e0 e1 HOW
          go_wp2
          go_roundg (t.args.length - (i + 1))
          case measure => have := G.out; omega
          case rel => exact ⟨i + 1, _, _, rfl, hlt, rfl, Lib.hid (by rw [List.map_append, HS.out, List.take_succ_eq_append_getElem hlt]; rfl), HI'⟩
      · have hlt' : ¬ (i : Int) < (t.args.length : Int) := by omega
        have hie : i = t.args.length := by omega
        obtain ⟨oa, oc, rfl⟩ := own_shapeT HI.out.row
        obtain ⟨x0, x1, x2, x3, w0, w1, w2, w3, ltx⟩ := HI.out.b2.fourT
        go_wp2
        (try simp only [Exit.inBlock, Exit.then]); refine bodyPost_ret (res_rowR rfl _ (w.heap.size + 1) rfl _ _ _ _ _ ((((HI.out.b2.store 0 _).store 1 _).store 2 _).store 3 _)) rfl ?_
        have hk : ∀ b, w.heap.size + 3 ≤ b → ((((wr.setCell ⟨w.heap.size + 1, 0, none⟩ (.int .i64 t.kind)).setCell ⟨w.heap.size + 1, 1, none⟩ (.int .i64 t.num)).setCell ⟨w.heap.size + 1, 2, none⟩ (.string ⟨t.name.toArray⟩)).setCell ⟨w.heap.size + 1, 3, none⟩ (.slice oa t.args.length oc)).heap[b]? = wr.heap[b]? := fun b hb => by
          rw [Below.heap_setCell _ _ _ _ (by show b ≠ w.heap.size + 1; omega), Below.heap_setCell _ _ _ _ (by show b ≠ w.heap.size + 1; omega), Below.heap_setCell _ _ _ _ (by show b ≠ w.heap.size + 1; omega), Below.heap_setCell _ _ _ _ (by show b ≠ w.heap.size + 1; omega)]
        refine ⟨_, rfl, ?_, ?_⟩
        · exact Below.setCell (Below.setCell (Below.setCell (Below.setCell HI.out.bel (Nat.le_succ _) _) (Nat.le_succ _) _) (Nat.le_succ _) _) (Nat.le_succ _) _
        · have h1 := held_stack (X := fun b => w.heap.size + 3 ≤ b) HI.out.row (fun b hb => hb) (fun p hp => (HI.out.held p hp).mono fun b hb => hb.1) t.kind t.num t.name
          rw [HS.out, hie, List.take_length, hSl, hie] at h1
          have e : Tm.mk t.kind t.num t.name t.args = t := by cases t; rfl
          rw [e] at h1
          exact (h1.keep hk).mono fun b hb => by show w.heap.size ≤ b; have : w.heap.size + 3 ≤ b := hb; omega
end Go.Proofs.YtcnnobcncklgfaaGreatDoor
namespace Go.Proofs.YtcnnobcncklgfaaGreatDoor
open Go Go.ChangeShapes Go.WideShapes Go.ChangeAt Go.RowKit
set_option linter.unusedVariables false
theorem sizes_take {l : List Tm} {i : Nat} (h : i < l.length) : Tm.sizes (l.take (i + 1)) = Tm.sizes (l.take i) + l[i].size := by
  rw [List.take_succ_eq_append_getElem h, sizes_append]
  simp [Tm.sizes]
theorem sizes_take_le (l : List Tm) (i : Nat) : Tm.sizes (l.take i) ≤ Tm.sizes l := by
  have := sizes_append (l.take i) (l.drop i)
  rw [List.take_append_drop] at this
  omega
set_option maxHeartbeats 4000000 in
theorem rsize_any {X : Nat → Prop} : ∀ (M : Nat) (t : Tm), t.height ≤ M → ∀ (w : World) (v : Value), Holds w X t v → ∀ most : Nat, most ≤ 2000 →
    Calls Tryz.prog 77 #[v, .int .i64 most] w fun e w' => e = .returned (.int .i64 (min t.size (most + 1) : Nat)) ∧ Below w.heap.size w w' := by
  intro M
  induction M with
  | zero => intro t ht; have := height_eq t; omega
  | succ M ih =>
    intro t ht w v h most hmost
    obtain ⟨sl, rfl⟩ := h.form
    obtain ⟨a, c, rfl⟩ := h.args
    have hml := h.len
    have hh := height_eq t
    have hsz := size_eq t
    have HSZ := Lib.hid hsz; clear hsz
    have hn := Blk.new w #[.int .i64 t.kind, .int .i64 t.num, .string ⟨t.name.toArray⟩, .slice a t.args.length c] 41
    have hb0 : Below w.heap.size w (w.alloc (.cells #[.int .i64 t.kind, .int .i64 t.num, .string ⟨t.name.toArray⟩, .slice a t.args.length c] 41)) := Below.alloc (Below.refl _ _) (Nat.le_refl _) _
    have HH := Lib.hid h; clear h
    have kw2 : ∀ i : Nat, i < t.args.length → IntKind.i64.wrap ((i : Int) + 1) = (i : Int) + 1 := fun i hi => IntWalk.i64_in _ (by unfold maxLen at hml; omega)
    have KW := Lib.hid kw2; clear kw2 hml
    simp only [tmV]
    go_enter Tryz.func77, Tryz.ntmps77
    go_wp2_with fail
    go_loopg [5, 6] t.args.length (fun g x y wr => ∃ i n : Nat, g = t.args.length - i ∧ i ≤ t.args.length ∧ y = .int .i64 i ∧ x = .int .i64 (n : Nat) ∧ Hid (n = min (1 + Tm.sizes (t.args.take i)) (most + 1)) ∧ Hid (Below w.heap.size w wr) ∧ Hid (Blk wr w.heap.size #[.int .i64 t.kind, .int .i64 t.num, .string ⟨t.name.toArray⟩, .slice a t.args.length c] 41))
    case atStart => exact ⟨0, 1, rfl, by omega, rfl, rfl, Lib.hid (by simp [Tm.sizes]), Lib.hid hb0, Lib.hid hn⟩
    case round =>
      obtain ⟨i, n, hg, hi, rfl, rfl, HN, HB, HBK⟩ := hrel
      have G := Lib.hid hg; clear hg
      have i0 : (0 : Int) ≤ (i : Int) := by omega
      obtain ⟨t0, t1, t2, t3, z0, z1, z2, z3, ltt⟩ := HBK.out.fourT
      by_cases hlt : i < t.args.length
      · have hlt' : (i : Int) < (t.args.length : Int) := by omega
        by_cases hnm : n ≤ most
        · have hnm' : (n : Int) ≤ (most : Int) := by omega
          have kw3 := KW.out i hlt
          have kw4 : IntKind.i64.wrap ((most : Int) - (n : Int)) = ((most - n : Nat) : Int) := by rw [IntWalk.i64_in _ (by omega)]; omega
          obtain ⟨b, sl, rfl, -, c0, c1, c2, c3, hc⟩ := (HH.out.bel HB.out).arg hlt
          obtain ⟨a2, cc2, rfl⟩ := hc.args
          have HC := Lib.hid hc; clear hc
          have hxh : t.args[i].height ≤ M := by have := heights_mem hlt; omega
          obtain ⟨r, hr⟩ : ∃ r, r = min t.args[i].size (most - n + 1) := ⟨_, rfl⟩
          have kw5 : IntKind.i64.wrap ((n : Int) + (r : Int)) = ((n + r : Nat) : Int) := by rw [IntWalk.i64_in _ (by omega)]; omega
          have HR := Lib.hid hr; clear hr
          replace c1 := cellat c1; replace c2 := cellat c2; replace c3 := cellat c3
          go_wp2_with fail
          refine (ih t.args[i] hxh _ _ HC.out (most - n) (by omega)).mono ?_; rintro e w2 ⟨rfl, hb2⟩
          rw [← HR.out]
          have HB2 := Lib.hid (bcall HB.out hb2)
          have HK2 := Lib.hid (HBK.out.keep hb2)
          go_wp2
          go_roundg (t.args.length - (i + 1))
          case measure => have := G.out; omega
          case rel =>
            refine ⟨i + 1, n + r, rfl, hlt, rfl, rfl, Lib.hid ?_, HB2, HK2⟩
            have e1 := sizes_take hlt
            have e2 := HN.out
            have e3 := HR.out
            omega
        · have hnm' : ¬ (n : Int) ≤ (most : Int) := by omega
          go_wp2
          go_ret
          refine ⟨congrArg (fun x : Nat => Ending.returned (.int .i64 x)) ?_, HB.out⟩
          have e1 := HN.out
          have e2 := sizes_take_le t.args i
          have e3 := HSZ.out
          omega
      · have hlt' : ¬ (i : Int) < (t.args.length : Int) := by omega
        have hie : i = t.args.length := by omega
        go_wp2
        go_ret
        refine ⟨congrArg (fun x : Nat => Ending.returned (.int .i64 x)) ?_, HB.out⟩
        have e1 := HN.out
        rw [hie, List.take_length] at e1
        have e3 := HSZ.out
        omega
set_option maxHeartbeats 4000000 in
theorem rdepth_any {X : Nat → Prop} : ∀ (M : Nat) (t : Tm), t.height ≤ M → ∀ (w : World) (v : Value), Holds w X t v → ∀ most : Nat, most ≤ 2000 →
    Calls Tryz.prog 78 #[v, .int .i64 most] w fun e w' => e = .returned (.int .i64 (min t.height (most + 1) : Nat)) ∧ Below w.heap.size w w' := by
  intro M
  induction M with
  | zero => intro t ht; have := height_eq t; omega
  | succ M ih =>
    intro t ht w v h most hmost
    obtain ⟨sl, rfl⟩ := h.form
    obtain ⟨a, c, rfl⟩ := h.args
    have hml := h.len
    have hh := height_eq t
    have hn := Blk.new w #[.int .i64 t.kind, .int .i64 t.num, .string ⟨t.name.toArray⟩, .slice a t.args.length c] 41
    have hb0 : Below w.heap.size w (w.alloc (.cells #[.int .i64 t.kind, .int .i64 t.num, .string ⟨t.name.toArray⟩, .slice a t.args.length c] 41)) := Below.alloc (Below.refl _ _) (Nat.le_refl _) _
    have HH := Lib.hid h; clear h
    have kw2 : ∀ i : Nat, i < t.args.length → IntKind.i64.wrap ((i : Int) + 1) = (i : Int) + 1 := fun i hi => IntWalk.i64_in _ (by unfold maxLen at hml; omega)
    have KW := Lib.hid kw2; clear kw2 hml
    simp only [tmV]
    by_cases hm0 : most = 0
    · subst hm0
      go_enter Tryz.func78, Tryz.ntmps78
      go_wp2
      go_ret
      refine ⟨?_, hb0⟩
      have e : min t.height (0 + 1) = 1 := by omega
      rw [e]; rfl
    have hm0' : ¬ (most : Int) ≤ 0 := by omega
    have kw1 : IntKind.i64.wrap ((most : Int) - 1) = ((most - 1 : Nat) : Int) := by rw [IntWalk.i64_in _ (by omega)]; omega
    go_enter Tryz.func78, Tryz.ntmps78
    go_wp2_with fail
    go_loopg [5, 6] t.args.length (fun g x y wr => ∃ i n : Nat, g = t.args.length - i ∧ i ≤ t.args.length ∧ y = .int .i64 i ∧ x = .int .i64 (n : Nat) ∧ Hid (n = min (Tm.heights (t.args.take i)) most) ∧ Hid (Below w.heap.size w wr) ∧ Hid (Blk wr w.heap.size #[.int .i64 t.kind, .int .i64 t.num, .string ⟨t.name.toArray⟩, .slice a t.args.length c] 41))
    case atStart => exact ⟨0, 0, rfl, by omega, rfl, rfl, Lib.hid (by simp [Tm.heights]), Lib.hid hb0, Lib.hid hn⟩
    case round =>
      obtain ⟨i, n, hg, hi, rfl, rfl, HN, HB, HBK⟩ := hrel
      have G := Lib.hid hg; clear hg
      have i0 : (0 : Int) ≤ (i : Int) := by omega
      obtain ⟨t0, t1, t2, t3, z0, z1, z2, z3, ltt⟩ := HBK.out.fourT
      by_cases hlt : i < t.args.length
      · have hlt' : (i : Int) < (t.args.length : Int) := by omega
        have kw3 := KW.out i hlt
        obtain ⟨b, sl, rfl, -, c0, c1, c2, c3, hc⟩ := (HH.out.bel HB.out).arg hlt
        obtain ⟨a2, cc2, rfl⟩ := hc.args
        have HC := Lib.hid hc; clear hc
        have hxh : t.args[i].height ≤ M := by have := heights_mem hlt; omega
        obtain ⟨r, hr⟩ : ∃ r, r = min t.args[i].height (most - 1 + 1) := ⟨_, rfl⟩
        have HR := Lib.hid hr; clear hr
        replace c1 := cellat c1; replace c2 := cellat c2; replace c3 := cellat c3
        go_wp2_with fail
        refine (ih t.args[i] hxh _ _ HC.out (most - 1) (by omega)).mono ?_; rintro e w2 ⟨rfl, hb2⟩
        rw [← HR.out]
        have HB2 := Lib.hid (bcall HB.out hb2)
        have HK2 := Lib.hid (HBK.out.keep hb2)
        by_cases hrn : n < r
        · have hrn' : (n : Int) < (r : Int) := by omega
          go_wp2
          go_roundg (t.args.length - (i + 1))
          case measure => have := G.out; omega
          case rel =>
            refine ⟨i + 1, r, rfl, hlt, rfl, rfl, Lib.hid ?_, HB2, HK2⟩
            have e1 := heights_take hlt
            have e2 := HN.out
            have e3 := HR.out
            omega
        · have hrn' : ¬ (n : Int) < (r : Int) := by omega
          go_wp2
          go_roundg (t.args.length - (i + 1))
          case measure => have := G.out; omega
          case rel =>
            refine ⟨i + 1, n, rfl, hlt, rfl, rfl, Lib.hid ?_, HB2, HK2⟩
            have e1 := heights_take hlt
            have e2 := HN.out
            have e3 := HR.out
            omega
      · have hlt' : ¬ (i : Int) < (t.args.length : Int) := by omega
        have hie : i = t.args.length := by omega
        have hn2 : n ≤ 2000 := by have := HN.out; omega
        have kw6 : IntKind.i64.wrap ((n : Int) + 1) = ((n + 1 : Nat) : Int) := by rw [IntWalk.i64_in _ (by omega)]; omega
        go_wp2
        go_ret
        refine ⟨congrArg (fun x : Nat => Ending.returned (.int .i64 x)) ?_, HB.out⟩
        have e1 := HN.out
        rw [hie, List.take_length] at e1
        omega
end Go.Proofs.YtcnnobcncklgfaaGreatDoor
namespace Go.Proofs.YtcnnobcncklgfaaGreatDoor
open Go Go.ChangeShapes Go.WideShapes Go.ChangeAt Go.RowKit
set_option linter.unusedVariables false
theorem allsG_take {l : List Tm} {i : Nat} (h : i < l.length) : Tm.allsG (l.take (i + 1)) = (Tm.allsG (l.take i) && l[i].allG) := by
  rw [List.take_succ_eq_append_getElem h, allsG_append]
  simp [Tm.allsG]
theorem allsG_bad {l : List Tm} {i : Nat} (h : i < l.length) (hb : l[i].allG = false) : Tm.allsG l = false := by
  have h1 := allsG_take h
  have h2 := allsG_append (l.take (i + 1)) (l.drop (i + 1))
  rw [List.take_append_drop] at h2
  rw [h2, h1, hb]; simp
theorem gname_far {s : List UInt8} (h : 64 < s.length) : gname s = false := by
  unfold gname
  rw [show decide (s.length ≤ 64) = false from decide_eq_false (by omega), Bool.and_false]
set_option maxHeartbeats 8000000 in
set_option maxRecDepth 100000 in
theorem rformed_any {X : Nat → Prop} (N : Nat) (hN : N ≤ 1000) : ∀ (M : Nat) (t : Tm), t.height ≤ M → Fine N t → ∀ (w : World) (v : Value), Holds w X t v →
    Calls Tryz.prog 79 #[v] w fun e w' => e = .returned (.bool t.allG) ∧ Below w.heap.size w w' := by
  intro M
  induction M with
  | zero => intro t ht; have := height_eq t; omega
  | succ M ih =>
    intro t ht hf w v h
    obtain ⟨sl, rfl⟩ := h.form
    obtain ⟨a, c, rfl⟩ := h.args
    have hh := height_eq t
    have hag := allG_eq t
    obtain ⟨hm, hfa, hnl⟩ := hf.args
    have HH := Lib.hid h; have HF := Lib.hid hfa; clear h hf hfa
    have hn := Blk.new w #[.int .i64 t.kind, .int .i64 t.num, .string ⟨t.name.toArray⟩, .slice a t.args.length c] 41
    have hb0 : Below w.heap.size w (w.alloc (.cells #[.int .i64 t.kind, .int .i64 t.num, .string ⟨t.name.toArray⟩, .slice a t.args.length c] 41)) := Below.alloc (Below.refl _ _) (Nat.le_refl _) _
    have hld : Holds (w.alloc (.cells #[.int .i64 t.kind, .int .i64 t.num, .string ⟨t.name.toArray⟩, .slice a t.args.length c] 41)) X t _ := HH.out.bel hb0
    obtain ⟨k, hk⟩ : ∃ k, k = t.kind := ⟨_, rfl⟩
    obtain ⟨n, hnum⟩ : ∃ n, n = t.num := ⟨_, rfl⟩
    obtain ⟨s, hs⟩ : ∃ s, s = t.name := ⟨_, rfl⟩
    simp only [tmV]
    rw [← hk, ← hnum, ← hs] at hn hb0 hag ⊢
    rw [← hs] at hnl
    have HLD := Lib.hid hld; clear hld
    have HK := Lib.hid hk; have HNU := Lib.hid hnum; have HS := Lib.hid hs; clear hk hnum hs
    have hnil : t.args.length = 0 → Tm.allsG t.args = true := fun h => by rw [List.eq_nil_of_length_eq_zero h]; rfl
    have HNIL := Lib.hid hnil; clear hnil
    by_cases h0 : k = 0
    · subst h0
      have D := Lib.hid (show t.allG = ((decide (0 ≤ n) && decide (n ≤ 2147483647) && s.isEmpty && decide (t.args.length = 0)) && Tm.allsG t.args) by rw [hag]; simp [goneP])
      clear hag
      by_cases h1 : 0 ≤ n
      · by_cases h2 : n < 2147483648
        · have h2' : decide (n ≤ 2147483647) = true := decide_eq_true (by omega)
          cases s with
          | nil =>
            by_cases h3 : t.args.length = 0
            · have h3' : ((t.args.length : Int) == 0) = true := by simp [h3]
              have E := Lib.hid (show t.allG = true by rw [D.out, HNIL.out h3, decide_eq_true h1, h2', decide_eq_true h3]; rfl)
              have H3 := Lib.hid h3; clear h3
              have H2 := Lib.hid h2'; clear h2'
              go_enter Tryz.func79, Tryz.ntmps79
              go_wp2
              go_ret
              exact ⟨by rw [E.out]; rfl, hb0⟩
            · have h3' : ((t.args.length : Int) == 0) = false := by simpa using h3
              have E := Lib.hid (show t.allG = false by rw [D.out, decide_eq_false h3]; simp)
              have H2 := Lib.hid h2'; clear h2'
              go_enter Tryz.func79, Tryz.ntmps79
              go_wp2
              go_ret
              exact ⟨by rw [E.out]; rfl, hb0⟩
          | cons x s =>
            have E := Lib.hid (show t.allG = false by rw [D.out]; simp)
            have H2 := Lib.hid h2'; clear h2'
            go_enter Tryz.func79, Tryz.ntmps79
            go_wp2
            go_ret
            exact ⟨by rw [E.out]; rfl, hb0⟩
        · have E := Lib.hid (show t.allG = false by rw [D.out, decide_eq_false (show ¬ n ≤ 2147483647 by omega)]; simp)
          go_enter Tryz.func79, Tryz.ntmps79
          go_wp2
          go_ret
          exact ⟨by rw [E.out]; rfl, hb0⟩
      · have E := Lib.hid (show t.allG = false by rw [D.out, decide_eq_false h1]; simp)
        go_enter Tryz.func79, Tryz.ntmps79
        go_wp2
        go_ret
        exact ⟨by rw [E.out]; rfl, hb0⟩
    by_cases h1 : k = 1
    · subst h1
      have D := Lib.hid (show t.allG = ((s.isEmpty && decide (t.args.length = 0)) && Tm.allsG t.args) by rw [hag]; simp [goneP])
      clear hag
      cases s with
      | nil =>
        by_cases h3 : t.args.length = 0
        · have h3' : ((t.args.length : Int) == 0) = true := by simp [h3]
          have E := Lib.hid (show t.allG = true by rw [D.out, HNIL.out h3, decide_eq_true h3]; rfl)
          have H3 := Lib.hid h3; clear h3
          go_enter Tryz.func79, Tryz.ntmps79
          go_wp2
          go_ret
          exact ⟨by rw [E.out]; rfl, hb0⟩
        · have h3' : ((t.args.length : Int) == 0) = false := by simpa using h3
          have E := Lib.hid (show t.allG = false by rw [D.out, decide_eq_false h3]; simp)
          go_enter Tryz.func79, Tryz.ntmps79
          go_wp2
          go_ret
          exact ⟨by rw [E.out]; rfl, hb0⟩
      | cons x s =>
        have E := Lib.hid (show t.allG = false by rw [D.out]; simp)
        go_enter Tryz.func79, Tryz.ntmps79
        go_wp2
        go_ret
        exact ⟨by rw [E.out]; rfl, hb0⟩
    have h0' : (k == 0) = false := by simpa using h0
    have h1' : (k == 1) = false := by simpa using h1
    by_cases h2 : k = 2
    · subst h2
      have D := Lib.hid (show t.allG = ((decide (n = 0) && gname s && decide (t.args.length ≤ 8)) && Tm.allsG t.args) by rw [hag]; simp [goneP])
      clear hag h0 h1 h0' h1'
      by_cases h3 : n = 0
      · subst h3
        by_cases h4 : 64 < s.length
        · have h4' : (64 : Int) < (s.length : Int) := by omega
          have E := Lib.hid (show t.allG = false by rw [D.out, gname_far h4]; simp)
          go_enter Tryz.func79, Tryz.ntmps79
          go_wp2
          go_ret
          exact ⟨by rw [E.out]; rfl, hb0⟩
        by_cases h5 : 8 < t.args.length
        · have h4' : ¬ (64 : Int) < (s.length : Int) := by omega
          have h5' : (8 : Int) < (t.args.length : Int) := by omega
          have E := Lib.hid (show t.allG = false by rw [D.out, decide_eq_false (show ¬ t.args.length ≤ 8 by omega)]; simp)
          go_enter Tryz.func79, Tryz.ntmps79
          go_wp2
          go_ret
          exact ⟨by rw [E.out]; rfl, hb0⟩
        have h5' : ¬ (8 : Int) < (t.args.length : Int) := by omega
        have D2 := Lib.hid (show t.allG = (s.all gch && Tm.allsG t.args) by rw [D.out, decide_eq_true (show t.args.length ≤ 8 by omega)]; unfold gname; rw [decide_eq_true (show s.length ≤ 64 by omega)]; simp)
        obtain ⟨nb, hnb⟩ : ∃ nb : ByteArray, nb = ⟨s.toArray⟩ := ⟨_, rfl⟩
        rw [← hnb] at hn hb0 ⊢
        have hsz : nb.size = s.length := by rw [hnb]; rfl
        have hix : ∀ (i : Nat) (h : i < nb.size) (h' : i < s.length), nb[i] = s[i]'h' := by subst hnb; intro i h h'; rfl
        have h4' : ¬ (64 : Int) < (nb.size : Int) := by omega
        have HSZ := Lib.hid hsz; have HIX := Lib.hid hix; have HNB := Lib.hid hnb; clear hsz hix hnb D
        go_enter Tryz.func79, Tryz.ntmps79
        go_wp2_with fail
        go_loopg [3] nb.size (fun g x wr => ∃ i : Nat, g = nb.size - i ∧ i ≤ nb.size ∧ x = .int .i64 i ∧ Hid ((s.take i).all gch = true) ∧ wr = (w.alloc (.cells #[.int .i64 2, .int .i64 0, .string nb, .slice a t.args.length c] 41)))
        case atStart => exact ⟨0, rfl, by omega, rfl, Lib.hid (by simp), rfl⟩
        case round =>
          obtain ⟨i, hg, hi, rfl, HA, rfl⟩ := hrel
          have G := Lib.hid hg; clear hg
          have i0 : (0 : Int) ≤ (i : Int) := by omega
          by_cases hlt : i < nb.size
          · have hlt' : (i : Int) < (nb.size : Int) := by omega
            have kw : IntKind.i64.wrap ((i : Int) + 1) = (i : Int) + 1 := IntWalk.i64_in _ (by omega)
            have hls : i < s.length := by have := HSZ.out; omega
            have hgc : gch nb[i] = !((decide ((nb[i].toNat : Int) < 32) || decide (126 < (nb[i].toNat : Int))) && (nb[i].toNat : Int) != 9 && (nb[i].toNat : Int) != 10) := gch_int nb[i]
            have hset : (s.take (i + 1)).all gch = ((s.take i).all gch && gch nb[i]) := by
              rw [HIX.out i hlt hls, List.take_succ_eq_append_getElem hls, List.all_append]; simp
            have hbad : gch nb[i] = false → s.all gch = false := fun hb => by
              rw [List.all_eq_false]
              exact ⟨s[i], List.getElem_mem hls, by rw [← HIX.out i hlt hls, hb]; simp⟩
            have HG := Lib.hid hgc; have HST := Lib.hid hset; have HBD := Lib.hid hbad; clear hgc hset hbad
            go_wp2
            all_goals first
              | (go_roundg (nb.size - (i + 1))
                 case measure => have := G.out; omega
                 case rel => exact ⟨i + 1, rfl, hlt, rfl, Lib.hid (by rw [HST.out, HA.out, HG.out]; simp_all <;> omega), rfl⟩)
              | (go_ret
                 exact ⟨by rw [D2.out, HBD.out (by rw [HG.out]; simp_all <;> omega)]; rfl, hb0⟩)
          · have hlt' : ¬ (i : Int) < (nb.size : Int) := by omega
            have hall : s.all gch = true := by
              have h1 := HA.out
              rw [List.take_of_length_le (by have := HSZ.out; omega)] at h1
              exact h1
            have D3 := Lib.hid (show t.allG = Tm.allsG t.args by rw [D2.out, hall, Bool.true_and])
            clear hall D2
            go_wp2_with fail
            go_loopg [5] t.args.length (fun g x wr => ∃ i : Nat, g = t.args.length - i ∧ i ≤ t.args.length ∧ x = .int .i64 i ∧ Hid (Tm.allsG (t.args.take i) = true) ∧ Hid (Below w.heap.size w wr) ∧ Hid (Blk wr w.heap.size #[.int .i64 2, .int .i64 0, .string nb, .slice a t.args.length c] 41))
            case atStart => exact ⟨0, rfl, by omega, rfl, Lib.hid rfl, Lib.hid hb0, Lib.hid hn⟩
            case round =>
              clear i0 hlt hlt' hi HA G
              obtain ⟨i, hg, hi, rfl, HA, HB, HBK⟩ := hrel
              have G := Lib.hid hg; clear hg
              have i0 : (0 : Int) ≤ (i : Int) := by omega
              obtain ⟨t0, t1, t2, t3, z0, z1, z2, z3, ltt⟩ := HBK.out.fourT
              by_cases hlt : i < t.args.length
              · have hlt' : (i : Int) < (t.args.length : Int) := by omega
                have kw : IntKind.i64.wrap ((i : Int) + 1) = (i : Int) + 1 := IntWalk.i64_in _ (by omega)
                obtain ⟨b, sl, rfl, -, c0, c1, c2, c3, hc⟩ := (HH.out.bel HB.out).arg hlt
                obtain ⟨a2, cc2, rfl⟩ := hc.args
                have HC := Lib.hid hc; clear hc
                have hxh : t.args[i].height ≤ M := by have := heights_mem hlt; omega
                have HXF := Lib.hid (HF.out _ (List.getElem_mem hlt))
                replace c1 := cellat c1; replace c2 := cellat c2; replace c3 := cellat c3
                go_wp2_with fail
                refine (ih t.args[i] hxh HXF.out _ _ HC.out).mono ?_; rintro e w2 ⟨rfl, hb2⟩
                have HB2 := Lib.hid (bcall HB.out hb2)
                have HK2 := Lib.hid (HBK.out.keep hb2)
                cases hx : t.args[i].allG with
                | true =>
                  have HX := Lib.hid hx; clear hx
                  go_wp2
                  go_roundg (t.args.length - (i + 1))
                  case measure => have := G.out; omega
                  case rel => exact ⟨i + 1, rfl, hlt, rfl, Lib.hid (by rw [allsG_take hlt, HA.out, HX.out]; rfl), HB2, HK2⟩
                | false =>
                  have HX := Lib.hid hx; clear hx
                  go_wp2
                  go_ret
                  exact ⟨by rw [D3.out, allsG_bad hlt HX.out]; rfl, HB2.out⟩
              · have hlt' : ¬ (i : Int) < (t.args.length : Int) := by omega
                have hie : i = t.args.length := by omega
                go_wp2
                go_ret
                have h1 := HA.out
                rw [hie, List.take_length] at h1
                exact ⟨by rw [D3.out, h1]; rfl, HB.out⟩
      · have h3' : (n == 0) = false := by simpa using h3
        have h3'' : (n != 0) = true := by simpa using h3
        have E := Lib.hid (show t.allG = false by rw [D.out, decide_eq_false h3]; simp)
        go_enter Tryz.func79, Tryz.ntmps79
        go_wp2
        go_ret
        exact ⟨by rw [E.out]; rfl, hb0⟩
    · have h2' : (k == 2) = false := by simpa using h2
      have E := Lib.hid (show t.allG = false by rw [hag]; simp [goneP, h0, h1, h2])
      go_enter Tryz.func79, Tryz.ntmps79
      go_wp2
      go_ret
      exact ⟨by rw [E.out]; rfl, hb0⟩
set_option maxHeartbeats 4000000 in
theorem rgood_any {X : Nat → Prop} (N : Nat) (hN : N ≤ 1000) (t : Tm) (hf : Fine N t) (w : World) (v : Value) (h : Holds w X t v) :
    Calls Tryz.prog 52 #[v] w fun e w' => e = .returned (.bool t.good) ∧ Below w.heap.size w w' := by
  obtain ⟨sl, rfl⟩ := h.form
  obtain ⟨a, c, rfl⟩ := h.args
  have HH := Lib.hid h; have HF := Lib.hid hf; clear h hf
  have hn := Blk.new w #[.int .i64 t.kind, .int .i64 t.num, .string ⟨t.name.toArray⟩, .slice a t.args.length c] 41
  have hb0 : Below w.heap.size w (w.alloc (.cells #[.int .i64 t.kind, .int .i64 t.num, .string ⟨t.name.toArray⟩, .slice a t.args.length c] 41)) := Below.alloc (Below.refl _ _) (Nat.le_refl _) _
  simp only [tmV]
  by_cases h1 : t.size ≤ 2000
  · have h1' : ((min t.size (2000 + 1) : Nat) : Int) ≤ 2000 := by omega
    by_cases h2 : t.height ≤ 64
    · have h2' : ((min t.height (64 + 1) : Nat) : Int) ≤ 64 := by omega
      go_enter Tryz.func52, Tryz.ntmps52
      go_wp2_with fail
      refine (rsize_any t.height t (Nat.le_refl _) _ _ (HH.out.bel hb0) 2000 (by omega)).mono ?_; rintro e w1 ⟨rfl, hb1⟩
      obtain ⟨t0, t1, t2, t3, z0, z1, z2, z3, ltt⟩ := (hn.keep hb1).fourT
      have hb1' := bcall hb0 hb1
      go_wp2_with fail
      refine (rdepth_any t.height t (Nat.le_refl _) _ _ (HH.out.bel hb1') 64 (by omega)).mono ?_; rintro e w2 ⟨rfl, hb2⟩
      obtain ⟨t0, t1, t2, t3, z0, z1, z2, z3, ltt⟩ := ((hn.keep hb1).keep hb2).fourT
      have hb2' := bcall hb1' hb2
      go_wp2_with fail
      refine (rformed_any N hN t.height t (Nat.le_refl _) HF.out _ _ (HH.out.bel hb2')).mono ?_; rintro e w3 ⟨rfl, hb3⟩
      go_wp2
      go_ret
      exact ⟨by simp [Tm.good, h1, h2], bcall hb2' hb3⟩
    · have h2' : ¬ ((min t.height (64 + 1) : Nat) : Int) ≤ 64 := by omega
      go_enter Tryz.func52, Tryz.ntmps52
      go_wp2_with fail
      refine (rsize_any t.height t (Nat.le_refl _) _ _ (HH.out.bel hb0) 2000 (by omega)).mono ?_; rintro e w1 ⟨rfl, hb1⟩
      obtain ⟨t0, t1, t2, t3, z0, z1, z2, z3, ltt⟩ := (hn.keep hb1).fourT
      have hb1' := bcall hb0 hb1
      go_wp2_with fail
      refine (rdepth_any t.height t (Nat.le_refl _) _ _ (HH.out.bel hb1') 64 (by omega)).mono ?_; rintro e w2 ⟨rfl, hb2⟩
      go_wp2
      go_ret
      exact ⟨by simp [Tm.good, h2], bcall hb1' hb2⟩
  · have h1' : ¬ ((min t.size (2000 + 1) : Nat) : Int) ≤ 2000 := by omega
    go_enter Tryz.func52, Tryz.ntmps52
    go_wp2_with fail
    refine (rsize_any t.height t (Nat.le_refl _) _ _ (HH.out.bel hb0) 2000 (by omega)).mono ?_; rintro e w1 ⟨rfl, hb1⟩
    go_wp2
    go_ret
    exact ⟨by simp [Tm.good, h1], bcall hb0 hb1⟩
end Go.Proofs.YtcnnobcncklgfaaGreatDoor
