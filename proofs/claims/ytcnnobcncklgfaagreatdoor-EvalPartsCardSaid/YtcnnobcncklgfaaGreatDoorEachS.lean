/- The contracts of term.each at Size's counter, term.Size, Depth, Good. -/
import Derived.Test.YtcnnobcncklgfaaGreatDoorEachG
namespace Go.Proofs.YtcnnobcncklgfaaGreatDoor
open Go Go.ChangeShapes Go.WideShapes Go.ChangeAt Go.RowKit
set_option linter.unusedVariables false
theorem own_but {w w' : World} {base b : Nat} {e : TypeId} {size : Nat} {v : Value} {n : Nat} {xs : List Value} (h : w.ownsRow base e size v n xs) (hb : But b w w') (hlt : b < base) : w'.ownsRow base e size v n xs := by
  obtain ⟨h1, h2 | ⟨g, cap, cur, rfl, h3, h4, h5⟩⟩ := h
  · exact ⟨h1, .inl h2⟩
  · exact ⟨h1, .inr ⟨g, cap, cur, rfl, h3, (hb.block g (Array.getElem?_eq_some_iff.1 h4).1 (by omega)).trans h4, h5⟩⟩
set_option maxRecDepth 100000 in
set_option maxHeartbeats 4000000 in
theorem size1_any (k n : Int) (s : List UInt8) (a : Option Addr) (len c : Nat) (B m : Nat) (hm : m ≤ 1000000000) (w : World) (hB : Blk w B #[.int .i64 m] 3) :
    Calls Tryz.prog 72 #[tmV k n s (.slice a len c), .pointer (some ⟨B, 0, none⟩)] w fun e w' => e = .returned (.bool (decide (m + 1 ≤ 2000))) ∧ Blk w' B #[.int .i64 (m + 1 : Nat)] 3 ∧ But B w w' := by
  simp only [tmV]
  obtain ⟨c0, f0, hbl⟩ := hB.one
  have kw : IntKind.i64.wrap ((m : Int) + 1) = ((m + 1 : Nat) : Int) := by rw [IntWalk.i64_in _ (by omega)]; omega
  have hne : B ≠ w.heap.size := by omega
  go_enter Tryz.func72, Tryz.ntmps72
  go_wp2
  go_ret
  exact ⟨by simp; try omega, (hB.store 0 _).alloc _, ((But.refl _ _).set _ _).alloc _⟩
set_option maxRecDepth 100000 in
set_option maxHeartbeats 10000000 in
theorem each_size (B Bn N : Nat) (hN : N ≤ 1000) (t : Tm) (hf : Fine N t) (w : World) (hBB : B ≤ Bn) (hBn : Blk w Bn #[.int .i64 (0 : Nat)] 3) (v : Value) (h : Holds w (· < B) t v) :
    Calls Tryz.prog 47 #[v, .func (.func 72) #[] #[.pointer (some ⟨Bn, 0, none⟩)]] w fun e w' => (∃ b, e = .returned (.bool b)) ∧ Blk w' Bn #[.int .i64 (min t.size 2001 : Nat)] 3 ∧ Below B w w' := by
  obtain ⟨sl, rfl⟩ := h.form
  obtain ⟨a, c, rfl⟩ := h.args
  have HH := Lib.hid h; clear h
  have hBnl := hBn.lt
  have hBw : B ≤ w.heap.size := by omega
  have HBN := Lib.hid hBn; clear hBn
  have HF := Lib.hid hf; clear hf
  obtain ⟨i0, hi0, hz0, hz1, hz2⟩ := info_parts info_termz
  simp only [tmV]
  go_enter Tryz.func47, Tryz.ntmps47
  go_wp2_with fail
  go_loopg [5] t.size (fun g v wr => ∃ (S : List (Tm × Value)) (m : Nat), g = Tm.sizes (S.map (·.1)) ∧ Hid (m + g = t.size) ∧ m ≤ 2000 ∧ Hid (S.length ≤ 1 + 1000 * m) ∧ Blk wr Bn #[.int .i64 (m : Nat)] 3 ∧ wr.ownsRow (w.heap.size + 1) 24 4 v S.length (stC S) ∧ Hid (StH wr B N S) ∧ Hid (Below B w wr))
  case atStart =>
    refine ⟨[(t, .slice a t.args.length c)], 0, by simp [Tm.sizes], Lib.hid (by simp), by omega, Lib.hid (by simp), (HBN.out.alloc _).alloc _, ?_, Lib.hid ?_, Lib.hid (Below.alloc (Below.alloc (Below.refl _ _) hBw _) (by simp; omega) _)⟩
    · have := own_one (w.alloc (.cells #[.int .i64 t.kind, .int .i64 t.num, .string ⟨t.name.toArray⟩, .slice a t.args.length c] 24)) (.int .i64 t.kind) (.int .i64 t.num) (.string ⟨t.name.toArray⟩) (.slice a t.args.length c) 24 (w.heap.size + 1) (by simp)
      simpa [stC, stV] using this
    · intro p hp
      simp only [List.mem_singleton] at hp
      subst hp
      exact ⟨HH.out.keep fun b hb => by rw [Below.heap_alloc _ _ _ (by simp; omega), Below.heap_alloc _ _ _ (by omega)], HF.out⟩
  case round =>
    obtain ⟨S, m, hg, HM, hm2, HSL, hblk, hown, HS, HB⟩ := hrel
    rename World => wo
    have G := Lib.hid hg; clear hg
    rcases List.eq_nil_or_concat S with rfl | ⟨R, p, rfl⟩
    · rcases hown.2 with ⟨rfl, _⟩ | ⟨g, cap, cur, rfl, _⟩
      · go_wp2
        go_ret
        exact ⟨⟨_, rfl⟩, by rw [show min t.size 2001 = m by have h1 := HM.out; have h2 := G.out; simp [Tm.sizes] at h2; omega]; exact hblk, HB.out⟩
      · simp only [List.length_nil]
        go_wp2
        go_ret
        exact ⟨⟨_, rfl⟩, by rw [show min t.size 2001 = m by have h1 := HM.out; have h2 := G.out; simp [Tm.sizes] at h2; omega]; exact hblk, HB.out⟩
    · simp only [List.concat_eq_append, List.length_append, List.length_cons, List.length_nil, Nat.zero_add] at hown HS HSL G ⊢
      obtain ⟨g, cap, rfl⟩ := ownsRow_succ hown
      have ct0 := (hown.cellAt (R.length * 4) (by omega)).trans (stC_top R p 0)
      have ct1 := (hown.cellAt (R.length * 4 + 1) (by omega)).trans (stC_top R p 1)
      have ct2 := (hown.cellAt (R.length * 4 + 2) (by omega)).trans (stC_top R p 2)
      have ct3 := (hown.cellAt (R.length * 4 + 3) (by omega)).trans (stC_top R p 3)
      obtain ⟨hp, hpf⟩ := HS.out p (by simp)
      obtain ⟨pt, psl⟩ := p
      obtain ⟨pa, pc, hpe⟩ := hp.args
      dsimp only at hpe
      subst hpe
      simp only [stV, List.getElem?_cons_zero, List.getElem?_cons_succ] at ct0 ct1 ct2 ct3
      have hbase := (hown.lt g rfl)
      have hlen : R.length < 3000000 := by have := HSL.out; omega
      have hcap : R.length + 1 ≤ cap := by
        rcases hown.2 with ⟨h, _⟩ | ⟨g', cap', cur, h, _, _, h3, _⟩
        · cases h
        · cases h; exact h3
      have hwr : IntKind.i64.wrap ((R.length : Int) + 1 - 1) = (R.length : Int) := by rw [IntWalk.i64_in _ (by omega)]; omega
      have hpos : 0 < (R.length : Int) + 1 := by omega
      have hix1 : (R.length : Int) < (R.length : Int) + 1 := by omega
      have hix2 : (R.length : Int) < ((R.length + 1 : Nat) : Int) := by omega
      have hix3 : R.length < R.length + 1 := by omega
      have hix0 : (0 : Int) ≤ (R.length : Int) := by omega
      have hix4 : (R.length : Int) ≤ (cap : Int) := by omega
      have HO := Lib.hid hown; have HP := Lib.hid hp; have HPF := Lib.hid hpf; clear hown hp hpf
      go_wp2_with fail
      refine (size1_any pt.kind pt.num pt.name pa pt.args.length pc Bn m (by omega) _ (hblk.alloc _)).mono ?_; rintro e w1 ⟨rfl, hblk1, hbut⟩
      have hws := HB.out.size
      have hb2 : Below B w w1 := But.below (Below.alloc HB.out (by omega) _) hbut hBB (by simp; omega)
      have hpop : w1.ownsRow (w.heap.size + 1) 24 4 (.slice (some ⟨g, 0, none⟩) R.length cap) R.length (stC R) := by
        have h1 := own_but (HO.out.alloc _) hbut (by omega)
        rw [stC_snoc] at h1
        exact ownsRow_pop (stC_len R) h1
      obtain ⟨t0, t1, t2, t3, z0, z1, z2, z3, ltt⟩ := ((Blk.new wo #[.int .i64 pt.kind, .int .i64 pt.num, .string ⟨pt.name.toArray⟩, .slice pa pt.args.length pc] 24).but hbut (by omega)).fourT
      have hbx := ((Blk.new wo #[.int .i64 pt.kind, .int .i64 pt.num, .string ⟨pt.name.toArray⟩, .slice pa pt.args.length pc] 24).but hbut (by omega))
      have HPOP := Lib.hid hpop; have HB2 := Lib.hid hb2; have HBX := Lib.hid hbx; have HBUT := Lib.hid hbut; clear hpop hb2 hbx hbut
      have hs0 := G.out
      simp only [List.map_append, sizes_append, List.map_singleton, Tm.sizes, size_eq pt] at hs0
      have HS0 := Lib.hid hs0; clear hs0
      by_cases hgo : m + 1 ≤ 2000
      case neg =>
        rw [decide_eq_false hgo]
        go_wp2
        go_ret
        exact ⟨⟨_, rfl⟩, by rw [show min t.size 2001 = m + 1 by have h1 := HM.out; have h2 := HS0.out; omega]; exact hblk1, HB2.out⟩
      case pos =>
        rw [decide_eq_true hgo]
        have hm := HPF.out.args.1
        have kw1 : IntKind.i64.wrap ((pt.args.length : Int) - 1) = (pt.args.length : Int) - 1 := IntWalk.i64_in _ (by omega)
        obtain ⟨prs, hpm, hprs⟩ := HP.out.prs
        have hpl : prs.length = pt.args.length := by rw [← hpm]; simp
        have HPR := Lib.hid hprs; have HPM := Lib.hid hpm; clear hprs hpm
        go_wp2_with fail
        go_loopg [5, 7] pt.args.length (fun gi v x wr2 => gi ≤ pt.args.length ∧ x = .int .i64 ((gi : Int) - 1) ∧ wr2.ownsRow (w.heap.size + 1) 24 4 v (R ++ (prs.drop gi).reverse).length (stC (R ++ (prs.drop gi).reverse)) ∧ Hid (v.ownBlock ≠ some wo.heap.size) ∧ Hid (Blk wr2 Bn #[.int .i64 (m + 1 : Nat)] 3) ∧ Hid (Below B w wr2) ∧
          Hid (Blk wr2 wo.heap.size #[.int .i64 pt.kind, .int .i64 pt.num, .string ⟨pt.name.toArray⟩, .slice pa pt.args.length pc] 24))
        case atStart =>
          refine ⟨Nat.le_refl _, rfl, ?_, Lib.hid (fun e => by simp [Value.ownBlock] at e; omega), Lib.hid hblk1, HB2, HBX⟩
          rw [← hpl, List.drop_length]
          simpa using HPOP.out
        case round =>
          obtain ⟨hgi, rfl, hown, HNE, HBN3, HB3, HBX3⟩ := hrel
          cases gk with
          | zero =>
            have e0 : (((0 : Nat) : Int) - 1) = -1 := rfl
            rw [e0]
            rw [List.drop_zero] at hown
            have HOW := Lib.hid hown; clear hown
            go_wp2
            go_roundg (Tm.sizes ((R ++ prs.reverse).map (·.1)))
            case measure =>
              have h1 := G.out
              simp only [List.map_append, sizes_append, List.map_reverse, sizes_reverse, HPM.out, List.map_singleton, Tm.sizes, size_eq pt] at h1 ⊢
              omega
            case rel =>
              refine ⟨R ++ prs.reverse, m + 1, rfl, Lib.hid ?_, hgo, Lib.hid ?_, HBN3.out, HOW.out, Lib.hid ?_, HB3⟩
              · have h1 := HS0.out
                have h2 := HM.out
                simp only [List.map_append, sizes_append, List.map_reverse, sizes_reverse, HPM.out]
                omega
              · have := HSL.out
                simp only [List.length_append, List.length_reverse]
                omega
              · have hk : ∀ b, b < B → wr.heap[b]? = wo.heap[b]? := fun b hb => (HB3.out.block b hb).trans (HB.out.block b hb).symm
                intro q hq
                rcases List.mem_append.1 hq with hq | hq
                · have := HS.out q (List.mem_append_left _ hq)
                  exact ⟨this.1.keep hk, this.2⟩
                · rw [List.mem_reverse] at hq
                  obtain ⟨j, hj, rfl⟩ := List.getElem_of_mem hq
                  obtain ⟨b, -, -, -, -, -, -, hh⟩ := HPR.out j hj
                  refine ⟨hh.keep hk, HPF.out.args.2.1 _ ?_⟩
                  rw [← HPM.out]
                  exact List.mem_map_of_mem (List.getElem_mem hj)
          | succ i =>
            have e1 : (((i + 1 : Nat) : Int) - 1) = (i : Int) := by omega
            rw [e1]
            have hi : i < prs.length := by omega
            obtain ⟨b, rfl, hbl, c0, c1, c2, c3, hh⟩ := HPR.out i hi
            have hk : ∀ (o : Nat) (u : Value), wo.cell? (b.add o) = some u → wr.cell? (b.add o) = some u := fun o u hu => (World.cell?_of_block (by rw [add_block]; exact (HB3.out.block _ hbl).trans (HB.out.block _ hbl).symm)).trans hu
            replace c0 := hk _ _ c0; replace c1 := hk _ _ c1; replace c2 := hk _ _ c2; replace c3 := hk _ _ c3
            obtain ⟨a2, cc2, he2⟩ := hh.args
            rw [he2] at c3
            replace c1 := cellat c1; replace c2 := cellat c2; replace c3 := cellat c3
            have HH2 := Lib.hid hh; have HE2 := Lib.hid he2; clear hh he2
            obtain ⟨x0, x1, x2, x3, y0, y1, y2, y3, ltx⟩ := HBX3.out.fourT
            have hdrop : R ++ (prs.drop i).reverse = (R ++ (prs.drop (i + 1)).reverse) ++ [prs[i]] := by
              rw [List.drop_eq_getElem_cons hi, List.reverse_cons, List.append_assoc]
            have hln : (R ++ (prs.drop (i + 1)).reverse).length ≤ 4000000 := by simp; omega
            have HD := Lib.hid hdrop; clear hdrop
            have kw2 : IntKind.i64.wrap ((i : Int) - 1) = (i : Int) - 1 := IntWalk.i64_in _ (by omega)
            have i0' : (0 : Int) ≤ (i : Int) := by omega
            have hlt1 : (i : Int) < (pt.args.length : Int) := by omega
            have hsize3 := HB3.out.size
            go_wp2_with (at_builtin; refine wpList_append_own_at _ rfl _ _ 22 rfl (w.heap.size + 1) 24 i0 _ 4 56 Tryz.underlying22 hi0 hz0 hz1 hz2 rfl (by decide) _ _ _ rfl (hown.alloc _) ⟨wr.heap.size, 0, none⟩ 1 1 [.int .i64 prs[i].1.kind, .int .i64 prs[i].1.num, .string ⟨prs[i].1.name.toArray⟩, .slice a2 prs[i].1.args.length cc2] rfl rfl (four_new _ _ _ _ _ _) (by intro u hu; simp at hu; rcases hu with rfl | rfl | rfl | rfl <;> rfl) (by unfold maxLen; omega) (by omega) (by simp; omega) ?_; intro v' w3 hown' hgrow hnil hob)
            have hown2 : w3.ownsRow (w.heap.size + 1) 24 4 v' (R ++ (prs.drop i).reverse).length (stC (R ++ (prs.drop i).reverse)) := by
              rw [HD.out, stC_snoc, List.length_append]
              have e : stV prs[i] = [.int .i64 prs[i].1.kind, .int .i64 prs[i].1.num, .string ⟨prs[i].1.name.toArray⟩, .slice a2 prs[i].1.args.length cc2] := by unfold stV; rw [HE2.out]
              rw [e]
              exact hown'
            have hrow : ∀ g', u5.ownBlock = some g' → w.heap.size + 1 ≤ g' := fun g' e => (hown.lt g' e).1
            have hbel : Below B w w3 := below_grownT (Below.alloc HB3.out (by omega) _) hgrow (fun g' e => by have := hrow g' e; omega) (by simp; omega)
            have hbn3 := (HBN3.out.alloc (.cells #[.int .i64 prs[i].1.kind, .int .i64 prs[i].1.num, .string ⟨prs[i].1.name.toArray⟩, .slice a2 prs[i].1.args.length cc2] 24)).grown' hgrow (fun g' e he => by have := hrow g' e; omega)
            have hbx3 := (HBX3.out.alloc (.cells #[.int .i64 prs[i].1.kind, .int .i64 prs[i].1.num, .string ⟨prs[i].1.name.toArray⟩, .slice a2 prs[i].1.args.length cc2] 24)).grown' hgrow (fun g' e he => HNE.out (by rw [← he] at e; exact e))
            have hne : v'.ownBlock ≠ some wo.heap.size := by
              rcases hob with h | h
              · rw [h]; exact HNE.out
              · rw [h]; intro e; simp at e; omega
            have HA1 : Aside ((w3.ownsRow (w.heap.size + 1) 24 4 v' (R ++ (prs.drop i).reverse).length (stC (R ++ (prs.drop i).reverse))) ∧ Below B w w3 ∧ (Blk w3 wo.heap.size #[.int .i64 pt.kind, .int .i64 pt.num, .string ⟨pt.name.toArray⟩, .slice (some b) pt.args.length pc] 24) ∧ v'.ownBlock ≠ some wo.heap.size ∧ Blk w3 Bn #[.int .i64 (m + 1 : Nat)] 3) := ⟨hown2, hbel, hbx3, hne, hbn3⟩
            clear hown2 hbel hbx3 hne hbn3 hown' hgrow hnil hob
            go_wp2
            go_roundg i
            case measure => omega
            case rel =>
              exact ⟨by omega, rfl, HA1.out.1, Lib.hid HA1.out.2.2.2.1, Lib.hid HA1.out.2.2.2.2, Lib.hid HA1.out.2.1, Lib.hid HA1.out.2.2.1⟩
end Go.Proofs.YtcnnobcncklgfaaGreatDoor
