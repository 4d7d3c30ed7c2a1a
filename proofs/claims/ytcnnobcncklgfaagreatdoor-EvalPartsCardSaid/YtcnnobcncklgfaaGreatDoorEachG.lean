/- The contract of term.each at term.goodOne. -/
import Derived.Test.YtcnnobcncklgfaaGreatDoorStk
import Derived.Test.YtcnnobcncklgfaaGreatDoorTermClone
import Derived.RangeFuncBox
import Derived.Maps.AppendAt
namespace Go.Proofs.YtcnnobcncklgfaaGreatDoor
open Go Go.ChangeShapes Go.WideShapes Go.ChangeAt Go.RowKit
set_option linter.unusedVariables false
/-- What a held term's Args hold, in pairs. -/
theorem Holds.prs {w : World} {X : Nat → Prop} {t : Tm} {k n : Int} {s : List UInt8} {a : Option Addr} {len c : Nat} (h : Holds w X t (tmV k n s (.slice a len c))) :
    ∃ prs : List (Tm × Value), prs.map (·.1) = t.args ∧ ∀ i (hi : i < prs.length), ∃ (b : Addr), a = some b ∧ X b.block ∧ w.cell? (b.add (i * 4)) = some (.int .i64 prs[i].1.kind) ∧ w.cell? (b.add (i * 4 + 1)) = some (.int .i64 prs[i].1.num) ∧ w.cell? (b.add (i * 4 + 2)) = some (.string ⟨prs[i].1.name.toArray⟩) ∧ w.cell? (b.add (i * 4 + 3)) = some prs[i].2 ∧
      Holds w X prs[i].1 (tmV prs[i].1.kind prs[i].1.num prs[i].1.name prs[i].2) := by
  have hex : ∀ i : Nat, ∃ sl : Value, (hi : i < t.args.length) → ∃ (b : Addr), a = some b ∧ X b.block ∧ w.cell? (b.add (i * 4)) = some (.int .i64 t.args[i].kind) ∧ w.cell? (b.add (i * 4 + 1)) = some (.int .i64 t.args[i].num) ∧ w.cell? (b.add (i * 4 + 2)) = some (.string ⟨t.args[i].name.toArray⟩) ∧ w.cell? (b.add (i * 4 + 3)) = some sl ∧
      Holds w X t.args[i] (tmV t.args[i].kind t.args[i].num t.args[i].name sl) := by
    intro i
    by_cases hi : i < t.args.length
    · obtain ⟨b, sl, h1⟩ := h.arg hi
      exact ⟨sl, fun _ => ⟨b, h1⟩⟩
    · exact ⟨.nilFunc, fun h => absurd h hi⟩
  obtain ⟨L, hL⟩ := Classical.axiomOfChoice hex
  refine ⟨t.args.mapIdx fun i x => (x, L i), by apply List.ext_getElem <;> simp, fun i hi => ?_⟩
  have hi' : i < t.args.length := by simpa using hi
  have e : (t.args.mapIdx fun i x => (x, L i))[i] = (t.args[i], L i) := by simp
  rw [e]
  exact hL i hi'
theorem own_below {w w' : World} {base : Nat} {e : TypeId} {size : Nat} {v : Value} {n : Nat} {xs : List Value} (h : w.ownsRow base e size v n xs) (hb : Below w.heap.size w w') : w'.ownsRow base e size v n xs := by
  obtain ⟨h1, h2 | ⟨g, cap, cur, rfl, h3, h4, h5⟩⟩ := h
  · exact ⟨h1, .inl h2⟩
  · exact ⟨h1, .inr ⟨g, cap, cur, rfl, h3, (hb.block g (Array.getElem?_eq_some_iff.1 h4).1).trans h4, h5⟩⟩
theorem Blk.grown' {w w' : World} {b : Nat} {cs : Array Value} {t : TypeId} {row : Option Nat} (h : Blk w b cs t) (hg : w.grownBy w' row) (hr : ∀ g, row = some g → b ≠ g) : Blk w' b cs t := by
  unfold Blk; rw [hg.block b h.lt (fun e => hr b e.symm rfl)]; exact h
theorem four_new (w : World) (x y z u : Value) (t : TypeId) : ∀ j v, [x, y, z, u][j]? = some v → (w.alloc (.cells #[x, y, z, u] t)).cell? ((⟨w.heap.size, 0, none⟩ : Addr).add j) = some v := by
  intro j v hj
  have e : (⟨w.heap.size, 0, none⟩ : Addr).add j = ⟨w.heap.size, j, none⟩ := by cases j <;> simp [Addr.add]
  rw [e]
  exact (Blk.new w #[x, y, z, u] t).cell (by simpa using hj)
theorem own_one (w : World) (x y z u : Value) (t : TypeId) (base : Nat) (hb : base ≤ w.heap.size) : (w.alloc (.cells #[x, y, z, u] t)).ownsRow base t 4 (.slice (some ⟨w.heap.size, 0, none⟩) 1 1) 1 [x, y, z, u] :=
  ⟨rfl, .inr ⟨w.heap.size, 1, _, rfl, hb, Blk.new w _ _, Nat.le_refl _, by unfold maxLen; omega, rfl, rfl⟩⟩
set_option maxRecDepth 100000 in
set_option maxHeartbeats 10000000 in
theorem each_good {X : Nat → Prop} (N : Nat) (hN : N ≤ 1000) (t : Tm) (hf : Fine N t) (hsz : t.size ≤ 1000000) (w : World) (v : Value) (h : Holds w X t v) :
    Calls Tryz.prog 47 #[v, .func (.func 48) #[] #[]] w fun e w' => e = .returned (.bool t.allG) ∧ Below w.heap.size w w' := by
  obtain ⟨sl, rfl⟩ := h.form
  obtain ⟨a, c, rfl⟩ := h.args
  have h0 : Holds w (· < w.heap.size) t (tmV t.kind t.num t.name (.slice a t.args.length c)) := h.there.mono fun b hb => hb.2
  have HH := Lib.hid h0; clear h h0
  have HF := Lib.hid hf; clear hf
  obtain ⟨i0, hi0, hz0, hz1, hz2⟩ := info_parts info_termz
  simp only [tmV]
  go_enter Tryz.func47, Tryz.ntmps47
  go_wp2_with fail
  go_loopg [5] t.size (fun g v wr => ∃ S : List (Tm × Value), g = Tm.sizes (S.map (·.1)) ∧ g ≤ t.size ∧ wr.ownsRow (w.heap.size + 1) 24 4 v S.length (stC S) ∧ Hid (StH wr w.heap.size N S) ∧ Hid (Below w.heap.size w wr) ∧ Hid (t.allG = Tm.allsG (S.map (·.1))))
  case atStart =>
    refine ⟨[(t, .slice a t.args.length c)], by simp [Tm.sizes], Nat.le_refl _, ?_, Lib.hid ?_, Lib.hid (Below.alloc (Below.alloc (Below.refl _ _) (Nat.le_refl _) _) (by simp) _), Lib.hid (by simp [Tm.allsG])⟩
    · have := own_one (w.alloc (.cells #[.int .i64 t.kind, .int .i64 t.num, .string ⟨t.name.toArray⟩, .slice a t.args.length c] 24)) (.int .i64 t.kind) (.int .i64 t.num) (.string ⟨t.name.toArray⟩) (.slice a t.args.length c) 24 (w.heap.size + 1) (by simp)
      simpa [stC, stV] using this
    · intro p hp
      simp only [List.mem_singleton] at hp
      subst hp
      exact ⟨HH.out.keep fun b hb => by rw [Below.heap_alloc _ _ _ (by simp; omega), Below.heap_alloc _ _ _ hb], HF.out⟩
  case round =>
    obtain ⟨S, hg, hgt, hown, HS, HB, HA⟩ := hrel
    rename World => wo
    have G := Lib.hid hg; clear hg
    rcases List.eq_nil_or_concat S with rfl | ⟨R, p, rfl⟩
    · rcases hown.2 with ⟨rfl, _⟩ | ⟨g, cap, cur, rfl, _⟩
      · go_wp2
        go_ret
        exact ⟨by rw [HA.out]; rfl, HB.out⟩
      · simp only [List.length_nil]
        go_wp2
        go_ret
        exact ⟨by rw [HA.out]; rfl, HB.out⟩
    · simp only [List.concat_eq_append, List.length_append, List.length_cons, List.length_nil, Nat.zero_add] at hown HS HA G ⊢
      obtain ⟨g, cap, rfl⟩ := ownsRow_succ hown
      have ct0 := (hown.cellAt (R.length * 4) (by omega)).trans (stC_top R p 0)
      have ct1 := (hown.cellAt (R.length * 4 + 1) (by omega)).trans (stC_top R p 1)
      have ct2 := (hown.cellAt (R.length * 4 + 2) (by omega)).trans (stC_top R p 2)
      have ct3 := (hown.cellAt (R.length * 4 + 3) (by omega)).trans (stC_top R p 3)
      obtain ⟨hp, hpf⟩ := HS.out p (by simp)
      obtain ⟨pt, psl⟩ := p
      obtain ⟨pa, pc, hpe⟩ := hp.args
      dsimp only at hpe
      subst hpe
      simp only [stV, List.getElem?_cons_zero, List.getElem?_cons_succ] at ct0 ct1 ct2 ct3
      have hbase := (hown.lt g rfl)
      have hlen : R.length < 1000000 := by
        have h1 := sizes_len ((R ++ [(pt, Value.slice pa pt.args.length pc)]).map (·.1))
        have h2 := G.out
        simp only [List.length_map, List.length_append, List.length_cons, List.length_nil] at h1
        omega
      have hcap : R.length + 1 ≤ cap := by
        rcases hown.2 with ⟨h, _⟩ | ⟨g', cap', cur, h, _, _, h3, _⟩
        · cases h
        · cases h; exact h3
      have hwr : IntKind.i64.wrap ((R.length : Int) + 1 - 1) = (R.length : Int) := by rw [IntWalk.i64_in _ (by omega)]; omega
      have hpos : 0 < (R.length : Int) + 1 := by omega
      have hix1 : (R.length : Int) < (R.length : Int) + 1 := by omega
      have hix2 : (R.length : Int) < ((R.length + 1 : Nat) : Int) := by omega
      have hix3 : R.length < R.length + 1 := by omega
      have hix0 : (0 : Int) ≤ (R.length : Int) := by omega
      have hix4 : (R.length : Int) ≤ (cap : Int) := by omega
      have HO := Lib.hid hown; have HP := Lib.hid hp; have HPF := Lib.hid hpf; clear hown hp hpf
      go_wp2_with fail
      refine (goodOne_any pt.kind pt.num pt.name pa pt.args.length pc HPF.out.args.2.2 _).mono ?_; rintro e w1 ⟨rfl, hb1⟩
      have hb2 : Below w.heap.size w w1 := (Below.alloc HB.out (HB.out.size) _).trans (hb1.mono (by have := HB.out.size; simp; omega))
      have hpop : w1.ownsRow (w.heap.size + 1) 24 4 (.slice (some ⟨g, 0, none⟩) R.length cap) R.length (stC R) := by
        have h1 := own_below (HO.out.alloc _) hb1
        rw [stC_snoc] at h1
        exact ownsRow_pop (stC_len R) h1
      obtain ⟨t0, t1, t2, t3, z0, z1, z2, z3, ltt⟩ := ((Blk.new wo #[.int .i64 pt.kind, .int .i64 pt.num, .string ⟨pt.name.toArray⟩, .slice pa pt.args.length pc] 24).keep hb1).fourT
      have hbx := ((Blk.new wo #[.int .i64 pt.kind, .int .i64 pt.num, .string ⟨pt.name.toArray⟩, .slice pa pt.args.length pc] 24).keep hb1)
      have HPOP := Lib.hid hpop; have HB2 := Lib.hid hb2; have HBX := Lib.hid hbx; clear hpop hb2 hbx hb1
      have hall : Tm.allsG ((R ++ [(pt, Value.slice pa pt.args.length pc)]).map (·.1)) = (Tm.allsG (R.map (·.1)) && (goneP pt.kind pt.num pt.name pt.args.length && Tm.allsG pt.args)) := by
        rw [List.map_append, allsG_append, List.map_singleton]
        simp only [Tm.allsG, Bool.and_true]
        rw [allG_eq]
      have HAL := Lib.hid hall; clear hall
      cases hgo : goneP pt.kind pt.num pt.name pt.args.length with
      | false =>
        go_wp2
        go_ret
        exact ⟨by rw [HA.out, HAL.out, hgo]; simp, HB2.out⟩
      | true =>
        have hm := HPF.out.args.1
        have kw1 : IntKind.i64.wrap ((pt.args.length : Int) - 1) = (pt.args.length : Int) - 1 := IntWalk.i64_in _ (by omega)
        obtain ⟨prs, hpm, hprs⟩ := HP.out.prs
        have hpl : prs.length = pt.args.length := by rw [← hpm]; simp
        have HPR := Lib.hid hprs; have HPM := Lib.hid hpm; clear hprs hpm
        go_wp2_with fail
        go_loopg [5, 7] pt.args.length (fun gi v x wr2 => gi ≤ pt.args.length ∧ x = .int .i64 ((gi : Int) - 1) ∧ wr2.ownsRow (w.heap.size + 1) 24 4 v (R ++ (prs.drop gi).reverse).length (stC (R ++ (prs.drop gi).reverse)) ∧ Hid (v.ownBlock ≠ some wo.heap.size) ∧ Hid (Below w.heap.size w wr2) ∧
          Hid (Blk wr2 wo.heap.size #[.int .i64 pt.kind, .int .i64 pt.num, .string ⟨pt.name.toArray⟩, .slice pa pt.args.length pc] 24))
        case atStart =>
          refine ⟨Nat.le_refl _, rfl, ?_, Lib.hid (fun e => by simp [Value.ownBlock] at e; omega), HB2, HBX⟩
          rw [← hpl, List.drop_length]
          simpa using HPOP.out
        case round =>
          obtain ⟨hgi, rfl, hown, HNE, HB3, HBX3⟩ := hrel
          cases gk with
          | zero =>
            have e0 : (((0 : Nat) : Int) - 1) = -1 := rfl
            rw [e0]
            rw [List.drop_zero] at hown
            have HOW := Lib.hid hown; clear hown
            go_wp2
            go_roundg (Tm.sizes ((R ++ prs.reverse).map (·.1)))
            case measure =>
              have h1 := G.out
              simp only [List.map_append, sizes_append, List.map_reverse, sizes_reverse, HPM.out, List.map_singleton, Tm.sizes, size_eq pt] at h1 ⊢
              omega
            case rel =>
              refine ⟨R ++ prs.reverse, rfl, ?_, HOW.out, Lib.hid ?_, HB3, Lib.hid ?_⟩
              · have h1 := G.out
                simp only [List.map_append, sizes_append, List.map_reverse, sizes_reverse, HPM.out, List.map_singleton, Tm.sizes, size_eq pt] at h1 ⊢
                omega
              · have hk : ∀ b, b < w.heap.size → wr.heap[b]? = wo.heap[b]? := fun b hb => (HB3.out.block b hb).trans (HB.out.block b hb).symm
                intro q hq
                rcases List.mem_append.1 hq with hq | hq
                · have := HS.out q (List.mem_append_left _ hq)
                  exact ⟨this.1.keep hk, this.2⟩
                · rw [List.mem_reverse] at hq
                  obtain ⟨j, hj, rfl⟩ := List.getElem_of_mem hq
                  obtain ⟨b, -, -, -, -, -, -, hh⟩ := HPR.out j hj
                  refine ⟨hh.keep hk, HPF.out.args.2.1 _ ?_⟩
                  rw [← HPM.out]
                  exact List.mem_map_of_mem (List.getElem_mem hj)
              · rw [HA.out, HAL.out, hgo]
                simp only [List.map_append, allsG_append, List.map_reverse, allsG_reverse, HPM.out, Bool.true_and]
          | succ i =>
            have e1 : (((i + 1 : Nat) : Int) - 1) = (i : Int) := by omega
            rw [e1]
            have hi : i < prs.length := by omega
            obtain ⟨b, rfl, hbl, c0, c1, c2, c3, hh⟩ := HPR.out i hi
            have hk : ∀ (o : Nat) (u : Value), wo.cell? (b.add o) = some u → wr.cell? (b.add o) = some u := fun o u hu => (World.cell?_of_block (by rw [add_block]; exact (HB3.out.block _ hbl).trans (HB.out.block _ hbl).symm)).trans hu
            replace c0 := hk _ _ c0; replace c1 := hk _ _ c1; replace c2 := hk _ _ c2; replace c3 := hk _ _ c3
            obtain ⟨a2, cc2, he2⟩ := hh.args
            rw [he2] at c3
            replace c1 := cellat c1; replace c2 := cellat c2; replace c3 := cellat c3
            have HH2 := Lib.hid hh; have HE2 := Lib.hid he2; clear hh he2
            obtain ⟨x0, x1, x2, x3, y0, y1, y2, y3, ltx⟩ := HBX3.out.fourT
            have hdrop : R ++ (prs.drop i).reverse = (R ++ (prs.drop (i + 1)).reverse) ++ [prs[i]] := by
              rw [List.drop_eq_getElem_cons hi, List.reverse_cons, List.append_assoc]
            have hln : (R ++ (prs.drop (i + 1)).reverse).length ≤ 2000000 := by simp; omega
            have HD := Lib.hid hdrop; clear hdrop
            have kw2 : IntKind.i64.wrap ((i : Int) - 1) = (i : Int) - 1 := IntWalk.i64_in _ (by omega)
            have i0' : (0 : Int) ≤ (i : Int) := by omega
            have hlt1 : (i : Int) < (pt.args.length : Int) := by omega
            have hsize3 := HB3.out.size
            go_wp2_with (at_builtin; refine wpList_append_own_at _ rfl _ _ 22 rfl (w.heap.size + 1) 24 i0 _ 4 56 Tryz.underlying22 hi0 hz0 hz1 hz2 rfl (by decide) _ _ _ rfl (hown.alloc _) ⟨wr.heap.size, 0, none⟩ 1 1 [.int .i64 prs[i].1.kind, .int .i64 prs[i].1.num, .string ⟨prs[i].1.name.toArray⟩, .slice a2 prs[i].1.args.length cc2] rfl rfl (four_new _ _ _ _ _ _) (by intro u hu; simp at hu; rcases hu with rfl | rfl | rfl | rfl <;> rfl) (by unfold maxLen; omega) (by omega) (by simp; omega) ?_; intro v' w3 hown' hgrow hnil hob)
            have hown2 : w3.ownsRow (w.heap.size + 1) 24 4 v' (R ++ (prs.drop i).reverse).length (stC (R ++ (prs.drop i).reverse)) := by
              rw [HD.out, stC_snoc, List.length_append]
              have e : stV prs[i] = [.int .i64 prs[i].1.kind, .int .i64 prs[i].1.num, .string ⟨prs[i].1.name.toArray⟩, .slice a2 prs[i].1.args.length cc2] := by unfold stV; rw [HE2.out]
              rw [e]
              exact hown'
            have hrow : ∀ g', u5.ownBlock = some g' → w.heap.size + 1 ≤ g' := fun g' e => (hown.lt g' e).1
            have hbel : Below w.heap.size w w3 := below_grownT (Below.alloc HB3.out hsize3 _) hgrow (fun g' e => Nat.le_of_succ_le (hrow g' e)) (by simp; omega)
            have hbx3 := (HBX3.out.alloc (.cells #[.int .i64 prs[i].1.kind, .int .i64 prs[i].1.num, .string ⟨prs[i].1.name.toArray⟩, .slice a2 prs[i].1.args.length cc2] 24)).grown' hgrow (fun g' e he => HNE.out (by rw [← he] at e; exact e))
            have hne : v'.ownBlock ≠ some wo.heap.size := by
              rcases hob with h | h
              · rw [h]; exact HNE.out
              · rw [h]; intro e; simp at e; omega
            have HA1 : Aside ((w3.ownsRow (w.heap.size + 1) 24 4 v' (R ++ (prs.drop i).reverse).length (stC (R ++ (prs.drop i).reverse))) ∧ Below w.heap.size w w3 ∧ (Blk w3 wo.heap.size #[.int .i64 pt.kind, .int .i64 pt.num, .string ⟨pt.name.toArray⟩, .slice (some b) pt.args.length pc] 24) ∧ v'.ownBlock ≠ some wo.heap.size) := ⟨hown2, hbel, hbx3, hne⟩
            clear hown2 hbel hbx3 hne hown' hgrow hnil hob
            go_wp2
            go_roundg i
            case measure => omega
            case rel =>
              exact ⟨by omega, rfl, HA1.out.1, HA1.out.2.2.2, HA1.out.2.1, HA1.out.2.2.1⟩
end Go.Proofs.YtcnnobcncklgfaaGreatDoor
