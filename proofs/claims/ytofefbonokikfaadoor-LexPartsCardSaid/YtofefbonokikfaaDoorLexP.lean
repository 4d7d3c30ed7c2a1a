/- The law LexParts. -/
import Derived.Test.YtofefbonokikfaaDoorLexAw
namespace Go.Proofs.YtofefbonokikfaaDoor
open Go Go.ChangeShapes Go.WideShapes Go.ChangeAt Go.RowKit
set_option linter.unusedVariables false
theorem data_app' (x y : ByteArray) : (x ++ y).data.toList = x.data.toList ++ y.data.toList := by simp
theorem cut_e' {s : ByteArray} {o : List Tok × Int × Int} (h : Hid (cutT s.data.toList = o)) (w : World) (hr : Rng w) : Calls Tryd.prog 9 #[.string s] w (CutIs o w) := by
  have := cut_any s w hr
  rw [h.out] at this; exact this
theorem keepd {w w' : World} (hb : Below w.heap.size w w') {a : Addr} {v : Value} (h : w.cell? a = some v) : w'.cell? a = some v :=
  (World.cell?_of_block (hb.block a.block (World.block_lt_of_cell? w a h))).trans h
set_option maxRecDepth 100000 in
set_option maxHeartbeats 10000000 in
theorem parts_any (a b : ByteArray) (w : World) (hr : Rng w) : Calls Tryd.prog 4 #[.string a, .string b] w fun e w' => e = .returned (.bool true) ∧ Below w.heap.size w w' := by
  have R := Lib.hid hr; clear hr
  rcases ho : cutT a.data.toList with ⟨ts, n, er⟩
  have HO := Lib.hid ho
  rcases ho2 : cutT b.data.toList with ⟨us, n2, er2⟩
  have HO2 := Lib.hid ho2
  go_enter Tryd.func4, Tryd.ntmps4
  go_wp2_with fail
  refine (awake_any w R.out).mono ?_; rintro e w1 ⟨rfl, hb1⟩
  go_wp2_with fail
  refine (cut_any a w1 (R.out.keep hb1)).mono ?_; rw [ho]; clear ho; rintro e w2 ⟨v, rfl, hown, hb2⟩
  have HW := Lib.hid hown; clear hown
  obtain ⟨oa, oc, rfl⟩ := own_shape HW.out
  have HB := Lib.hid (bcall hb1 hb2)
  go_wp2_with fail
  refine (cut_any b w2 (R.out.keep HB.out)).mono ?_; rw [ho2]; clear ho2; rintro e w3 ⟨v, rfl, hown2, hb3⟩
  have HW2 := Lib.hid hown2; clear hown2
  obtain ⟨oa2, oc2, rfl⟩ := own_shape HW2.out
  have HB3 := Lib.hid (bcall HB.out hb3)
  cases e0 : er != 0
  · cases f0 : er2 != 0
    · by_cases hs : a.size ≤ 1000
      · by_cases ha : b.size ≤ 1000
        · have hs' : ¬ (1000 : Int) < (a.size : Int) := by omega
          have ha' : ¬ (1000 : Int) < (b.size : Int) := by omega
          have her : er = 0 := by simpa using e0
          have her2 : er2 = 0 := by simpa using f0
          subst her her2
          have htl := (cutT_ok HO.out).2.2.2
          have hul := (cutT_ok HO2.out).2.2.2
          have kl : IntKind.i64.wrap ((ts.length : Int) + (us.length : Int)) = (ts.length : Int) + (us.length : Int) := IntWalk.i64_in _ (by omega)
          by_cases hn : ts.length + us.length ≤ 1000
          · have hn' : ¬ (1000 : Int) < (ts.length : Int) + (us.length : Int) := by omega
            have hcp := cut_parts HO.out HO2.out (by simp; omega) (by omega)
            have HCP := Lib.hid hcp; clear hcp
            go_wp2_with fail
            refine (cut_e' (o := (ts ++ us.map (shT ((a.data.toList.length : Int) + 1)), ((a.data.toList ++ 10 :: b.data.toList).length : Int), 0)) ?_ w3 (R.out.keep HB3.out)).mono ?_
            · refine Lib.hid ?_
              rw [data_app', data_app', List.append_assoc]
              exact HCP.out
            rintro e w4 ⟨v, rfl, hown3, hb4⟩
            have HW3 := Lib.hid hown3; clear hown3
            obtain ⟨oa3, oc3, rfl⟩ := own_shape HW3.out
            have HB4 := Lib.hid (bcall HB3.out hb4)
            have hzl : (ts ++ us.map (shT ((a.data.toList.length : Int) + 1))).length = ts.length + us.length := by simp
            have hsa : a.data.toList.length = a.size := by simp
            have hsb : b.data.toList.length = b.size := by simp
            simp only [hzl]
            go_wp2_with fail
            go_loopg [14] (ts.length + us.length) (fun g x wr => ∃ (k : Nat), g = ts.length + us.length - k ∧ k ≤ ts.length + us.length ∧ x = .int .i64 k ∧ Hid (Below w4.heap.size w4 wr))
            case atStart => exact ⟨0, rfl, by omega, rfl, Lib.hid (Below.refl _ _)⟩
            case round =>
              obtain ⟨k, hg, h2, rfl, HBW⟩ := hrel
              have G := Lib.hid hg; clear hg
              have k0 : (0 : Int) ≤ (k : Int) := by omega
              by_cases hlt : k < ts.length + us.length
              · have hlt' : (k : Int) < (ts.length : Int) + (us.length : Int) := by omega
                have kw : IntKind.i64.wrap ((k : Int) + 1) = (k : Int) + 1 := IntWalk.i64_in _ (by omega)
                obtain ⟨g3, c3, he3, hg5, hg6, hT3⟩ := tok_at HW3.out (by rw [hzl]; omega)
                cases he3
                have hT3' := hT3.keep HBW.out hg6
                by_cases hk : k < ts.length
                · have hk' : (k : Int) < (ts.length : Int) := by omega
                  obtain ⟨g1, c1, he1, hg1, hg2, hT1⟩ := tok_at (own_below (own_below HW.out hb3) hb4) (by omega)
                  cases he1
                  have hT1' := hT1.keep HBW.out hg2
                  have hx : (ts ++ us.map (shT ((a.data.toList.length : Int) + 1)))[k]'(by rw [hzl]; exact hlt) = ts[k] := List.getElem_append_left hk
                  have a0 : wr.cell? ⟨g1, k * 5, none⟩ = some (.int .i64 ts[k].kind) := hT1' k hk 0 _ rfl
                  have a1 : wr.cell? ⟨g1, k * 5 + 1, none⟩ = some (.string ⟨ts[k].text.toArray⟩) := hT1' k hk 1 _ rfl
                  have a2 : wr.cell? ⟨g1, k * 5 + 2, none⟩ = some (.int .i64 ts[k].num) := hT1' k hk 2 _ rfl
                  have a3 : wr.cell? ⟨g1, k * 5 + 3, none⟩ = some (.bool ts[k].opn) := hT1' k hk 3 _ rfl
                  have a4 : wr.cell? ⟨g1, k * 5 + 4, none⟩ = some (.int .i64 ts[k].pos) := hT1' k hk 4 _ rfl
                  have b0 : wr.cell? ⟨g3, k * 5, none⟩ = some (.int .i64 ts[k].kind) := hT3' k (by rw [hzl]; exact hlt) 0 _ (by rw [hx]; rfl)
                  have b1 : wr.cell? ⟨g3, k * 5 + 1, none⟩ = some (.string ⟨ts[k].text.toArray⟩) := hT3' k (by rw [hzl]; exact hlt) 1 _ (by rw [hx]; rfl)
                  have b2 : wr.cell? ⟨g3, k * 5 + 2, none⟩ = some (.int .i64 ts[k].num) := hT3' k (by rw [hzl]; exact hlt) 2 _ (by rw [hx]; rfl)
                  have b3 : wr.cell? ⟨g3, k * 5 + 3, none⟩ = some (.bool ts[k].opn) := hT3' k (by rw [hzl]; exact hlt) 3 _ (by rw [hx]; rfl)
                  have b4 : wr.cell? ⟨g3, k * 5 + 4, none⟩ = some (.int .i64 ts[k].pos) := hT3' k (by rw [hzl]; exact hlt) 4 _ (by rw [hx]; rfl)
                  clear hT1 hT3 hT1' hT3' hx
                  go_wp2_with fail
                  go_quiet (fail)
                  go_wp2
                  go_roundg (ts.length + us.length - (k + 1))
                  case measure => have := G.out; omega
                  case rel => exact ⟨k + 1, rfl, hlt, rfl, Lib.hid (Below.drewN HBW.out _)⟩
                · have hk' : ¬ (k : Int) < (ts.length : Int) := by omega
                  have hk2 : (ts.length : Int) ≤ (k : Int) := by omega
                  have hju : k - ts.length < us.length := by omega
                  obtain ⟨g2, c2, he2, hg3, hg4, hT2⟩ := tok_at (own_below HW2.out hb4) (by omega)
                  cases he2
                  have hT2' := hT2.keep HBW.out hg4
                  have hx : (ts ++ us.map (shT ((a.data.toList.length : Int) + 1)))[k]'(by rw [hzl]; exact hlt) = shT ((a.size : Int) + 1) us[k - ts.length] := by
                    rw [List.getElem_append_right (by omega)]
                    simp
                  have hpos := cut_pos HO2.out us[k - ts.length] (List.getElem_mem hju)
                  have kp : IntKind.i64.wrap (us[k - ts.length].pos + (a.size : Int)) = us[k - ts.length].pos + (a.size : Int) := IntWalk.i64_in _ (by omega)
                  have kp1 : IntKind.i64.wrap (us[k - ts.length].pos + (a.size : Int) + 1) = us[k - ts.length].pos + (a.size : Int) + 1 := IntWalk.i64_in _ (by omega)
                  have a0 : wr.cell? ⟨g2, (k - ts.length) * 5, none⟩ = some (.int .i64 us[k - ts.length].kind) := hT2' (k - ts.length) hju 0 _ rfl
                  have a1 : wr.cell? ⟨g2, (k - ts.length) * 5 + 1, none⟩ = some (.string ⟨us[k - ts.length].text.toArray⟩) := hT2' (k - ts.length) hju 1 _ rfl
                  have a2 : wr.cell? ⟨g2, (k - ts.length) * 5 + 2, none⟩ = some (.int .i64 us[k - ts.length].num) := hT2' (k - ts.length) hju 2 _ rfl
                  have a3 : wr.cell? ⟨g2, (k - ts.length) * 5 + 3, none⟩ = some (.bool us[k - ts.length].opn) := hT2' (k - ts.length) hju 3 _ rfl
                  have a4 : wr.cell? ⟨g2, (k - ts.length) * 5 + 4, none⟩ = some (.int .i64 us[k - ts.length].pos) := hT2' (k - ts.length) hju 4 _ rfl
                  have b0 : wr.cell? ⟨g3, k * 5, none⟩ = some (.int .i64 us[k - ts.length].kind) := hT3' k (by rw [hzl]; exact hlt) 0 _ (by rw [hx]; rfl)
                  have b1 : wr.cell? ⟨g3, k * 5 + 1, none⟩ = some (.string ⟨us[k - ts.length].text.toArray⟩) := hT3' k (by rw [hzl]; exact hlt) 1 _ (by rw [hx]; rfl)
                  have b2 : wr.cell? ⟨g3, k * 5 + 2, none⟩ = some (.int .i64 us[k - ts.length].num) := hT3' k (by rw [hzl]; exact hlt) 2 _ (by rw [hx]; rfl)
                  have b3 : wr.cell? ⟨g3, k * 5 + 3, none⟩ = some (.bool us[k - ts.length].opn) := hT3' k (by rw [hzl]; exact hlt) 3 _ (by rw [hx]; rfl)
                  have b4 : wr.cell? ⟨g3, k * 5 + 4, none⟩ = some (.int .i64 (us[k - ts.length].pos + (a.size : Int) + 1)) := hT3' k (by rw [hzl]; exact hlt) 4 _ (by rw [hx]; simp [tokCells, shT]; omega)
                  have lg2 : g2 < wr.heap.size := by have := HBW.out.size; omega
                  have lg3 : g3 < wr.heap.size := by have := HBW.out.size; omega
                  have ng2 : g2 ≠ wr.heap.size := by omega
                  have ng3 : g3 ≠ wr.heap.size := by omega
                  clear hT2 hT3 hT2' hT3' hx
                  go_wp2_with fail
                  go_quiet (fail)
                  have htok : Blk ((wr.drewN nq).alloc (.cells #[.int .i64 0, .string ⟨#[]⟩, .int .i64 0, .bool false, .int .i64 0] 28)) wr.heap.size #[.int .i64 0, .string ⟨#[]⟩, .int .i64 0, .bool false, .int .i64 0] 28 := Blk.new (wr.drewN nq) _ _
                  obtain ⟨t0, t1, t2, t3, t4, z0, z1, z2, z3, z4, ltt⟩ := htok.five
                  go_wp2_with fail
                  have hb5 : Below wr.heap.size wr ((((((((wr.drewN nq).alloc (.cells #[.int .i64 0, .string ⟨#[]⟩, .int .i64 0, .bool false, .int .i64 0] 28)).setCell ⟨wr.heap.size, 0, none⟩ (.int .i64 us[k - ts.length].kind)).setCell ⟨wr.heap.size, 1, none⟩ (.string ⟨us[k - ts.length].text.toArray⟩)).setCell ⟨wr.heap.size, 2, none⟩ (.int .i64 us[k - ts.length].num)).setCell ⟨wr.heap.size, 3, none⟩ (.bool us[k - ts.length].opn)).setCell ⟨wr.heap.size, 4, none⟩ (.int .i64 us[k - ts.length].pos)).setCell ⟨wr.heap.size, 4, none⟩ (.int .i64 (us[k - ts.length].pos + (a.size : Int) + 1))) := by
                    exact Below.setCell (Below.setCell (Below.setCell (Below.setCell (Below.setCell (Below.setCell (Below.alloc (Below.drewN (Below.refl _ wr) nq) (Nat.le_refl _) _) (Nat.le_refl _) _) (Nat.le_refl _) _) (Nat.le_refl _) _) (Nat.le_refl _) _) (Nat.le_refl _) _) (Nat.le_refl _) _
                  have htok5 := (((((htok.store 0 (.int .i64 us[k - ts.length].kind)).store 1 (.string ⟨us[k - ts.length].text.toArray⟩)).store 2 (.int .i64 us[k - ts.length].num)).store 3 (.bool us[k - ts.length].opn)).store 4 (.int .i64 us[k - ts.length].pos)).store 4 (.int .i64 (us[k - ts.length].pos + (a.size : Int) + 1))
                  generalize hW5 : (((((((wr.drewN nq).alloc (.cells #[.int .i64 0, .string ⟨#[]⟩, .int .i64 0, .bool false, .int .i64 0] 28)).setCell ⟨wr.heap.size, 0, none⟩ (.int .i64 us[k - ts.length].kind)).setCell ⟨wr.heap.size, 1, none⟩ (.string ⟨us[k - ts.length].text.toArray⟩)).setCell ⟨wr.heap.size, 2, none⟩ (.int .i64 us[k - ts.length].num)).setCell ⟨wr.heap.size, 3, none⟩ (.bool us[k - ts.length].opn)).setCell ⟨wr.heap.size, 4, none⟩ (.int .i64 us[k - ts.length].pos)).setCell ⟨wr.heap.size, 4, none⟩ (.int .i64 (us[k - ts.length].pos + (a.size : Int) + 1)) = W5 at hb5 htok5 ⊢
                  have d0 := keepd hb5 b0
                  have d1 := keepd hb5 b1
                  have d2 := keepd hb5 b2
                  have d3 := keepd hb5 b3
                  have d4 := keepd hb5 b4
                  obtain ⟨e0, e1, e2, e3, e4, -, -, -, -, -, -⟩ := htok5.five
                  go_quiet (fail)
                  go_wp2
                  have hsz : w4.heap.size ≤ wr.heap.size := HBW.out.size
                  go_roundg (ts.length + us.length - (k + 1))
                  case measure => have := G.out; omega
                  case rel =>
                    refine ⟨k + 1, rfl, hlt, rfl, Lib.hid ?_⟩
                    exact Below.drewN (HBW.out.trans (hb5.mono hsz)) _
              · have hlt' : ¬ (k : Int) < (ts.length : Int) + (us.length : Int) := by omega
                go_wp2
                go_ret
                exact ⟨rfl, bcall HB4.out HBW.out⟩
          · have hn' : (1000 : Int) < (ts.length : Int) + (us.length : Int) := by omega
            go_wp2
            go_ret
            exact ⟨rfl, HB3.out⟩
        · have ha' : (1000 : Int) < (b.size : Int) := by omega
          have hs' : ¬ (1000 : Int) < (a.size : Int) := by omega
          go_wp2
          go_ret
          exact ⟨rfl, HB3.out⟩
      · have hs' : (1000 : Int) < (a.size : Int) := by omega
        go_wp2
        go_ret
        exact ⟨rfl, HB3.out⟩
    · go_wp2
      go_ret
      exact ⟨rfl, HB3.out⟩
  · go_wp2
    go_ret
    exact ⟨rfl, HB3.out⟩
end Go.Proofs.YtofefbonokikfaaDoor
