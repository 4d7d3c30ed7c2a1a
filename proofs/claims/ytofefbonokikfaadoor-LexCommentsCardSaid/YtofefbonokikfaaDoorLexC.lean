/- The law LexComments. -/
import Derived.Test.YtofefbonokikfaaDoorLexAw
namespace Go.Proofs.YtofefbonokikfaaDoor
open Go Go.ChangeShapes Go.WideShapes Go.ChangeAt Go.RowKit
set_option linter.unusedVariables false
theorem data_app (x y : ByteArray) : (x ++ y).data.toList = x.data.toList ++ y.data.toList := by simp
theorem cut_e {s : ByteArray} {o : List Tok × Int × Int} (h : Hid (cutT s.data.toList = o)) (w : World) (hr : Rng w) : Calls Tryd.prog 9 #[.string s] w (CutIs o w) := by
  have := cut_any s w hr
  rw [h.out] at this; exact this
set_option maxRecDepth 100000 in
set_option maxHeartbeats 10000000 in
theorem comments_any (s c : ByteArray) (w : World) (hr : Rng w) : Calls Tryd.prog 5 #[.string s, .string c] w fun e w' => e = .returned (.bool true) ∧ Below w.heap.size w w' := by
  have R := Lib.hid hr; clear hr
  rcases ho : cutT s.data.toList with ⟨ts, n, er⟩
  have HO := Lib.hid ho
  go_enter Tryd.func5, Tryd.ntmps5
  go_wp2_with fail
  refine (awake_any w R.out).mono ?_; rintro e w1 ⟨rfl, hb1⟩
  go_wp2_with fail
  refine (cut_any s w1 (R.out.keep hb1)).mono ?_; rw [ho]; clear ho; rintro e w2 ⟨v, rfl, hown, hb2⟩
  have HW := Lib.hid hown; clear hown
  obtain ⟨oa, oc, rfl⟩ := own_shape HW.out
  have HB := Lib.hid (bcall hb1 hb2)
  cases e0 : er != 0
  · by_cases hs : s.size ≤ 1000
    · by_cases ha : c.size ≤ 200
      · have hs' : ¬ (1000 : Int) < (s.size : Int) := by omega
        have ha' : ¬ (200 : Int) < (c.size : Int) := by omega
        go_wp2_with fail
        go_loopg [8] c.size (fun g y wr => ∃ (k : Nat), g = c.size - k ∧ k ≤ c.size ∧ y = .int .i64 k ∧ Hid (∀ i (h : i < k) (h2 : i < c.size), c[i] ≠ 10) ∧ wr = w2)
        case atStart => exact ⟨0, rfl, by omega, rfl, Lib.hid (fun i h => by omega), rfl⟩
        case round =>
          obtain ⟨k, hg, h2, rfl, hp, rfl⟩ := hrel
          have G := Lib.hid hg; clear hg
          have k0 : (0 : Int) ≤ (k : Int) := by omega
          by_cases hlt : k < c.size
          · have hlt' : (k : Int) < (c.size : Int) := by omega
            have kw : IntKind.i64.wrap ((k : Int) + 1) = (k : Int) + 1 := IntWalk.i64_in _ (by omega)
            cases h10 : c[k] == 10
            · have e10 : ((c[k].toNat : Int) == 10) = false := by rw [u8_eq c[k] 10 10 rfl]; exact h10
              go_wp2
              go_roundg (c.size - (k + 1))
              case measure => have := G.out; omega
              case rel =>
                refine ⟨k + 1, rfl, hlt, rfl, Lib.hid ?_, rfl⟩
                intro i h h3
                rcases Nat.lt_or_ge i k with h' | h'
                · exact hp.out i h' h3
                · have : i = k := by omega
                  subst this
                  simpa using h10
            · have e10 : ((c[k].toNat : Int) == 10) = true := by rw [u8_eq c[k] 10 10 rfl]; exact h10
              go_wp2
              go_ret
              exact ⟨rfl, HB.out⟩
          · have hlt' : ¬ (k : Int) < (c.size : Int) := by omega
            have hne : ∀ x ∈ c.data.toList, x ≠ 10 := by
              intro x hx
              obtain ⟨i, hi, rfl⟩ := List.getElem_of_mem hx
              have hi' : i < c.size := by simpa using hi
              exact hp.out i (by omega) hi'
            have her : er = 0 := by simpa using e0
            subst her
            have hcp := cut_comment HO.out hne (by simp; omega)
            have HCP := Lib.hid hcp; clear hcp hne
            have htl := (cutT_ok HO.out).2.2.2
            go_wp2_with fail
            refine (cut_e (o := (ts, ((s.data.toList.length + c.data.toList.length + 3 : Nat) : Int), 0)) ?_ wr (R.out.keep HB.out)).mono ?_
            · refine Lib.hid ?_
              rw [data_app, data_app, data_app, List.append_assoc, List.append_assoc]
              exact HCP.out
            rintro e w3 ⟨v, rfl, hown3, hb3⟩
            have HW3 := Lib.hid hown3; clear hown3
            obtain ⟨oa3, oc3, rfl⟩ := own_shape HW3.out
            go_wp2_with fail
            go_loopg [12] ts.length (fun g x wr' => ∃ (k m : Nat), g = ts.length - k ∧ k ≤ ts.length ∧ x = .int .i64 k ∧ wr' = w3.drewN m)
            case atStart => exact ⟨0, 0, rfl, by omega, rfl, rfl⟩
            case round =>
              obtain ⟨k, m, hg, h2, rfl, rfl⟩ := hrel
              have G := Lib.hid hg; clear hg
              have k0 : (0 : Int) ≤ (k : Int) := by omega
              by_cases hlt : k < ts.length
              · have hlt' : (k : Int) < (ts.length : Int) := by omega
                have kw : IntKind.i64.wrap ((k : Int) + 1) = (k : Int) + 1 := IntWalk.i64_in _ (by omega)
                obtain ⟨g1, c1, he1, hg1, hg2, hT1⟩ := tok_at (own_below HW.out hb3) (by omega)
                obtain ⟨g2, c2, he2, hg3, hg4, hT2⟩ := tok_at HW3.out (by first | omega | (simp; omega))
                cases he1; cases he2
                have a0 : w3.cell? ⟨g1, k * 5, none⟩ = some (.int .i64 ts[k].kind) := hT1 k hlt 0 _ rfl
                have a1 : w3.cell? ⟨g1, k * 5 + 1, none⟩ = some (.string ⟨ts[k].text.toArray⟩) := hT1 k hlt 1 _ rfl
                have a2 : w3.cell? ⟨g1, k * 5 + 2, none⟩ = some (.int .i64 ts[k].num) := hT1 k hlt 2 _ rfl
                have a3 : w3.cell? ⟨g1, k * 5 + 3, none⟩ = some (.bool ts[k].opn) := hT1 k hlt 3 _ rfl
                have a4 : w3.cell? ⟨g1, k * 5 + 4, none⟩ = some (.int .i64 ts[k].pos) := hT1 k hlt 4 _ rfl
                have b0 : w3.cell? ⟨g2, k * 5, none⟩ = some (.int .i64 ts[k].kind) := hT2 k hlt 0 _ rfl
                have b1 : w3.cell? ⟨g2, k * 5 + 1, none⟩ = some (.string ⟨ts[k].text.toArray⟩) := hT2 k hlt 1 _ rfl
                have b2 : w3.cell? ⟨g2, k * 5 + 2, none⟩ = some (.int .i64 ts[k].num) := hT2 k hlt 2 _ rfl
                have b3 : w3.cell? ⟨g2, k * 5 + 3, none⟩ = some (.bool ts[k].opn) := hT2 k hlt 3 _ rfl
                have b4 : w3.cell? ⟨g2, k * 5 + 4, none⟩ = some (.int .i64 ts[k].pos) := hT2 k hlt 4 _ rfl
                clear hT1 hT2
                go_wp2_with fail
                go_quiet (fail)
                go_wp2
                go_roundg (ts.length - (k + 1))
                case measure => have := G.out; omega
                case rel => exact ⟨k + 1, m + nq, rfl, hlt, rfl, rfl⟩
              · have hlt' : ¬ (k : Int) < (ts.length : Int) := by omega
                go_wp2
                go_ret
                exact ⟨rfl, Below.drewN (bcall HB.out hb3) m⟩
      · have ha' : (200 : Int) < (c.size : Int) := by omega
        have hs' : ¬ (1000 : Int) < (s.size : Int) := by omega
        go_wp2
        go_ret
        exact ⟨rfl, HB.out⟩
    · have hs' : (1000 : Int) < (s.size : Int) := by omega
      go_wp2
      go_ret
      exact ⟨rfl, HB.out⟩
  · go_wp2
    go_ret
    exact ⟨rfl, HB.out⟩
end Go.Proofs.YtofefbonokikfaaDoor
