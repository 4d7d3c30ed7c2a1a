/- The law LexBlanks. -/
import Derived.Test.YtofefbonokikfaaDoorLexAw
namespace Go.Proofs.YtofefbonokikfaaDoor
open Go Go.ChangeShapes Go.WideShapes Go.ChangeAt Go.RowKit
set_option linter.unusedVariables false
/-- Blanks, at most k + 1. -/
def Pad (p : ByteArray) (k : Nat) : Prop := p.size ≤ k + 1 ∧ ∀ c ∈ p.data.toList, lblank c = true
theorem Pad.more {p : ByteArray} {k : Nat} (h : Pad p k) : Pad p (k + 1) := ⟨by have := h.1; omega, h.2⟩
theorem Pad.add {p a : ByteArray} {k : Nat} (h : Pad p k) (hk : k < a.size) (hc : lblank a[k] = true) : Pad (p ++ a.extract k (k + 1)) (k + 1) := by
  constructor
  · have := h.1; simp; omega
  · intro c hm
    rw [extract_eq, drop_cons hk] at hm
    simp at hm
    rcases hm with hm | hm
    · exact h.2 c (by simpa using hm)
    · rw [hm]; exact hc
set_option maxRecDepth 100000 in
set_option maxHeartbeats 10000000 in
theorem blanks_any (s a : ByteArray) (w : World) (hr : Rng w) : Calls Tryd.prog 3 #[.string s, .string a] w fun e w' => e = .returned (.bool true) ∧ Below w.heap.size w w' := by
  have R := Lib.hid hr; clear hr
  rcases ho : cutT s.data.toList with ⟨ts, n, er⟩
  have HO := Lib.hid ho
  go_enter Tryd.func3, Tryd.ntmps3
  go_wp2_with fail
  refine (awake_any w R.out).mono ?_; rintro e w1 ⟨rfl, hb1⟩
  go_wp2_with fail
  refine (cut_any s w1 (R.out.keep hb1)).mono ?_; rw [ho]; clear ho; rintro e w2 ⟨v, rfl, hown, hb2⟩
  have HW := Lib.hid hown; clear hown
  obtain ⟨oa, oc, rfl⟩ := own_shape HW.out
  have HB := Lib.hid (bcall hb1 hb2)
  cases e0 : er != 0
  · by_cases hs : s.size ≤ 2000
    · by_cases ha : a.size ≤ 20
      · have hs' : ¬ (2000 : Int) < (s.size : Int) := by omega
        have ha' : ¬ (20 : Int) < (a.size : Int) := by omega
        go_wp2_with fail
        go_loopg [8, 9] a.size (fun g x y wr => ∃ (k : Nat) (p : ByteArray), g = a.size - k ∧ k ≤ a.size ∧ x = .string p ∧ y = .int .i64 k ∧ Hid (Pad p k) ∧ wr = w2)
        case atStart => exact ⟨0, ⟨#[32]⟩, rfl, by omega, rfl, rfl, Lib.hid ⟨by decide, by intro c hc; simp at hc; subst hc; decide⟩, rfl⟩
        case round =>
          obtain ⟨k, p, hg, h2, rfl, rfl, hp, rfl⟩ := hrel
          have G := Lib.hid hg; clear hg
          have k0 : (0 : Int) ≤ (k : Int) := by omega
          by_cases hlt : k < a.size
          · have hlt' : (k : Int) < (a.size : Int) := by omega
            have kw : IntKind.i64.wrap ((k : Int) + 1) = (k : Int) + 1 := IntWalk.i64_in _ (by omega)
            have hsz : ¬ 9223372036854775807 < p.size + (min (k + 1) a.size - k) := by have := hp.out.1; omega
            have hcs : (a[k] == 9) = true ∨ (a[k] == 10) = true ∨ (a[k] == 13) = true ∨ (a[k] == 32) = true ∨ ((a[k] == 9) = false ∧ (a[k] == 10) = false ∧ (a[k] == 13) = false ∧ (a[k] == 32) = false) := by
              cases a[k] == 9 <;> cases a[k] == 10 <;> cases a[k] == 13 <;> cases a[k] == 32 <;> simp
            rcases hcs with hc | hc | hc | hc | hc
            · have hl : Hid (lblank a[k] = true) := Lib.hid (by rw [eq_of_beq hc]; decide)
              have hv : (a[k].toNat : Int) = 9 := by rw [eq_of_beq hc]; decide
              clear hc
              go_wp2
              go_roundg (a.size - (k + 1))
              case measure => have := G.out; omega
              case rel => exact ⟨k + 1, _, rfl, hlt, rfl, rfl, Lib.hid (hp.out.add hlt hl.out), rfl⟩
            · have hl : Hid (lblank a[k] = true) := Lib.hid (by rw [eq_of_beq hc]; decide)
              have hv : (a[k].toNat : Int) = 10 := by rw [eq_of_beq hc]; decide
              clear hc
              go_wp2
              go_roundg (a.size - (k + 1))
              case measure => have := G.out; omega
              case rel => exact ⟨k + 1, _, rfl, hlt, rfl, rfl, Lib.hid (hp.out.add hlt hl.out), rfl⟩
            · have hl : Hid (lblank a[k] = true) := Lib.hid (by rw [eq_of_beq hc]; decide)
              have hv : (a[k].toNat : Int) = 13 := by rw [eq_of_beq hc]; decide
              clear hc
              go_wp2
              go_roundg (a.size - (k + 1))
              case measure => have := G.out; omega
              case rel => exact ⟨k + 1, _, rfl, hlt, rfl, rfl, Lib.hid (hp.out.add hlt hl.out), rfl⟩
            · have hl : Hid (lblank a[k] = true) := Lib.hid (by rw [eq_of_beq hc]; decide)
              have hv : (a[k].toNat : Int) = 32 := by rw [eq_of_beq hc]; decide
              clear hc
              go_wp2
              go_roundg (a.size - (k + 1))
              case measure => have := G.out; omega
              case rel => exact ⟨k + 1, _, rfl, hlt, rfl, rfl, Lib.hid (hp.out.add hlt hl.out), rfl⟩
            · have h9 : ((a[k].toNat : Int) == 9) = false := by rw [u8_eq a[k] 9 9 rfl]; exact hc.1
              have h10 : ((a[k].toNat : Int) == 10) = false := by rw [u8_eq a[k] 10 10 rfl]; exact hc.2.1
              have h13 : ((a[k].toNat : Int) == 13) = false := by rw [u8_eq a[k] 13 13 rfl]; exact hc.2.2.1
              have h32 : ((a[k].toNat : Int) == 32) = false := by rw [u8_eq a[k] 32 32 rfl]; exact hc.2.2.2
              clear hc
              go_wp2
              go_roundg (a.size - (k + 1))
              case measure => have := G.out; omega
              case rel => exact ⟨k + 1, _, rfl, hlt, rfl, rfl, Lib.hid hp.out.more, rfl⟩
          · have hlt' : ¬ (k : Int) < (a.size : Int) := by omega
            have hpn : p.size ≤ 21 := by have := hp.out.1; omega
            have hsz : ¬ 9223372036854775807 < p.size + s.size := by omega
            have her : er = 0 := by simpa using e0
            subst her
            have hcp := cut_pad HO.out hp.out.2 (by simp; omega)
            rw [show p.data.toList ++ s.data.toList = (p ++ s).data.toList from by simp] at hcp
            go_wp2_with fail
            refine (cut_any (p ++ s) wr (R.out.keep HB.out)).mono ?_; rw [hcp]; clear hcp; rintro e w3 ⟨v, rfl, hown3, hb3⟩
            have HW3 := Lib.hid hown3; clear hown3
            obtain ⟨oa3, oc3, rfl⟩ := own_shape HW3.out
            simp only [List.length_map]
            have htl := (cutT_ok HO.out).2.2.2
            go_wp2_with fail
            go_loopg [13] ts.length (fun g x wr' => ∃ (k m : Nat), g = ts.length - k ∧ k ≤ ts.length ∧ x = .int .i64 k ∧ wr' = w3.drewN m)
            case atStart => exact ⟨0, 0, rfl, by omega, rfl, rfl⟩
            case round =>
              obtain ⟨k, m, hg, h2, rfl, rfl⟩ := hrel
              have G := Lib.hid hg; clear hg
              have k0 : (0 : Int) ≤ (k : Int) := by omega
              by_cases hlt : k < ts.length
              · have hlt' : (k : Int) < (ts.length : Int) := by omega
                have kw : IntKind.i64.wrap ((k : Int) + 1) = (k : Int) + 1 := IntWalk.i64_in _ (by omega)
                obtain ⟨g1, c1, he1, hg1, hg2, hT1⟩ := tok_at (own_below HW.out hb3) (by omega)
                obtain ⟨g2, c2, he2, hg3, hg4, hT2⟩ := tok_at HW3.out (by simp; omega)
                cases he1; cases he2
                have a0 : w3.cell? ⟨g1, k * 5, none⟩ = some (.int .i64 ts[k].kind) := hT1 k hlt 0 _ rfl
                have a1 : w3.cell? ⟨g1, k * 5 + 1, none⟩ = some (.string ⟨ts[k].text.toArray⟩) := hT1 k hlt 1 _ rfl
                have a2 : w3.cell? ⟨g1, k * 5 + 2, none⟩ = some (.int .i64 ts[k].num) := hT1 k hlt 2 _ rfl
                have a3 : w3.cell? ⟨g1, k * 5 + 3, none⟩ = some (.bool ts[k].opn) := hT1 k hlt 3 _ rfl
                have a4 : w3.cell? ⟨g1, k * 5 + 4, none⟩ = some (.int .i64 ts[k].pos) := hT1 k hlt 4 _ rfl
                have b0 : w3.cell? ⟨g2, k * 5, none⟩ = some (.int .i64 ts[k].kind) := hT2 k (by simpa using hlt) 0 _ (by simp [tokCells, shT])
                have b1 : w3.cell? ⟨g2, k * 5 + 1, none⟩ = some (.string ⟨ts[k].text.toArray⟩) := hT2 k (by simpa using hlt) 1 _ (by simp [tokCells, shT])
                have b2 : w3.cell? ⟨g2, k * 5 + 2, none⟩ = some (.int .i64 ts[k].num) := hT2 k (by simpa using hlt) 2 _ (by simp [tokCells, shT])
                have b3 : w3.cell? ⟨g2, k * 5 + 3, none⟩ = some (.bool ts[k].opn) := hT2 k (by simpa using hlt) 3 _ (by simp [tokCells, shT])
                have b4 : w3.cell? ⟨g2, k * 5 + 4, none⟩ = some (.int .i64 (ts[k].pos + p.size)) := hT2 k (by simpa using hlt) 4 _ (by simp [tokCells, shT])
                have hpos := cut_pos HO.out ts[k] (List.getElem_mem hlt)
                have hls : s.data.toList.length = s.size := by simp
                have kp : IntKind.i64.wrap (ts[k].pos + (p.size : Int)) = ts[k].pos + (p.size : Int) := IntWalk.i64_in _ (by omega)
                have kq : (ts[k].pos + (p.size : Int) != ts[k].pos + (p.size : Int)) = false := by simp
                clear hT1 hT2
                go_wp2_with fail
                go_quiet (fail)
                go_wp2
                go_roundg (ts.length - (k + 1))
                case measure => have := G.out; omega
                case rel => exact ⟨k + 1, m + nq, rfl, hlt, rfl, rfl⟩
              · have hlt' : ¬ (k : Int) < (ts.length : Int) := by omega
                go_wp2
                go_ret
                exact ⟨rfl, Below.drewN (bcall HB.out hb3) m⟩
      · have ha' : (20 : Int) < (a.size : Int) := by omega
        have hs' : ¬ (2000 : Int) < (s.size : Int) := by omega
        go_wp2
        go_ret
        exact ⟨rfl, HB.out⟩
    · have hs' : (2000 : Int) < (s.size : Int) := by omega
      go_wp2
      go_ret
      exact ⟨rfl, HB.out⟩
  · go_wp2
    go_ret
    exact ⟨rfl, HB.out⟩
end Go.Proofs.YtofefbonokikfaaDoor
