/- The contracts of package lex: Quote. -/
import Derived.Test.YtofefbonokikfaaDoorLexPl
namespace Go.Proofs.YtofefbonokikfaaDoor
open Go Go.ChangeShapes Go.WideShapes Go.ChangeAt Go.RowKit
set_option linter.unusedVariables false
/-- The result, where acc is written and l is left. -/
def quoEnd (acc : List UInt8) (l : List UInt8) : List UInt8 := match quoL l with | none => [] | some x => acc ++ x ++ [39]
theorem quoteT_end {l : List UInt8} (hp : plainT l = false) (hl : ¬ 64 < l.length) : quoteT l = quoEnd [39] l := by
  unfold quoteT quoEnd
  rw [hp, if_neg (by simp), if_neg hl]
  cases quoL l <;> rfl
/-- Of a letter: what stands for it. -/
def quo1 (c : UInt8) : Option (List UInt8) :=
  if c == 10 then some [92, 110] else if c == 9 then some [92, 116] else if c == 92 then some [92, 92] else if c == 39 then some [92, 39] else if c < 32 || 126 < c then none else some [c]
theorem quoL_cons (c : UInt8) (r : List UInt8) : quoL (c :: r) = (quo1 c).bind fun y => (quoL r).map fun x => y ++ x := by
  unfold quo1
  rw [quoL]
  split
  · cases quoL r <;> rfl
  · split
    · cases quoL r <;> rfl
    · split
      · cases quoL r <;> rfl
      · split
        · cases quoL r <;> rfl
        · split
          · rfl
          · cases quoL r <;> rfl
theorem quoEnd_some {acc : List UInt8} {c : UInt8} {r y : List UInt8} (h : quo1 c = some y) : quoEnd acc (c :: r) = quoEnd (acc ++ y) r := by
  unfold quoEnd
  rw [quoL_cons, h]
  show (match (quoL r).map (fun x => y ++ x) with | none => [] | some x => acc ++ x ++ [39]) = _
  cases quoL r <;> simp
theorem quoEnd_none {acc : List UInt8} {c : UInt8} {r : List UInt8} (h : quo1 c = none) : quoEnd acc (c :: r) = [] := by
  unfold quoEnd
  rw [quoL_cons, h]; rfl
theorem quoEnd_nil {acc : List UInt8} : quoEnd acc [] = acc ++ [39] := by
  unfold quoEnd; simp [quoL]
/-- The bytes of a string, converted: a block. -/
def ByRow (w : World) (B : Nat) (s : ByteArray) : Prop := ∃ cap, w.heap[B]? = some (.cells (bytesRow s cap) 5 ((bytesRow s cap).size, (bytesRow s cap).size + 1))
theorem ByRow.cell {w : World} {B : Nat} {s : ByteArray} (h : ByRow w B s) {k : Nat} (hk : k < s.size) : w.cell? ⟨B, k, none⟩ = some (.int .u8 s[k].toNat) := by
  obtain ⟨cap, h⟩ := h
  rw [cell_of_row w B k _ _ _ h]
  unfold bytesRow
  have hk' : k < s.data.size := hk
  rw [Array.getElem?_append_left (by simpa using hk')]
  rw [Array.getElem?_map, Array.getElem?_eq_getElem hk']; rfl
theorem own_ne {w : World} {base B n size : Nat} {e : TypeId} {v : Value} {xs : List Value} {s : ByteArray} (h : w.ownsRow base e size v n xs) (hX : ByRow w B s) : v.ownBlock ≠ some B := by
  intro hv
  obtain ⟨cap, hX⟩ := hX
  rcases h.2 with ⟨rfl, _⟩ | ⟨g, c, cur, rfl, _, h3, _⟩
  · simp [Value.ownBlock] at hv
  · simp [Value.ownBlock] at hv
    subst hv
    rw [h3] at hX
    simp at hX
theorem ByRow.grown {w w' : World} {B : Nat} {s : ByteArray} {row : Option Nat} {o : Obj} (h : ByRow w B s) (hg : (w.alloc o).grownBy w' row) (hr : row ≠ some B) : ByRow w' B s := by
  obtain ⟨cap, h⟩ := h
  have hl : B < w.heap.size := (Array.getElem?_eq_some_iff.1 h).1
  exact ⟨cap, by rw [hg.block B (by simp; omega) (Ne.symm hr), show (w.alloc o).heap[B]? = w.heap[B]? from heap_alloc_old w o hl]; exact h⟩
theorem own_new {w : World} {n : Nat} {l : List Value} {t : TypeId} {base : Nat} (hn : w.heap.size = n) (hb : base ≤ n) (hl : l.length ≤ maxLen) : (w.alloc (.cells l.toArray t)).ownsRow base t 1 (.slice (some ⟨n, 0, none⟩) l.length l.length) l.length l := by
  subst hn
  exact ⟨by simp, .inr ⟨w.heap.size, l.length, l.toArray, rfl, hb, heap_alloc_new w _, Nat.le_refl _, hl, by simp, by simp⟩⟩
theorem idx_quo (d : UInt8) (h1 : (d == 10) = false) (h2 : (d == 9) = false) (h3 : (d == 92) = false) (h4 : (d == 39) = false) : Lib.indexByte [10, 9, 92, 39] d = -1 := by
  have hg := Lib.indexByte_ge [10, 9, 92, 39] d
  have hc := indexByte_geq [10, 9, 92, 39] d
  rw [show ([10, 9, 92, 39] : List UInt8).contains d = false from by simp only [List.contains_cons, h1, h2, h3, h4]; rfl] at hc
  have := of_decide_eq_false hc
  omega
set_option maxRecDepth 100000 in
set_option maxHeartbeats 10000000 in
theorem quote_any (s : ByteArray) (w : World) (hr : Rng w) : Calls Tryd.prog 10 #[.string s] w fun e w' => e = .returned (.string ⟨(quoteT s.data.toList).toArray⟩) ∧ Below w.heap.size w w' := by
  have R := Lib.hid hr; clear hr
  obtain ⟨q, hq⟩ : ∃ q, q = quoteT s.data.toList := ⟨_, rfl⟩
  rw [← hq]
  have HQ := Lib.hid hq; clear hq
  obtain ⟨i0, hi0, hz0, hz1, hz2⟩ := info_parts info_u8
  have hcv : ∀ wx : World, (convert 9 39 (.string s)).run Tryd.prog wx = .ok (.slice (some ⟨wx.heap.size, 0, none⟩) s.size (grownCap wx s.size 0 5))
      (wx.drew.alloc (.cells (bytesRow s (grownCap wx s.size 0 5)) 5 ((bytesRow s (grownCap wx s.size 0 5)).size, (bytesRow s (grownCap wx s.size 0 5)).size + 1))) := fun wx => run_bytes_of_string wx _ _ _ s Tryd.underlying9 Tryd.underlying39 Tryd.underlying5
  go_enter Tryd.func10, Tryd.ntmps10
  go_wp2_with fail
  refine (plain_any s w R.out).mono ?_; rintro e w1 ⟨rfl, hb⟩
  cases hp : plainT s.data.toList
  · by_cases hs : 64 < s.size
    · have hs' : (64 : Int) < (s.size : Int) := by omega
      go_wp2
      go_ret
      exact ⟨by rw [HQ.out]; unfold quoteT; rw [hp, if_neg (by simp), if_pos (by simpa using hs)]; rfl, hb⟩
    · have hs' : ¬ (64 : Int) < (s.size : Int) := by omega
      have HE := Lib.hid (HQ.out.trans (quoteT_end hp (by simpa using hs)))
      go_wp2_with fail
      go_loopg [3, 17] s.size (fun g v x wr => ∃ (k : Nat) (acc : List UInt8), g = s.size - k ∧ k ≤ s.size ∧ x = .int .i64 k ∧ Hid (q = quoEnd acc (s.data.toList.drop k)) ∧ wr.ownsRow w1.heap.size 5 1 v acc.length (bytesV acc) ∧ Hid (acc.length ≤ 2 * k + 1) ∧
        ByRow wr (w1.heap.size + 1) s ∧ Below w1.heap.size w1 wr)
      case atStart =>
        refine ⟨0, [39], by simp, by omega, rfl, HE, (own_new (l := [.int .u8 39]) rfl (Nat.le_refl _) (by decide)).alloc _, Lib.hid (by simp), ⟨grownCap (w1.alloc (.cells #[.int .u8 39] 5)) s.size 0 5, ?_⟩, ?_⟩
        · have h : (w1.alloc (.cells #[.int .u8 39] 5)).heap.size = w1.heap.size + 1 := by simp
          rw [← h]
          exact heap_alloc_new (w1.alloc (.cells #[.int .u8 39] 5)) _
        · exact (((Below.refl _ w1).alloc (Nat.le_refl _) _).alloc (by simp) _).drew
      case round =>
        obtain ⟨k, acc, hg, h2, rfl, HR, hown, hal, hX, hbe⟩ := hrel
        have G := Lib.hid hg; clear hg
        have k0 : (0 : Int) ≤ (k : Int) := by omega
        have hbs := hbe.size
        by_cases hlt : k < s.size
        · have hlt' : (k : Int) < (s.size : Int) := by omega
          have kw : IntKind.i64.wrap ((k : Int) + 1) = (k : Int) + 1 := IntWalk.i64_in _ (by omega)
          have hcell := hX.cell hlt
          have DC := Lib.hid (drop_cons hlt)
          have hs4 : k + 1 ≤ 64 := by omega
          have hcs : (s[k] == 10) = true ∨ (s[k] == 9) = true ∨ (s[k] == 92) = true ∨ (s[k] == 39) = true ∨ ((s[k] == 10) = false ∧ (s[k] == 9) = false ∧ (s[k] == 92) = false ∧ (s[k] == 39) = false) := by
            cases s[k] == 10 <;> cases s[k] == 9 <;> cases s[k] == 92 <;> cases s[k] == 39 <;> simp
          rcases hcs with hc | hc | hc | hc | hc
          · have hix : Lib.indexByte [10, 9, 92, 39] s[k] = 0 := by rw [eq_of_beq hc]; decide
            have hq1 : quo1 s[k] = some [92, 110] := by rw [eq_of_beq hc]; decide
            have Hq1 := Lib.hid hq1
            clear hc hq1
            go_wp2_with fail
            refine (idx_p [10, 9, 92, 39] s[k] _).mono ?_; rintro e w' ⟨rfl, rfl⟩
            rw [hix]
            go_wp2_with (at_builtin; refine wpList_append_own _ rfl _ _ 39 rfl w1.heap.size 5 i0 (.int .u8 0) 1 1 Tryd.underlying39 hi0 hz0 hz1 hz2 rfl (by decide) _ _ _ rfl (hown.alloc _) ⟨wr.heap.size, 0, none⟩ 2 2 [.int .u8 92, .int .u8 110] rfl rfl (row_new rfl) (by intro u hu; simp at hu; rcases hu with rfl | rfl <;> rfl) (by have := hal.out; unfold maxLen; omega) (by have := hal.out; omega) (by simp; omega) ?_; intro v' w2 hown' hgrow hnil)
            have HG := Lib.hid hgrow; have HO2 := Lib.hid hown'; clear hgrow hown' hnil
            go_roundg (s.size - (k + 1))
            case measure => have := G.out; omega
            case rel => exact ⟨k + 1, acc ++ [92, 110], rfl, by omega, rfl, Lib.hid (by rw [HR.out, DC.out]; exact quoEnd_some Hq1.out), by have h := HO2.out; simpa [bytesV] using h, Lib.hid (by have := hal.out; simp; omega), hX.grown HG.out (own_ne hown hX), below_grown (hbe.alloc hbs _) HG.out (fun g e => (hown.lt g e).1) (by simp; omega)⟩
          · have hix : Lib.indexByte [10, 9, 92, 39] s[k] = 1 := by rw [eq_of_beq hc]; decide
            have hq1 : quo1 s[k] = some [92, 116] := by rw [eq_of_beq hc]; decide
            have Hq1 := Lib.hid hq1
            clear hc hq1
            go_wp2_with fail
            refine (idx_p [10, 9, 92, 39] s[k] _).mono ?_; rintro e w' ⟨rfl, rfl⟩
            rw [hix]
            go_wp2_with (at_builtin; refine wpList_append_own _ rfl _ _ 39 rfl w1.heap.size 5 i0 (.int .u8 0) 1 1 Tryd.underlying39 hi0 hz0 hz1 hz2 rfl (by decide) _ _ _ rfl (hown.alloc _) ⟨wr.heap.size, 0, none⟩ 2 2 [.int .u8 92, .int .u8 116] rfl rfl (row_new rfl) (by intro u hu; simp at hu; rcases hu with rfl | rfl <;> rfl) (by have := hal.out; unfold maxLen; omega) (by have := hal.out; omega) (by simp; omega) ?_; intro v' w2 hown' hgrow hnil)
            have HG := Lib.hid hgrow; have HO2 := Lib.hid hown'; clear hgrow hown' hnil
            go_roundg (s.size - (k + 1))
            case measure => have := G.out; omega
            case rel => exact ⟨k + 1, acc ++ [92, 116], rfl, by omega, rfl, Lib.hid (by rw [HR.out, DC.out]; exact quoEnd_some Hq1.out), by have h := HO2.out; simpa [bytesV] using h, Lib.hid (by have := hal.out; simp; omega), hX.grown HG.out (own_ne hown hX), below_grown (hbe.alloc hbs _) HG.out (fun g e => (hown.lt g e).1) (by simp; omega)⟩
          · have hix : Lib.indexByte [10, 9, 92, 39] s[k] = 2 := by rw [eq_of_beq hc]; decide
            have hq1 : quo1 s[k] = some [92, 92] := by rw [eq_of_beq hc]; decide
            have Hq1 := Lib.hid hq1
            clear hc hq1
            go_wp2_with fail
            refine (idx_p [10, 9, 92, 39] s[k] _).mono ?_; rintro e w' ⟨rfl, rfl⟩
            rw [hix]
            go_wp2_with (at_builtin; refine wpList_append_own _ rfl _ _ 39 rfl w1.heap.size 5 i0 (.int .u8 0) 1 1 Tryd.underlying39 hi0 hz0 hz1 hz2 rfl (by decide) _ _ _ rfl (hown.alloc _) ⟨wr.heap.size, 0, none⟩ 2 2 [.int .u8 92, .int .u8 92] rfl rfl (row_new rfl) (by intro u hu; simp at hu; rcases hu with rfl | rfl <;> rfl) (by have := hal.out; unfold maxLen; omega) (by have := hal.out; omega) (by simp; omega) ?_; intro v' w2 hown' hgrow hnil)
            have HG := Lib.hid hgrow; have HO2 := Lib.hid hown'; clear hgrow hown' hnil
            go_roundg (s.size - (k + 1))
            case measure => have := G.out; omega
            case rel => exact ⟨k + 1, acc ++ [92, 92], rfl, by omega, rfl, Lib.hid (by rw [HR.out, DC.out]; exact quoEnd_some Hq1.out), by have h := HO2.out; simpa [bytesV] using h, Lib.hid (by have := hal.out; simp; omega), hX.grown HG.out (own_ne hown hX), below_grown (hbe.alloc hbs _) HG.out (fun g e => (hown.lt g e).1) (by simp; omega)⟩
          · have hix : Lib.indexByte [10, 9, 92, 39] s[k] = 3 := by rw [eq_of_beq hc]; decide
            have hq1 : quo1 s[k] = some [92, 39] := by rw [eq_of_beq hc]; decide
            have Hq1 := Lib.hid hq1
            clear hc hq1
            go_wp2_with fail
            refine (idx_p [10, 9, 92, 39] s[k] _).mono ?_; rintro e w' ⟨rfl, rfl⟩
            rw [hix]
            go_wp2_with (at_builtin; refine wpList_append_own _ rfl _ _ 39 rfl w1.heap.size 5 i0 (.int .u8 0) 1 1 Tryd.underlying39 hi0 hz0 hz1 hz2 rfl (by decide) _ _ _ rfl (hown.alloc _) ⟨wr.heap.size, 0, none⟩ 2 2 [.int .u8 92, .int .u8 39] rfl rfl (row_new rfl) (by intro u hu; simp at hu; rcases hu with rfl | rfl <;> rfl) (by have := hal.out; unfold maxLen; omega) (by have := hal.out; omega) (by simp; omega) ?_; intro v' w2 hown' hgrow hnil)
            have HG := Lib.hid hgrow; have HO2 := Lib.hid hown'; clear hgrow hown' hnil
            go_roundg (s.size - (k + 1))
            case measure => have := G.out; omega
            case rel => exact ⟨k + 1, acc ++ [92, 39], rfl, by omega, rfl, Lib.hid (by rw [HR.out, DC.out]; exact quoEnd_some Hq1.out), by have h := HO2.out; simpa [bytesV] using h, Lib.hid (by have := hal.out; simp; omega), hX.grown HG.out (own_ne hown hX), below_grown (hbe.alloc hbs _) HG.out (fun g e => (hown.lt g e).1) (by simp; omega)⟩
          · have hix : Lib.indexByte [10, 9, 92, 39] s[k] = -1 := idx_quo _ hc.1 hc.2.1 hc.2.2.1 hc.2.2.2
            by_cases hbad : (s[k].toNat : Int) < 32 ∨ 126 < (s[k].toNat : Int)
            · have hQ0 : Hid (q = []) := Lib.hid (by rw [HR.out, DC.out]; exact quoEnd_none (by unfold quo1; rw [hc.1, hc.2.1, hc.2.2.1, hc.2.2.2, bad_or]; rcases hbad with h | h <;> simp [h]))
              clear hc hcv
              rcases hbad with hb1 | hb1
              · go_wp2_with fail
                refine (idx_p [10, 9, 92, 39] s[k] _).mono ?_; rintro e w' ⟨rfl, rfl⟩
                rw [hix]
                go_wp2
                go_ret
                exact ⟨by rw [hQ0.out]; rfl, bcall hb hbe⟩
              · have hb0 : ¬ (s[k].toNat : Int) < 32 := by omega
                go_wp2_with fail
                refine (idx_p [10, 9, 92, 39] s[k] _).mono ?_; rintro e w' ⟨rfl, rfl⟩
                rw [hix]
                go_wp2
                go_ret
                exact ⟨by rw [hQ0.out]; rfl, bcall hb hbe⟩
            · have hb1 : ¬ (s[k].toNat : Int) < 32 := by omega
              have hb2 : ¬ 126 < (s[k].toNat : Int) := by omega
              have Hq1 : Hid (quo1 s[k] = some [s[k]]) := Lib.hid (by unfold quo1; rw [hc.1, hc.2.1, hc.2.2.1, hc.2.2.2, bad_or]; simp [hb1, hb2])
              clear hc hcv
              go_wp2_with fail
              refine (idx_p [10, 9, 92, 39] s[k] _).mono ?_; rintro e w' ⟨rfl, rfl⟩
              rw [hix]
              go_wp2_with (at_builtin; refine wpList_append_own _ rfl _ _ 39 rfl w1.heap.size 5 i0 (.int .u8 0) 1 1 Tryd.underlying39 hi0 hz0 hz1 hz2 rfl (by decide) _ _ _ rfl (hown.alloc _) ⟨wr.heap.size, 0, none⟩ 1 1 [.int .u8 s[k].toNat] rfl rfl (row_new rfl) (by intro u hu; simp at hu; subst hu; rfl) (by have := hal.out; unfold maxLen; omega) (by have := hal.out; omega) (by simp; omega) ?_; intro v' w2 hown' hgrow hnil)
              have HG := Lib.hid hgrow; have HO2 := Lib.hid hown'; clear hgrow hown' hnil
              go_roundg (s.size - (k + 1))
              case measure => have := G.out; omega
              case rel => exact ⟨k + 1, acc ++ [s[k]], rfl, by omega, rfl, Lib.hid (by rw [HR.out, DC.out]; exact quoEnd_some Hq1.out), by have h := HO2.out; simpa [bytesV] using h, Lib.hid (by have := hal.out; simp; omega), hX.grown HG.out (own_ne hown hX), below_grown (hbe.alloc hbs _) HG.out (fun g e => (hown.lt g e).1) (by simp; omega)⟩
        · have hlt' : ¬ (k : Int) < (s.size : Int) := by omega
          have hQ0 : Hid (q = acc ++ [39]) := Lib.hid (by rw [HR.out, drop_nil hlt, quoEnd_nil])
          clear hcv
          go_wp2_with (at_builtin; refine wpList_append_own _ rfl _ _ 39 rfl w1.heap.size 5 i0 (.int .u8 0) 1 1 Tryd.underlying39 hi0 hz0 hz1 hz2 rfl (by decide) _ _ _ rfl (hown.alloc _) ⟨wr.heap.size, 0, none⟩ 1 1 [.int .u8 39] rfl rfl (row_new rfl) (by intro u hu; simp at hu; subst hu; rfl) (by have := hal.out; unfold maxLen; omega) (by have := hal.out; omega) (by simp; omega) ?_; intro v' w2 hown' hgrow hnil; have hct := conv_own (l := acc ++ [39]) (by simpa [bytesV] using hown'))
          go_ret
          exact ⟨by rw [hQ0.out]; rfl, bcall hb (below_grown (hbe.alloc hbs _) hgrow (fun g e => (hown.lt g e).1) (by simp; omega))⟩
  · go_wp2
    go_ret
    exact ⟨by rw [HQ.out]; unfold quoteT; rw [hp, if_pos rfl]; simp, hb⟩
end Go.Proofs.YtofefbonokikfaaDoor
