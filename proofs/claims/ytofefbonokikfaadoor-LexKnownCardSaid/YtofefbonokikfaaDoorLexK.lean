/- The law LexKnown. -/
import Derived.Test.YtofefbonokikfaaDoorLexAw
import Derived.Deep.RegionHeld3
namespace Go.Proofs.YtofefbonokikfaaDoor
open Go Go.ChangeShapes Go.WideShapes Go.ChangeAt Go.RowKit
set_option linter.unusedVariables false
theorem keepk {w w' : World} (hb : Below w.heap.size w w') {a : Addr} {v : Value} (h : w.cell? a = some v) : w'.cell? a = some v :=
  (World.cell?_of_block (hb.block a.block (World.block_lt_of_cell? w a h))).trans h
theorem quote_h (l : List UInt8) {w W : World} (h : Hid (Rng W ∧ Below w.heap.size w W)) : Calls Tryd.prog 10 #[.string ⟨l.toArray⟩] W fun e w' => e = .returned (.string ⟨(quoteT l).toArray⟩) ∧ Hid (Rng w' ∧ Below w.heap.size w w') :=
  (quote_p l rfl W h.out.1).mono fun e w' ⟨h1, h2⟩ => ⟨h1, Lib.hid ⟨h.out.1.keep h2, bcall h.out.2 h2⟩⟩
theorem plain_h (l : List UInt8) {w W : World} (h : Hid (Rng W ∧ Below w.heap.size w W)) : Calls Tryd.prog 11 #[.string ⟨l.toArray⟩] W fun e w' => e = .returned (.bool (plainT l)) ∧ Hid (Rng w' ∧ Below w.heap.size w w') :=
  (plain_p l rfl W h.out.1).mono fun e w' ⟨h1, h2⟩ => ⟨h1, Lib.hid ⟨h.out.1.keep h2, bcall h.out.2 h2⟩⟩
def badV : Array Value := #[.string ⟨#[97, 32, 34]⟩, .string ⟨#[39, 97]⟩, .string ⟨#[39, 92, 120, 39]⟩, .string ⟨#[39, 10, 39]⟩, .string ⟨#[97, 32, 1]⟩, .string ⟨#[57, 50, 50, 51, 51, 55, 50, 48, 51, 54, 56, 53, 52, 55, 55, 53, 56, 48, 56]⟩, .string ⟨#[39, 92]⟩]
def atV : Array Value := #[.int .i64 2, .int .i64 0, .int .i64 0, .int .i64 0, .int .i64 2, .int .i64 0, .int .i64 0]
theorem bad0 : cutT [97, 32, 34] = ([], 2, 2) := by decide +kernel
theorem bad1 : cutT [39, 97] = ([], 0, 2) := by decide +kernel
theorem bad2 : cutT [39, 92, 120, 39] = ([], 0, 2) := by decide +kernel
theorem bad3 : cutT [39, 10, 39] = ([], 0, 2) := by decide +kernel
theorem bad4 : cutT [97, 32, 1] = ([], 2, 2) := by decide +kernel
theorem bad5 : cutT [57, 50, 50, 51, 51, 55, 50, 48, 51, 54, 56, 53, 52, 55, 55, 53, 56, 48, 56] = ([], 0, 3) := by decide +kernel
theorem bad6 : cutT [39, 92] = ([], 0, 2) := by decide +kernel
def okL : List UInt8 := [39, 105, 116, 39, 39, 115, 92, 110, 92, 92, 39, 32, 91, 93, 32, 123, 125, 32, 91, 32, 93, 32, 61, 46, 46, 32, 97, 46, 98, 32, 88, 95, 49, 32, 37, 32, 110, 111, 10, 49, 50, 46]
def okT : List Tok := [⟨2, [105, 116, 39, 115, 10, 92], 0, false, 0⟩, ⟨1, [91, 93], 0, false, 12⟩, ⟨1, [123, 125], 0, false, 15⟩, ⟨5, [91], 0, false, 18⟩, ⟨5, [93], 0, false, 20⟩, ⟨1, [61, 46], 0, false, 22⟩, ⟨6, [], 0, false, 24⟩, ⟨1, [97], 0, false, 26⟩, ⟨1, [46], 0, false, 27⟩, ⟨1, [98], 0, false, 28⟩, ⟨3, [88, 95, 49], 0, false, 30⟩, ⟨4, [], 12, false, 39⟩, ⟨6, [], 0, false, 41⟩]
theorem ok_cut : cutT okL = (okT, 42, 0) := by decide +kernel
/-- The cells of the tokens that the law looks at. -/
def OkAt (w : World) (g : Nat) : Prop :=
  w.cell? ⟨g, 0, none⟩ = some (.int .i64 2) ∧ w.cell? ⟨g, 1, none⟩ = some (.string ⟨#[105, 116, 39, 115, 10, 92]⟩) ∧ w.cell? ⟨g, 5, none⟩ = some (.int .i64 1) ∧ w.cell? ⟨g, 6, none⟩ = some (.string ⟨#[91, 93]⟩) ∧ w.cell? ⟨g, 11, none⟩ = some (.string ⟨#[123, 125]⟩) ∧
  w.cell? ⟨g, 15, none⟩ = some (.int .i64 5) ∧ w.cell? ⟨g, 20, none⟩ = some (.int .i64 5) ∧ w.cell? ⟨g, 26, none⟩ = some (.string ⟨#[61, 46]⟩) ∧ w.cell? ⟨g, 30, none⟩ = some (.int .i64 6)
theorem OkAt.keep {w w' : World} {g : Nat} (h : OkAt w g) (hb : Below w.heap.size w w') : OkAt w' g := by
  obtain ⟨h1, h2, h3, h4, h5, h6, h7, h8, h9⟩ := h
  exact ⟨keepk hb h1, keepk hb h2, keepk hb h3, keepk hb h4, keepk hb h5, keepk hb h6, keepk hb h7, keepk hb h8, keepk hb h9⟩
theorem okAt_of {w : World} {g : Nat} (h : TokAt w g okT) : OkAt w g :=
  ⟨h 0 (by decide) 0 _ rfl, h 0 (by decide) 1 _ rfl, h 1 (by decide) 0 _ rfl, h 1 (by decide) 1 _ rfl, h 2 (by decide) 1 _ rfl, h 3 (by decide) 0 _ rfl, h 4 (by decide) 0 _ rfl, h 5 (by decide) 1 _ rfl, h 6 (by decide) 0 _ rfl⟩
theorem rep_cut : cutT (List.replicate 65 97) = ([], 0, 3) := by decide +kernel
theorem rep_quote : quoteT (List.replicate 65 97) = [] := by decide +kernel
theorem rep_add (k : Nat) (c : UInt8) : (⟨(List.replicate k c).toArray⟩ ++ ⟨#[c]⟩ : ByteArray) = ⟨(List.replicate (k + 1) c).toArray⟩ := by
  apply ByteArray.ext
  apply Array.toList_inj.mp
  simp [List.replicate_succ']
theorem rep_cut2 : cutT (List.replicate 4097 32) = ([], 4096, 3) := by
  unfold cutT; rw [if_pos (by rw [List.length_replicate]; decide)]
set_option maxRecDepth 100000 in
set_option maxHeartbeats 10000000 in
theorem known_any (w : World) (hr : Rng w) : Calls Tryd.prog 6 #[] w fun e w' => e = .returned (.bool true) ∧ Below w.heap.size w w' := by
  have R := Lib.hid hr; clear hr
  go_enter Tryd.func6, Tryd.ntmps6
  go_wp2_with fail
  refine (awake_any w R.out).mono ?_; rintro e w1 ⟨rfl, hb1⟩
  have HB := Lib.hid hb1
  go_wp2_with fail
  go_loopg [3] 7 (fun g x wr => ∃ k : Nat, g = 7 - k ∧ k ≤ 7 ∧ x = .int .i64 k ∧ Hid (Below w.heap.size w wr) ∧ Blk wr w1.heap.size badV 9 ∧ Blk wr (w1.heap.size + 1) atV 3)
  case atStart => exact ⟨0, rfl, by decide, rfl, Lib.hid (Below.alloc (Below.alloc HB.out (HB.out.size) _) (by have := HB.out.size; simp; omega) _), (Blk.new _ _ _).alloc _, Blk.new' (by simp) _ _⟩
  case round =>
    obtain ⟨k, hg, h2, rfl, HW, hbad, hat⟩ := hrel
    have G := Lib.hid hg; clear hg
    by_cases h7 : k = 7
    · subst h7
      go_wp2_with fail
      refine (cut_p okL ok_cut wr (R.out.keep HW.out)).mono ?_; rintro e w2 ⟨v, rfl, hown, hb2⟩
      obtain ⟨g, cap, rfl, hg1, hg2, hT⟩ := tok_at hown (by decide)
      have HK := Lib.hid (okAt_of hT)
      have HW2 := Lib.hid (bcall HW.out hb2)
      clear hown hT
      go_wp2_with fail
      go_loopg [10, 11] 4097 (fun g x y wr' => ∃ k : Nat, g = 4097 - k ∧ k ≤ 4097 ∧ x = .string ⟨(List.replicate k 32).toArray⟩ ∧ y = .int .i64 k ∧ wr' = w2)
      case atStart => exact ⟨0, rfl, by omega, rfl, rfl, rfl⟩
      case round =>
        obtain ⟨k, hg, h2, rfl, rfl, rfl⟩ := hrel
        have G := Lib.hid hg; clear hg
        by_cases hlt : k < 4097
        · have hlt' : (k : Int) < 4097 := by omega
          have kw : IntKind.i64.wrap ((k : Int) + 1) = (k : Int) + 1 := IntWalk.i64_in _ (by omega)
          go_wp2
          go_roundg (4097 - (k + 1))
          case measure => have := G.out; omega
          case rel => exact ⟨k + 1, rfl, hlt, congrArg Value.string (rep_add k 32), rfl, rfl⟩
        · have hlt' : ¬ (k : Int) < 4097 := by omega
          have hk : k = 4097 := by omega
          subst hk
          obtain ⟨L2, hL2⟩ : ∃ L2, L2 = List.replicate 4097 (32 : UInt8) := ⟨_, rfl⟩
          rw [← hL2]
          have HL2 := Lib.hid (show cutT L2 = ([], 4096, 3) from by rw [hL2]; exact rep_cut2)
          clear hL2
          go_wp2_with fail
          go_loopg [12, 13] 65 (fun g x y wr' => ∃ k : Nat, g = 65 - k ∧ k ≤ 65 ∧ x = .string ⟨(List.replicate k 97).toArray⟩ ∧ y = .int .i64 k ∧ wr' = wr)
          case atStart => exact ⟨0, rfl, by omega, rfl, rfl, rfl⟩
          case round =>
            obtain ⟨k, hg, h2, rfl, rfl, rfl⟩ := hrel
            have G := Lib.hid hg; clear hg
            by_cases hlt : k < 65
            · have hlt' : (k : Int) < 65 := by omega
              have kw : IntKind.i64.wrap ((k : Int) + 1) = (k : Int) + 1 := IntWalk.i64_in _ (by omega)
              go_wp2
              go_roundg (65 - (k + 1))
              case measure => have := G.out; omega
              case rel => exact ⟨k + 1, rfl, hlt, congrArg Value.string (rep_add k 97), rfl, rfl⟩
            · have hlt' : ¬ (k : Int) < 65 := by omega
              have hk : k = 65 := by omega
              subst hk
              obtain ⟨L1, hL1⟩ : ∃ L1, L1 = List.replicate 65 (97 : UInt8) := ⟨_, rfl⟩
              rw [← hL1]
              have HL1 := Lib.hid (show cutT L1 = ([], 0, 3) from by rw [hL1]; exact rep_cut)
              have HQ1 := Lib.hid (show quoteT L1 = [] from by rw [hL1]; exact rep_quote)
              clear hL1
              go_wp2_with fail
              refine (cut_p L1 HL1.out wr (R.out.keep HW2.out)).mono ?_; rintro e w3 ⟨v, rfl, hown, hb3⟩
              have HK3 := Lib.hid (HK.out.keep hb3)
              have HW3 := Lib.hid (bcall HW2.out hb3)
              obtain ⟨oa, oc, rfl⟩ := own_shape hown
              clear hown
              go_wp2_with fail
              refine (cut_p L2 HL2.out w3 (R.out.keep HW3.out)).mono ?_; rintro e w4 ⟨v, rfl, hown, hb4⟩
              have HK4 := Lib.hid (HK3.out.keep hb4)
              have HW4 := Lib.hid (bcall HW3.out hb4)
              obtain ⟨oa4, oc4, rfl⟩ := own_shape hown
              clear hown
              have hS : Hid (Rng w4 ∧ Below w.heap.size w w4) := Lib.hid ⟨R.out.keep HW4.out, HW4.out⟩
              obtain ⟨x1, x2, x3, x4, x5, x6, x7, x8, x9⟩ := HK4.out
              have hl13 : okT.length = 13 := rfl
              have qL := HQ1.out
              have q0 : quoteT [97, 32, 98] = [39, 97, 32, 98, 39] := by decide +kernel
              have q1 : quoteT [105, 116, 39, 115] = [39, 105, 116, 92, 39, 115, 39] := by decide +kernel
              have q2 : quoteT [] = [39, 39] := by decide +kernel
              have q3 : quoteT [10] = [39, 92, 110, 39] := by decide +kernel
              have q4 : quoteT [1] = [] := by decide +kernel
              have q5 : quoteT [91, 93] = [91, 93] := by decide +kernel
              have q6 : quoteT [46] = [39, 46, 39] := by decide +kernel
              have q7 : quoteT [61, 46, 46] = [39, 61, 46, 46, 39] := by decide +kernel
              have q8 : quoteT [59] = [59] := by decide +kernel
              have q9 : quoteT [88] = [39, 88, 39] := by decide +kernel
              have pl : plainT [37] = false := by decide +kernel
              go_wp2_with (first
                | (go_at_call 10; refine (quote_h _ (by assumption)).mono ?_; rintro e w' ⟨rfl, hS⟩)
                | (go_at_call 11; refine (plain_h _ (by assumption)).mono ?_; rintro e w' ⟨rfl, hS⟩))
              go_ret
              exact ⟨rfl, hS.out.2⟩
    · have hk : k = 0 ∨ k = 1 ∨ k = 2 ∨ k = 3 ∨ k = 4 ∨ k = 5 ∨ k = 6 := by omega
      rcases hk with rfl | rfl | rfl | rfl | rfl | rfl | rfl
      · have c0 : wr.cell? ⟨w1.heap.size, 0, none⟩ = some (.string ⟨#[97, 32, 34]⟩) := hbad.cell rfl
        have d0 : wr.cell? ⟨w1.heap.size + 1, 0, none⟩ = some (.int .i64 2) := hat.cell rfl
        go_wp2_with fail
        refine (cut_p _ bad0 wr (R.out.keep HW.out)).mono ?_; rintro e w2 ⟨v, rfl, hown, hb2⟩
        have d0 := keepk hb2 d0
        obtain ⟨oa, oc, rfl⟩ := own_shape hown
        clear hown
        go_wp2
        go_roundg 6
        case measure => have := G.out; omega
        case rel => exact ⟨1, rfl, by decide, rfl, Lib.hid (bcall HW.out hb2), hbad.keep hb2, hat.keep hb2⟩
      · have c0 : wr.cell? ⟨w1.heap.size, 1, none⟩ = some (.string ⟨#[39, 97]⟩) := hbad.cell rfl
        have d0 : wr.cell? ⟨w1.heap.size + 1, 1, none⟩ = some (.int .i64 0) := hat.cell rfl
        go_wp2_with fail
        refine (cut_p _ bad1 wr (R.out.keep HW.out)).mono ?_; rintro e w2 ⟨v, rfl, hown, hb2⟩
        have d0 := keepk hb2 d0
        obtain ⟨oa, oc, rfl⟩ := own_shape hown
        clear hown
        go_wp2
        go_roundg 5
        case measure => have := G.out; omega
        case rel => exact ⟨2, rfl, by decide, rfl, Lib.hid (bcall HW.out hb2), hbad.keep hb2, hat.keep hb2⟩
      · have c0 : wr.cell? ⟨w1.heap.size, 2, none⟩ = some (.string ⟨#[39, 92, 120, 39]⟩) := hbad.cell rfl
        have d0 : wr.cell? ⟨w1.heap.size + 1, 2, none⟩ = some (.int .i64 0) := hat.cell rfl
        go_wp2_with fail
        refine (cut_p _ bad2 wr (R.out.keep HW.out)).mono ?_; rintro e w2 ⟨v, rfl, hown, hb2⟩
        have d0 := keepk hb2 d0
        obtain ⟨oa, oc, rfl⟩ := own_shape hown
        clear hown
        go_wp2
        go_roundg 4
        case measure => have := G.out; omega
        case rel => exact ⟨3, rfl, by decide, rfl, Lib.hid (bcall HW.out hb2), hbad.keep hb2, hat.keep hb2⟩
      · have c0 : wr.cell? ⟨w1.heap.size, 3, none⟩ = some (.string ⟨#[39, 10, 39]⟩) := hbad.cell rfl
        have d0 : wr.cell? ⟨w1.heap.size + 1, 3, none⟩ = some (.int .i64 0) := hat.cell rfl
        go_wp2_with fail
        refine (cut_p _ bad3 wr (R.out.keep HW.out)).mono ?_; rintro e w2 ⟨v, rfl, hown, hb2⟩
        have d0 := keepk hb2 d0
        obtain ⟨oa, oc, rfl⟩ := own_shape hown
        clear hown
        go_wp2
        go_roundg 3
        case measure => have := G.out; omega
        case rel => exact ⟨4, rfl, by decide, rfl, Lib.hid (bcall HW.out hb2), hbad.keep hb2, hat.keep hb2⟩
      · have c0 : wr.cell? ⟨w1.heap.size, 4, none⟩ = some (.string ⟨#[97, 32, 1]⟩) := hbad.cell rfl
        have d0 : wr.cell? ⟨w1.heap.size + 1, 4, none⟩ = some (.int .i64 2) := hat.cell rfl
        go_wp2_with fail
        refine (cut_p _ bad4 wr (R.out.keep HW.out)).mono ?_; rintro e w2 ⟨v, rfl, hown, hb2⟩
        have d0 := keepk hb2 d0
        obtain ⟨oa, oc, rfl⟩ := own_shape hown
        clear hown
        go_wp2
        go_roundg 2
        case measure => have := G.out; omega
        case rel => exact ⟨5, rfl, by decide, rfl, Lib.hid (bcall HW.out hb2), hbad.keep hb2, hat.keep hb2⟩
      · have c0 : wr.cell? ⟨w1.heap.size, 5, none⟩ = some (.string ⟨#[57, 50, 50, 51, 51, 55, 50, 48, 51, 54, 56, 53, 52, 55, 55, 53, 56, 48, 56]⟩) := hbad.cell rfl
        have d0 : wr.cell? ⟨w1.heap.size + 1, 5, none⟩ = some (.int .i64 0) := hat.cell rfl
        go_wp2_with fail
        refine (cut_p _ bad5 wr (R.out.keep HW.out)).mono ?_; rintro e w2 ⟨v, rfl, hown, hb2⟩
        have d0 := keepk hb2 d0
        obtain ⟨oa, oc, rfl⟩ := own_shape hown
        clear hown
        go_wp2
        go_roundg 1
        case measure => have := G.out; omega
        case rel => exact ⟨6, rfl, by decide, rfl, Lib.hid (bcall HW.out hb2), hbad.keep hb2, hat.keep hb2⟩
      · have c0 : wr.cell? ⟨w1.heap.size, 6, none⟩ = some (.string ⟨#[39, 92]⟩) := hbad.cell rfl
        have d0 : wr.cell? ⟨w1.heap.size + 1, 6, none⟩ = some (.int .i64 0) := hat.cell rfl
        go_wp2_with fail
        refine (cut_p _ bad6 wr (R.out.keep HW.out)).mono ?_; rintro e w2 ⟨v, rfl, hown, hb2⟩
        have d0 := keepk hb2 d0
        obtain ⟨oa, oc, rfl⟩ := own_shape hown
        clear hown
        go_wp2
        go_roundg 0
        case measure => have := G.out; omega
        case rel => exact ⟨7, rfl, by decide, rfl, Lib.hid (bcall HW.out hb2), hbad.keep hb2, hat.keep hb2⟩
end Go.Proofs.YtofefbonokikfaaDoor
