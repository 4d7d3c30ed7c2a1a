/- The contract of term.depth. -/
import Derived.Test.YtcnnobcncklgfaaGreatDoorTermRep
namespace Go.Proofs.YtcnnobcncklgfaaGreatDoor
open Go Go.ChangeShapes Go.WideShapes Go.ChangeAt Go.RowKit
set_option linter.unusedVariables false
mutual
def Tm.height : Tm → Nat
  | .mk _ _ _ l => Tm.heights l + 1
def Tm.heights : List Tm → Nat
  | [] => 0
  | x :: l => max x.height (Tm.heights l)
end
theorem height_eq (t : Tm) : t.height = Tm.heights t.args + 1 := by cases t; simp [Tm.height, Tm.args]
theorem heights_append (l m : List Tm) : Tm.heights (l ++ m) = max (Tm.heights l) (Tm.heights m) := by
  induction l with
  | nil => simp [Tm.heights]
  | cons x l ih => simp [Tm.heights, ih, Nat.max_assoc]
theorem heights_take {l : List Tm} {i : Nat} (h : i < l.length) : Tm.heights (l.take (i + 1)) = max (Tm.heights (l.take i)) l[i].height := by
  rw [List.take_succ_eq_append_getElem h, heights_append]
  simp [Tm.heights]
theorem heights_take_le (l : List Tm) (i : Nat) : Tm.heights (l.take i) ≤ Tm.heights l := by
  have := heights_append (l.take i) (l.drop i)
  rw [List.take_append_drop] at this
  omega
theorem heights_mem {l : List Tm} {i : Nat} (h : i < l.length) : l[i].height ≤ Tm.heights l := by
  have h1 := heights_take h
  have h2 := heights_take_le l (i + 1)
  omega
theorem cellat {w : World} {b : Addr} {m c : Nat} {v : Value} (h : w.cell? (b.add (m + (c + 1))) = some v) : w.cell? ⟨(b.add m).block, (b.add m).off + (c + 1), none⟩ = some v := by
  have e : b.add (m + (c + 1)) = ⟨(b.add m).block, (b.add m).off + (c + 1), none⟩ := by
    unfold Addr.add
    rw [if_neg (by omega)]
    split
    · rename_i h0; subst h0; simp
    · simp; omega
  rw [← e]; exact h
/-- What a held value's Args hold. -/
theorem Holds.arg {w : World} {X : Nat → Prop} {t : Tm} {k n : Int} {s : List UInt8} {a : Option Addr} {len c : Nat} (h : Holds w X t (tmV k n s (.slice a len c))) {i : Nat} (hi : i < t.args.length) :
    ∃ (b : Addr) (sl : Value), a = some b ∧ X b.block ∧ w.cell? (b.add (i * 4)) = some (.int .i64 t.args[i].kind) ∧ w.cell? (b.add (i * 4 + 1)) = some (.int .i64 t.args[i].num) ∧ w.cell? (b.add (i * 4 + 2)) = some (.string ⟨t.args[i].name.toArray⟩) ∧ w.cell? (b.add (i * 4 + 3)) = some sl ∧
      Holds w X t.args[i] (tmV t.args[i].kind t.args[i].num t.args[i].name sl) := by
  generalize hv : tmV k n s (.slice a len c) = v at h
  cases h with
  | leaf k' n' s' a' c' => simp [Tm.args] at hi
  | node k' n' s' ts b cap L hx hn h c0 c1 c2 c3 =>
    unfold tmV at hv
    simp at hv
    exact ⟨b, L i, hv.2.2.2.1, hx, c0 i hi, c1 i hi, c2 i hi, c3 i hi, h i hi⟩
set_option maxHeartbeats 4000000 in
theorem depth_any {X : Nat → Prop} : ∀ (N : Nat) (t : Tm), t.height ≤ N → ∀ (w : World) (v : Value), Holds w X t v → ∀ most : Int, 1 ≤ most → most ≤ 1000 →
    Calls Tryz.prog 73 #[v, .int .i64 most] w fun e w' => e = .returned (.int .i64 (min (t.height : Int) most)) ∧ Below w.heap.size w w' := by
  intro N
  induction N with
  | zero => intro t ht; cases t; simp [Tm.height] at ht
  | succ N ih =>
    intro t ht w v h most h1 h2
    obtain ⟨sl, rfl⟩ := h.form
    obtain ⟨a, c, rfl⟩ := h.args
    have hml := h.len
    have HH := Lib.hid h; clear h
    have kw2 : ∀ i : Nat, i < t.args.length → IntKind.i64.wrap ((i : Int) + 1) = (i : Int) + 1 := fun i hi => IntWalk.i64_in _ (by unfold maxLen at hml; omega)
    have KW := Lib.hid kw2; clear kw2 hml
    simp only [tmV]
    have kw1 : IntKind.i64.wrap (most - 1) = most - 1 := IntWalk.i64_in _ (by omega)
    go_enter Tryz.func73, Tryz.ntmps73
    go_wp2_with fail
    go_loopg [5, 11] t.args.length (fun g x y wr => ∃ i : Nat, g = t.args.length - i ∧ i ≤ t.args.length ∧ y = .int .i64 i ∧ x = .int .i64 (min (Tm.heights (t.args.take i) : Int) (most - 1)) ∧ Hid (Below w.heap.size w wr))
    case atStart => exact ⟨0, rfl, by omega, rfl, by simp [Tm.heights]; omega, Lib.hid (Below.alloc (Below.refl _ _) (Nat.le_refl _) _)⟩
    case round =>
      obtain ⟨i, hg, hi, rfl, rfl, HB⟩ := hrel
      have G := Lib.hid hg; clear hg
      have i0 : (0 : Int) ≤ (i : Int) := by omega
      by_cases hlt : i < t.args.length
      · have hlt' : (i : Int) < (t.args.length : Int) := by omega
        have kw3 := KW.out i hlt
        obtain ⟨b, sl, rfl, -, c0, c1, c2, c3, hc⟩ := (HH.out.bel HB.out).arg hlt
        obtain ⟨a2, cc2, rfl⟩ := hc.args
        have HC := Lib.hid hc; clear hc
        replace c1 := cellat c1; replace c2 := cellat c2; replace c3 := cellat c3
        by_cases hbr : most - 1 ≤ min (Tm.heights (t.args.take i) : Int) (most - 1)
        · go_wp2
          go_ret
          refine ⟨congrArg (fun x => Ending.returned (.int .i64 x)) ?_, Below.alloc HB.out (by have := HB.out.size; omega) _⟩
          have e1 := height_eq t
          have e2 := heights_take_le t.args i
          omega
        · have hbr' : ¬ most - 1 ≤ min (Tm.heights (t.args.take i) : Int) (most - 1) := hbr
          go_wp2_with fail
          refine (ih t.args[i] (by have := heights_mem hlt; have := height_eq t; omega) _ _ (HC.out.bel (Below.alloc (Below.refl _ _) (Nat.le_refl _) _)) (most - 1) (by omega) (by omega)).mono ?_; rintro e w2 ⟨rfl, hb2⟩
          have HB2 := Lib.hid (bcall (Below.alloc HB.out (by have := HB.out.size; omega) _) hb2)
          go_wp2
          go_roundg (t.args.length - (i + 1))
          case measure => have := G.out; omega
          case rel =>
            refine ⟨i + 1, rfl, hlt, rfl, congrArg (Value.int .i64) ?_, HB2⟩
            have e1 := heights_take hlt
            omega
      · have hlt' : ¬ (i : Int) < (t.args.length : Int) := by omega
        have hie : i = t.args.length := by omega
        go_wp2
        go_ret
        refine ⟨congrArg (fun x => Ending.returned (.int .i64 x)) ?_, HB.out⟩
        have e1 := height_eq t
        omega
end Go.Proofs.YtcnnobcncklgfaaGreatDoor
