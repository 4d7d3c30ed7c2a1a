/- The contracts of term.goodName, goodOne. -/
import Derived.Test.YtcnnobcncklgfaaGreatDoorTermComp2
import Derived.Test.YtcnnobcncklgfaaGreatDoorTermDepth
import Derived.Laws.IdiomStrings
namespace Go.Proofs.YtcnnobcncklgfaaGreatDoor
open Go Go.ChangeShapes Go.WideShapes Go.ChangeAt Go.RowKit
set_option linter.unusedVariables false
def gch (c : UInt8) : Bool := !((decide (c.toNat < 32) || decide (126 < c.toNat)) && c.toNat != 9 && c.toNat != 10)
def gname (s : List UInt8) : Bool := s.all gch && decide (s.length ≤ 64)
theorem gch_int (c : UInt8) : gch c = !((decide ((c.toNat : Int) < 32) || decide (126 < (c.toNat : Int))) && (c.toNat : Int) != 9 && (c.toNat : Int) != 10) := by
  have h1 : decide ((c.toNat : Int) < 32) = decide (c.toNat < 32) := decide_eq_decide.2 (by omega)
  have h2 : decide (126 < (c.toNat : Int)) = decide (126 < c.toNat) := decide_eq_decide.2 (by omega)
  have h3 : ((c.toNat : Int) != 9) = (c.toNat != 9) := by rw [bne, bne]; congr 1; exact Bool.eq_iff_iff.2 (by simp; omega)
  have h4 : ((c.toNat : Int) != 10) = (c.toNat != 10) := by rw [bne, bne]; congr 1; exact Bool.eq_iff_iff.2 (by simp; omega)
  rw [h1, h2, h3, h4]; rfl
theorem gname_bad {s : List UInt8} {i : Nat} (hi : i < s.length) (h : gch s[i] = false) : gname s = false := by
  unfold gname
  have : s.all gch = false := by
    rw [List.all_eq_false]
    exact ⟨s[i], List.getElem_mem hi, by simp [h]⟩
  rw [this]; rfl
theorem bytesRow_cell (s : List UInt8) (cap k : Nat) (hk : k < s.length) : (bytesRow ⟨s.toArray⟩ cap)[k]? = some (.int .u8 s[k].toNat) := by
  simp only [bytesRow]
  rw [Array.getElem?_append_left (by simpa using hk)]
  simp [hk]
set_option maxRecDepth 100000 in
set_option maxHeartbeats 4000000 in
theorem goodName_any (s : List UInt8) (hs : s.length ≤ maxLen) (w : World) : Calls Tryz.prog 74 #[.string ⟨s.toArray⟩] w fun e w' => e = .returned (.bool (gname s)) ∧ Below w.heap.size w w' := by
  have hrun := run_bytes_of_string (P := Tryz.prog) w 9 124 5 ⟨s.toArray⟩ Tryz.underlying9 Tryz.underlying124 Tryz.underlying5
  generalize hcap : grownCap w (⟨s.toArray⟩ : ByteArray).size 0 5 = cap at hrun
  have hge : s.length ≤ cap := by rw [← hcap]; exact grownCap_ge w _ 0 _
  clear hcap
  have hsz : (⟨s.toArray⟩ : ByteArray).size = s.length := rfl
  obtain ⟨W, hW⟩ : ∃ W, w.drew.alloc (.cells (bytesRow ⟨s.toArray⟩ cap) 5 ((bytesRow ⟨s.toArray⟩ cap).size, (bytesRow ⟨s.toArray⟩ cap).size + 1)) = W := ⟨_, rfl⟩
  have hb : Below w.heap.size w W := by rw [← hW]; exact Below.alloc (Below.drew (Below.refl _ _)) (Nat.le_refl _) _
  have hcell : ∀ k (hk : k < s.length), W.cell? ⟨w.heap.size, k, none⟩ = some (.int .u8 s[k].toNat) := by
    intro k hk
    have : W.heap[w.heap.size]? = some (.cells (bytesRow ⟨s.toArray⟩ cap) 5 ((bytesRow ⟨s.toArray⟩ cap).size, (bytesRow ⟨s.toArray⟩ cap).size + 1)) := by rw [← hW]; show (w.heap.push _)[w.heap.size]? = _; simp
    simp only [World.cell?, this]
    exact bytesRow_cell s cap k hk
  rw [hW, hsz] at hrun
  clear hW
  have HC := Lib.hid hcell; clear hcell
  have HB := Lib.hid hb; clear hb
  go_enter Tryz.func74, Tryz.ntmps74
  go_wp2_with fail
  go_loopg [8] s.length (fun g x wr => ∃ i : Nat, g = s.length - i ∧ i ≤ s.length ∧ x = .int .i64 i ∧ wr = W ∧ (s.take i).all gch = true)
  case atStart => exact ⟨0, rfl, by omega, rfl, rfl, by simp⟩
  case round =>
    obtain ⟨i, hg, hi, rfl, rfl, hall⟩ := hrel
    have G := Lib.hid hg; clear hg
    have HA := Lib.hid hall; clear hall
    by_cases hlt : i < s.length
    · have hlt' : (i : Int) < (s.length : Int) := by omega
      have c0 := HC.out i hlt
      have i0 : (0 : Int) ≤ (i : Int) := by omega
      have kw : IntKind.i64.wrap ((i : Int) + 1) = (i : Int) + 1 := IntWalk.i64_in _ (by unfold maxLen at hs; omega)
      have hgc : gch s[i] = !((decide ((s[i].toNat : Int) < 32) || decide (126 < (s[i].toNat : Int))) && (s[i].toNat : Int) != 9 && (s[i].toNat : Int) != 10) := gch_int s[i]
      have hset : (s.take (i + 1)).all gch = ((s.take i).all gch && gch s[i]) := by
        rw [List.take_succ_eq_append_getElem hlt, List.all_append]; simp
      have HG := Lib.hid hgc; have HS := Lib.hid hset; clear hgc hset
      go_wp2
      all_goals first
        | (go_roundg (s.length - (i + 1))
           case measure => have := G.out; omega
           case rel => exact ⟨i + 1, rfl, hlt, rfl, rfl, by rw [HS.out, HA.out, HG.out]; simp_all <;> omega⟩)
        | (go_ret
           exact ⟨by rw [gname_bad hlt (by rw [HG.out]; simp_all <;> omega)]; rfl, HB.out⟩)
    · have hlt' : ¬ (i : Int) < (s.length : Int) := by omega
      have hie : i = s.length := by omega
      go_wp2
      go_ret
      refine ⟨congrArg (fun b => Ending.returned (.bool b)) ?_, HB.out⟩
      have := HA.out
      rw [hie, List.take_length] at this
      unfold gname
      rw [this]
      simp only [Bool.true_and]
      exact decide_eq_decide.2 (by omega)
/-- May a term be, but for its Args? -/
def goneP (k n : Int) (s : List UInt8) (len : Nat) : Bool :=
  if k = 0 then decide (0 ≤ n) && decide (n ≤ 2147483647) && s.isEmpty && decide (len = 0)
  else if k = 1 then s.isEmpty && decide (len = 0)
  else if k = 2 then decide (n = 0) && gname s && decide (len ≤ 8)
  else false
set_option maxRecDepth 100000 in
set_option maxHeartbeats 4000000 in
theorem goodOne_any (k n : Int) (s : List UInt8) (a : Option Addr) (len c : Nat) (hs : s.length ≤ maxLen) (w : World) :
    Calls Tryz.prog 48 #[tmV k n s (.slice a len c)] w fun e w' => e = .returned (.bool (goneP k n s len)) ∧ Below w.heap.size w w' := by
  simp only [tmV]
  by_cases h0 : k = 0
  · subst h0
    by_cases h1 : 0 ≤ n
    · by_cases h2 : n ≤ 2147483647
      · cases s with
        | nil =>
          by_cases h3 : len = 0
          · subst h3
            go_enter Tryz.func48, Tryz.ntmps48
            go_wp2
            go_ret
            exact ⟨by simp [goneP, h1, h2], (by repeat (first | exact Below.refl _ _ | assumption | apply Below.drew | (refine Below.setCell ?_ (by first | (simp; done) | omega | (simp; omega)) _) | (refine Below.alloc ?_ (by first | (simp; done) | omega | (simp; omega)) _)))⟩
          · have h3' : ((len : Int) == 0) = false := by simpa using h3
            go_enter Tryz.func48, Tryz.ntmps48
            go_wp2
            go_ret
            exact ⟨by simp [goneP, h3], (by repeat (first | exact Below.refl _ _ | assumption | apply Below.drew | (refine Below.setCell ?_ (by first | (simp; done) | omega | (simp; omega)) _) | (refine Below.alloc ?_ (by first | (simp; done) | omega | (simp; omega)) _)))⟩
        | cons x s =>
          go_enter Tryz.func48, Tryz.ntmps48
          go_wp2
          go_ret
          exact ⟨by simp [goneP], (by repeat (first | exact Below.refl _ _ | assumption | apply Below.drew | (refine Below.setCell ?_ (by first | (simp; done) | omega | (simp; omega)) _) | (refine Below.alloc ?_ (by first | (simp; done) | omega | (simp; omega)) _)))⟩
      · go_enter Tryz.func48, Tryz.ntmps48
        go_wp2
        go_ret
        exact ⟨by simp [goneP]; intros; omega, (by repeat (first | exact Below.refl _ _ | assumption | apply Below.drew | (refine Below.setCell ?_ (by first | (simp; done) | omega | (simp; omega)) _) | (refine Below.alloc ?_ (by first | (simp; done) | omega | (simp; omega)) _)))⟩
    · go_enter Tryz.func48, Tryz.ntmps48
      go_wp2
      go_ret
      exact ⟨by simp [goneP]; intros; omega, (by repeat (first | exact Below.refl _ _ | assumption | apply Below.drew | (refine Below.setCell ?_ (by first | (simp; done) | omega | (simp; omega)) _) | (refine Below.alloc ?_ (by first | (simp; done) | omega | (simp; omega)) _)))⟩
  by_cases h1 : k = 1
  · subst h1
    cases s with
    | nil =>
      by_cases h3 : len = 0
      · subst h3
        go_enter Tryz.func48, Tryz.ntmps48
        go_wp2
        go_ret
        exact ⟨by simp [goneP], (by repeat (first | exact Below.refl _ _ | assumption | apply Below.drew | (refine Below.setCell ?_ (by first | (simp; done) | omega | (simp; omega)) _) | (refine Below.alloc ?_ (by first | (simp; done) | omega | (simp; omega)) _)))⟩
      · have h3' : ((len : Int) == 0) = false := by simpa using h3
        go_enter Tryz.func48, Tryz.ntmps48
        go_wp2
        go_ret
        exact ⟨by simp [goneP, h3], (by repeat (first | exact Below.refl _ _ | assumption | apply Below.drew | (refine Below.setCell ?_ (by first | (simp; done) | omega | (simp; omega)) _) | (refine Below.alloc ?_ (by first | (simp; done) | omega | (simp; omega)) _)))⟩
    | cons x s =>
      go_enter Tryz.func48, Tryz.ntmps48
      go_wp2
      go_ret
      exact ⟨by simp [goneP], (by repeat (first | exact Below.refl _ _ | assumption | apply Below.drew | (refine Below.setCell ?_ (by first | (simp; done) | omega | (simp; omega)) _) | (refine Below.alloc ?_ (by first | (simp; done) | omega | (simp; omega)) _)))⟩
  by_cases h2 : k = 2
  · subst h2
    by_cases h3 : n = 0
    · subst h3
      cases hg : gname s with
      | true =>
        by_cases h4 : len ≤ 8
        · have h4' : (len : Int) ≤ 8 := by omega
          go_enter Tryz.func48, Tryz.ntmps48
          go_wp2_with fail
          refine (goodName_any s hs _).mono ?_; rintro e w1 ⟨rfl, hb⟩
          rw [hg]
          obtain ⟨t0, t1, t2, t3, z0, z1, z2, z3, ltt⟩ := ((Blk.new w #[.int .i64 2, .int .i64 0, .string ⟨s.toArray⟩, .slice a len c] 24).keep hb).fourT
          have hb' : Below w.heap.size w w1 := bcall (Below.alloc (Below.refl _ _) (Nat.le_refl _) _) hb
          go_wp2
          go_ret
          exact ⟨by simp [goneP, hg, h4] <;> omega, hb'⟩
        · have h4' : ¬ (len : Int) ≤ 8 := by omega
          go_enter Tryz.func48, Tryz.ntmps48
          go_wp2_with fail
          refine (goodName_any s hs _).mono ?_; rintro e w1 ⟨rfl, hb⟩
          rw [hg]
          obtain ⟨t0, t1, t2, t3, z0, z1, z2, z3, ltt⟩ := ((Blk.new w #[.int .i64 2, .int .i64 0, .string ⟨s.toArray⟩, .slice a len c] 24).keep hb).fourT
          have hb' : Below w.heap.size w w1 := bcall (Below.alloc (Below.refl _ _) (Nat.le_refl _) _) hb
          go_wp2
          go_ret
          exact ⟨by simp [goneP, hg, h4] <;> omega, hb'⟩
      | false =>
        go_enter Tryz.func48, Tryz.ntmps48
        go_wp2_with fail
        refine (goodName_any s hs _).mono ?_; rintro e w1 ⟨rfl, hb⟩
        rw [hg]
        go_wp2
        go_ret
        exact ⟨by simp [goneP, hg], bcall (Below.alloc (Below.refl _ _) (Nat.le_refl _) _) hb⟩
    · have h3' : (n == 0) = false := by simpa using h3
      go_enter Tryz.func48, Tryz.ntmps48
      go_wp2
      go_ret
      exact ⟨by simp [goneP, h3], (by repeat (first | exact Below.refl _ _ | assumption | apply Below.drew | (refine Below.setCell ?_ (by first | (simp; done) | omega | (simp; omega)) _) | (refine Below.alloc ?_ (by first | (simp; done) | omega | (simp; omega)) _)))⟩
  · have h0' : (k == 0) = false := by simpa using h0
    have h1' : (k == 1) = false := by simpa using h1
    have h2' : (k == 2) = false := by simpa using h2
    go_enter Tryz.func48, Tryz.ntmps48
    go_wp2
    go_ret
    exact ⟨by simp [goneP, h0, h1, h2], (by repeat (first | exact Below.refl _ _ | assumption | apply Below.drew | (refine Below.setCell ?_ (by first | (simp; done) | omega | (simp; omega)) _) | (refine Below.alloc ?_ (by first | (simp; done) | omega | (simp; omega)) _)))⟩
end Go.Proofs.YtcnnobcncklgfaaGreatDoor
