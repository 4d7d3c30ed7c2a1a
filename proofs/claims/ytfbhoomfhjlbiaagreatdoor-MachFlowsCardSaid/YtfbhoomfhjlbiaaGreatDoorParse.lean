/- The contract of whole.Parse, at every string. -/
import Derived.Test.YtfbhoomfhjlbiaaGreatDoorVars
import Derived.Deep.LoopGhost
import Derived.Test.YtfbhoomfhjlbiaaGreatDoorParsePlain
import Derived.Shelf.Strings.SlTrimAscii
import Derived.Lib.SmallJoins
namespace Go.Proofs.YtfbhoomfhjlbiaaGreatDoor
open Go Go.ChangeShapes Go.WideShapes Go.ChangeAt Go.RowKit
set_option linter.unusedVariables false
/-- The library's ErrRange holds an error. -/
def Rng (w : World) : Prop := ∃ tp p, w.var? Tryz.prog "strconv.ErrRange" = some #[.iface tp p]
theorem Rng.keep {w w' : World} (h : Rng w) (hb : Below w.heap.size w w') : Rng w' := let ⟨tp, p, h⟩ := h; ⟨tp, p, var_keep h hb⟩
theorem trim_any (s : ByteArray) (hs : s.size ≤ 9223372036854775807) (w : World) : Calls Tryz.prog 153 #[.string s, .string ⟨#[48, 49, 50, 51, 52, 53, 54, 55, 56, 57]⟩] w fun e w' =>
    e = .returned (.string ⟨(Lib.trimS s.data.toList digits10).toArray⟩) ∧ Below w.heap.size w w' :=
  Any.strings_Trim_laid Tryz.lays160 (by kernel_rfl) s ⟨#[48, 49, 50, 51, 52, 53, 54, 55, 56, 57]⟩ w hs (by decide) (ascii_of_all (by decide))
set_option maxHeartbeats 1000000 in
theorem parse_any (s : ByteArray) (hs : s.size ≤ 281474976710656) (w : World) (hr : Rng w) : Calls Tryz.prog 213 #[.string s] w fun e w' => e = .returned (two64 (parseS s.data.toList)) ∧ Below w.heap.size w w' := by
  obtain ⟨tp, p, hv⟩ := hr
  have V := Lib.hid hv; clear hv
  have S := Lib.hid hs; clear hs
  obtain ⟨d, hd⟩ : ∃ d, d = Lib.trimPrefix s.data.toList [45] := ⟨_, rfl⟩
  obtain ⟨t, ht⟩ : ∃ t, t = Lib.trimS d digits10 := ⟨_, rfl⟩
  have hdl : d.length ≤ s.size := by
    rw [hd, trimPrefix_minus, show s.size = s.data.toList.length from by simp]
    cases s.data.toList with
    | nil => simp
    | cons c r => simp only; split <;> simp
  have DL := Lib.hid hdl
  clear hdl
  have C1 : Hid (∀ w, Calls Tryz.prog 256 #[.string s, .string ⟨#[45]⟩] w fun e w' => e = .returned (.string ⟨d.toArray⟩) ∧ w = w') := fun w => by
    have := Tryz.strings_TrimPrefix s ⟨#[45]⟩ w
    exact this.mono fun e w' ⟨h1, h2⟩ => ⟨by rw [h1, hd], h2.symm⟩
  have C2 : Hid (∀ w, Calls Tryz.prog 153 #[.string ⟨d.toArray⟩, .string ⟨#[48, 49, 50, 51, 52, 53, 54, 55, 56, 57]⟩] w fun e w' => e = .returned (.string ⟨t.toArray⟩) ∧ Below w.heap.size w w') := fun w => by
    have := trim_any ⟨d.toArray⟩ (by have h1 := DL.out; have h2 := S.out; show d.toArray.size ≤ _; simp; omega) w
    exact this.mono fun e w' ⟨h1, h2⟩ => ⟨by rw [h1, ht], h2⟩
  have F1 := Lib.hid (fun h => parseS_form (l := s.data.toList) h)
  have F2 := Lib.hid (fun h => parseS_num (l := s.data.toList) h)
  rw [← hd] at F1 F2
  rw [← ht] at F1 F2
  clear hd ht
  go_enter Tryz.func213, Tryz.ntmps213
  go_wp2_with fail
  refine (C1.out _).mono ?_; rintro e w' ⟨rfl, rfl⟩
  go_wp2_with fail
  · go_ret2
    have h : d = [] := by assumption
    exact ⟨ret2 (F1.out (Or.inl h)), (by repeat (first | exact Below.refl _ _ | assumption | apply Below.drew | (refine Below.setCell ?_ (by first | (simp; done) | omega | (simp; omega)) _) | (refine Below.alloc ?_ (by first | (simp; done) | omega | (simp; omega)) _)))⟩
  · have h0 : ¬ d = [] := by assumption
    have hde : d.isEmpty = false := by cases d <;> simp_all
    have H0 := Lib.hid h0; clear h0
    refine (C2.out _).mono ?_; rintro e w1 ⟨rfl, hb1⟩
    by_cases ht : t = []
    · have F3 := Lib.hid (F2.out H0.out ht)
      clear F1 F2
      subst ht
      rcases F3.out with ⟨v, hv1, hv2⟩ | ⟨hv1, hv2⟩
      · have P1 := Lib.hid hv1
        have P2 := Lib.hid hv2
        clear hv1 hv2 F3
        go_wp2_with fail
        refine (Tryz.strconv_ParseInt_10_at64_ok s (by have := S.out; omega) v P1.out _).mono ?_; rintro e w2 ⟨rfl, h2⟩
        go_wp2
        go_ret2
        refine ⟨ret2 P2.out, ?_⟩
        rcases h2 with rfl | ⟨t, rfl⟩
        · exact hb1
        · exact hb1.trans (Joins.below_bytesWorld _ _ _ _ hb1.size)
      · have P1 := Lib.hid hv1
        have P2 := Lib.hid hv2
        have V1 := Lib.hid (var_keep V.out hb1)
        clear hv1 hv2 F3
        go_wp2_with fail
        refine (Tryz.strconv_ParseInt_10_at64_range_var s S.out P1.out tp p _ V1.out).mono ?_; rintro e w2 ⟨N, rfl, hN, hN2, hb2⟩
        go_wp2
        go_ret2
        exact ⟨ret2 P2.out, bcall hb1 hb2⟩
    · have hte : t.isEmpty = false := by cases t <;> simp_all
      have F3 := Lib.hid (F1.out (Or.inr ht))
      clear F1 F2
      go_wp2
      go_ret2
      exact ⟨ret2 F3.out, hb1⟩
end Go.Proofs.YtfbhoomfhjlbiaaGreatDoor
