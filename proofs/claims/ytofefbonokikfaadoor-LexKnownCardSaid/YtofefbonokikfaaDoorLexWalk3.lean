/- The contracts of package lex: symbols. -/
import Derived.Test.YtofefbonokikfaaDoorLexWalk2
namespace Go.Proofs.YtofefbonokikfaaDoor
open Go Go.ChangeShapes Go.WideShapes Go.ChangeAt Go.RowKit
set_option linter.unusedVariables false
def SymAt (s : ByteArray) (i k : Nat) : Prop := symsS (s.data.toList.drop i) = (s.data.toList.drop i).take (k - i) ++ symsS (s.data.toList.drop k)
theorem take_step {s : ByteArray} {i k : Nat} (hi : i ≤ k) (hk : k < s.size) : (s.data.toList.drop i).take (k + 1 - i) = (s.data.toList.drop i).take (k - i) ++ [s[k]] := by
  have e : k + 1 - i = (k - i) + 1 := by omega
  rw [e, List.take_add_one]
  congr 1
  rw [List.getElem?_drop, show i + (k - i) = k from by omega]
  have h3 : k < s.data.toList.length := by simpa using hk
  rw [List.getElem?_eq_getElem h3]; rfl
theorem symAt_start (s : ByteArray) (i : Nat) : SymAt s i i := by simp [SymAt]
theorem symAt_step {s : ByteArray} {i k : Nat} (h : SymAt s i k) (hi : i ≤ k) (hk : k < s.size) (hp : lsym s[k] = true) (he : endsS (s.data.toList.drop k) = false) : SymAt s i (k + 1) := by
  unfold SymAt at *
  rw [h, take_step hi hk]
  rw [drop_cons hk] at he ⊢
  show _ ++ (if lsym s[k] && !endsS (s[k] :: _) then s[k] :: symsS _ else []) = _
  rw [hp, he]; simp
theorem symAt_end {s : ByteArray} {b i k : Nat} {w w' : World} (h : SymAt s i k) (hi : i ≤ k) (hk : k ≤ s.size) (he : symsS (s.data.toList.drop k) = [])
    (hbut : But b w w') (hblk : Blk w' b #[.string s, .int .i64 k] 36) :
    Ending.returned (.string (s.extract i k)) = .returned (.string ⟨(symsS (s.data.toList.drop i)).toArray⟩) ∧ AtIs s b ((s.data.toList.drop i).drop (symsS (s.data.toList.drop i)).length) w w' := by
  unfold SymAt at h
  rw [he, List.append_nil] at h
  refine ⟨by rw [extract_eq, h], k, hk, ?_, hbut, hblk⟩
  rw [h, List.length_take, List.length_drop, List.drop_drop]
  congr 1
  simp
  omega
theorem syms_stop1 {s : ByteArray} {k : Nat} (hk : k < s.size) (h : lsym s[k] = false) : symsS (s.data.toList.drop k) = [] := by
  rw [drop_cons hk]
  show (if lsym s[k] && !endsS (s[k] :: _) then s[k] :: symsS _ else []) = _
  rw [h]; rfl
theorem syms_stop2 {s : ByteArray} {k : Nat} (hk : k < s.size) (h : endsS (s.data.toList.drop k) = true) : symsS (s.data.toList.drop k) = [] := by
  rw [drop_cons hk] at h ⊢
  show (if lsym s[k] && !endsS (s[k] :: _) then s[k] :: symsS _ else []) = _
  rw [h]; simp
set_option maxHeartbeats 1000000 in
theorem symbols_any (s : ByteArray) (b i : Nat) (hi : i ≤ s.size) (hs : s.size ≤ 281474976710656) (w : World) (hb : Blk w b #[.string s, .int .i64 i] 36) :
    Calls Tryd.prog 25 #[.pointer (some ⟨b, 0, none⟩)] w fun e w' =>
      e = .returned (.string ⟨(symsS (s.data.toList.drop i)).toArray⟩) ∧ AtIs s b ((s.data.toList.drop i).drop (symsS (s.data.toList.drop i)).length) w w' := by
  obtain ⟨c0, c1, f0, f1, lt⟩ := hb.two
  go_enter Tryd.func25, Tryd.ntmps25
  go_wp2_with fail
  go_loopg [8] (s.size - i) (fun g x wr => ∃ k : Nat, i ≤ k ∧ k ≤ s.size ∧ g = s.size - k ∧ Hid (SymAt s i k) ∧ But b w wr ∧ Blk wr b #[.string s, .int .i64 k] 36)
  case atStart => exact ⟨i, Nat.le_refl _, hi, rfl, symAt_start s i, But.refl _ _, hb⟩
  case round =>
    obtain ⟨k, h1, h2, hg, hr, hbut, hblk⟩ := hrel
    have G := Lib.hid hg; clear hg
    obtain ⟨c0, c1, f0, f1, lt⟩ := hblk.two
    have k0 : (0 : Int) ≤ (k : Int) := by omega
    have ki : (i : Int) ≤ (k : Int) := by omega
    have i0 : (0 : Int) ≤ (i : Int) := by omega
    have kl : (k : Int) ≤ (s.size : Int) := by omega
    by_cases hlt : k < s.size
    · have hlt' : (k : Int) < (s.size : Int) := by omega
      cases hp : lsym s[k]
      · go_wp2_with fail
        go_quiet (exact quiet_eq (symbol_any s[k] _))
        go_wp2_with fail
        go_quiet (fail)
        go_wp2
        go_ret
        exact symAt_end hr.out h1 h2 (syms_stop1 hlt hp) (by repeat (first | exact But.refl _ _ | assumption | apply But.drewN | apply But.set | apply But.alloc | refine But.trans ?_ (by assumption))) hblk
      · cases he : endsS (s.data.toList.drop k)
        · go_wp2_with fail
          go_quiet (first | exact quiet_eq (symbol_any s[k] _) | exact Calls.quiet_of (ends_any s b k hlt hs _ (hblk.drewN _)))
          go_wp2
          go_roundg (gk - 1)
          case measure => have := G.out; omega
          case rel => exact ⟨k + 1, by omega, by omega, by have := G.out; omega, symAt_step hr.out h1 hlt hp he, (by repeat (first | exact But.refl _ _ | assumption | apply But.drewN | apply But.set | apply But.alloc | refine But.trans ?_ (by assumption))), (hblk.drewN _).store 1 _⟩
        · go_wp2_with fail
          go_quiet (first | exact quiet_eq (symbol_any s[k] _) | exact Calls.quiet_of (ends_any s b k hlt hs _ (hblk.drewN _)))
          go_wp2_with fail
          go_quiet (fail)
          go_wp2
          go_ret
          exact symAt_end hr.out h1 h2 (syms_stop2 hlt he) (by repeat (first | exact But.refl _ _ | assumption | apply But.drewN | apply But.set | apply But.alloc | refine But.trans ?_ (by assumption))) hblk
    · have hlt' : decide ((k : Int) < (s.size : Int)) = false := by simp; omega
      go_wp2_with fail
      go_quiet (fail)
      go_wp2_with fail
      go_quiet (fail)
      go_wp2
      go_ret
      exact symAt_end hr.out h1 h2 (by rw [drop_nil hlt]; rfl) (by repeat (first | exact But.refl _ _ | assumption | apply But.drewN | apply But.set | apply But.alloc | refine But.trans ?_ (by assumption))) hblk
end Go.Proofs.YtofefbonokikfaaDoor
