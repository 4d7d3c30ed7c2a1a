/- The contracts of package lex: skip, ends, symbols. -/
import Derived.Test.YtofefbonokikfaaDoorLexWalk
namespace Go.Proofs.YtofefbonokikfaaDoor
open Go Go.ChangeShapes Go.WideShapes Go.ChangeAt Go.RowKit
set_option linter.unusedVariables false
/-- The cutter stands where 'rest' is left. -/
def AtIs (s : ByteArray) (b : Nat) (rest : List UInt8) (w w' : World) : Prop :=
  ∃ j, j ≤ s.size ∧ s.data.toList.drop j = rest ∧ But b w w' ∧ Blk w' b #[.string s, .int .i64 j] 36
theorem idx_q (l : List UInt8) (c : UInt8) (w : World) (n : Nat) : Calls Tryd.prog 14 #[.string ⟨l.toArray⟩, .int .u8 c.toNat] (w.drewN n) fun e w'' => e = .returned (.int .i64 (Lib.indexByte l c)) ∧ ∃ m, w'' = w.drewN m :=
  (Tryd.strings_IndexByte ⟨l.toArray⟩ c.toNat (w.drewN n)).mono fun e w' ⟨h1, h2⟩ => ⟨by rw [h1]; simp, n, h2⟩
theorem idx_q2 (l : List UInt8) (c : UInt8) (w : World) (a n : Nat) : Calls Tryd.prog 14 #[.string ⟨l.toArray⟩, .int .u8 c.toNat] (w.drewN (a + n)) fun e w'' => e = .returned (.int .i64 (Lib.indexByte l c)) ∧ ∃ m, w'' = w.drewN (a + m) :=
  (Tryd.strings_IndexByte ⟨l.toArray⟩ c.toNat (w.drewN (a + n))).mono fun e w' ⟨h1, h2⟩ => ⟨by rw [h1]; simp, n, h2⟩
theorem skip_line (l : List UInt8) : skipS true l = skipS false (l.dropWhile (fun c => c != 10)) := by
  induction l with
  | nil => rfl
  | cons c r ih =>
    by_cases h : c = 10
    · subst h; rfl
    · have h2 : (c != 10) = true := by simpa using h
      rw [show (c :: r).dropWhile (fun c => c != 10) = r.dropWhile (fun c => c != 10) from by rw [List.dropWhile_cons]; simp [h], ← ih]
      show skipS (c != 10) r = _
      rw [h2]
theorem skip_blank {c : UInt8} {r : List UInt8} (h : lblank c = true) : skipS false (c :: r) = skipS false r := by
  show (if lblank c then skipS false r else _) = _; rw [h]; rfl
theorem skip_pct {c : UInt8} {r : List UInt8} (h : lblank c = false) (h2 : (c == 37) = true) : skipS false (c :: r) = skipS false ((c :: r).dropWhile (fun c => c != 10)) := by
  have h3 : c = 37 := by simpa using h2
  subst h3
  show (if lblank 37 then _ else if (37 : UInt8) == 37 then skipS true r else _) = _
  rw [h, if_neg (by decide), if_pos (by decide), skip_line]; rfl
theorem skip_stop {c : UInt8} {r : List UInt8} (h : lblank c = false) (h2 : (c == 37) = false) : skipS false (c :: r) = c :: r := by
  show (if lblank c then _ else if c == 37 then skipS true r else _) = _
  rw [h, h2]; rfl
theorem run_line (s : ByteArray) (b i : Nat) (hi : i < s.size) (hs : s.size ≤ 281474976710656) (hp : (s[i] == 37) = true) (w : World) (hb : Blk w b #[.string s, .int .i64 i] 36) :
    Calls Tryd.prog 15 #[.pointer (some ⟨b, 0, none⟩), .func (.func 16) #[] #[]] w fun e w' =>
      ∃ v j, e = .returned (.string v) ∧ i + 1 ≤ j ∧ j ≤ s.size ∧ s.data.toList.drop j = (s.data.toList.drop i).dropWhile (fun c => c != 10) ∧ But b w w' ∧ Blk w' b #[.string s, .int .i64 j] 36 := by
  refine (run_any 16 (fun c => c != 10) notnl_any (fun c w => by simp [callFunc, go_sem, Tryd.func16]; rfl) s b i (by omega) hs w hb).mono ?_
  rintro e w' ⟨rfl, j, h1, h2, h3, h4, h5, h6⟩
  refine ⟨_, j, rfl, ?_, h2, h3, h5, h6⟩
  have h7 : s[i] = 37 := by simpa using hp
  rw [drop_cons hi, List.dropWhile_cons_of_pos (by rw [h7]; rfl)] at h3
  have h8 := congrArg List.length h3
  have h9 := (List.dropWhile_sublist (fun c : UInt8 => c != 10) (l := s.data.toList.drop (i + 1))).length_le
  simp at h8 h9
  omega
set_option maxHeartbeats 1000000 in
theorem skip_any (s : ByteArray) (b i : Nat) (hi : i ≤ s.size) (hs : s.size ≤ 281474976710656) (w : World) (hb : Blk w b #[.string s, .int .i64 i] 36) :
    Calls Tryd.prog 12 #[.pointer (some ⟨b, 0, none⟩)] w fun e w' => e = .returned (.tuple #[]) ∧ AtIs s b (skipS false (s.data.toList.drop i)) w w' := by
  obtain ⟨c0, c1, f0, f1, lt⟩ := hb.two
  obtain ⟨R, hR⟩ : ∃ R, R = skipS false (s.data.toList.drop i) := ⟨_, rfl⟩
  rw [← hR]
  have HR := Lib.hid hR; clear hR
  go_enter Tryd.func12, Tryd.ntmps12
  go_wp2_with fail
  go_loopg [2] (s.size - i) (fun g x wr => ∃ k : Nat, k ≤ s.size ∧ g = s.size - k ∧ Hid (R = skipS false (s.data.toList.drop k)) ∧ But b w wr ∧ Blk wr b #[.string s, .int .i64 k] 36)
  case atStart => exact ⟨i, hi, rfl, HR.out, But.refl _ _, hb⟩
  case round =>
    obtain ⟨k, h2, hg, hr, hbut, hblk⟩ := hrel
    have G := Lib.hid hg; clear hg
    obtain ⟨c0, c1, f0, f1, lt⟩ := hblk.two
    have k0 : (0 : Int) ≤ (k : Int) := by omega
    by_cases hlt : k < s.size
    · have hlt' : (k : Int) < (s.size : Int) := by omega
      have DC := Lib.hid (drop_cons hlt)
      cases hbl : lblank s[k]
      · have e1 : decide ((0 : Int) ≤ Lib.indexByte [32, 9, 10, 13] s[k]) = false := by rw [indexByte_geq]; exact hbl
        cases hpc : s[k] == 37
        · have e2 : ((s[k].toNat : Int) == 37) = false := by rw [u8_eq s[k] 37 37 rfl]; exact hpc
          go_wp2_with fail
          go_quiet (fail)
          go_wp2_with fail
          go_quiet (first | exact idx_q _ _ _ _ | exact idx_q2 _ _ _ _ _)
          go_wp2_with fail
          go_quiet (fail)
          go_wp2
          (try simp only [Exit.inBlock, Exit.then]); refine bodyPost_ret (results_none rfl _ _ _) rfl ?_
          exact ⟨rfl, k, h2, by rw [hr.out, DC.out, skip_stop hbl hpc], (by repeat (first | exact But.refl _ _ | assumption | apply But.drewN | apply But.set | apply But.alloc | refine But.trans ?_ (by assumption))), hblk⟩
        · have e2 : ((s[k].toNat : Int) == 37) = true := by rw [u8_eq s[k] 37 37 rfl]; exact hpc
          go_wp2_with fail
          go_quiet (fail)
          go_wp2_with fail
          go_quiet (first | exact idx_q _ _ _ _ | exact idx_q2 _ _ _ _ _)
          go_wp2_with fail
          go_quiet (fail)
          go_wp2_with fail
          refine (run_line s b k hlt hs hpc _ (hblk.drewN _)).mono ?_; rintro e w' ⟨v, j, rfl, j1, j2, j3, j4, j5⟩
          go_wp2
          go_roundg (s.size - j)
          case measure => have := G.out; omega
          case rel => exact ⟨j, j2, rfl, Lib.hid (by rw [hr.out, j3, DC.out, skip_pct hbl hpc]), (by repeat (first | exact But.refl _ _ | assumption | apply But.drewN | apply But.set | apply But.alloc | refine But.trans ?_ (by assumption))), j5⟩
      · have e1 : decide ((0 : Int) ≤ Lib.indexByte [32, 9, 10, 13] s[k]) = true := by rw [indexByte_geq]; exact hbl
        go_wp2_with fail
        go_quiet (fail)
        go_wp2_with fail
        go_quiet (first | exact idx_q _ _ _ _ | exact idx_q2 _ _ _ _ _)
        go_wp2
        go_roundg (s.size - (k + 1))
        case measure => have := G.out; omega
        case rel => exact ⟨k + 1, hlt, rfl, Lib.hid (by rw [hr.out, DC.out, skip_blank hbl]), (by repeat (first | exact But.refl _ _ | assumption | apply But.drewN | apply But.set | apply But.alloc | refine But.trans ?_ (by assumption))), (hblk.drewN _).store 1 _⟩
    · have hlt' : decide ((k : Int) < (s.size : Int)) = false := by simp; omega
      go_wp2_with fail
      go_quiet (fail)
      go_wp2
      go_end0
      exact ⟨rfl, k, h2, by rw [hr.out, drop_nil hlt]; rfl, (by repeat (first | exact But.refl _ _ | assumption | apply But.drewN | apply But.set | apply But.alloc | refine But.trans ?_ (by assumption))), hblk⟩
theorem ends_nd {c : UInt8} {r : List UInt8} (h : (c == 46) = false) : endsS (c :: r) = false := by
  show (c == 46 && _) = false; rw [h]; rfl
theorem ends_last {c : UInt8} (h : (c == 46) = true) : endsS [c] = true := by
  show (c == 46 && true) = true; rw [h]; rfl
theorem ends_next {c d : UInt8} {r : List UInt8} (h : (c == 46) = true) : endsS (c :: d :: r) = [32, 9, 10, 13, 37].contains d := by
  show (c == 46 && _) = _; rw [h]; rfl
set_option maxHeartbeats 1000000 in
theorem ends_any (s : ByteArray) (b i : Nat) (hi : i < s.size) (hs : s.size ≤ 281474976710656) (w : World) (hb : Blk w b #[.string s, .int .i64 i] 36) :
    Calls Tryd.prog 23 #[.pointer (some ⟨b, 0, none⟩)] w fun e w' => e = .returned (.bool (endsS (s.data.toList.drop i))) ∧ ∃ m, w' = w.drewN m := by
  obtain ⟨c0, c1, f0, f1, lt⟩ := hb.two
  have k0 : (0 : Int) ≤ (i : Int) := by omega
  have hlt' : (i : Int) < (s.size : Int) := by omega
  rw [drop_cons hi]
  have e0 := u8_eq s[i] 46 46 rfl
  cases hd : s[i] == 46
  · rw [hd] at e0
    have e1 : ((s[i].toNat : Int) != 46) = true := by rw [bne, e0]; rfl
    go_enter Tryd.func23, Tryd.ntmps23
    go_wp2_with fail
    go_quiet (fail)
    go_wp2
    go_ret
    exact ⟨by rw [ends_nd hd]; rfl, _, rfl⟩
  · rw [hd] at e0
    have e1 : ((s[i].toNat : Int) != 46) = false := by rw [bne, e0]; rfl
    by_cases hl : i + 1 < s.size
    · have e2 : ((i : Int) + 1 == (s.size : Int)) = false := by simp; omega
      have kw : IntKind.i64.wrap ((i : Int) + 1) = (i : Int) + 1 := IntWalk.i64_in _ (by omega)
      have k1 : (0 : Int) ≤ (i : Int) + 1 := by omega
      have k2 : (i : Int) + 1 < (s.size : Int) := by omega
      have k3 : ((i : Int) + 1).toNat = i + 1 := by omega
      rw [drop_cons hl, ends_next hd, ← indexByte_geq]
      go_enter Tryd.func23, Tryd.ntmps23
      go_wp2_with fail
      go_quiet (fail)
      go_wp2_with fail
      go_quiet (first | exact idx_q _ s[i + 1] _ _ | exact idx_q2 _ s[i + 1] _ _ _)
      go_wp2
      go_ret
      exact ⟨rfl, _, World.drewN_drewN _ _ _⟩
    · have e2 : ((i : Int) + 1 == (s.size : Int)) = true := by simp; omega
      have kw : IntKind.i64.wrap ((i : Int) + 1) = (i : Int) + 1 := IntWalk.i64_in _ (by omega)
      rw [drop_nil hl, ends_last hd]
      go_enter Tryd.func23, Tryd.ntmps23
      go_wp2_with fail
      go_quiet (fail)
      go_wp2_with fail
      go_quiet (fail)
      go_wp2
      go_ret
      exact ⟨rfl, _, World.drewN_drewN _ _ _⟩
end Go.Proofs.YtofefbonokikfaaDoor
