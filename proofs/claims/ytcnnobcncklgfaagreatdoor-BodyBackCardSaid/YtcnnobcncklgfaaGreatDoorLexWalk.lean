/- The contracts of package lex. -/
import Derived.Test.YtcnnobcncklgfaaGreatDoorParse
import Derived.Test.YtcnnobcncklgfaaGreatDoorLexPlain
import Derived.LoopTactic
import Derived.Deep.LoopGhost
import Derived.Deep.QuietTactic
import Derived.BigQuiet
namespace Go.Proofs.YtcnnobcncklgfaaGreatDoor
open Go Go.ChangeShapes Go.WideShapes Go.ChangeAt Go.RowKit
set_option linter.unusedVariables false
/-- All that was there is as it was, but block b. -/
structure But (b : Nat) (w w' : World) : Prop where
  os : w'.os = w.os
  tape : w'.tape = w.tape
  output : w'.output = w.output
  size : w.heap.size ≤ w'.heap.size
  block : ∀ k, k < w.heap.size → k ≠ b → w'.heap[k]? = w.heap[k]?
theorem But.refl (b : Nat) (w : World) : But b w w := ⟨rfl, rfl, rfl, Nat.le_refl _, fun _ _ _ => rfl⟩
theorem But.trans {b : Nat} {x y z : World} (h : But b x y) (k : But b y z) : But b x z :=
  ⟨k.os.trans h.os, k.tape.trans h.tape, k.output.trans h.output, Nat.le_trans h.size k.size, fun i hi hb => (k.block i (Nat.lt_of_lt_of_le hi h.size) hb).trans (h.block i hi hb)⟩
theorem But.of {b : Nat} {w w' : World} (h : Below w.heap.size w w') : But b w w' := ⟨h.os, h.tape, h.output, h.size, fun k hk _ => h.block k hk⟩
theorem But.below {b B : Nat} {a w w' : World} (h : Below B a w) (k : But b w w') (hb : B ≤ b) (hB : B ≤ w.heap.size) : Below B a w' :=
  ⟨k.os.trans h.os, k.tape.trans h.tape, k.output.trans h.output, Nat.le_trans h.size k.size, fun i hi => (k.block i (by omega) (by omega)).trans (h.block i hi)⟩
theorem But.drew {b : Nat} {x w : World} (h : But b x w) : But b x w.drew := ⟨h.os, h.tape, h.output, h.size, h.block⟩
theorem But.set {b : Nat} {x w : World} (h : But b x w) (i : Nat) (v : Value) : But b x (w.setCell ⟨b, i, none⟩ v) :=
  h.trans ⟨rfl, rfl, rfl, by simp [World.setCell], fun k hk hb => Below.heap_setCell _ _ _ _ hb⟩
theorem But.alloc {b : Nat} {x w : World} (h : But b x w) (o : Obj) : But b x (w.alloc o) := h.trans (But.of (Below.alloc (Below.refl _ _) (Nat.le_refl _) o))
theorem Blk.but {b c : Nat} {w w' : World} {cs : Array Value} {t : TypeId} (h : Blk w c cs t) (k : But b w w') (hb : c ≠ b) : Blk w' c cs t := by
  unfold Blk; rw [k.block c h.lt hb]; exact h
theorem quiet_eq {P : Program} {f : FuncId} {args : Array Value} {w : World} {n : Nat} {v : Value} (h : Calls P f args (w.drewN n) fun e w' => e = .returned v ∧ w.drewN n = w') :
    Calls P f args (w.drewN n) fun e w'' => e = .returned v ∧ ∃ m, w'' = w.drewN m := h.mono fun _ _ ⟨he, hm⟩ => ⟨he, n, hm.symm⟩
theorem small_any (c : UInt8) (w : World) : Calls Tryz.prog 120 #[.int .u8 c.toNat] w fun e w' => e = .returned (.bool (lsmall c)) ∧ w = w' := by
  go_enter Tryz.func120, Tryz.ntmps120
  go_wp2
  all_goals (go_ret; exact ⟨by unfold lsmall; congr 2; simp; try omega, rfl⟩)
theorem great_any (c : UInt8) (w : World) : Calls Tryz.prog 122 #[.int .u8 c.toNat] w fun e w' => e = .returned (.bool (lgreat c)) ∧ w = w' := by
  go_enter Tryz.func122, Tryz.ntmps122
  go_wp2
  all_goals (go_ret; exact ⟨by unfold lgreat; congr 2; simp_all; try omega, rfl⟩)
theorem digit_any (c : UInt8) (w : World) : Calls Tryz.prog 123 #[.int .u8 c.toNat] w fun e w' => e = .returned (.bool (ldigit c)) ∧ w = w' := by
  go_enter Tryz.func123, Tryz.ntmps123
  go_wp2
  all_goals (go_ret; exact ⟨by unfold ldigit; congr 2; simp; try omega, rfl⟩)
theorem word_any (c : UInt8) (w : World) : Calls Tryz.prog 121 #[.int .u8 c.toNat] w fun e w' => e = .returned (.bool (lword c)) ∧ w = w' := by
  go_enter Tryz.func121, Tryz.ntmps121
  go_wp2_with (first | (go_at_call 120; refine (small_any c _).mono ?_; rintro e w' ⟨rfl, rfl⟩) | (go_at_call 122; refine (great_any c _).mono ?_; rintro e w' ⟨rfl, rfl⟩) | (go_at_call 123; refine (digit_any c _).mono ?_; rintro e w' ⟨rfl, rfl⟩))
  all_goals (go_ret; refine ⟨?_, rfl⟩; unfold lword; simp_all)
theorem indexByte_geq (l : List UInt8) (c : UInt8) : decide ((0 : Int) ≤ Lib.indexByte l c) = l.contains c := by
  induction l with
  | nil => rfl
  | cons b l ih =>
    have hg := Lib.indexByte_ge l c
    unfold Lib.indexByte
    rw [List.contains_cons]
    by_cases h : b = c
    · subst h; simp
    · have h2 : (c == b) = false := by simpa using Ne.symm h
      rw [if_neg (by simpa using h), h2, Bool.false_or, ← ih]
      split
      · rename_i h3; have h4 : Lib.indexByte l c = -1 := by simpa using h3
        simp [h4]
      · rename_i h3; have h4 : Lib.indexByte l c ≠ -1 := by simpa using h3
        congr 1; apply propext; omega
theorem symbol_any (c : UInt8) (w : World) : Calls Tryz.prog 127 #[.int .u8 c.toNat] w fun e w' => e = .returned (.bool (lsym c)) ∧ w = w' := by
  go_enter Tryz.func127, Tryz.ntmps127
  go_wp2_with (go_at_call 117; refine (Tryz.strings_IndexByte _ _ _).mono ?_; rintro e w' ⟨rfl, rfl⟩)
  go_ret
  exact ⟨by rw [indexByte_geq]; rfl, rfl⟩
theorem u8_eq (c : UInt8) (n : Int) (d : UInt8) (hd : (d.toNat : Int) = n) : ((c.toNat : Int) == n) = (c == d) := by
  subst hd
  by_cases h : c = d
  · subst h; simp
  · have h2 : ¬ (c.toNat : Int) = (d.toNat : Int) := fun e => h (UInt8.toNat.inj (by omega))
    rw [beq_eq_false_iff_ne.mpr h2, beq_eq_false_iff_ne.mpr h]
theorem notnl_any (c : UInt8) (w : World) : Calls Tryz.prog 119 #[.int .u8 c.toNat] w fun e w' => e = .returned (.bool (c != 10)) ∧ w = w' := by
  go_enter Tryz.func119, Tryz.ntmps119
  go_wp2
  all_goals (go_ret; refine ⟨?_, rfl⟩; show Ending.returned (.bool ((c.toNat : Int) != 10)) = _; unfold bne; rw [u8_eq c 10 10 rfl])
/-- Of the bytes from i on. -/
theorem drop_cons {s : ByteArray} {i : Nat} (h : i < s.size) : s.data.toList.drop i = s[i] :: s.data.toList.drop (i + 1) := by
  have h2 : i < s.data.toList.length := by simpa using h
  rw [List.drop_eq_getElem_cons h2]; rfl
theorem drop_nil {s : ByteArray} {i : Nat} (h : ¬ i < s.size) : s.data.toList.drop i = [] := by
  apply List.drop_eq_nil_of_le; simp; omega
theorem extract_eq (s : ByteArray) (i k : Nat) : s.extract i k = ⟨((s.data.toList.drop i).take (k - i)).toArray⟩ := by
  apply ByteArray.ext
  apply Array.toList_inj.mp
  simp [List.extract]
def RunAt (s : ByteArray) (p : UInt8 → Bool) (i k : Nat) : Prop := (s.data.toList.drop i).takeWhile p = (s.data.toList.drop i).take (k - i) ++ (s.data.toList.drop k).takeWhile p ∧ (s.data.toList.drop i).dropWhile p = (s.data.toList.drop k).dropWhile p
theorem runAt_start (s : ByteArray) (p : UInt8 → Bool) (i : Nat) : RunAt s p i i := by simp [RunAt]
def RunIs (s : ByteArray) (b : Nat) (p : UInt8 → Bool) (i : Nat) (w w' : World) : Prop :=
  ∃ j, i ≤ j ∧ j ≤ s.size ∧ s.data.toList.drop j = (s.data.toList.drop i).dropWhile p ∧ (s.data.toList.drop i).takeWhile p = (s.data.toList.drop i).take (j - i) ∧ But b w w' ∧ Blk w' b #[.string s, .int .i64 j] 139
theorem runAt_step {s : ByteArray} {p : UInt8 → Bool} {i k : Nat} (h : RunAt s p i k) (hi : i ≤ k) (hk : k < s.size) (hp : p s[k] = true) : RunAt s p i (k + 1) := by
  obtain ⟨h1, h2⟩ := h
  rw [drop_cons hk] at h1 h2
  constructor
  · rw [h1, List.takeWhile_cons_of_pos hp]
    have : (s.data.toList.drop i).take (k + 1 - i) = (s.data.toList.drop i).take (k - i) ++ [s[k]] := by
      have e : k + 1 - i = (k - i) + 1 := by omega
      rw [e, List.take_add_one]
      congr 1
      rw [List.getElem?_drop, show i + (k - i) = k from by omega]
      have h3 : k < s.data.toList.length := by simpa using hk
      rw [List.getElem?_eq_getElem h3]; rfl
    rw [this]; simp
  · rw [h2, List.dropWhile_cons_of_pos hp]
theorem runAt_end {s : ByteArray} {p : UInt8 → Bool} {b i k : Nat} {w w' : World} (h : RunAt s p i k) (hi : i ≤ k) (hk : k ≤ s.size) (hp : (s.data.toList.drop k).takeWhile p = []) (hd : (s.data.toList.drop k).dropWhile p = s.data.toList.drop k)
    (hbut : But b w w') (hblk : Blk w' b #[.string s, .int .i64 k] 139) :
    Ending.returned (.string (s.extract i k)) = .returned (.string ⟨((s.data.toList.drop i).takeWhile p).toArray⟩) ∧ RunIs s b p i w w' := by
  obtain ⟨h1, h2⟩ := h
  rw [hp, List.append_nil] at h1
  rw [hd] at h2
  exact ⟨by rw [extract_eq, h1], k, hi, hk, h2.symm, h1, hbut, hblk⟩
theorem stop_tw {s : ByteArray} {p : UInt8 → Bool} {k : Nat} (hk : k < s.size) (hp : p s[k] = false) : (s.data.toList.drop k).takeWhile p = [] ∧ (s.data.toList.drop k).dropWhile p = s.data.toList.drop k := by
  rw [drop_cons hk]; simp [hp]
theorem stop_tw0 {s : ByteArray} {p : UInt8 → Bool} {k : Nat} (hk : ¬ k < s.size) : (s.data.toList.drop k).takeWhile p = [] ∧ (s.data.toList.drop k).dropWhile p = s.data.toList.drop k := by
  rw [drop_nil hk]; simp
theorem But.drewN {b : Nat} {x w : World} (h : But b x w) (n : Nat) : But b x (w.drewN n) := ⟨h.os, h.tape, h.output, h.size, h.block⟩
theorem Blk.drewN {w : World} {b : Nat} {cs : Array Value} {t : TypeId} (h : Blk w b cs t) (n : Nat) : Blk (w.drewN n) b cs t := h
theorem Below.drewN {B : Nat} {a w : World} (h : Below B a w) (n : Nat) : Below B a (w.drewN n) := ⟨h.os, h.tape, h.output, h.size, h.block⟩
set_option maxHeartbeats 1000000 in
theorem run_any (fk : Nat) (p : UInt8 → Bool) (hk : ∀ (c : UInt8) (w : World), Calls Tryz.prog fk #[.int .u8 c.toNat] w fun e w' => e = .returned (.bool (p c)) ∧ w = w')
    (hf : ∀ (c : UInt8) (w : World), (callFunc fk #[.int .u8 c.toNat]).run Tryz.prog w = .ok (.enter fk #[.int .u8 c.toNat]) w)
    (s : ByteArray) (b i : Nat) (hi : i ≤ s.size) (hs : s.size ≤ 281474976710656) (w : World) (hb : Blk w b #[.string s, .int .i64 i] 139) :
    Calls Tryz.prog 118 #[.pointer (some ⟨b, 0, none⟩), .func (.func fk) #[] #[]] w fun e w' =>
      e = .returned (.string ⟨((s.data.toList.drop i).takeWhile p).toArray⟩) ∧ RunIs s b p i w w' := by
  obtain ⟨c0, c1, f0, f1, lt⟩ := hb.two
  go_enter Tryz.func118, Tryz.ntmps118
  go_wp2_with fail
  go_loopg [10] (s.size - i) (fun g x wr => ∃ k : Nat, i ≤ k ∧ k ≤ s.size ∧ g = s.size - k ∧ Hid (RunAt s p i k) ∧ But b w wr ∧ Blk wr b #[.string s, .int .i64 k] 139)
  case atStart => exact ⟨i, Nat.le_refl _, hi, rfl, runAt_start s p i, But.refl _ _, hb⟩
  case round =>
    obtain ⟨k, h1, h2, hg, hr, hbut, hblk⟩ := hrel
    have G := Lib.hid hg; clear hg
    obtain ⟨c0, c1, f0, f1, lt⟩ := hblk.two
    have k0 : (0 : Int) ≤ (k : Int) := by omega
    by_cases hlt : k < s.size
    · have hlt' : (k : Int) < (s.size : Int) := by omega
      have kw : IntKind.i64.wrap ((k : Int) + 1) = (k : Int) + 1 := IntWalk.i64_in _ (by omega)
      cases hp : p s[k]
      · go_wp2_with fail
        go_quiet (exact quiet_eq (hk s[k] _))
        go_wp2_with fail
        have ki : (i : Int) ≤ (k : Int) := by omega
        have i0 : (0 : Int) ≤ (i : Int) := by omega
        have kl : (k : Int) ≤ (s.size : Int) := by omega
        go_quiet (fail)
        go_wp2
        go_ret
        exact runAt_end hr.out h1 h2 (stop_tw hlt hp).1 (stop_tw hlt hp).2 ((hbut.drewN _).drewN _) ((hblk.drewN _).drewN _)
      · go_wp2_with fail
        go_quiet (exact quiet_eq (hk s[k] _))
        go_wp2
        go_roundg (gk - 1)
        case measure => have := G.out; omega
        case rel => exact ⟨k + 1, by omega, by omega, by have := G.out; omega, runAt_step hr.out h1 hlt hp, (hbut.drewN _).set _ _, (hblk.drewN _).store 1 _⟩
    · have hlt' : decide ((k : Int) < (s.size : Int)) = false := by simp; omega
      go_wp2_with fail
      go_quiet (fail)
      go_wp2_with fail
      have ki : (i : Int) ≤ (k : Int) := by omega
      have i0 : (0 : Int) ≤ (i : Int) := by omega
      have kl : (k : Int) ≤ (s.size : Int) := by omega
      go_quiet (fail)
      go_wp2
      go_ret
      exact runAt_end hr.out h1 h2 (stop_tw0 hlt).1 (stop_tw0 hlt).2 ((hbut.drewN _).drewN _) ((hblk.drewN _).drewN _)
theorem run_word (s : ByteArray) (b i : Nat) (hi : i ≤ s.size) (hs : s.size ≤ 281474976710656) (w : World) (hb : Blk w b #[.string s, .int .i64 i] 139) :
    Calls Tryz.prog 118 #[.pointer (some ⟨b, 0, none⟩), .func (.func 121) #[] #[]] w fun e w' =>
      e = .returned (.string ⟨((s.data.toList.drop i).takeWhile lword).toArray⟩) ∧ RunIs s b lword i w w' :=
  run_any 121 lword word_any (fun c w => by simp [callFunc, go_sem, Tryz.func121]; rfl) s b i hi hs w hb
end Go.Proofs.YtcnnobcncklgfaaGreatDoor
