/- The contracts of package lex: one. -/
import Derived.Test.YtofefbonokikfaaDoorLexWalk4
namespace Go.Proofs.YtofefbonokikfaaDoor
open Go Go.ChangeShapes Go.WideShapes Go.ChangeAt Go.RowKit
set_option linter.unusedVariables false
theorem Rng.but {w w' : World} {b : Nat} {s : ByteArray} {x : Value} {t : TypeId} (h : Rng w) (hb : Blk w b #[.string s, x] t) (k : But b w w') : Rng w' := by
  obtain ⟨tp, p, hv⟩ := h
  refine ⟨tp, p, ?_⟩
  unfold World.var? at hv ⊢
  cases hg : (Tryd.prog).globalNamed "strconv.ErrRange" with
  | none => rw [hg] at hv; cases hv
  | some g =>
    simp only [hg, Option.bind_some] at hv ⊢
    have hlt : g < w.heap.size := by
      rcases Nat.lt_or_ge g w.heap.size with h' | h'
      · exact h'
      · rw [Array.getElem?_eq_none h'] at hv; cases hv
    have hne : g ≠ b := by
      intro e
      subst e
      unfold Blk at hb
      rw [hb] at hv
      simp at hv
    rw [k.block g hlt hne]; exact hv
theorem one_fin {s : ByteArray} {b : Nat} {l rest : List UInt8} {w wq : World} {t : Tok} {er : Int} (ho : oneT l = (t, rest, er)) (hb : b < w.heap.size) (hbut : But b w wq)
    (hblk : er = 0 → ∃ j, j ≤ s.size ∧ s.data.toList.drop j = rest ∧ Blk wq b #[.string s, .int .i64 j] 36) (x y z u v : Value) :
    OneIs s b (oneT l) w (.returned (tokR t er)) (((((wq.setCell ⟨w.heap.size, 0, none⟩ x).setCell ⟨w.heap.size, 1, none⟩ y).setCell ⟨w.heap.size, 2, none⟩ z).setCell ⟨w.heap.size, 3, none⟩ u).setCell ⟨w.heap.size, 4, none⟩ v) := by
  rw [ho]
  refine ⟨rfl, hbut.new5 (Nat.le_refl _) _ _ _ _ _, fun h => ?_⟩
  obtain ⟨j, h1, h2, h3⟩ := hblk h
  exact ⟨j, h1, h2, h3.other5 (by omega) _ _ _ _ _⟩
theorem one_small {c : UInt8} {r : List UInt8} (h : lsmall c = true) : oneT (c :: r) = (⟨1, (c :: r).takeWhile lword, 0, false, 0⟩, (c :: r).dropWhile lword, 0) := by
  simp only [oneT, h, if_true]
theorem one_great {c : UInt8} {r : List UInt8} (h0 : lsmall c = false) (h : lgreat c = true) : oneT (c :: r) = (⟨3, (c :: r).takeWhile lword, 0, false, 0⟩, (c :: r).dropWhile lword, 0) := by
  simp only [oneT, h0, h, if_true, Bool.false_eq_true, if_false]
theorem one_digit {c : UInt8} {r : List UInt8} (h0 : lsmall c = false) (h1 : lgreat c = false) (h : ldigit c = true) : oneT (c :: r) = (⟨4, [], (parseS ((c :: r).takeWhile ldigit)).1, false, 0⟩, (c :: r).dropWhile ldigit, (parseS ((c :: r).takeWhile ldigit)).2) := by
  simp only [oneT, h0, h1, h, if_true, Bool.false_eq_true, if_false]
theorem one_quot {c : UInt8} {r : List UInt8} (h0 : lsmall c = false) (h1 : lgreat c = false) (h2 : ldigit c = false) (h : (c == 39) = true) : oneT (c :: r) = quoR (quotS [] r) := by
  simp only [oneT, h0, h1, h2, h, if_true, Bool.false_eq_true, if_false]
  cases quotS [] r with
  | none => rfl
  | some x => obtain ⟨t, k⟩ := x; rfl
/-- What stands at a letter that is no letter, no digit, no quote. -/
structure Rest (c : UInt8) : Prop where
  a : lsmall c = false
  b : lgreat c = false
  d : ldigit c = false
  q : (c == 39) = false
theorem one_end {c : UInt8} {r : List UInt8} (h : Rest c) (h2 : endsS (c :: r) = true) : oneT (c :: r) = (⟨6, [], 0, false, 0⟩, r, 0) := by
  simp only [oneT, h.a, h.b, h.d, h.q, h2, if_true, Bool.false_eq_true, if_false]
theorem one_sym {c : UInt8} {r : List UInt8} (h : Rest c) (h1 : endsS (c :: r) = false) (h2 : lsym c = true) : oneT (c :: r) = (⟨1, symsS (c :: r), 0, false, 0⟩, (c :: r).drop (symsS (c :: r)).length, 0) := by
  simp only [oneT, h.a, h.b, h.d, h.q, h1, h2, if_true, Bool.false_eq_true, if_false]
theorem one_solo {c : UInt8} {r : List UInt8} (h : Rest c) (h1 : endsS (c :: r) = false) (h2 : lsym c = false) (h3 : (c == 59 || c == 33) = true) : oneT (c :: r) = (⟨1, [c], 0, false, 0⟩, r, 0) := by
  simp only [oneT, h.a, h.b, h.d, h.q, h1, h2, h3, if_true, Bool.false_eq_true, if_false]
def pairS (c : UInt8) (r : List UInt8) : Bool := (c == 91 && r.head? == some 93) || (c == 123 && r.head? == some 125)
theorem one_pair {c : UInt8} {r : List UInt8} (h : Rest c) (h1 : endsS (c :: r) = false) (h2 : lsym c = false) (h3 : (c == 59 || c == 33) = false) (h4 : pairS c r = true) : oneT (c :: r) = (⟨1, (c :: r).take 2, 0, false, 0⟩, r.drop 1, 0) := by
  unfold pairS at h4
  simp only [oneT, h.a, h.b, h.d, h.q, h1, h2, h3, h4, if_true, Bool.false_eq_true, if_false]
theorem one_punct {c : UInt8} {r : List UInt8} (h : Rest c) (h1 : endsS (c :: r) = false) (h2 : lsym c = false) (h3 : (c == 59 || c == 33) = false) (h4 : pairS c r = false) (h5 : lpunct c = true) : oneT (c :: r) = (⟨5, [c], 0, false, 0⟩, r, 0) := by
  unfold pairS at h4
  simp only [oneT, h.a, h.b, h.d, h.q, h1, h2, h3, h4, h5, if_true, Bool.false_eq_true, if_false]
theorem one_none {c : UInt8} {r : List UInt8} (h : Rest c) (h1 : endsS (c :: r) = false) (h2 : lsym c = false) (h3 : (c == 59 || c == 33) = false) (h4 : pairS c r = false) (h5 : lpunct c = false) : oneT (c :: r) = (tok0, [], 2) := by
  unfold pairS at h4
  simp only [oneT, h.a, h.b, h.d, h.q, h1, h2, h3, h4, h5, Bool.false_eq_true, if_false]
  rfl
theorem pre_two {c d x y : UInt8} {r : List UInt8} : ([x, y] : List UInt8).isPrefixOf (c :: d :: r) = (c == x && d == y) := by
  show (x == c && (y == d && true)) = _
  rw [Bool.and_true, BEq.comm (a := x), BEq.comm (a := y)]
theorem pre_pair {c : UInt8} {r : List UInt8} : (Lib.hasPrefix (c :: r) [91, 93] || Lib.hasPrefix (c :: r) [123, 125]) = pairS c r := by
  unfold Lib.hasPrefix pairS
  cases r with
  | nil =>
    show ((91 == c && false) || (123 == c && false)) = ((c == 91 && false) || (c == 123 && false))
    simp only [Bool.and_false]
  | cons d r =>
    rw [pre_two, pre_two]; rfl
theorem run_digit (s : ByteArray) (b i : Nat) (hi : i ≤ s.size) (hs : s.size ≤ 281474976710656) (w : World) (hb : Blk w b #[.string s, .int .i64 i] 36) :
    Calls Tryd.prog 15 #[.pointer (some ⟨b, 0, none⟩), .func (.func 20) #[] #[]] w fun e w' =>
      e = .returned (.string ⟨((s.data.toList.drop i).takeWhile ldigit).toArray⟩) ∧ RunIs s b ldigit i w w' :=
  run_any 20 ldigit digit_any (fun c w => by simp [callFunc, go_sem, Tryd.func20]; rfl) s b i hi hs w hb
theorem parse_p (l : List UInt8) (hl : l.length ≤ 4096) (w : World) (hr : Rng w) : Calls Tryd.prog 21 #[.string ⟨l.toArray⟩] w fun e w' => e = .returned (.tuple #[.int .i64 (parseS l).1, .int .i64 (parseS l).2]) ∧ Below w.heap.size w w' := by
  have := parse_any ⟨l.toArray⟩ (by show l.toArray.size ≤ _; simp; omega) w hr
  simpa [two64] using this
theorem enc_byte : ∀ c : UInt8, c < 128 → Utf8.encode (c.toNat : Int) = ⟨#[c]⟩ := by
  have h : ∀ n : Fin 128, Utf8.encode ((UInt8.ofNat n.1).toNat : Int) = ⟨#[UInt8.ofNat n.1]⟩ := by decide +kernel
  intro c hc
  have h2 := h ⟨c.toNat, by rw [UInt8.lt_iff_toNat_lt] at hc; exact hc⟩
  rwa [show UInt8.ofNat c.toNat = c from by simp] at h2
theorem punct_lt {c : UInt8} (h : lpunct c = true) : c < 128 := by
  unfold lpunct at h
  simp at h
  rcases h with h | h | h | h | h | h | h | h <;> subst h <;> decide
theorem solo_lt {c : UInt8} (h : (c == 59 || c == 33) = true) : c < 128 := by
  simp at h
  rcases h with h | h <;> subst h <;> decide
theorem hp_q {t : ByteArray} {p : List UInt8} {v : Bool} (h : Hid (Lib.hasPrefix t.data.toList p = v)) (w : World) (n : Nat) : Calls Tryd.prog 26 #[.string t, .string ⟨p.toArray⟩] (w.drewN n) fun e w'' => e = .returned (.bool v) ∧ ∃ m, w'' = w.drewN m :=
  (Tryd.strings_HasPrefix t ⟨p.toArray⟩ (w.drewN n)).mono fun e w' ⟨h1, h2⟩ => ⟨by rw [h1, ← h.out], n, h2⟩
theorem hp_q2 {t : ByteArray} {p : List UInt8} {v : Bool} (h : Hid (Lib.hasPrefix t.data.toList p = v)) (w : World) (a n : Nat) : Calls Tryd.prog 26 #[.string t, .string ⟨p.toArray⟩] (w.drewN (a + n)) fun e w'' => e = .returned (.bool v) ∧ ∃ m, w'' = w.drewN (a + m) :=
  (Tryd.strings_HasPrefix t ⟨p.toArray⟩ (w.drewN (a + n))).mono fun e w' ⟨h1, h2⟩ => ⟨by rw [h1, ← h.out], n, h2⟩
theorem ext_end (s : ByteArray) (i : Nat) : (s.extract i s.size).data.toList = s.data.toList.drop i := by
  rw [extract_eq]
  show List.take _ _ = _
  exact List.take_of_length_le (by simp)

theorem pair_lt {s : ByteArray} {i : Nat} {c : UInt8} (hi : i < s.size) (h : pairS c (s.data.toList.drop (i + 1)) = true) : i + 1 < s.size := by
  rcases Nat.lt_or_ge (i + 1) s.size with h' | h'
  · exact h'
  · rw [drop_nil (by omega)] at h
    simp [pairS] at h
theorem OneIs.drew {s : ByteArray} {b : Nat} {o : Tok × List UInt8 × Int} {w w' : World} {e : Ending} (h : OneIs s b o w e w') : OneIs s b o w e w'.drew :=
  ⟨h.1, h.2.1.drew, h.2.2⟩
end Go.Proofs.YtofefbonokikfaaDoor
