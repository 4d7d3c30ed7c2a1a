/- Of package lex, plain: two texts parted by a line's end; a quoted name. -/
import Derived.Test.YtofefbonokikfaaDoorLexLaw
namespace Go.Proofs.YtofefbonokikfaaDoor
set_option linter.unusedVariables false
theorem skip_app (b : List UInt8) : ∀ (k : List UInt8) (fl : Bool), skipS fl (k ++ 10 :: b) = match skipS fl k with | [] => skipS false b | x :: r => x :: (r ++ 10 :: b) := by
  intro k
  induction k with
  | nil => intro fl; cases fl <;> rfl
  | cons c r ih =>
    intro fl
    cases fl
    · show (if lblank c then skipS false (r ++ 10 :: b) else if c == 37 then skipS true (r ++ 10 :: b) else c :: (r ++ 10 :: b)) = match (if lblank c then skipS false r else if c == 37 then skipS true r else c :: r) with | [] => skipS false b | x :: r => x :: (r ++ 10 :: b)
      split
      · exact ih _
      · split
        · exact ih _
        · rfl
    · exact ih _
theorem tw_app {p : UInt8 → Bool} (hp : p 10 = false) (b : List UInt8) : ∀ l : List UInt8, (l ++ 10 :: b).takeWhile p = l.takeWhile p ∧ (l ++ 10 :: b).dropWhile p = l.dropWhile p ++ 10 :: b := by
  intro l
  induction l with
  | nil => simp [hp]
  | cons c r ih =>
    cases h : p c
    · simp [h]
    · simp [h, ih.1, ih.2]
theorem ends_app (b : List UInt8) : ∀ l : List UInt8, endsS (l ++ 10 :: b) = endsS l := by
  intro l
  match l with
  | [] => rfl
  | [c] => show (c == 46 && [32, 9, 10, 13, 37].contains 10) = (c == 46 && true); rfl
  | c :: d :: r => rfl
theorem syms_app (b : List UInt8) : ∀ l : List UInt8, symsS (l ++ 10 :: b) = symsS l := by
  intro l
  induction l with
  | nil => rfl
  | cons c r ih =>
    have := ends_app b (c :: r)
    show (if lsym c && !endsS (c :: r ++ 10 :: b) then c :: symsS (r ++ 10 :: b) else []) = (if lsym c && !endsS (c :: r) then c :: symsS r else [])
    rw [this, ih]
theorem quot_app (b : List UInt8) : ∀ (n : Nat) (l : List UInt8), l.length ≤ n → ∀ (out t k : List UInt8), quotS out l = some (t, k) → quotS out (l ++ 10 :: b) = some (t, k ++ 10 :: b) := by
  intro n
  induction n with
  | zero =>
    intro l hl out t k h
    have := List.length_eq_zero_iff.mp (Nat.le_zero.mp hl)
    subst this
    rw [quotS] at h; cases h
  | succ n ih =>
    intro l hl out t k h
    match l, hl, h with
    | [], _, h => rw [quotS] at h; cases h
    | [c], _, h =>
      rw [quotS] at h
      show quotS out (c :: 10 :: b) = _
      rw [quotS]
      split at h
      · cases h; rename_i hc; rw [if_pos hc, if_neg (by decide)]; rfl
      · cases h
    | c :: d :: r, hl, h =>
      simp at hl
      show quotS out (c :: d :: (r ++ 10 :: b)) = _
      rw [quotS] at h ⊢
      have step : ∀ x, quotS x r = some (t, k) → quotS x (r ++ 10 :: b) = some (t, k ++ 10 :: b) := fun x hx => ih r (by omega) x t k hx
      split at h
      · rename_i h1
        rw [if_pos h1]
        split at h
        · rename_i h2; rw [if_pos h2]; exact step _ h
        · rename_i h2; rw [if_neg h2]; cases h; rfl
      · rename_i h1
        rw [if_neg h1]
        split at h
        · cases h
        · rename_i h2
          rw [if_neg h2]
          split at h
          · rename_i h3
            rw [if_pos h3]
            split at h
            · rename_i h4; rw [if_pos h4]; exact step _ h
            · rename_i h4; rw [if_neg h4]
              split at h
              · rename_i h5; rw [if_pos h5]; exact step _ h
              · rename_i h5; rw [if_neg h5]
                split at h
                · rename_i h6; rw [if_pos h6]; exact step _ h
                · rename_i h6; rw [if_neg h6]
                  split at h
                  · rename_i h7; rw [if_pos h7]; exact step _ h
                  · cases h
          · rename_i h3
            rw [if_neg h3]
            exact ih (d :: r) (by simp; omega) _ t k h
theorem syms_le : ∀ l : List UInt8, (symsS l).length ≤ l.length := by
  intro l
  induction l with
  | nil => exact Nat.le_refl _
  | cons c r ih =>
    show (if lsym c && !endsS (c :: r) then c :: symsS r else []).length ≤ _
    split
    · simpa using ih
    · simp
theorem one_app (b : List UInt8) {c : UInt8} {r k : List UInt8} {t : Tok} (h : oneT (c :: r) = (t, k, 0)) : oneT (c :: (r ++ 10 :: b)) = (t, k ++ 10 :: b, 0) := by
  have tw : ∀ (p : UInt8 → Bool), p 10 = false → ((c :: (r ++ 10 :: b)).takeWhile p = (c :: r).takeWhile p ∧ (c :: (r ++ 10 :: b)).dropWhile p = (c :: r).dropWhile p ++ 10 :: b) := fun p hp => tw_app hp b (c :: r)
  have he : endsS (c :: (r ++ 10 :: b)) = endsS (c :: r) := ends_app b (c :: r)
  have hsy : symsS (c :: (r ++ 10 :: b)) = symsS (c :: r) := syms_app b (c :: r)
  cases h1 : lsmall c
  · cases h2 : lgreat c
    · cases h3 : ldigit c
      · cases h4 : c == 39
        · have RS : Rest c := ⟨h1, h2, h3, h4⟩
          cases h5 : endsS (c :: r)
          · rw [h5] at he
            cases h6 : lsym c
            · cases h7 : (c == 59 || c == 33)
              · have hpp : pairS c (r ++ 10 :: b) = pairS c r := by
                  unfold pairS
                  cases r with
                  | nil => show ((c == 91 && some 10 == some 93) || (c == 123 && some 10 == some 125)) = ((c == 91 && none == some 93) || (c == 123 && none == some 125)); simp
                  | cons d r => rfl
                cases h8 : pairS c r
                · cases h9 : lpunct c
                  · rw [one_none RS h5 h6 h7 h8 h9] at h; cases h
                  · rw [one_punct RS h5 h6 h7 h8 h9] at h; cases h
                    exact one_punct RS he h6 h7 (hpp.trans h8) h9
                · rw [one_pair RS h5 h6 h7 h8] at h; cases h
                  rw [one_pair RS he h6 h7 (hpp.trans h8)]
                  cases r with
                  | nil => simp [pairS] at h8
                  | cons d r => simp
              · rw [one_solo RS h5 h6 h7] at h; cases h
                exact one_solo RS he h6 h7
            · rw [one_sym RS h5 h6] at h; cases h
              rw [one_sym RS he h6, hsy]
              congr 2
              show ((c :: r) ++ 10 :: b).drop _ = _
              have : (symsS (c :: r)).length ≤ (c :: r).length := syms_le _
              rw [List.drop_append_of_le_length this]
          · rw [h5] at he
            rw [one_end RS h5] at h; cases h
            exact one_end RS he
        · rw [one_quot h1 h2 h3 h4] at h
          rw [one_quot h1 h2 h3 h4]
          cases hq : quotS [] r with
          | none => rw [hq] at h; cases h
          | some x =>
            obtain ⟨t', k'⟩ := x
            rw [hq] at h; cases h
            rw [quot_app b _ r (Nat.le_refl _) _ _ _ hq]; rfl
      · rw [one_digit h1 h2 h3] at h
        rw [one_digit h1 h2 h3, (tw ldigit (by decide)).1, (tw ldigit (by decide)).2]
        simp only [Prod.mk.injEq] at h ⊢
        exact ⟨h.1, by rw [h.2.1], h.2.2⟩
    · rw [one_great h1 h2] at h; cases h
      rw [one_great h1 h2, (tw lword (by decide)).1, (tw lword (by decide)).2]
  · rw [one_small h1] at h; cases h
    rw [one_small h1, (tw lword (by decide)).1, (tw lword (by decide)).2]
end Go.Proofs.YtofefbonokikfaaDoor
