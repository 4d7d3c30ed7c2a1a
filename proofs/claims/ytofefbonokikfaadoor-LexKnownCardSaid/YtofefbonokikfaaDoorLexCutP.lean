/- Of package lex, plain: each token takes letters; blanks take none away from what is there. -/
import Derived.Test.YtofefbonokikfaaDoorLexOne
namespace Go.Proofs.YtofefbonokikfaaDoor
set_option linter.unusedVariables false
theorem skip_le (l : List UInt8) : ∀ b, (skipS b l).length ≤ l.length := by
  induction l with
  | nil => intro b; cases b <;> exact Nat.le_refl _
  | cons c r ih =>
    intro b
    cases b
    · show (if lblank c then skipS false r else if c == 37 then skipS true r else c :: r).length ≤ _
      split
      · exact Nat.le_succ_of_le (ih _)
      · split
        · exact Nat.le_succ_of_le (ih _)
        · exact Nat.le_refl _
    · exact Nat.le_succ_of_le (ih _)
theorem quot_le : ∀ (n : Nat) (l : List UInt8), l.length ≤ n → ∀ (out t k : List UInt8), quotS out l = some (t, k) → k.length < l.length := by
  intro n
  induction n with
  | zero =>
    intro l hl out t k h
    have := List.length_eq_zero_iff.mp (Nat.le_zero.mp hl)
    subst this
    rw [quotS] at h; cases h
  | succ n ih =>
    intro l hl out t k h
    match l, hl, h with
    | [], _, h => rw [quotS] at h; cases h
    | [c], _, h =>
      rw [quotS] at h
      split at h
      · cases h; simp
      · cases h
    | c :: d :: r, hl, h =>
      simp at hl
      rw [quotS] at h
      have step : ∀ x, quotS x r = some (t, k) → k.length < (c :: d :: r).length := fun x hx => by have := ih r (by omega) x t k hx; simp; omega
      split at h
      · split at h
        · exact step _ h
        · cases h; simp
      · split at h
        · cases h
        · split at h
          · split at h
            · exact step _ h
            · split at h
              · exact step _ h
              · split at h
                · exact step _ h
                · split at h
                  · exact step _ h
                  · cases h
          · have := ih (d :: r) (by simp; omega) _ t k h; simp at this ⊢; omega
theorem syms_cons {c : UInt8} {r : List UInt8} (h1 : endsS (c :: r) = false) (h2 : lsym c = true) : symsS (c :: r) = c :: symsS r := by
  show (if lsym c && !endsS (c :: r) then c :: symsS r else []) = _
  rw [h2, h1]; rfl
theorem one_le {c : UInt8} {r : List UInt8} : (oneT (c :: r)).2.1.length ≤ r.length := by
  have dw : ∀ (p : UInt8 → Bool), p c = true → ((c :: r).dropWhile p).length ≤ r.length := by
    intro p hp
    rw [List.dropWhile_cons_of_pos hp]
    exact (List.dropWhile_sublist p).length_le
  cases h1 : lsmall c
  · cases h2 : lgreat c
    · cases h3 : ldigit c
      · cases h4 : c == 39
        · have RS : Rest c := ⟨h1, h2, h3, h4⟩
          cases h5 : endsS (c :: r)
          · cases h6 : lsym c
            · cases h7 : (c == 59 || c == 33)
              · cases h8 : pairS c r
                · cases h9 : lpunct c
                  · rw [one_none RS h5 h6 h7 h8 h9]; simp
                  · rw [one_punct RS h5 h6 h7 h8 h9]; exact Nat.le_refl _
                · rw [one_pair RS h5 h6 h7 h8]; simp
              · rw [one_solo RS h5 h6 h7]; exact Nat.le_refl _
            · rw [one_sym RS h5 h6, syms_cons h5 h6]; simp
          · rw [one_end RS h5]; exact Nat.le_refl _
        · rw [one_quot h1 h2 h3 h4]
          cases hq : quotS [] r with
          | none => simp [quoR]
          | some x => obtain ⟨t, k⟩ := x; exact Nat.le_of_lt (quot_le _ _ (Nat.le_refl _) _ _ _ hq)
      · rw [one_digit h1 h2 h3]; exact dw _ h3
    · rw [one_great h1 h2]; exact dw _ (by unfold lword; rw [h2]; simp)
  · rw [one_small h1]; exact dw _ (by unfold lword; rw [h1]; rfl)
/-- Cut, at a token that is refused. -/
theorem cut_bad {N f : Nat} {out : List Tok} {c : UInt8} {r k : List UInt8} {t : Tok} {er e : Int} (h : oneT (c :: r) = (t, k, er)) (he : e = if er == 0 && overT t out.length then 3 else er) (h0 : (e != 0) = true) :
    cutF N (f + 1) out (c :: r) = ([], (N : Int) - (c :: r).length, e) := by
  subst he
  show (if ((if (oneT (c :: r)).2.2 == 0 && overT (oneT (c :: r)).1 out.length then (3 : Int) else (oneT (c :: r)).2.2) != 0) = true then _ else _) = _
  rw [h]
  rw [if_pos h0]
/-- Cut, at a token that is taken. -/
theorem cut_good {N f : Nat} {out : List Tok} {c : UInt8} {r k : List UInt8} {t : Tok} (h : oneT (c :: r) = (t, k, 0)) (ho : overT t out.length = false) :
    cutF N (f + 1) out (c :: r) = cutF N f (out ++ [⟨t.kind, t.text, t.num, k.head? == some 40, (N : Int) - (c :: r).length⟩]) (skipS false k) := by
  show (if ((if (oneT (c :: r)).2.2 == 0 && overT (oneT (c :: r)).1 out.length then (3 : Int) else (oneT (c :: r)).2.2) != 0) = true then _ else cutF N f (out ++ [⟨(oneT (c :: r)).1.kind, (oneT (c :: r)).1.text, (oneT (c :: r)).1.num, (oneT (c :: r)).2.1.head? == some 40, (N : Int) - (c :: r).length⟩]) (skipS false (oneT (c :: r)).2.1)) = _
  rw [h]
  simp only [ho]
  rfl
end Go.Proofs.YtofefbonokikfaaDoor
