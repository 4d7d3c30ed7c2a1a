/- Of package lex, plain: blanks ahead, two texts parted by a line's end, a quoted name. -/
import Derived.Test.YtofefbonokikfaaDoorLexCutP
namespace Go.Proofs.YtofefbonokikfaaDoor
set_option linter.unusedVariables false
def shT (d : Int) (t : Tok) : Tok := { t with pos := t.pos + d }
theorem cutF_nil (N f : Nat) (out : List Tok) : cutF N f out [] = (out, (N : Int), 0) := by cases f <;> rfl
theorem over_n {t : Tok} {n : Nat} (h : overT t n = false) : n ≠ 1024 := by
  intro e; unfold overT at h; rw [e] at h; simp at h
theorem over_any {t : Tok} {n m : Nat} (h : overT t n = false) (hm : m ≠ 1024) : overT t m = false := by
  unfold overT at h ⊢
  rw [Bool.or_eq_false_iff] at h ⊢
  exact ⟨h.1, by simpa using hm⟩
/-- The step of a cut that ends well. -/
theorem cut_ok {N f : Nat} {out ts : List Tok} {c : UInt8} {r : List UInt8} {n : Int} (h : cutF N (f + 1) out (c :: r) = (ts, n, 0)) :
    ∃ t k, oneT (c :: r) = (t, k, 0) ∧ overT t out.length = false ∧ cutF N f (out ++ [⟨t.kind, t.text, t.num, k.head? == some 40, (N : Int) - (c :: r).length⟩]) (skipS false k) = (ts, n, 0) := by
  rcases ho : oneT (c :: r) with ⟨t, k, er⟩
  cases e0 : er == 0
  · exfalso
    have := cut_bad (N := N) (f := f) (out := out) ho (e := er) (by rw [e0]; rfl) (by rw [bne, e0]; rfl)
    rw [this] at h
    have h2 : er = 0 := by cases h; rfl
    rw [h2] at e0; simp at e0
  · have := eq_of_beq e0
    subst this
    cases hov : overT t out.length
    · refine ⟨t, k, rfl, hov, ?_⟩
      rw [← cut_good ho hov]; exact h
    · exfalso
      have := cut_bad (N := N) (f := f) (out := out) ho (e := 3) (by rw [hov]; rfl) (by decide)
      rw [this] at h
      cases h
theorem skip_one {c : UInt8} {r k : List UInt8} {t : Tok} {er : Int} (h : oneT (c :: r) = (t, k, er)) : (skipS false k).length ≤ r.length := by
  have h1 := one_le (c := c) (r := r)
  rw [h] at h1
  exact Nat.le_trans (skip_le k false) h1
/-- A cut that ends well hangs on nothing but what is left. -/
theorem cut_shift {N : Nat} : ∀ (f : Nat) (l : List UInt8) (out ts : List Tok) (n : Int), cutF N f out l = (ts, n, 0) → l.length < f →
    ∃ us, ts = out ++ us ∧ n = N ∧ ∀ (N' f' : Nat) (out' : List Tok), l.length < f' → out'.length + us.length ≤ 1024 → cutF N' f' out' l = (out' ++ us.map (shT ((N' : Int) - N)), (N' : Int), 0) := by
  intro f
  induction f with
  | zero => intro l out ts n h hl; omega
  | succ f ih =>
    intro l out ts n h hl
    cases l with
    | nil =>
      rw [cutF_nil] at h
      cases h
      exact ⟨[], by simp, rfl, fun N' f' out' _ _ => by rw [cutF_nil]; simp⟩
    | cons c r =>
      obtain ⟨t, k, ho, hov, h2⟩ := cut_ok h
      have hk := skip_one ho
      simp at hl
      obtain ⟨us, h3, h4, h5⟩ := ih (skipS false k) _ ts n h2 (by omega)
      refine ⟨_ :: us, by rw [h3, List.append_assoc]; rfl, h4, fun N' f' out' hf hu => ?_⟩
      simp at hf hu
      obtain ⟨f'', rfl⟩ : ∃ f'', f' = f'' + 1 := ⟨f' - 1, by omega⟩
      rw [cut_good ho (over_any hov (by omega)), h5 N' f'' _ (by omega) (by simp; omega)]
      simp [shT]
      omega
theorem cut_count {N : Nat} : ∀ (f : Nat) (l : List UInt8) (out ts : List Tok) (n : Int), cutF N f out l = (ts, n, 0) → out.length ≤ 1024 → ts.length ≤ 1024 := by
  intro f
  induction f with
  | zero => intro l out ts n h hl; cases h; exact hl
  | succ f ih =>
    intro l out ts n h hl
    cases l with
    | nil => rw [cutF_nil] at h; cases h; exact hl
    | cons c r =>
      obtain ⟨t, k, ho, hov, h2⟩ := cut_ok h
      have := over_n hov
      exact ih _ _ ts n h2 (by simp; omega)
theorem skip_pad : ∀ (p l : List UInt8), (∀ c ∈ p, lblank c = true) → skipS false (p ++ l) = skipS false l := by
  intro p
  induction p with
  | nil => intro l _; rfl
  | cons c r ih =>
    intro l h
    show (if lblank c then skipS false (r ++ l) else _) = _
    rw [h c (by simp), if_pos rfl]
    exact ih l fun x hx => h x (by simp [hx])
/-- Blanks ahead. -/
theorem cut_pad {l p : List UInt8} {ts : List Tok} {n : Int} (h : cutT l = (ts, n, 0)) (hp : ∀ c ∈ p, lblank c = true) (hl : p.length + l.length ≤ 4096) :
    cutT (p ++ l) = (ts.map (shT p.length), ((p.length + l.length : Nat) : Int), 0) := by
  unfold cutT at h ⊢
  rw [if_neg (by omega)] at h
  rw [if_neg (by simp; omega), skip_pad p l hp]
  have hs := skip_le l false
  obtain ⟨us, h1, h2, h3⟩ := cut_shift (l.length + 1) (skipS false l) [] ts n h (by omega)
  have hts : us.length ≤ 1024 := by
    have := cut_count (l.length + 1) (skipS false l) [] ts n h (by simp)
    rw [h1] at this; simpa using this
  rw [h3 (p ++ l).length ((p ++ l).length + 1) [] (by simp; omega) (by simpa using hts)]
  rw [h1]
  simp
end Go.Proofs.YtofefbonokikfaaDoor
