/- Of package lex, plain: the laws: parts, comments, quotes. -/
import Derived.Test.YtofefbonokikfaaDoorLexLaw2
namespace Go.Proofs.YtofefbonokikfaaDoor
set_option linter.unusedVariables false
/-- What is left, with a line's end and more behind it. -/
def appS (b : List UInt8) : List UInt8 → List UInt8
  | [] => skipS false b
  | x :: r => x :: (r ++ 10 :: b)
theorem skip_appS (b k : List UInt8) : skipS false (k ++ 10 :: b) = appS b (skipS false k) := by
  rw [skip_app]; cases skipS false k <;> rfl
theorem cut_app (b : List UInt8) {N : Nat} : ∀ (f : Nat) (l : List UInt8) (out ts : List Tok) (n : Int), cutF N f out l = (ts, n, 0) → l.length < f →
    ∀ f', l.length + 1 + b.length < f' → ∃ f'', b.length < f'' ∧ cutF (N + 1 + b.length) f' out (appS b l) = cutF (N + 1 + b.length) f'' ts (skipS false b) := by
  intro f
  induction f with
  | zero => intro l out ts n h hl; omega
  | succ f ih =>
    intro l out ts n h hl f' hf
    cases l with
    | nil => rw [cutF_nil] at h; cases h; exact ⟨f', by simp at hf; omega, rfl⟩
    | cons c r =>
      obtain ⟨t, k, ho, hov, h2⟩ := cut_ok h
      have hk := skip_one ho
      simp at hl hf
      obtain ⟨f1, rfl⟩ : ∃ f1, f' = f1 + 1 := ⟨f' - 1, by omega⟩
      obtain ⟨f2, hf2, h3⟩ := ih (skipS false k) _ ts n h2 (by omega) f1 (by omega)
      refine ⟨f2, hf2, ?_⟩
      rw [← h3]
      show cutF _ (f1 + 1) out (c :: (r ++ 10 :: b)) = _
      rw [cut_good (one_app b ho) hov, skip_appS]
      congr 3
      have e1 : ((k ++ 10 :: b).head? == some 40) = (k.head? == some 40) := by
        cases k with
        | nil => show (some 10 == some 40) = (none == some 40); decide
        | cons x y => rfl
      rw [e1]
      congr 1
      simp; omega
theorem cutT_ok {l : List UInt8} {ts : List Tok} {n : Int} (h : cutT l = (ts, n, 0)) : l.length ≤ 4096 ∧ cutF l.length (l.length + 1) [] (skipS false l) = (ts, n, 0) ∧ n = l.length ∧ ts.length ≤ 1024 := by
  unfold cutT at h
  split at h
  · cases h
  · obtain ⟨us, h1, h2, -⟩ := cut_shift (l.length + 1) (skipS false l) [] ts n h (by have := skip_le l false; omega)
    exact ⟨by omega, h, h2, cut_count _ _ _ _ _ h (by simp)⟩
/-- Two texts, parted by a line's end. -/
theorem cut_parts {a b : List UInt8} {ts us : List Tok} {n m : Int} (ha : cutT a = (ts, n, 0)) (hb : cutT b = (us, m, 0)) (hl : a.length + 1 + b.length ≤ 4096) (hn : ts.length + us.length ≤ 1024) :
    cutT (a ++ 10 :: b) = (ts ++ us.map (shT ((a.length : Int) + 1)), ((a ++ 10 :: b).length : Int), 0) := by
  obtain ⟨-, ha2, -, -⟩ := cutT_ok ha
  obtain ⟨-, hb2, -, -⟩ := cutT_ok hb
  have hsa := skip_le a false
  have hsb := skip_le b false
  have hlen : (a ++ 10 :: b).length = a.length + 1 + b.length := by simp; omega
  unfold cutT
  rw [if_neg (by rw [hlen]; omega), hlen, skip_appS]
  obtain ⟨f2, hf2, h3⟩ := cut_app b _ _ _ _ _ ha2 (by omega) (a.length + 1 + b.length + 1) (by omega)
  rw [h3]
  obtain ⟨vs, h4, -, h5⟩ := cut_shift _ _ _ _ _ hb2 (by omega)
  simp at h4
  subst h4
  rw [h5 _ f2 ts (by omega) hn]
  have e : ((a.length + 1 + b.length : Nat) : Int) - (b.length : Int) = (a.length : Int) + 1 := by omega
  rw [e]
theorem skip_comment (c : List UInt8) : ∀ (h : ∀ x ∈ c, x ≠ 10), skipS true (c ++ [10]) = [] := by
  induction c with
  | nil => intro _; rfl
  | cons x r ih =>
    intro h
    show skipS (x != 10) (r ++ [10]) = []
    have : (x != 10) = true := by simpa using h x (by simp)
    rw [this]
    exact ih fun y hy => h y (by simp [hy])
/-- A text, a line's end, a comment. -/
theorem cut_comment {a c : List UInt8} {ts : List Tok} {n : Int} (ha : cutT a = (ts, n, 0)) (hc : ∀ x ∈ c, x ≠ 10) (hl : a.length + c.length + 3 ≤ 4096) :
    cutT (a ++ 10 :: 37 :: (c ++ [10])) = (ts, ((a.length + c.length + 3 : Nat) : Int), 0) := by
  obtain ⟨-, ha2, -, -⟩ := cutT_ok ha
  have hsa := skip_le a false
  have hlen : (a ++ 10 :: 37 :: (c ++ [10])).length = a.length + 1 + (37 :: (c ++ [10])).length := by simp; omega
  have hlb : (37 :: (c ++ [10])).length = c.length + 2 := by simp
  have hk : skipS false (37 :: (c ++ [10])) = [] := skip_comment c hc
  unfold cutT
  rw [if_neg (by rw [hlen, hlb]; omega), hlen, skip_appS]
  obtain ⟨f2, hf2, h3⟩ := cut_app (37 :: (c ++ [10])) _ _ _ _ _ ha2 (by omega) (a.length + 1 + (37 :: (c ++ [10])).length + 1) (by omega)
  rw [h3, hk, cutF_nil, hlb]
  congr 2
  omega
theorem quoL_read : ∀ (n : Nat) (l x : List UInt8), l.length ≤ n → quoL l = some x → ∀ out, quotS out (x ++ [39]) = some (out ++ l, []) := by
  intro n
  induction n with
  | zero =>
    intro l x hl h out
    have := List.length_eq_zero_iff.mp (Nat.le_zero.mp hl)
    subst this
    cases h
    show quotS out [39] = _
    rw [quotS]; simp
  | succ n ih =>
    intro l x hl h out
    cases l with
    | nil => cases h; show quotS out [39] = _; rw [quotS]; simp
    | cons c r =>
      simp at hl
      rw [quoL] at h
      have esc : ∀ (d y : UInt8), (quoL r).map (fun x => 92 :: d :: x) = some x → (if d == 110 then (10 : UInt8) else if d == 116 then 9 else d) = c → (d = 110 ∨ d = 116 ∨ d = 92 ∨ d = 39) → quotS out (x ++ [39]) = some (out ++ c :: r, []) := by
        intro d y h1 h2 h3
        cases hq : quoL r with
        | none => rw [hq] at h1; cases h1
        | some z =>
          rw [hq] at h1
          cases h1
          have h4 := ih r z hl hq (out ++ [c])
          rw [List.append_assoc] at h4
          rw [show out ++ c :: r = out ++ ([c] ++ r) from rfl, ← h4]
          show quotS out (92 :: d :: (z ++ [39])) = _
          rw [quotS]
          rcases h3 with rfl | rfl | rfl | rfl <;> (rw [← h2]; rfl)
      split at h
      · rename_i hc; exact esc 110 0 h (by rw [eq_of_beq hc]; rfl) (by simp)
      · split at h
        · rename_i hc; exact esc 116 0 h (by rw [eq_of_beq hc]; rfl) (by simp)
        · split at h
          · rename_i hc; exact esc 92 0 h (by rw [eq_of_beq hc]; rfl) (by simp)
          · split at h
            · rename_i hc; exact esc 39 0 h (by rw [eq_of_beq hc]; rfl) (by simp)
            · split at h
              · cases h
              · rename_i h1 h2 h3 h4 h5
                cases hq : quoL r with
                | none => rw [hq] at h; cases h
                | some z =>
                  rw [hq] at h
                  cases h
                  have h6 := ih r z hl hq (out ++ [c])
                  rw [List.append_assoc] at h6
                  rw [show out ++ c :: r = out ++ ([c] ++ r) from rfl, ← h6]
                  show quotS out (c :: (z ++ [39])) = _
                  obtain ⟨d, y, hd⟩ : ∃ d y, z ++ [39] = d :: y := by cases z <;> simp
                  rw [hd, quotS, if_neg h4, if_neg h5, if_neg h3]
theorem quoL_len : ∀ (l x : List UInt8), quoL l = some x → x.length ≤ 2 * l.length := by
  intro l
  induction l with
  | nil => intro x h; cases h; simp
  | cons c r ih =>
    intro x h
    have key : ∀ p : List UInt8, p.length ≤ 2 → (quoL r).map (fun x => p ++ x) = some x → x.length ≤ 2 * (c :: r).length := by
      intro p hp h
      cases hq : quoL r with
      | none => rw [hq] at h; cases h
      | some z => rw [hq] at h; cases h; have := ih z hq; simp; omega
    rw [quoL] at h
    split at h
    · exact key [92, 110] (by simp) h
    · split at h
      · exact key [92, 116] (by simp) h
      · split at h
        · exact key [92, 92] (by simp) h
        · split at h
          · exact key [92, 39] (by simp) h
          · split at h
            · cases h
            · exact key [c] (by simp) h
/-- What Quote writes is cut as that name. -/
theorem cut_quote {l : List UInt8} (hl : l.length ≤ 100) (hp : plainT l = false) (hq : quoteT l ≠ []) : ∃ n, cutT (quoteT l) = ([⟨2, l, 0, false, 0⟩], n, 0) := by
  unfold quoteT at hq ⊢
  rw [hp] at hq ⊢
  simp only [Bool.false_eq_true, if_false] at hq ⊢
  split at hq
  · exact absurd rfl hq
  · rename_i h64
    rw [if_neg h64]
    cases hx : quoL l with
    | none => rw [hx] at hq; exact absurd rfl hq
    | some x =>
      have hlen := quoL_len l x hx
      refine ⟨((39 :: (x ++ [39])).length : Nat), ?_⟩
      show cutT (39 :: (x ++ [39])) = _
      unfold cutT
      rw [if_neg (by simp; omega)]
      show cutF _ (_ + 1) [] (39 :: (x ++ [39])) = _
      have ho : oneT (39 :: (x ++ [39])) = (⟨2, l, 0, false, 0⟩, [], 0) := by
        rw [one_quot (by decide) (by decide) (by decide) (by decide), quoL_read _ l x (Nat.le_refl _) hx []]
        rfl
      rw [cut_good ho (by unfold overT; simp; omega)]
      show cutF _ _ _ [] = _
      rw [cutF_nil]
      simp
theorem plain_cut {l : List UInt8} (hp : plainT l = true) : ∃ t n, cutT l = ([t], n, 0) ∧ t.kind = 1 ∧ t.text = l := by
  unfold plainT at hp
  split at hp
  · rename_i t n e h
    simp only [Bool.and_eq_true, beq_iff_eq] at hp
    exact ⟨t, n, by rw [h, hp.1.1], hp.1.2, hp.2⟩
  · cases hp
theorem plain_ne {l : List UInt8} (hp : plainT l = true) : l ≠ [] := by
  rintro rfl
  exact absurd hp (by decide)
theorem cutF_pos {N : Nat} : ∀ (f : Nat) (l : List UInt8) (out ts : List Tok) (n : Int), cutF N f out l = (ts, n, 0) → l.length ≤ N → (∀ t ∈ out, 0 ≤ t.pos ∧ t.pos ≤ N) → ∀ t ∈ ts, 0 ≤ t.pos ∧ t.pos ≤ N := by
  intro f
  induction f with
  | zero => intro l out ts n h _ hl; cases h; exact hl
  | succ f ih =>
    intro l out ts n h hN hl
    cases l with
    | nil => rw [cutF_nil] at h; cases h; exact hl
    | cons c r =>
      obtain ⟨t, k, ho, hov, h2⟩ := cut_ok h
      have hk := skip_one ho
      simp at hN
      refine ih _ _ ts n h2 (by omega) ?_
      intro x hx
      rcases List.mem_append.mp hx with hx | hx
      · exact hl x hx
      · simp at hx; subst hx; simp; omega
theorem cut_pos {l : List UInt8} {ts : List Tok} {n : Int} (h : cutT l = (ts, n, 0)) : ∀ t ∈ ts, 0 ≤ t.pos ∧ t.pos ≤ l.length := by
  obtain ⟨-, h2, -, -⟩ := cutT_ok h
  exact cutF_pos _ _ _ _ _ h2 (skip_le l false) (by simp)
end Go.Proofs.YtofefbonokikfaaDoor
