/- Goals made a term of: what body.Back answers, and that Of takes it apart into the same. -/
import Derived.Test.YtcnnobcncklgfaaGreatDoorSymB10
import Derived.Test.YtcnnobcncklgfaaGreatDoorSymB2
import Derived.Test.YtcnnobcncklgfaaGreatDoorYBBack
namespace Go.Proofs.YtcnnobcncklgfaaGreatDoor
open Go Go.Abs Go.RowKit
set_option linter.unusedVariables false
set_option linter.unusedSimpArgs false
attribute [local congr] on_congr br_congr onf_congr
def cmT (a b : Tm) : Tm := .mk 2 0 [44] [a, b]
mutual
def bkG : Gl → Tm
  | .mk k t rows => if k = 1 then t else if k = 2 then .mk 2 0 [33] [] else if k = 3 then .mk 2 0 [59] (bkRs rows)
    else if k = 4 then .mk 2 0 [59] [.mk 2 0 [45, 62] [(bkRs rows).getD 0 zT, (bkRs rows).getD 1 zT], (bkRs rows).getD 2 zT] else .mk 2 0 [92, 43] (bkRs rows)
def bkL : List Gl → Tm
  | [] => trueT
  | g :: gs => if gs.isEmpty = true then bkG g else cmT (bkG g) (bkL gs)
def bkRs : List (List Gl) → List Tm
  | [] => []
  | r :: rs => bkL r :: bkRs rs
end
theorem bkRs_map (rs : List (List Gl)) : bkRs rs = rs.map bkL := by
  induction rs with
  | nil => simp [bkRs]
  | cons r rs ih => simp [bkRs, ih]
/-- No control. -/
def ncT (t : Tm) : Prop := t.kind ≠ 0 ∧ t.kind ≠ 1 ∧ isP t [116, 114, 117, 101] 0 = false ∧ isP t [33] 0 = false ∧ isP t [44] 2 = false ∧ isP t [59] 2 = false ∧ isP t [45, 62] 2 = false ∧ isP t [92, 43] 1 = false
mutual
def okG : Gl → Prop
  | .mk k t rows => (k = 1 ∧ rows = [] ∧ ncT t) ∨ (t = zT ∧ okRs rows ∧ ((k = 2 ∧ rows = []) ∨ (k = 3 ∧ rows.length = 2) ∨ (k = 4 ∧ rows.length = 3) ∨ (k = 5 ∧ rows.length = 1)))
def okL : List Gl → Prop
  | [] => True
  | g :: gs => okG g ∧ okL gs
def okRs : List (List Gl) → Prop
  | [] => True
  | r :: rs => okL r ∧ okRs rs
end
theorem okL_iff {l : List Gl} : okL l ↔ ∀ g ∈ l, okG g := by
  induction l with
  | nil => simp [okL]
  | cons g l ih => simp [okL, ih]
theorem okRs_iff {l : List (List Gl)} : okRs l ↔ ∀ r ∈ l, okL r := by
  induction l with
  | nil => simp [okRs]
  | cons g l ih => simp [okRs, ih]
theorem rowsW_ok {f : Tm → List Gl × Int} : ∀ l : List Tm, (rowsW f l).2 = 0 → (rowsW f l).1 = l.map (fun t => (f t).1) ∧ ∀ t ∈ l, (f t).2 = 0
  | [], _ => by simp [rowsW]
  | t :: ts, h => by
    simp only [rowsW] at h ⊢
    by_cases h1 : (f t).2 = 0
    · simp only [h1, if_true] at h ⊢
      by_cases h2 : (rowsW f ts).2 = 0
      · obtain ⟨a, b⟩ := rowsW_ok ts h2
        simp only [h2, if_true]
        refine ⟨by rw [a]; rfl, fun x hx => ?_⟩
        rcases List.mem_cons.1 hx with rfl | hx
        · exact h1
        · exact b x hx
      · simp only [h2, if_false] at h
    · simp only [h1, if_false] at h
theorem okL_append {a b : List Gl} (h : okL a) (k : okL b) : okL (a ++ b) := by
  rw [okL_iff] at *
  intro g hg
  rcases List.mem_append.1 hg with hg | hg
  · exact h g hg
  · exact k g hg
theorem okL_flat {l : List (List Gl)} (h : ∀ r ∈ l, okL r) : okL l.flatten := by
  rw [okL_iff]
  intro g hg
  obtain ⟨r, hr, hgr⟩ := List.mem_flatten.1 hg
  exact okL_iff.1 (h r hr) g hgr
theorem nestW_ok {f : Tm → List Gl × Int} {k : Int} {l : List Tm} (hk : (k = 3 ∧ l.length = 2) ∨ (k = 4 ∧ l.length = 3) ∨ (k = 5 ∧ l.length = 1)) (h : (nestW f k l).2 = 0) (hl : ∀ t ∈ l, (f t).2 = 0 → okL (f t).1) : okL (nestW f k l).1 := by
  unfold nestW at h ⊢
  by_cases hz : (rowsW f l).2 = 0
  · simp only [hz, if_true]
    obtain ⟨a, b⟩ := rowsW_ok l hz
    refine ⟨.inr ⟨rfl, ?_, .inr ?_⟩, trivial⟩
    · rw [a, okRs_iff]
      intro r hr
      obtain ⟨t, ht, rfl⟩ := List.mem_map.1 hr
      exact hl t ht (b t ht)
    · rw [a]; simpa using hk
  · simp only [hz, if_false] at h
theorem fail_ok : ∀ n, okL (rowF n failT).1
  | 0 => by simp [rowF, okL]
  | n + 1 => by
    simp [rowF, failT, Tm.kind, isP, Tm.name, Tm.args, okL, okG, ncT]
theorem rowF_ok : ∀ (n : Nat) (t : Tm), (rowF n t).2 = 0 → okL (rowF n t).1
  | 0, t, h => by simp [rowF, okL]
  | n + 1, t, h => by
    have ha : ∀ x : Tm, (rowF n x).2 = 0 → okL (rowF n x).1 := fun x => rowF_ok n x
    rw [rowF.eq_2] at h ⊢
    by_cases k0 : t.kind = 0
    · simp only [k0, if_true]
      exact ⟨.inl ⟨rfl, rfl, by simp [ncT, Tm.kind, isP, Tm.name, Tm.args]⟩, trivial⟩
    · simp only [k0, if_false] at h ⊢
      by_cases k1 : t.kind = 1
      · simp only [k1, if_true] at h; cases h
      · simp only [k1, if_false] at h ⊢
        by_cases c1 : isP t [116, 114, 117, 101] 0 = true
        · simp only [c1, if_true]; trivial
        · simp only [c1, if_false, Bool.false_eq_true] at h ⊢
          by_cases c2 : isP t [33] 0 = true
          · simp only [c2, if_true]
            exact ⟨.inr ⟨rfl, trivial, .inl ⟨rfl, rfl⟩⟩, trivial⟩
          · simp only [c2, if_false, Bool.false_eq_true] at h ⊢
            by_cases c3 : isP t [44] 2 = true
            · simp only [c3, if_true] at h ⊢
              obtain ⟨a, b⟩ := rowsW_ok t.args h
              rw [a]
              refine okL_flat fun r hr => ?_
              obtain ⟨x, hx, rfl⟩ := List.mem_map.1 hr
              exact ha x (b x hx)
            · simp only [c3, if_false, Bool.false_eq_true] at h ⊢
              by_cases c5 : (isP t [59] 2 && isP (t.args.getD 0 zT) [45, 62] 2) = true
              · simp only [c5, if_true] at h ⊢
                exact nestW_ok (.inr (.inl ⟨rfl, rfl⟩)) h fun x _ => ha x
              · simp only [c5, if_false, Bool.false_eq_true] at h ⊢
                by_cases c4 : isP t [59] 2 = true
                · simp only [c4, if_true] at h ⊢
                  exact nestW_ok (.inl ⟨rfl, by have := isP_len (m := 2) c4; exact this⟩) h fun x _ => ha x
                · simp only [c4, if_false, Bool.false_eq_true] at h ⊢
                  by_cases c6 : isP t [45, 62] 2 = true
                  · simp only [c6, if_true] at h ⊢
                    exact nestW_ok (.inr (.inl ⟨rfl, rfl⟩)) h fun x _ => ha x
                  · simp only [c6, if_false, Bool.false_eq_true] at h ⊢
                    by_cases c7 : isP t [92, 43] 1 = true
                    · simp only [c7, if_true] at h ⊢
                      exact nestW_ok (.inr (.inr ⟨rfl, by have := isP_len (m := 1) c7; exact this⟩)) h fun x _ => ha x
                    · simp only [c7, if_false, Bool.false_eq_true]
                      simp only [Bool.not_eq_true] at c1 c2 c3 c4 c6 c7
                      exact ⟨.inl ⟨rfl, rfl, k0, k1, c1, c2, c3, c4, c6, c7⟩, trivial⟩
theorem bkG_arrow : ∀ g : Gl, okG g → isP (bkG g) [45, 62] 2 = false
  | .mk k t rows, h => by
    simp only [okG] at h
    rcases h with ⟨rfl, rfl, h⟩ | ⟨rfl, h, ⟨rfl, rfl⟩ | ⟨rfl, h2⟩ | ⟨rfl, h2⟩ | ⟨rfl, h2⟩⟩
    · simp only [bkG, if_true]; exact h.2.2.2.2.2.2.1
    · simp [bkG, isP, Tm.name, Tm.args, Tm.kind]
    · simp [bkG, isP, Tm.name, Tm.args, Tm.kind]
    · simp [bkG, isP, Tm.name, Tm.args, Tm.kind]
    · simp [bkG, isP, Tm.name, Tm.args, Tm.kind]
theorem bkL_arrow : ∀ l : List Gl, okL l → isP (bkL l) [45, 62] 2 = false
  | [], _ => by simp [bkL, trueT, isP, Tm.name, Tm.args, Tm.kind]
  | g :: gs, h => by
    simp only [bkL]
    split
    · exact bkG_arrow g h.1
    · simp [cmT, isP, Tm.name, Tm.args, Tm.kind]
theorem lvl {t : Tm} {m : Nat} (h : t.height ≤ m) : ∃ k, m = k + 1 ∧ ∀ x ∈ t.args, x.height ≤ k := by
  have := height_pos t
  refine ⟨m - 1, by omega, fun x hx => ?_⟩
  have h1 := height_mem hx
  rw [height_eq] at h
  omega
mutual
theorem bkG_row : ∀ g : Gl, okG g → ∀ m, (bkG g).height ≤ m → rowF m (bkG g) = ([g], 0)
  | .mk k t rows, h, m, hm => by
    have hC := bkRs_row rows
    simp only [okG] at h
    obtain ⟨n, rfl, hargs⟩ := lvl hm
    rcases h with ⟨rfl, rfl, h⟩ | ⟨rfl, h, ⟨rfl, rfl⟩ | ⟨rfl, h2⟩ | ⟨rfl, h2⟩ | ⟨rfl, h2⟩⟩
    · simp only [bkG, if_true]
      obtain ⟨q0, q1, q2, q3, q4, q5, q6, q7⟩ := h
      rw [rowF.eq_2]
      simp only [q0, q1, q2, q3, q4, q5, q6, q7, if_false, Bool.false_eq_true, Bool.false_and]
    · rw [rowF.eq_2]
      simp [bkG, isP, Tm.name, Tm.args, Tm.kind]
    · obtain ⟨r1, r2, rfl⟩ : ∃ r1 r2, rows = [r1, r2] := by
        match rows, h2 with
        | [a, b], _ => exact ⟨a, b, rfl⟩
      have ha := bkL_arrow r1 (okRs_iff.1 h r1 (by simp))
      have hb : bkG (.mk 3 zT [r1, r2]) = .mk 2 0 [59] [bkL r1, bkL r2] := by simp [bkG, bkRs]
      rw [hb] at hargs ⊢
      have hC := hC h n (fun r hr => hargs (bkL r) (by simp at hr; rcases hr with rfl | rfl <;> simp [Tm.args]))
      simp only [bkRs] at hC
      rw [rowF.eq_2]
      have c5 : isP ((Tm.mk 2 0 [59] [bkL r1, bkL r2]).args.getD 0 zT) [45, 62] 2 = false := ha
      rw [c5]
      simp [isP, Tm.name, Tm.args, Tm.kind, nestW, hC]
    · obtain ⟨r1, r2, r3, rfl⟩ : ∃ r1 r2 r3, rows = [r1, r2, r3] := by
        match rows, h2 with
        | [a, b, c], _ => exact ⟨a, b, c, rfl⟩
      have hb : bkG (.mk 4 zT [r1, r2, r3]) = .mk 2 0 [59] [.mk 2 0 [45, 62] [bkL r1, bkL r2], bkL r3] := by simp [bkG, bkRs]
      rw [hb] at hargs ⊢
      have h12 := hargs (.mk 2 0 [45, 62] [bkL r1, bkL r2]) (by simp [Tm.args])
      have h3 := hargs (bkL r3) (by simp [Tm.args])
      have h11 : ∀ x ∈ [bkL r1, bkL r2], x.height ≤ n := fun x hx => by have := height_mem hx; rw [height_eq] at h12; simp only [Tm.args] at h12; omega
      have hC := hC h n (fun r hr => by
        simp only [List.mem_cons, List.not_mem_nil, or_false] at hr
        rcases hr with rfl | rfl | rfl
        · exact h11 _ (by simp)
        · exact h11 _ (by simp)
        · exact h3)
      simp only [bkRs] at hC
      rw [rowF.eq_2]
      simp [isP, Tm.name, Tm.args, Tm.kind, nestW, hC]
    · obtain ⟨r1, rfl⟩ : ∃ r1, rows = [r1] := by
        match rows, h2 with
        | [a], _ => exact ⟨a, rfl⟩
      have hb : bkG (.mk 5 zT [r1]) = .mk 2 0 [92, 43] [bkL r1] := by simp [bkG, bkRs]
      rw [hb] at hargs ⊢
      have hC := hC h n (fun r hr => hargs (bkL r) (by simp at hr; subst hr; simp [Tm.args]))
      simp only [bkRs] at hC
      rw [rowF.eq_2]
      simp [isP, Tm.name, Tm.args, Tm.kind, nestW, hC]
theorem bkL_row : ∀ l : List Gl, okL l → ∀ m, (bkL l).height ≤ m → rowF m (bkL l) = (l, 0)
  | [], _, m, hm => by
    obtain ⟨n, rfl, -⟩ := lvl hm
    rw [rowF.eq_2]
    simp [bkL, trueT, isP, Tm.name, Tm.args, Tm.kind]
  | g :: gs, h, m, hm => by
    have hA := bkG_row g h.1
    have hB := bkL_row gs h.2
    cases hgs : gs.isEmpty with
    | true =>
      have : gs = [] := by simpa using hgs
      subst this
      simp only [bkL, List.isEmpty_nil, if_true] at hm ⊢
      exact hA m hm
    | false =>
      simp only [bkL, hgs, if_false, Bool.false_eq_true] at hm ⊢
      obtain ⟨n, rfl, hargs⟩ := lvl hm
      have e1 := hA n (hargs _ (by simp [cmT, Tm.args]))
      have e2 := hB n (hargs _ (by simp [cmT, Tm.args]))
      rw [rowF.eq_2]
      simp [cmT, isP, Tm.name, Tm.args, Tm.kind, rowsW, e1, e2]
theorem bkRs_row : ∀ rs : List (List Gl), okRs rs → ∀ m, (∀ r ∈ rs, (bkL r).height ≤ m) → rowsW (rowF m) (bkRs rs) = (rs, 0)
  | [], _, m, _ => by simp [bkRs, rowsW]
  | r :: rs, h, m, hm => by
    have e1 := bkL_row r h.1 m (hm r (List.mem_cons_self ..))
    have e2 := bkRs_row rs h.2 m fun x hx => hm x (List.mem_cons_of_mem _ hx)
    simp [bkRs, rowsW, e1, e2]
end
end Go.Proofs.YtcnnobcncklgfaaGreatDoor
