/- The contracts of package lex: Plain. -/
import Derived.Test.YtofefbonokikfaaDoorLexCut
namespace Go.Proofs.YtofefbonokikfaaDoor
open Go Go.ChangeShapes Go.WideShapes Go.ChangeAt Go.RowKit
set_option linter.unusedVariables false
theorem tokRow_length (l : List Tok) : (tokRow l).length = l.length * 5 := by
  induction l with
  | nil => rfl
  | cons t l ih =>
    show ((tokCells t).toList ++ tokRow l).length = _
    rw [List.length_append, ih]
    show 5 + _ = (l.length + 1) * 5
    omega
theorem tokRow_at (l : List Tok) : ∀ i (h : i < l.length) (c : Nat), c < 5 → (tokRow l)[i * 5 + c]? = (tokCells l[i])[c]? := by
  induction l with
  | nil => intro i h; simp at h
  | cons t l ih =>
    intro i h c hc
    have ht : (tokCells t).toList.length = 5 := rfl
    show ((tokCells t).toList ++ tokRow l)[i * 5 + c]? = _
    cases i with
    | zero =>
      rw [List.getElem?_append_left (by rw [ht]; omega)]
      simp
    | succ i =>
      rw [List.getElem?_append_right (by rw [ht]; omega), ht, show (i + 1) * 5 + c - 5 = i * 5 + c from by omega]
      simp at h
      exact ih i h c hc
/-- The cells of a row of tokens. -/
def TokAt (w : World) (g : Nat) (l : List Tok) : Prop := ∀ i (h : i < l.length) c u, (tokCells l[i])[c]? = some u → w.cell? ⟨g, i * 5 + c, none⟩ = some u
theorem tok_at {w : World} {base : Nat} {v : Value} {l : List Tok} (h : w.ownsRow base 28 5 v l.length (tokRow l)) (hl : 0 < l.length) :
    ∃ g cap, v = .slice (some ⟨g, 0, none⟩) l.length cap ∧ base ≤ g ∧ g < w.heap.size ∧ TokAt w g l := by
  have hc := h
  rcases h.2 with ⟨rfl, h0⟩ | ⟨g, cap, cur, rfl, h2, _⟩
  · omega
  · refine ⟨g, cap, rfl, h2, (h.lt g rfl).2, fun i hi c u hu => ?_⟩
    have hc5 : c < 5 := by
      rcases Nat.lt_or_ge c 5 with h' | h'
      · exact h'
      · have : (tokCells l[i]).size = 5 := rfl
        rw [Array.getElem?_eq_none (by omega)] at hu; cases hu
    have := hc.cells (g := g) rfl (i * 5 + c) u (by rw [tokRow_at l i hi c hc5]; exact hu)
    have hadd : (⟨g, 0, none⟩ : Addr).add (i * 5 + c) = ⟨g, i * 5 + c, none⟩ := by unfold Addr.add; split <;> simp_all
    rwa [hadd] at this
theorem TokAt.keep {w w' : World} {g : Nat} {l : List Tok} (h : TokAt w g l) (hb : Below w.heap.size w w') (hg : g < w.heap.size) : TokAt w' g l := fun i hi c u hu => by
  have := h i hi c u hu
  rwa [World.cell?_of_block (hb.block g hg)]
theorem plain_nil {l : List UInt8} {o : List Tok × Int × Int} (ho : Hid (o = cutT l)) (h : o.1.length ≠ 1) : plainT l = false := by
  unfold plainT
  rw [← ho.out]
  match o, h with
  | ([], _), _ => rfl
  | (_ :: _ :: _, _), _ => rfl
theorem plain_err {l : List UInt8} {o : List Tok × Int × Int} (ho : Hid (o = cutT l)) (h : (o.2.2 == 0) = false) : plainT l = false := by
  unfold plainT
  rw [← ho.out]
  split
  · rename_i e _; rw [h]; rfl
  · rfl
set_option maxRecDepth 100000 in
set_option maxHeartbeats 10000000 in
theorem plain_any (s : ByteArray) (w : World) (hr : Rng w) : Calls Tryd.prog 11 #[.string s] w fun e w' => e = .returned (.bool (plainT s.data.toList)) ∧ Below w.heap.size w w' := by
  have R := Lib.hid hr; clear hr
  obtain ⟨o, ho⟩ : ∃ o, o = cutT s.data.toList := ⟨_, rfl⟩
  have HO := Lib.hid ho
  obtain ⟨l, n, er⟩ := o
  obtain ⟨p, hp0⟩ : ∃ p, p = plainT s.data.toList := ⟨_, rfl⟩
  rw [← hp0]
  have HP := Lib.hid hp0; clear hp0
  go_enter Tryd.func11, Tryd.ntmps11
  go_wp2_with fail
  refine (cut_any s w R.out).mono ?_; rw [← ho]; clear ho; rintro e w1 ⟨v, rfl, hown, hb⟩
  obtain ⟨oa, oc, hv⟩ := own_shape hown
  cases e0 : er == 0
  · have hp := plain_err HO e0
    subst hv
    go_wp2
    go_ret
    exact ⟨by rw [HP.out, hp]; rfl, hb⟩
  · by_cases hl : l.length = 1
    · obtain ⟨g, cap, rfl, hg1, hg2, hT⟩ := tok_at hown (by show 0 < l.length; omega)
      obtain ⟨t, rfl⟩ := List.length_eq_one_iff.mp hl
      have hp : plainT s.data.toList = (er == 0 && t.kind == 1 && t.text == s.data.toList) := by unfold plainT; rw [← HO.out]
      have t0 : w1.cell? ⟨g, 0, none⟩ = some (.int .i64 t.kind) := hT 0 (by simp) 0 _ rfl
      have t1 : w1.cell? ⟨g, 1, none⟩ = some (.string ⟨t.text.toArray⟩) := hT 0 (by simp) 1 _ rfl
      clear hT hown hl hv
      cases k1 : t.kind == 1
      · go_wp2
        go_ret
        exact ⟨by rw [HP.out, hp, e0, k1]; rfl, hb⟩
      · go_wp2
        go_ret
        exact ⟨by rw [HP.out, hp, e0, k1, ← Go.ByteArray.toList_eq]; rfl, hb⟩
    · have hp := plain_nil HO hl
      have hl' : ((l.length : Int) == 1) = false := by simp; omega
      subst hv
      clear hown
      go_wp2
      go_ret
      exact ⟨by rw [HP.out, hp]; rfl, hb⟩
end Go.Proofs.YtofefbonokikfaaDoor
