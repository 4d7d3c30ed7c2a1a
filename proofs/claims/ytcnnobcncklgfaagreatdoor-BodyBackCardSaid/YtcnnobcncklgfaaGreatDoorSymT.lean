/- Terms as values that stand for good. -/
import Derived.Test.YtcnnobcncklgfaaGreatDoorAbsS
import Derived.Test.YtcnnobcncklgfaaGreatDoorGoodA
import Derived.Test.YtcnnobcncklgfaaGreatDoorTermFine
import Derived.Test.YtcnnobcncklgfaaGreatDoorEvalKnownA
namespace Go.Proofs.YtcnnobcncklgfaaGreatDoor
open Go Go.Abs Go.ChangeShapes Go.WideShapes Go.ChangeAt Go.RowKit
set_option linter.unusedVariables false
mutual
def tmC : Tm → List AV
  | .mk k n s l => [.int .i64 k, .int .i64 n, .str s, .vals 4 (tmRs l)]
def tmRs : List Tm → List (List AV)
  | [] => []
  | t :: ts => tmC t :: tmRs ts
end
def tmA (t : Tm) : AV := .agg (tmC t)
theorem tmRs_map : ∀ l : List Tm, tmRs l = l.map tmC
  | [] => by simp [tmRs]
  | t :: ts => by simp [tmRs, tmRs_map ts]
theorem tmC_eq (t : Tm) : tmC t = [.int .i64 t.kind, .int .i64 t.num, .str t.name, .vals 4 (t.args.map tmC)] := by
  cases t; simp [tmC, tmRs_map, Tm.kind, Tm.num, Tm.name, Tm.args]
theorem tmC_len (t : Tm) : (tmC t).length = 4 := by rw [tmC_eq]; rfl
theorem tmC_0 (t : Tm) : (tmC t)[0]? = some (.int .i64 t.kind) := by rw [tmC_eq]; exact (rfl)
theorem tmC_1 (t : Tm) : (tmC t)[1]? = some (.int .i64 t.num) := by rw [tmC_eq]; exact (rfl)
theorem tmC_2 (t : Tm) : (tmC t)[2]? = some (.str t.name) := by rw [tmC_eq]; exact (rfl)
theorem tmC_3 (t : Tm) : (tmC t)[3]? = some (.vals 4 (t.args.map tmC)) := by rw [tmC_eq]; exact (rfl)
theorem tmC_take (t : Tm) {n : Nat} (h : 4 ≤ n) : (tmC t).take n = tmC t := List.take_of_length_le (by rw [tmC_len]; omega)
theorem tmC_drop (t : Tm) {n : Nat} (h : 4 ≤ n) : (tmC t).drop n = [] := List.drop_eq_nil_of_le (by rw [tmC_len]; omega)
theorem tmC_one (t : Tm) : (tmC t).all AV.one = true := by rw [tmC_eq]; exact (rfl)
theorem tmC_ne (t : Tm) : (tmC t = []) = False := by rw [tmC_eq]; simp
mutual
def ofA : AV → Option (List Tm)
  | .vals z rows => if z = 4 then ofRs rows else none
  | _ => none
def ofL : List AV → Option Tm
  | [] => none
  | .int .i64 k :: xs => ofL1 k xs
  | _ :: _ => none
def ofL1 (k : Int) : List AV → Option Tm
  | .int .i64 n :: xs => ofL2 k n xs
  | _ => none
def ofL2 (k n : Int) : List AV → Option Tm
  | .str s :: xs => ofL3 k n s xs
  | _ => none
def ofL3 (k n : Int) (s : List UInt8) : List AV → Option Tm
  | a :: [] => match ofA a with | some l => some (.mk k n s l) | none => none
  | _ => none
def ofRs : List (List AV) → Option (List Tm)
  | [] => some []
  | r :: rs => match ofL r, ofRs rs with
    | some t, some ts => some (t :: ts)
    | _, _ => none
end
mutual
theorem ofL_tm : ∀ t : Tm, ofL (tmC t) = some t
  | .mk k n s l => by simp [tmC, ofL, ofL1, ofL2, ofL3, ofA, ofRs_tm l]
theorem ofRs_tm : ∀ l : List Tm, ofRs (tmRs l) = some l
  | [] => by simp [tmRs, ofRs]
  | t :: ts => by simp [tmRs, ofRs, ofL_tm t, ofRs_tm ts]
end
theorem tmC_inj {t t' : Tm} (h : tmC t = tmC t') : t = t' := by
  have := ofL_tm t
  rw [h, ofL_tm] at this
  exact (Option.some.inj this).symm
theorem tmA_inj {t t' : Tm} (h : tmA t = tmA t') : t = t' := tmC_inj (by unfold tmA at h; exact AV.agg.inj h)
theorem rows_inj {l l' : List Tm} (h : l.map tmC = l'.map tmC) : l = l' := by
  have := ofRs_tm l
  rw [tmRs_map, h, ← tmRs_map, ofRs_tm] at this
  exact (Option.some.inj this).symm
/-- Read back. -/
noncomputable def back {α : Type} (f : α → AV) (x : AV) : Option α := @dite _ (∃ t, x = f t) (Classical.propDecidable _) (fun h => some h.choose) fun _ => none
theorem back_eq {α : Type} {f : α → AV} (hf : ∀ a b, f a = f b → a = b) (t : α) : back f (f t) = some t := by
  have h : ∃ t', f t = f t' := ⟨t, rfl⟩
  unfold back
  rw [dif_pos h]
  exact congrArg some (hf _ _ h.choose_spec).symm
theorem back_ok {α : Type} {f : α → AV} {x : AV} {t : α} (h : back f x = some t) : x = f t := by
  unfold back at h
  split at h
  · rename_i hx; cases h; exact hx.choose_spec
  · cases h
noncomputable abbrev ofT : AV → Option Tm := back tmA
theorem ofT_tm (t : Tm) : ofT (tmA t) = some t := back_eq (fun _ _ => tmA_inj) t
theorem ofT_ok {x : AV} {t : Tm} (h : ofT x = some t) : x = tmA t := back_ok h
mutual
theorem pure_tmC : ∀ t : Tm, pureL (tmC t) = true
  | .mk k n s l => by simp [tmC, pureL, pureA, pure_tmRs l]
theorem pure_tmRs : ∀ l : List Tm, pureR (tmRs l) = true
  | [] => by simp [tmRs, pureR]
  | t :: ts => by simp [tmRs, pureR, pure_tmC t, pure_tmRs ts]
end
theorem pure_tmA (t : Tm) : pureA (tmA t) = true := by simp [tmA, pureA, pure_tmC]
theorem pure_rows (l : List Tm) : pureR (l.map tmC) = true := by rw [← tmRs_map]; exact pure_tmRs l
theorem addr_add (b o n : Nat) : (⟨b, o, none⟩ : Addr).add n = ⟨b, o + n, none⟩ := by
  unfold Addr.add
  split
  · rename_i h; subst h; rfl
  · rfl
mutual
theorem tm_holds {N : Nat} {G : Gh} {w : World} (hN : N ≤ maxLen) (hM : ∀ b o v, G.M b o = some v → w.cell? ⟨b, o, none⟩ = some v) : ∀ (t : Tm) (us : List Value), Fine N t → VRs G (tmC t) us → ∃ sl, us = [.int .i64 t.kind, .int .i64 t.num, .string ⟨t.name.toArray⟩, sl] ∧ Holds w (fun _ => True) t (tmV t.kind t.num t.name sl)
  | .mk k n s l, us, hf, hv => by
    simp only [tmC, VRs, VR] at hv
    obtain ⟨_, _, rfl, rfl, _, _, rfl, rfl, _, _, rfl, rfl, sl, _, rfl, ⟨a, cap, rfl, hc, hin⟩, rfl⟩ := hv
    refine ⟨_, rfl, ?_⟩
    have hlen : (tmRs l).length = l.length := by rw [tmRs_map]; simp
    rw [hlen]
    rcases hin with h0 | ⟨b, o, rfl, hin⟩
    · have : l = [] := List.eq_nil_of_length_eq_zero (by rw [← hlen, h0]; rfl)
      subst this
      exact .leaf _ _ _ _ _
    · cases hf with
      | mk _ _ _ _ hk hn hs hl hx =>
        have key := tms_holds hN hM l b o hx hin
        have kk : ∀ i : Nat, ∃ L : Value, ∀ hi : i < l.length, Holds w (fun _ => True) l[i] (tmV l[i].kind l[i].num l[i].name L) ∧ w.cell? ⟨b, o + (i * 4 + 0), none⟩ = some (.int .i64 l[i].kind) ∧ w.cell? ⟨b, o + (i * 4 + 1), none⟩ = some (.int .i64 l[i].num) ∧
            w.cell? ⟨b, o + (i * 4 + 2), none⟩ = some (.string ⟨l[i].name.toArray⟩) ∧ w.cell? ⟨b, o + (i * 4 + 3), none⟩ = some L := by
          intro i
          by_cases hi : i < l.length
          · obtain ⟨L, q⟩ := key i hi
            exact ⟨L, fun _ => q⟩
          · exact ⟨undef, fun h => absurd h hi⟩
        refine .node k n s l ⟨b, o, none⟩ cap (fun i => (kk i).choose) trivial (by omega) (fun i hi => ((kk i).choose_spec hi).1) (fun i hi => ?_) (fun i hi => ?_) (fun i hi => ?_) (fun i hi => ?_)
        all_goals rw [addr_add]
        · exact ((kk i).choose_spec hi).2.1
        · exact ((kk i).choose_spec hi).2.2.1
        · exact ((kk i).choose_spec hi).2.2.2.1
        · exact ((kk i).choose_spec hi).2.2.2.2
theorem tms_holds {N : Nat} {G : Gh} {w : World} (hN : N ≤ maxLen) (hM : ∀ b o v, G.M b o = some v → w.cell? ⟨b, o, none⟩ = some v) : ∀ (l : List Tm) (b o : Nat), (∀ x ∈ l, Fine N x) → VRows G 4 (tmRs l) b o → ∀ (i : Nat) (hi : i < l.length), ∃ L, Holds w (fun _ => True) l[i] (tmV l[i].kind l[i].num l[i].name L) ∧
    w.cell? ⟨b, o + (i * 4 + 0), none⟩ = some (.int .i64 l[i].kind) ∧ w.cell? ⟨b, o + (i * 4 + 1), none⟩ = some (.int .i64 l[i].num) ∧ w.cell? ⟨b, o + (i * 4 + 2), none⟩ = some (.string ⟨l[i].name.toArray⟩) ∧ w.cell? ⟨b, o + (i * 4 + 3), none⟩ = some L
  | [], b, o, hf, hv, i, hi => by simp at hi
  | t :: ts, b, o, hf, hv, i, hi => by
    simp only [tmRs, VRows] at hv
    obtain ⟨hz, hr, hrs⟩ := hv
    cases i with
    | zero =>
      have hcells : ∀ (j : Nat) x, (tmC t)[j]? = some x → ∃ u, G.M b (o + j) = some u ∧ VR G x u := fun j x hj => hr.get j x hj
      have hex : ∃ us : List Value, VRs G (tmC t) us ∧ ∀ (j : Nat) u, us[j]? = some u → w.cell? ⟨b, o + j, none⟩ = some u := by
        have : ∀ j : Nat, ∃ u : Value, j < 4 → ∃ x, (tmC t)[j]? = some x ∧ G.M b (o + j) = some u ∧ VR G x u := by
          intro j
          by_cases hj : j < 4
          · obtain ⟨u, q⟩ := hcells j _ (List.getElem?_eq_getElem (by rw [tmC_len]; exact hj))
            exact ⟨u, fun _ => ⟨_, List.getElem?_eq_getElem (by rw [tmC_len]; exact hj), q⟩⟩
          · exact ⟨undef, fun h => absurd h hj⟩
        refine ⟨(List.range 4).map fun j => (this j).choose, VRs.of_get (by rw [tmC_len]; rfl) fun j x hj => ?_, fun j u hj => ?_⟩
        · have hj4 : j < 4 := by rw [← tmC_len t]; exact (List.getElem?_eq_some_iff.1 hj).1
          obtain ⟨x', h1, h2, h3⟩ := (this j).choose_spec hj4
          rw [hj] at h1; cases h1
          exact ⟨_, by rw [List.getElem?_map, List.getElem?_range hj4]; rfl, h3⟩
        · rw [List.getElem?_map] at hj
          have hj4 : j < 4 := by
            by_cases h : j < 4
            · exact h
            · rw [List.getElem?_eq_none (by simp; omega)] at hj; cases hj
          rw [List.getElem?_range hj4] at hj
          cases hj
          obtain ⟨x', h1, h2, h3⟩ := (this j).choose_spec hj4
          exact hM _ _ _ h2
      obtain ⟨us, hus, hc⟩ := hex
      obtain ⟨sl, rfl, hh⟩ := tm_holds hN hM t us (hf t (List.mem_cons_self ..)) hus
      refine ⟨sl, hh, ?_, ?_, ?_, ?_⟩
      · have := hc 0 _ rfl; simpa using this
      · have := hc 1 _ rfl; simpa using this
      · have := hc 2 _ rfl; simpa using this
      · have := hc 3 _ rfl; simpa using this
    | succ i =>
      obtain ⟨L, q0, q1, q2, q3, q4⟩ := tms_holds hN hM ts b (o + 4) (fun x hx => hf x (List.mem_cons_of_mem _ hx)) hrs i (by simpa using hi)
      refine ⟨L, q0, ?_, ?_, ?_, ?_⟩
      · rw [show o + ((i + 1) * 4 + 0) = o + 4 + (i * 4 + 0) by omega]; exact q1
      · rw [show o + ((i + 1) * 4 + 1) = o + 4 + (i * 4 + 1) by omega]; exact q2
      · rw [show o + ((i + 1) * 4 + 2) = o + 4 + (i * 4 + 2) by omega]; exact q3
      · rw [show o + ((i + 1) * 4 + 3) = o + 4 + (i * 4 + 3) by omega]; exact q4
end
end Go.Proofs.YtcnnobcncklgfaaGreatDoor
