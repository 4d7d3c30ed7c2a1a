/- Slices, read abstractly: an element's place, a part, the length, append. -/
import Derived.Test.YtcnnobcncklgfaaGreatDoorAbsMem2
namespace Go.Abs
open Go Go.RowKit
set_option linter.unusedVariables false
theorem VRows.get {G : Gh} {z : Nat} : ∀ {rs : List (List AV)} {b o : Nat}, VRows G z rs b o → ∀ (i : Nat) r, rs[i]? = some r → r.length = z ∧ VRow G r b (o + i * z)
  | [], b, o, h, i, r, hi => by simp at hi
  | s :: rs, b, o, h, i, r, hi => by
    simp only [VRows] at h
    obtain ⟨h1, h2, h3⟩ := h
    cases i with
    | zero => simp at hi; subst hi; exact ⟨h1, by simpa using h2⟩
    | succ i =>
      simp at hi
      obtain ⟨q1, q2⟩ := h3.get i r hi
      exact ⟨q1, by rw [show o + (i + 1) * z = o + z + i * z by rw [Nat.add_mul]; omega]; exact q2⟩
theorem VRows.of_get {G : Gh} {z : Nat} : ∀ {rs : List (List AV)} {b o : Nat}, (∀ (i : Nat) r, rs[i]? = some r → r.length = z ∧ VRow G r b (o + i * z)) → VRows G z rs b o
  | [], b, o, h => by simp only [VRows]
  | s :: rs, b, o, h => by
    simp only [VRows]
    obtain ⟨h1, h2⟩ := h 0 s rfl
    refine ⟨h1, by simpa using h2, VRows.of_get fun i r hi => ?_⟩
    obtain ⟨q1, q2⟩ := h (i + 1) r (by simpa using hi)
    exact ⟨q1, by rw [show o + z + i * z = o + (i + 1) * z by rw [Nat.add_mul]; omega]; exact q2⟩
/-- An element's address. -/
def aindexAddr (P : Program) (t : TypeId) (x ix : AV) : Option AV :=
  match ix with
  | .int _ i =>
    match P.underlying t, x with
    | some (.slice e), .slc g a s len z => if 0 ≤ i ∧ i < len ∧ z = P.cellsOf e ∧ z ≠ 0 then some (.ptr g a (s + i.toNat * z)) else none
    | some (.slice e), .vals z rows => if 0 ≤ i ∧ z = P.cellsOf e ∧ z ≠ 0 then (rows[i.toNat]?).map fun r => .vptr r 0 else none
    | some (.array n e), .ptr g a s => if 0 ≤ i ∧ i < n ∧ P.cellsOf e ≠ 0 then some (.ptr g a (s + i.toNat * P.cellsOf e)) else none
    | some (.array n e), .vptr row s => if 0 ≤ i ∧ i < n ∧ P.cellsOf e ≠ 0 then some (.vptr row (s + i.toNat * P.cellsOf e)) else none
    | _, _ => none
  | _ => none
theorem aindexAddr_ok {P : Program} {G : Gh} {t : TypeId} {x ix y : AV} {v u : Value} (hx : VR G x v) (hi : VR G ix u) (h : aindexAddr P t x ix = some y) (w : World) : ∃ r, (Instr.indexAt t v u).run P w = .ok r w ∧ VR G y r := by
  unfold aindexAddr at h
  split at h
  · rename_i k i
    simp only [VR] at hi
    subst hi
    split at h
    · rename_i e g a s len z hu
      split at h
      · rename_i hh
        cases h
        obtain ⟨h0, h1, rfl, hz⟩ := hh
        obtain ⟨inf, hinf, hsz⟩ := info_of_cells hz
        simp only [VR] at hx
        obtain ⟨b, o, n, c, hm, rfl, -⟩ := hx
        refine ⟨.pointer (some ⟨b, o + (s + i.toNat * P.cellsOf e), none⟩), ?_, by simp only [VR]; exact ⟨b, o, n, hm, rfl⟩⟩
        simp [Instr.indexAt, asIntOf, run_underlying hu, h0, h1, run_size hinf, hsz, Addr.add_lit, Nat.add_assoc]
      · cases h
    · rename_i e z rows hu
      split at h
      · rename_i hh
        obtain ⟨h0, rfl, hz⟩ := hh
        rw [Option.map_eq_some_iff] at h
        obtain ⟨r, hr, rfl⟩ := h
        obtain ⟨inf, hinf, hsz⟩ := info_of_cells hz
        simp only [VR] at hx
        obtain ⟨a, c, rfl, -, hx⟩ := hx
        have hlt : i.toNat < rows.length := (List.getElem?_eq_some_iff.1 hr).1
        rcases hx with rfl | ⟨b, o, rfl, hx⟩
        · simp at hr
        · obtain ⟨q1, q2⟩ := hx.get _ r hr
          refine ⟨.pointer (some ⟨b, o + i.toNat * P.cellsOf e, none⟩), ?_, by simp only [VR]; exact ⟨b, o + i.toNat * P.cellsOf e, rfl, q2⟩⟩
          have h1 : i < (rows.length : Int) := by omega
          simp [Instr.indexAt, asIntOf, run_underlying hu, h0, h1, run_size hinf, hsz, Addr.add_lit]
      · cases h
    · rename_i n e g a s hu
      split at h
      · rename_i hh
        cases h
        obtain ⟨h0, h1, hz⟩ := hh
        obtain ⟨inf, hinf, hsz⟩ := info_of_cells hz
        simp only [VR] at hx
        obtain ⟨b, o, m, hm, rfl⟩ := hx
        refine ⟨.pointer (some ⟨b, o + (s + i.toNat * P.cellsOf e), none⟩), ?_, by simp only [VR]; exact ⟨b, o, m, hm, rfl⟩⟩
        simp [Instr.indexAt, asIntOf, run_underlying hu, Instr.sureAddr, h0, h1, run_size hinf, hsz, Addr.add_lit, Nat.add_assoc]
      · cases h
    · rename_i n e row s hu
      split at h
      · rename_i hh
        cases h
        obtain ⟨h0, h1, hz⟩ := hh
        obtain ⟨inf, hinf, hsz⟩ := info_of_cells hz
        simp only [VR] at hx
        obtain ⟨b, o, rfl, hr⟩ := hx
        refine ⟨.pointer (some ⟨b, o + (s + i.toNat * P.cellsOf e), none⟩), ?_, by simp only [VR]; exact ⟨b, o, rfl, hr⟩⟩
        simp [Instr.indexAt, asIntOf, run_underlying hu, Instr.sureAddr, h0, h1, run_size hinf, hsz, Addr.add_lit, Nat.add_assoc]
      · cases h
    · cases h
  · cases h
/-- A byte of a string. -/
def aindex (P : Program) (t : TypeId) (x ix : AV) : Option AV :=
  match P.underlying t, x, ix with
  | some .string, .str s, .int _ i => if 0 ≤ i then (s[i.toNat]?).map fun c => .int .u8 c.toNat else none
  | _, _, _ => none
theorem aindex_ok {P : Program} {G : Gh} {t : TypeId} {x ix y : AV} {v u : Value} (hx : VR G x v) (hi : VR G ix u) (h : aindex P t x ix = some y) (w : World) : ∃ r, (Instr.index t v u).run P w = .ok r w ∧ VR G y r := by
  unfold aindex at h
  split at h
  · rename_i s k i hu
    simp only [VR] at hx hi
    subst hx; subst hi
    split at h
    · rename_i h0
      rw [Option.map_eq_some_iff] at h
      obtain ⟨c, hc, rfl⟩ := h
      have hlt : i.toNat < s.length := (List.getElem?_eq_some_iff.1 hc).1
      have hc' : s[i.toNat] = c := (List.getElem?_eq_some_iff.1 hc).2
      refine ⟨.int .u8 c.toNat, ?_, by simp [VR]⟩
      have hb : (⟨s.toArray⟩ : ByteArray)[i.toNat]? = some c := by
        rw [getElem?_pos (⟨s.toArray⟩ : ByteArray) i.toNat (by simpa [ByteArray.size] using hlt)]
        exact congrArg some hc'
      simp [Instr.index, asIntOf, run_underlying hu, h0, hb]
    · cases h
  · cases h
def natOf : Option AV → Nat → Option Nat
  | none, d => some d
  | some (.int _ n), _ => if 0 ≤ n then some n.toNat else none
  | some _, _ => none
/-- A part of a string or of a slice. -/
def aslice (P : Program) (t : TypeId) (x : AV) (lo hi mx : Option AV) : Option AV :=
  match P.underlying t, x, mx with
  | some .string, .str s, none =>
    match natOf hi s.length, natOf lo 0 with
    | some h, some l => if l ≤ h ∧ h ≤ s.length then some (.str ((s.drop l).take (h - l))) else none
    | _, _ => none
  | some (.slice e), .slc g a i len z, none =>
    match natOf hi len, natOf lo 0 with
    | some h, some l => if l ≤ h ∧ h ≤ len ∧ z = P.cellsOf e ∧ z ≠ 0 then (if l = 0 ∨ l < h then some (.slc g a (i + l * z) (h - l) z) else some (.vals z [])) else none
    | _, _ => none
  | some (.slice e), .vals z rows, none =>
    match natOf hi rows.length, natOf lo 0 with
    | some h, some l => if l ≤ h ∧ h ≤ rows.length ∧ z = P.cellsOf e ∧ z ≠ 0 then some (.vals z ((rows.drop l).take (h - l))) else none
    | _, _ => none
  | some (.slice e), .nils, none =>
    match natOf hi 0, natOf lo 0 with
    | some 0, some 0 => if P.cellsOf e ≠ 0 then some .nils else none
    | _, _ => none
  | some (.slice e), .slc g a i len z, some m =>
    match natOf (some m) 0, natOf hi 1, natOf lo 0 with
    | some 0, some 0, some 0 => if P.cellsOf e ≠ 0 then some .zslc else none
    | _, _, _ => none
  | some (.slice e), .vals z rows, some m =>
    match natOf (some m) 0, natOf hi 1, natOf lo 0 with
    | some 0, some 0, some 0 => if P.cellsOf e ≠ 0 then some .zslc else none
    | _, _, _ => none
  | some (.slice e), .nils, some m =>
    match natOf (some m) 0, natOf hi 1, natOf lo 0 with
    | some 0, some 0, some 0 => if P.cellsOf e ≠ 0 then some .zslc else none
    | _, _, _ => none
  | _, _, _ => none
/-- What an operand of a slice expression is. -/
def VRo (G : Gh) : Option AV → Option Value → Prop
  | none, v => v = none
  | some x, v => ∃ u, v = some u ∧ VR G x u
theorem run_bound {P : Program} {G : Gh} {x : AV} {u : Value} {n y d : Nat} (hx : VR G x u) (h : natOf (some x) d = some n) (hn : n ≤ y) (c : BoundsCode) (w : World) : (Instr.sliceBound u y c).run P w = .ok n w := by
  cases x <;> simp only [natOf] at h <;> try (cases h; done)
  rename_i k m
  split at h
  · rename_i h0
    cases h
    simp only [VR] at hx
    subst hx
    have h1 : m ≤ (y : Int) := by omega
    simp [Instr.sliceBound, asIntOf, h0, h1]
  · cases h
theorem run_bounds {P : Program} {G : Gh} {lo hi : Option AV} {vl vh : Option Value} (hl : VRo G lo vl) (hh : VRo G hi vh) {len cap l h : Nat} (isS : Bool) (e1 : natOf hi len = some h) (e2 : natOf lo 0 = some l) (h1 : l ≤ h) (h2 : h ≤ cap) (w : World) :
    (Instr.sliceBounds isS len cap vl vh none).run P w = .ok (l, h, cap) w := by
  cases hi with
  | none =>
    simp only [VRo] at hh; subst hh
    simp only [natOf] at e1; cases e1
    cases lo with
    | none =>
      simp only [VRo] at hl; subst hl
      simp only [natOf] at e2; cases e2
      simp [Instr.sliceBounds]
    | some x =>
      simp only [VRo] at hl
      obtain ⟨u, rfl, hu⟩ := hl
      simp [Instr.sliceBounds, run_bound hu e2 h1]
  | some y =>
    simp only [VRo] at hh
    obtain ⟨v, rfl, hv⟩ := hh
    cases lo with
    | none =>
      simp only [VRo] at hl; subst hl
      simp only [natOf] at e2; cases e2
      simp [Instr.sliceBounds, run_bound hv e1 h2]
    | some x =>
      simp only [VRo] at hl
      obtain ⟨u, rfl, hu⟩ := hl
      simp [Instr.sliceBounds, run_bound hv e1 h2, run_bound hu e2 h1]
theorem run_bounds0 {P : Program} {G : Gh} {lo hi mx : Option AV} {vl vh vm : Option Value} (hl : VRo G lo vl) (hh : VRo G hi vh) {m : AV} {vm : Value} (hm : VR G m vm) {len cap : Nat} (isS : Bool) (e0 : natOf (some m) 0 = some 0) (e1 : natOf hi 1 = some 0) (e2 : natOf lo 0 = some 0) (w : World) :
    (Instr.sliceBounds isS len cap vl vh (some vm)).run P w = .ok (0, 0, 0) w := by
  cases hi with
  | none => simp [natOf] at e1
  | some y =>
    simp only [VRo] at hh
    obtain ⟨v, rfl, hv⟩ := hh
    cases lo with
    | none =>
      simp only [VRo] at hl; subst hl
      simp [Instr.sliceBounds, run_bound hm e0 (Nat.zero_le _), run_bound hv e1 (Nat.le_refl _)]
    | some x =>
      simp only [VRo] at hl
      obtain ⟨u, rfl, hu⟩ := hl
      simp [Instr.sliceBounds, run_bound hm e0 (Nat.zero_le _), run_bound hv e1 (Nat.le_refl _), run_bound hu e2 (Nat.le_refl _)]
theorem sliceAt_plain {P : Program} {t : TypeId} {d : TypeDesc} (h : P.underlying t = some d) (hd : (∃ e, d = .slice e) ∨ d = .string) (v : Value) (lo hi mx : Option Value) (w : World) : (Instr.sliceAt t v lo hi mx).run P w = (Instr.slice t v lo hi mx).run P w := by
  rcases hd with ⟨e, rfl⟩ | rfl <;> simp [Instr.sliceAt, run_underlying h]
theorem VR.vals_nil (G : Gh) (z : Nat) (a : Option Addr) (c : Nat) : VR G (.vals z []) (.slice a 0 c) := by
  simp only [VR]
  exact ⟨a, c, rfl, Nat.zero_le _, .inl (by trivial)⟩
set_option maxHeartbeats 1000000 in
theorem aslice_ok {P : Program} {G : Gh} {t : TypeId} {x y : AV} {lo hi mx : Option AV} {v : Value} {vl vh vm : Option Value} (hx : VR G x v) (hl : VRo G lo vl) (hh : VRo G hi vh) (hm : VRo G mx vm) (h : aslice P t x lo hi mx = some y) (w : World) :
    ∃ r, (Instr.sliceAt t v vl vh vm).run P w = .ok r w ∧ VR G y r := by
  unfold aslice at h
  split at h
  · rename_i s hu
    simp only [VRo] at hm; subst hm
    simp only [VR] at hx; subst hx
    split at h
    · rename_i b a e1 e2
      split at h
      · rename_i hc
        cases h
        have hsz : (⟨s.toArray⟩ : ByteArray).size = s.length := by simp [ByteArray.size]
        refine ⟨.string ⟨((s.drop a).take (b - a)).toArray⟩, ?_, by simp [VR]⟩
        rw [sliceAt_plain hu (.inr rfl)]
        simp [Instr.slice, run_underlying hu, hsz, run_bounds hl hh false e1 e2 hc.1 hc.2]
        apply WideShapes.bytes_inj
        simp [ByteArray.data_extract, List.extract_eq_take_drop]
      · cases h
    · cases h
  · rename_i e g a i len z hu
    simp only [VRo] at hm; subst hm
    simp only [VR] at hx
    obtain ⟨b, o, n, c, hmu, rfl, hlc, hfit⟩ := hx
    split at h
    · rename_i hi' lo' e1 e2
      split at h
      · rename_i hc
        obtain ⟨hc1, hc2, rfl, hz⟩ := hc
        obtain ⟨inf, hinf, hsz⟩ := info_of_cells hz
        have hb := run_bounds (P := P) hl hh true (len := len) (cap := c) e1 e2 hc1 (Nat.le_trans hc2 hlc) w
        have hrun : (Instr.sliceAt t (.slice (some ⟨b, o + i, none⟩) len c) vl vh none).run P w = .ok (.slice (if c = lo' then some ⟨b, o + i, none⟩ else some ⟨b, o + i + lo' * P.cellsOf e, none⟩) (hi' - lo') (c - lo')) w := by
          rw [sliceAt_plain hu (.inl ⟨_, rfl⟩)]
          simp [Instr.slice, run_underlying hu, hb, run_size hinf, hsz, Addr.add_lit]
        refine ⟨_, hrun, ?_⟩
        split at h
        · rename_i hlow
          cases h
          simp only [VR]
          refine ⟨b, o, n, c - lo', hmu, ?_, by omega, ?_⟩
          · by_cases hcl : c = lo'
            · have : lo' = 0 := by omega
              subst this
              simp
            · rw [if_neg hcl, Nat.add_assoc]
          · have : lo' ≤ c := by omega
            have h3 : (c - lo') * P.cellsOf e + lo' * P.cellsOf e = c * P.cellsOf e := by rw [← Nat.add_mul, Nat.sub_add_cancel this]
            omega
        · rename_i hlow
          cases h
          have : hi' - lo' = 0 := by omega
          rw [this]
          exact VR.vals_nil _ _ _ _
      · cases h
    · cases h
  · rename_i e z rows hu
    simp only [VRo] at hm; subst hm
    simp only [VR] at hx
    obtain ⟨a, c, rfl, hlc, hx⟩ := hx
    split at h
    · rename_i hi' lo' e1 e2
      split at h
      · rename_i hc
        cases h
        obtain ⟨hc1, hc2, rfl, hz⟩ := hc
        obtain ⟨inf, hinf, hsz⟩ := info_of_cells hz
        have hb := run_bounds (P := P) hl hh true (len := rows.length) (cap := c) e1 e2 hc1 (Nat.le_trans hc2 hlc) w
        have hrun : (Instr.sliceAt t (.slice a rows.length c) vl vh none).run P w = .ok (.slice (if c = lo' then a else a.map (·.add (lo' * P.cellsOf e))) (hi' - lo') (c - lo')) w := by
          rw [sliceAt_plain hu (.inl ⟨_, rfl⟩)]
          simp [Instr.slice, run_underlying hu, hb, run_size hinf, hsz]
        refine ⟨_, hrun, ?_⟩
        have hlen : ((rows.drop lo').take (hi' - lo')).length = hi' - lo' := by rw [List.length_take, List.length_drop]; omega
        simp only [VR]
        refine ⟨_, c - lo', by rw [hlen], by rw [hlen]; omega, ?_⟩
        by_cases hemp : hi' = lo'
        · left; rw [hemp]; simp
        · right
          rcases hx with rfl | ⟨b, o, rfl, hx⟩
          · simp at hc2; omega
          · refine ⟨b, o + lo' * P.cellsOf e, by rw [if_neg (by omega)]; simp [Addr.add_lit], VRows.of_get fun i r hr => ?_⟩
            rw [List.getElem?_take] at hr
            split at hr
            · rw [List.getElem?_drop] at hr
              obtain ⟨q1, q2⟩ := hx.get _ r hr
              exact ⟨q1, by rw [Nat.add_assoc, ← Nat.add_mul]; exact q2⟩
            · cases hr
      · cases h
    · cases h
  · rename_i e hu
    simp only [VRo] at hm; subst hm
    simp only [VR] at hx; subst hx
    split at h
    · rename_i e1 e2
      split at h
      · rename_i hz
        cases h
        obtain ⟨inf, hinf, hsz⟩ := info_of_cells hz
        refine ⟨.slice none 0 0, ?_, by simp [VR]⟩
        rw [sliceAt_plain hu (.inl ⟨_, rfl⟩)]
        simp [Instr.slice, run_underlying hu, run_bounds hl hh true e1 e2 (Nat.le_refl _) (Nat.le_refl _), run_size hinf]
      · cases h
    · cases h
  all_goals first
    | (cases h; done)
    | (rename_i m hu
       simp only [VRo] at hm
       obtain ⟨vm, rfl, hm⟩ := hm
       split at h
       · rename_i e0 e1 e2
         split at h
         · rename_i hz
           cases h
           obtain ⟨inf, hinf, hsz⟩ := info_of_cells hz
           have hb := fun len cap => run_bounds0 (P := P) (mx := none) (vm := none) hl hh hm (len := len) (cap := cap) true e0 e1 e2 w
           have hrun : ∀ a len c, (Instr.sliceAt t (.slice a len c) vl vh (some vm)).run P w = .ok (.slice a 0 0) w := by
             intro a len c
             rw [sliceAt_plain hu (.inl ⟨_, rfl⟩)]
             simp [Instr.slice, run_underlying hu, hb, run_size hinf]
           simp only [VR] at hx
           first
             | (obtain ⟨b, o, n, c, hmu, rfl, hlc, hfit⟩ := hx
                exact ⟨_, hrun _ _ _, by simp only [VR]; exact ⟨_, rfl⟩⟩)
             | (obtain ⟨a, c, rfl, hlc, hx⟩ := hx
                exact ⟨_, hrun _ _ _, by simp only [VR]; exact ⟨_, rfl⟩⟩)
             | (subst hx
                exact ⟨_, hrun _ _ _, by simp only [VR]; exact ⟨_, rfl⟩⟩)
         · cases h
       · cases h)
end Go.Abs
