/- Keys of maps: numbers, texts, bools, and pairs of such.   Maps of the run's own: made, asked, set, cut, counted.   Operations in a row, code, calls: rules.   The rules of code, of calls.   A reading of the program that can be carried out: operations with all that hangs on the program alone looked up ahead.   Operations that are looked up: what they are, what they do.   What is looked up does as is told.   Code that is looked up, carried out. -/
import Derived.Test.YtjnagmdbkkccpaaGreatDoorAbsI
import Derived.Laws.IdiomCopy
import Derived.MapKept
import Derived.LoopN
import Derived.Scope
namespace Go.Abs
open Go Go.RowKit
set_option linter.unusedVariables false
set_option linter.unusedSimpArgs false
/-- clear of a slice of the run's own. -/
def clrY (z : Nat) (zs : List AV) (H : AH) : AV → Option (AV × AH)
  | .nils => some (.tup [], H)
  | .zslc => some (.tup [], H)
  | .vals _ [] => some (.tup [], H)
  | .slc g e i len z' => if len = 0 then some (.tup [], H) else match H.gs.get g with
    | some r => if r.e = e ∧ z' = z ∧ r.fz ≤ i ∧ i + len * z ≤ r.cells.length then some (.tup [], ⟨H.next, H.gs.set g ⟨r.e, r.fz, r.cells.take i ++ (List.replicate len zs).flatten ++ r.cells.drop (i + ((List.replicate len zs).flatten).length)⟩, H.ms⟩) else none
    | none => none
  | _ => none
theorem flat_rep_len {α : Type} (l : List α) : ∀ n, ((List.replicate n l).flatten).length = n * l.length
  | 0 => by simp
  | n + 1 => by rw [List.replicate_succ, List.flatten_cons, List.length_append, flat_rep_len l n, Nat.add_mul]; omega
theorem zeroCells_list (zv : Value) (n : Nat) : (Builtin.zeroCells zv.cells n).toList = (List.replicate n zv.cells.toList).flatten := repeat_cells zv.cells n
theorem clr_ok {P : Program} {K : Kx} {G : Gh} {H H' : AH} {w : World} (h : HRel K G H w) {t ty e : TypeId} {zv x y : AV} {v : Value} (hu : P.underlying t = some (.slice e)) (hz : zeroA P e = some zv) (hfit : zv.fit = true) (hl : zv.cells.length = P.cellsOf e)
    (hx : VR G x v) (hb : clrY (P.cellsOf e) zv.cells H x = some (y, H')) : ∃ u w', (Builtin.clear_ #[t] ty #[v]).run P w = .ok u w' ∧ HRel K G H' w' ∧ VR G y u := by
  obtain ⟨zz, inf, hi, hzz, hrun, hvz⟩ := zeroA_ok (G := G) hz w
  obtain ⟨q1, q2, q3⟩ := fit_ok hfit hvz
  unfold clrY at hb
  split at hb
  · cases hb; simp only [VR] at hx; subst hx
    exact ⟨.tuple #[], w, by simp [Builtin.clear_, run_underlying hu], h, by simp [VR, VRs]⟩
  · cases hb; simp only [VR] at hx; obtain ⟨a, rfl⟩ := hx
    exact ⟨.tuple #[], w, by cases a <;> simp [Builtin.clear_, run_underlying hu], h, by simp [VR, VRs]⟩
  · cases hb; simp only [VR] at hx; obtain ⟨a, c, rfl, -⟩ := hx
    exact ⟨.tuple #[], w, by cases a <;> simp [Builtin.clear_, run_underlying hu], h, by simp [VR, VRs]⟩
  · rename_i g a i len z'
    simp only [VR] at hx
    obtain ⟨b, o, n, cap, hmu, rfl, hlc, hroom⟩ := hx
    by_cases h0 : len = 0
    · rw [if_pos h0] at hb; cases hb; subst h0
      exact ⟨.tuple #[], w, by simp [Builtin.clear_, run_underlying hu], h, by simp [VR, VRs]⟩
    · rw [if_neg h0] at hb
      split at hb
      · rename_i r hr
        split at hb
        · rename_i hc
          cases hb
          obtain ⟨rfl, rfl, hfz, hin⟩ := hc
          obtain ⟨b', o', n', cs, ty', q⟩ := h.grp g r hr
          rw [q.mu] at hmu
          cases hmu
          have hvs : VRs G (List.replicate len zv.cells).flatten (List.replicate len zz.cells.toList).flatten := VRs.repeat q1 len
          have hlen : ((List.replicate len zv.cells).flatten).length = len * P.cellsOf e := by rw [flat_rep_len, hl]
          have hul : ((List.replicate len zz.cells.toList).flatten).length = len * P.cellsOf e := by rw [hvs.len, hlen]
          have hcell : ∀ c ∈ (List.replicate len zz.cells.toList).flatten, c.oneCell' = true := by
            intro c hc
            rw [List.mem_flatten] at hc
            obtain ⟨l, h1, h2⟩ := hc
            rw [List.mem_replicate] at h1
            rw [h1.2] at h2
            exact q3 c h2
          have hfit' : i + ((List.replicate len zv.cells).flatten).length ≤ r.cells.length := by rw [hlen]; exact hin
          have hmulc : len * P.cellsOf e ≤ cap * P.cellsOf e := Nat.mul_le_mul_right _ hlc
          obtain ⟨hle, hrel⟩ := h.sets q hr (r' := ⟨r.e, r.fz, r.cells.take i ++ (List.replicate len zv.cells).flatten ++ r.cells.drop (i + ((List.replicate len zv.cells).flatten).length)⟩) (p := o + i) (vs := (List.replicate len zz.cells.toList).flatten) (by rw [hul]; omega) (by omega) (o' := o) (G' := G) (.inl ⟨rfl, rfl, rfl⟩) (Nat.le_refl _) (by
            intro j z hz
            rw [getElem?_splice _ _ _ hfit'] at hz
            by_cases hj : i ≤ j ∧ j < i + ((List.replicate len zv.cells).flatten).length
            · rw [if_pos hj] at hz
              obtain ⟨c, h1, h2⟩ := hvs.get _ z hz
              exact ⟨c, h2, by rw [if_pos (by rw [hul]; omega), ← h1]; congr 1; omega, hcell c (List.mem_of_getElem? h1)⟩
            · rw [if_neg hj] at hz
              obtain ⟨c, h1, h2, h3⟩ := q.cell j z hz
              exact ⟨c, h2, by rw [if_neg (by rw [hul]; omega)]; exact h1, h3⟩) (by show r.fz ≤ (r.cells.take i ++ (List.replicate len zv.cells).flatten ++ r.cells.drop (i + ((List.replicate len zv.cells).flatten).length)).length; rw [List.length_append, List.length_append, List.length_take, List.length_drop]; omega)
          have hst := run_storeCells_cells (P := P) b (o + i) (List.replicate len zz.cells.toList).flatten 0 w (fun j hj => by
              rw [cell_of q.heap]
              rw [Array.getElem?_eq_getElem (by rw [q.size]; omega)]; rfl) (fun j hj => by simp [World.frozen?, q.heap]) hcell
          simp only [Nat.add_zero] at hst
          refine ⟨.tuple #[], _, ?_, hrel, by simp [VR, VRs]⟩
          obtain ⟨m, rfl⟩ : ∃ m, len = m + 1 := ⟨len - 1, by omega⟩
          simp [Builtin.clear_, run_underlying hu, hrun, zeroCells_list, hst]
        · cases hb
      · cases hb
  · cases hb
/-- Kinds of keys. -/
inductive MK where
  | int (k : IntKind)
  | str
  | bool
  | pair (a b : MK)
def MK.d : MK → TypeDesc
  | .int k => .int k
  | .str => .string
  | .bool => .bool
  | .pair _ _ => .bool
def MK.simple : MK → Bool
  | .pair _ _ => false
  | _ => true
def mkOf : TypeDesc → Option MK
  | .int k => some (.int k)
  | .string => some .str
  | .bool => some .bool
  | _ => none
theorem mkOf_ok {d : TypeDesc} {k : MK} (h : mkOf d = some k) : d = k.d ∧ k.simple = true := by
  cases d <;> simp only [mkOf] at h <;> first | (cases h; done) | (cases h; exact ⟨rfl, rfl⟩)
def mkey : MK → AV → Bool
  | .int k, .int k' _ => decide (k' = k)
  | .str, .str _ => true
  | .bool, .bool _ => true
  | .pair a b, .agg [x, y] => mkey a x && mkey b y
  | _, _ => false
def mcmp : AV → AV → Option Bool
  | .int k a, .int k' b => if k = k' then some (decide (a = b)) else none
  | .str a, .str b => some (decide (a = b))
  | .bool a, .bool b => some (a == b)
  | .agg [x, y], .agg [x', y'] => match mcmp x x' with
    | some true => mcmp y y'
    | r => r
  | _, _ => none
/-- Are two of a kind the same? -/
def MK.same : MK → Value → Value → Option Bool
  | .pair a b, .agg xs, .agg ys => match xs.toList, ys.toList with
    | [x, y], [x', y'] => match a.same x x' with
      | some true => b.same y y'
      | r => r
    | _, _ => none
  | .pair _ _, _, _ => none
  | .int k, v, u => Instr.sameNow (.int k) v u
  | .str, v, u => Instr.sameNow .string v u
  | .bool, v, u => Instr.sameNow .bool v u
theorem same_simple {kk : MK} (h : kk.simple = true) (v u : Value) : kk.same v u = Instr.sameNow kk.d v u := by
  cases kk <;> first | rfl | cases h
def findS (s : Value → Value → Option Bool) (k : Value) : List MapEntry → Nat → Option (Option (Nat × Value))
  | [], _ => some none
  | e :: es, i => match s k e.key with
    | some true => some (some (i, e.val))
    | some false => findS s k es (i + 1)
    | none => none
theorem findS_now {kk : MK} (h : kk.simple = true) (k : Value) : ∀ (es : List MapEntry) (i : Nat), findS kk.same k es i = Instr.findNow kk.d k es i
  | [], i => rfl
  | e :: es, i => by
    simp only [findS, Instr.findNow, same_simple h, findS_now h k es (i + 1)]
    cases Instr.sameNow kk.d k e.key with
    | none => rfl
    | some b => cases b <;> rfl
/-- A type of keys is of a kind. -/
def KOK (P : Program) (kt : TypeId) : MK → Prop
  | .pair a b => ∃ f g, P.underlying kt = some (.struct #[f, g]) ∧ f.name ≠ "_" ∧ g.name ≠ "_" ∧ f.offset = 0 ∧ g.offset = 1 ∧ P.stoodInHeld kt = false ∧ a.simple = true ∧ b.simple = true ∧ P.underlying f.type = some a.d ∧ P.underlying g.type = some b.d
  | kk => P.underlying kt = some kk.d
theorem KOK.simple {P : Program} {kt : TypeId} {kk : MK} (h : KOK P kt kk) (hs : kk.simple = true) : P.underlying kt = some kk.d := by
  cases kk <;> first | exact h | cases hs
theorem mkey_ok {G : Gh} {kk : MK} {k : AV} {v : Value} (hs : kk.simple = true) (h : mkey kk k = true) (hv : VR G k v) : MapKept.IsKey kk.d v := by
  unfold mkey at h
  split at h
  · simp only [VR] at hv; subst hv; simpa [MapKept.IsKey, MK.d] using h
  · simp only [VR] at hv; subst hv; trivial
  · simp only [VR] at hv; subst hv; trivial
  · cases hs
  · cases h
theorem run_part_simple {P : Program} {w : World} {e : TypeId} {kk : MK} (hs : kk.simple = true) (he : P.underlying e = some kk.d) {xs : Array Value} {off : Nat} {v : Value} (hx : xs[off]? = some v) : (part e xs off).run P w = .ok v w := by
  have : (isAgg e).run P w = .ok false w := by
    unfold isAgg
    cases kk <;> first | (simp [run_underlying he, MK.d]; done) | cases hs
  simp [part, this, hx]
theorem pair_two {G : Gh} {a b : MK} {k : AV} {v : Value} (h : mkey (.pair a b) k = true) (hv : VR G k v) : ∃ x y u1 u2, k = .agg [x, y] ∧ v = .agg #[u1, u2] ∧ mkey a x = true ∧ mkey b y = true ∧ VR G x u1 ∧ VR G y u2 := by
  cases k <;> try (exfalso; simp [mkey] at h; done)
  rename_i cs
  match cs, h, hv with
  | [x, y], h, hv =>
    simp only [mkey, Bool.and_eq_true] at h
    simp only [VR] at hv
    obtain ⟨us, rfl, hus⟩ := hv
    simp only [VRs] at hus
    obtain ⟨u1, t1, e2, h1, u2, t2, e3, h2, e4⟩ := hus
    subst e4
    subst e3
    refine ⟨x, y, u1, u2, rfl, ?_, h.1, h.2, h1, h2⟩
    cases us with
    | mk l => simp at e2; subst e2; rfl
theorem check_pair {P : Program} {kt : TypeId} {a b : MK} (h : KOK P kt (.pair a b)) {u1 u2 : Value} (k1 : MapKept.IsKey a.d u1) (k2 : MapKept.IsKey b.d u2) (w : World) (e : Bool) (n : Nat) : (Instr.checkKey e (n + 1 + 1) kt (.agg #[u1, u2])).run P w = .ok () w := by
  obtain ⟨f, g, hu, n1, n2, o1, o2, -, s1, s2, t1, t2⟩ := h
  have p1 : (part f.type #[u1, u2] f.offset).run P w = .ok u1 w := run_part_simple s1 t1 (by rw [o1]; rfl)
  have p2 : (part g.type #[u1, u2] g.offset).run P w = .ok u2 w := run_part_simple s2 t2 (by rw [o2]; rfl)
  have c1 := MapKept.run_checkKey (P := P) (w := w) t1 k1 e n
  have c2 := MapKept.run_checkKey (P := P) (w := w) t2 k2 e n
  rw [Instr.checkKey]
  simp [run_underlying hu, n1, n2, p1, p2, c1, c2]
theorem KOK.check {P : Program} {kt : TypeId} {kk : MK} (h : KOK P kt kk) {G : Gh} {k : AV} {v : Value} (hk : mkey kk k = true) (hv : VR G k v) (w : World) (e : Bool) : (Instr.checkKey e 10000 kt v).run P w = .ok () w := by
  by_cases hs : kk.simple = true
  · exact MapKept.run_checkKey (h.simple hs) (mkey_ok hs hk hv) e 9999
  · cases kk <;> try (exact absurd rfl hs)
    rename_i a b
    obtain ⟨x, y, u1, u2, rfl, rfl, k1, k2, v1, v2⟩ := pair_two hk hv
    have h' := h
    obtain ⟨f, g, hu, n1, n2, o1, o2, -, s1, s2, t1, t2⟩ := h'
    exact check_pair h (mkey_ok s1 k1 v1) (mkey_ok s2 k2 v2) w e 9998
theorem equal_simple {P : Program} {t : TypeId} {kk : MK} (hs : kk.simple = true) (hu : P.underlying t = some kk.d) {v u : Value} {b : Bool} (h : kk.same v u = some b) (w : World) (d : Nat) : (Op.equalIn (d + 1) t v u).run P w = .ok b w := by
  rw [same_simple hs] at h
  cases kk <;> first | cases hs; done | skip
  all_goals
    simp only [MK.d] at h hu
    cases v <;> cases u <;> simp [Instr.sameNow] at h
  · obtain ⟨rfl, rfl⟩ := h; simp [Op.equalIn, run_underlying hu]
  · subst h; simp [Op.equalIn, run_underlying hu]
  · subst h; simp [Op.equalIn, run_underlying hu]
theorem equal_pair {P : Program} {kt : TypeId} {a b : MK} (h : KOK P kt (.pair a b)) {v u : Value} {r : Bool} (hr : (MK.pair a b).same v u = some r) (w : World) (d : Nat) : (Op.equalIn (d + 1 + 1) kt v u).run P w = .ok r w := by
  obtain ⟨f, g, hu, n1, n2, o1, o2, st, s1, s2, t1, t2⟩ := h
  cases v <;> try (exfalso; simp [MK.same] at hr; done)
  cases u <;> try (exfalso; simp [MK.same] at hr; done)
  rename_i xs ys
  simp only [MK.same] at hr
  split at hr <;> try (cases hr; done)
  rename_i x y x' y' ex ey
  obtain rfl : xs = #[x, y] := by cases xs; simpa using ex
  obtain rfl : ys = #[x', y'] := by cases ys; simpa using ey
  have p1 : ∀ z1 z2 : Value, (part f.type #[z1, z2] f.offset).run P w = .ok z1 w := fun z1 z2 => run_part_simple s1 t1 (by rw [o1]; rfl)
  have p2 : ∀ z1 z2 : Value, (part g.type #[z1, z2] g.offset).run P w = .ok z2 w := fun z1 z2 => run_part_simple s2 t2 (by rw [o2]; rfl)
  cases h1 : a.same x x' with
  | none => rw [h1] at hr; cases hr
  | some b1 =>
    rw [h1] at hr
    have q1 := equal_simple (P := P) s1 t1 h1 w d
    cases b1 with
    | false =>
      cases hr
      rw [Op.equalIn]
      simp [run_underlying hu, st, n1, n2, p1, p2, q1]
    | true =>
      have q2 := equal_simple (P := P) s2 t2 hr w d
      rw [Op.equalIn]
      cases r <;> simp [run_underlying hu, st, n1, n2, p1, p2, q1, q2]
theorem KOK.equal {P : Program} {kt : TypeId} {a b : MK} (h : KOK P kt (.pair a b)) {v u : Value} {r : Bool} (hr : (MK.pair a b).same v u = some r) (w : World) : (Op.equal kt v u).run P w = .ok r w := equal_pair h hr w 9998
theorem KOK.asking {P : Program} {kt : TypeId} {a b : MK} (h : KOK P kt (.pair a b)) (w : World) {v : Value} : ∀ (l : List MapEntry) (i : Nat) {r : Option (Nat × Value)}, findS (MK.pair a b).same v l i = some r → (Instr.findAsking kt v l i).run P w = .ok r w
  | [], i, r, hr => by simp only [findS] at hr; cases hr; simp [Instr.findAsking]
  | e :: es, i, r, hr => by
    simp only [findS] at hr
    split at hr
    · rename_i hs
      cases hr
      simp [Instr.findAsking, h.equal hs w]
    · rename_i hs
      simp [Instr.findAsking, h.equal hs w, h.asking w es (i + 1) hr]
    · cases hr
theorem KOK.find {P : Program} {kt : TypeId} {kk : MK} (h : KOK P kt kk) (w : World) {v : Value} {l : List MapEntry} {r : Option (Nat × Value)} (hr : findS kk.same v l 0 = some r) : (Instr.findKey kt v l).run P w = .ok r w := by
  by_cases hs : kk.simple = true
  · rw [findS_now hs] at hr
    exact MapKept.run_findKey (h.simple hs) hr
  · cases kk <;> try (exact absurd rfl hs)
    have ha := h.asking w l 0 hr
    obtain ⟨f, g, hu, -⟩ := h
    cases l with
    | nil =>
      simp only [findS] at hr; cases hr
      simp [Instr.findKey, run_underlying hu, Instr.findNow]
    | cons e es =>
      simp [Instr.findKey, run_underlying hu, Instr.findNow, Instr.sameNow, ha]
theorem bs_refl (s : ByteArray) : (s == s) = true := (MapKept.bytes_beq s s).2 rfl
theorem sameBits_simple {kk : MK} (hs : kk.simple = true) {v : Value} (h : MapKept.IsKey kk.d v) (n : Nat) : Instr.sameBits n v v = true := by
  cases kk <;> first | cases hs; done | skip
  all_goals
    cases v <;> simp [MK.d, MapKept.IsKey] at h
    all_goals (cases n <;> simp [Instr.sameBits, bs_refl])
theorem KOK.stays {P : Program} {kt : TypeId} {kk : MK} (h : KOK P kt kk) {G : Gh} {k : AV} {v : Value} (hk : mkey kk k = true) (hv : VR G k v) (w : World) : (Instr.keyThatStays v v).run P w = .ok v w := by
  by_cases hs : kk.simple = true
  · simp [Instr.keyThatStays, sameBits_simple hs (mkey_ok hs hk hv)]
  · cases kk <;> try (exact absurd rfl hs)
    rename_i a b
    obtain ⟨x, y, u1, u2, rfl, rfl, k1, k2, v1, v2⟩ := pair_two hk hv
    obtain ⟨f, g, hu, n1, n2, o1, o2, -, s1, s2, t1, t2⟩ := h
    have q1 := sameBits_simple s1 (mkey_ok s1 k1 v1) 9999
    have q2 := sameBits_simple s2 (mkey_ok s2 k2 v2) 9999
    simp [Instr.keyThatStays, Instr.sameBits, q1, q2]
/-- What kind of keys a type has. -/
def keyK (P : Program) (kt : TypeId) : Option MK :=
  match P.underlying kt with
  | some (.struct fs) => match fs.toList with
    | [f, g] => match P.underlying f.type, P.underlying g.type with
      | some d1, some d2 => match mkOf d1, mkOf d2 with
        | some a, some b => if f.name ≠ "_" ∧ g.name ≠ "_" ∧ f.offset = 0 ∧ g.offset = 1 ∧ P.stoodInHeld kt = false then some (.pair a b) else none
        | _, _ => none
      | _, _ => none
    | _ => none
  | some d => mkOf d
  | none => none
theorem keyK_ok {P : Program} {kt : TypeId} {kk : MK} (h : keyK P kt = some kk) : KOK P kt kk := by
  unfold keyK at h
  split at h
  · rename_i fs hu
    split at h
    · rename_i f g hf
      split at h
      · rename_i d1 d2 h1 h2
        split at h
        · rename_i a b e1 e2
          split at h
          · rename_i hc
            cases h
            obtain ⟨p1, p2⟩ := mkOf_ok e1
            obtain ⟨p3, p4⟩ := mkOf_ok e2
            refine ⟨f, g, ?_, hc.1, hc.2.1, hc.2.2.1, hc.2.2.2.1, hc.2.2.2.2, p2, p4, by rw [h1, p1], by rw [h2, p3]⟩
            rw [hu]
            cases fs; simp at hf; subst hf; rfl
          · cases h
        · cases h
      · cases h
    · cases h
  · rename_i d hne hu
    obtain ⟨p1, p2⟩ := mkOf_ok h
    have : P.underlying kt = some kk.d := by rw [hu, p1]
    cases kk <;> first | exact this | cases p2
  · cases h
theorem bytes_beq (a b : List UInt8) : ((⟨a.toArray⟩ : ByteArray) == ⟨b.toArray⟩) = decide (a = b) := by
  have : ((⟨a.toArray⟩ : ByteArray) == ⟨b.toArray⟩) = (a.toArray == b.toArray) := rfl
  rw [this]
  by_cases h : a = b
  · subst h; simp
  · simp [h]
theorem mcmp_simple {G : Gh} {kk : MK} {k k' : AV} {v v' : Value} {b : Bool} (hs : kk.simple = true) (hk : mkey kk k = true) (h : mcmp k k' = some b) (h1 : VR G k v) (h2 : VR G k' v') : kk.same v v' = some b ∧ (b = true → v' = v) := by
  rw [same_simple hs]
  unfold mcmp at h
  split at h
  · split at h
    · rename_i k1 a k2 a' hkk
      cases h
      subst hkk
      simp only [VR] at h1 h2
      subst h1; subst h2
      cases kk <;> first | (simp [mkey] at hk; done) | skip
      refine ⟨?_, fun hb => by simp only [decide_eq_true_eq] at hb; subst hb; rfl⟩
      simp [MK.d, Instr.sameNow]
      all_goals rfl
    · cases h
  · rename_i a a'
    cases h
    simp only [VR] at h1 h2
    subst h1; subst h2
    cases kk <;> first | (simp [mkey] at hk; done) | skip
    refine ⟨?_, fun hb => by simp only [decide_eq_true_eq] at hb; subst hb; rfl⟩
    simp only [MK.d, Instr.sameNow, bytes_beq]
  · rename_i a a'
    cases h
    simp only [VR] at h1 h2
    subst h1; subst h2
    cases kk <;> first | (simp [mkey] at hk; done) | skip
    exact ⟨rfl, fun hb => by simp only [beq_iff_eq] at hb; subst hb; rfl⟩
  · cases kk <;> first | (simp [mkey] at hk; done) | cases hs
  · cases h
/-- Structs of two, three or four plain fields, compared. -/
def stEq : List MK → List AV → List AV → Option Bool
  | [], [], [] => some true
  | k :: ks, x :: xs, y :: ys => if mkey k x = true then (match mcmp x y with
    | some true => stEq ks xs ys
    | r => r) else none
  | _, _, _ => none
def steqY (neg : Bool) (ks : List MK) (H : AH) (x y : AV) : Option (AV × AH) :=
  match x, y with
  | .agg xs, .agg ys => match stEq ks xs ys with
    | some b => some (.bool (b != neg), H)
    | none => none
  | _, _ => none
def fieldsOK (P : Program) : Nat → List Field → Option (List MK)
  | _, [] => some []
  | i, f :: fs => match P.underlying f.type with
    | some d => match mkOf d, fieldsOK P (i + 1) fs with
      | some a, some ks => if f.name ≠ "_" ∧ f.offset = i then some (a :: ks) else none
      | _, _ => none
    | none => none
def structKs (P : Program) (t : TypeId) : Option (List MK) :=
  match P.underlying t with
  | some (.struct fs) => if 2 ≤ fs.size ∧ fs.size ≤ 4 ∧ P.stoodInHeld t = false ∧ P.eqGuardType P.depth t = false then fieldsOK P 0 fs.toList else none
  | _ => none
theorem fieldsOK_cons {P : Program} {i : Nat} {f : Field} {fs : List Field} {ks : List MK} (h : fieldsOK P i (f :: fs) = some ks) : ∃ a ks', ks = a :: ks' ∧ a.simple = true ∧ P.underlying f.type = some a.d ∧ f.name ≠ "_" ∧ f.offset = i ∧ fieldsOK P (i + 1) fs = some ks' := by
  simp only [fieldsOK] at h
  split at h
  · rename_i d hd
    split at h
    · rename_i a ks' h1 h2
      split at h
      · rename_i hc
        cases h
        obtain ⟨p1, p2⟩ := mkOf_ok h1
        exact ⟨a, ks', rfl, p2, by rw [hd, p1], hc.1, hc.2, h2⟩
      · cases h
    · cases h
  · cases h
theorem fieldsOK_nil {P : Program} {i : Nat} {ks : List MK} (h : fieldsOK P i [] = some ks) : ks = [] := by
  simp only [fieldsOK] at h; cases h; rfl
theorem stEq_cons {G : Gh} {k : MK} {ks : List MK} {xs ys : List AV} {us vs : List Value} {b : Bool} (hs : k.simple = true) (h : stEq (k :: ks) xs ys = some b) (hx : VRs G xs us) (hy : VRs G ys vs) :
    ∃ xs' ys' u us' v vs' b1, us = u :: us' ∧ vs = v :: vs' ∧ VRs G xs' us' ∧ VRs G ys' vs' ∧ k.same u v = some b1 ∧ ((b1 = true ∧ stEq ks xs' ys' = some b) ∨ (b1 = false ∧ b = false)) := by
  cases xs with
  | nil => simp [stEq] at h
  | cons x xs => cases ys with
    | nil => simp [stEq] at h
    | cons y ys =>
      simp only [VRs] at hx hy
      obtain ⟨u, us', rfl, h1, h2⟩ := hx
      obtain ⟨v, vs', rfl, h3, h4⟩ := hy
      simp only [stEq] at h
      split at h
      · rename_i hk
        cases hm : mcmp x y with
        | none => rw [hm] at h; cases h
        | some b1 =>
          rw [hm] at h
          have hq := (mcmp_simple hs hk hm h1 h3).1
          cases b1 with
          | true => exact ⟨xs, ys, u, us', v, vs', true, rfl, rfl, h2, h4, hq, .inl ⟨rfl, h⟩⟩
          | false => cases h; exact ⟨xs, ys, u, us', v, vs', false, rfl, rfl, h2, h4, hq, .inr ⟨rfl, rfl⟩⟩
      · cases h
theorem stEq_nil {G : Gh} {xs ys : List AV} {us vs : List Value} {b : Bool} (h : stEq [] xs ys = some b) (hx : VRs G xs us) (hy : VRs G ys vs) : us = [] ∧ vs = [] ∧ b = true := by
  cases xs with
  | nil => cases ys with
    | nil => simp only [stEq] at h; cases h; simp only [VRs] at hx hy; exact ⟨hx, hy, rfl⟩
    | cons y ys => simp [stEq] at h
  | cons x xs => simp [stEq] at h
section
variable {P : Program} {G : Gh} {t : TypeId} {d : Nat} {w : World}
theorem struct_equal {fs : Array Field} {ks : List MK} (hu : P.underlying t = some (.struct fs)) (h2 : 2 ≤ fs.size) (h4 : fs.size ≤ 4) (st : P.stoodInHeld t = false) (hf : fieldsOK P 0 fs.toList = some ks)
    {xs ys : List AV} {us vs : Array Value} {b : Bool} (h : stEq ks xs ys = some b) (hx : VRs G xs us.toList) (hy : VRs G ys vs.toList) : (Op.equalIn (d + 1 + 1) t (.agg us) (.agg vs)).run P w = .ok b w := by
  obtain ⟨fs⟩ := fs
  obtain ⟨us⟩ := us
  obtain ⟨vs⟩ := vs
  simp only [List.size_toArray] at h2 h4
  have P0 : ∀ {k : MK} (s : k.simple = true) {f : Field} (hf : P.underlying f.type = some k.d) {zs : List Value} {v : Value} (hz : zs[f.offset]? = some v), (part f.type zs.toArray f.offset).run P w = .ok v w := by
    intro k s f hf zs v hz
    exact run_part_simple s hf (by simpa using hz)
  match fs, h2, h4, hf, hu with
  | [f0, f1], _, _, hf, hu =>
    obtain ⟨a0, k1, rfl, s0, t0, n0, o0, hf⟩ := fieldsOK_cons hf
    obtain ⟨a1, k2, rfl, s1, t1, n1, o1, hf⟩ := fieldsOK_cons hf
    obtain rfl := fieldsOK_nil hf
    obtain ⟨x1, y1, u0, u1, v0, v1, b0, rfl, rfl, hx1, hy1, q0, r0⟩ := stEq_cons s0 h hx hy
    have e0 := equal_simple (P := P) s0 t0 q0 w d
    have p0 : (part f0.type (u0 :: u1).toArray f0.offset).run P w = .ok u0 w := P0 s0 t0 (by rw [o0]; rfl)
    have p0' : (part f0.type (v0 :: v1).toArray f0.offset).run P w = .ok v0 w := P0 s0 t0 (by rw [o0]; rfl)
    rcases r0 with ⟨rfl, h⟩ | ⟨rfl, rfl⟩
    · obtain ⟨x2, y2, w0, w1, z0, z1, b1, rfl, rfl, hx2, hy2, q1, r1⟩ := stEq_cons s1 h hx1 hy1
      have e1 := equal_simple (P := P) s1 t1 q1 w d
      have p1 : (part f1.type (u0 :: w0 :: w1).toArray f1.offset).run P w = .ok w0 w := P0 s1 t1 (by rw [o1]; rfl)
      have p1' : (part f1.type (v0 :: z0 :: z1).toArray f1.offset).run P w = .ok z0 w := P0 s1 t1 (by rw [o1]; rfl)
      rcases r1 with ⟨rfl, h⟩ | ⟨rfl, rfl⟩
      · obtain ⟨rfl, rfl, rfl⟩ := stEq_nil h hx2 hy2
        rw [Op.equalIn]; simp [run_underlying hu, st, n0, n1, p0, p0', p1, p1', e0, e1]
      · rw [Op.equalIn]; simp [run_underlying hu, st, n0, n1, p0, p0', p1, p1', e0, e1]
    · rw [Op.equalIn]; simp [run_underlying hu, st, n0, n1, p0, p0', e0]
  | [f0, f1, f2], _, _, hf, hu =>
    obtain ⟨a0, k1, rfl, s0, t0, n0, o0, hf⟩ := fieldsOK_cons hf
    obtain ⟨a1, k2, rfl, s1, t1, n1, o1, hf⟩ := fieldsOK_cons hf
    obtain ⟨a2, k3, rfl, s2, t2, n2, o2, hf⟩ := fieldsOK_cons hf
    obtain rfl := fieldsOK_nil hf
    obtain ⟨x1, y1, u0, u1, v0, v1, b0, rfl, rfl, hx1, hy1, q0, r0⟩ := stEq_cons s0 h hx hy
    have e0 := equal_simple (P := P) s0 t0 q0 w d
    have p0 : (part f0.type (u0 :: u1).toArray f0.offset).run P w = .ok u0 w := P0 s0 t0 (by rw [o0]; rfl)
    have p0' : (part f0.type (v0 :: v1).toArray f0.offset).run P w = .ok v0 w := P0 s0 t0 (by rw [o0]; rfl)
    rcases r0 with ⟨rfl, h⟩ | ⟨rfl, rfl⟩
    · obtain ⟨x2, y2, w0, w1, z0, z1, b1, rfl, rfl, hx2, hy2, q1, r1⟩ := stEq_cons s1 h hx1 hy1
      have e1 := equal_simple (P := P) s1 t1 q1 w d
      have p1 : (part f1.type (u0 :: w0 :: w1).toArray f1.offset).run P w = .ok w0 w := P0 s1 t1 (by rw [o1]; rfl)
      have p1' : (part f1.type (v0 :: z0 :: z1).toArray f1.offset).run P w = .ok z0 w := P0 s1 t1 (by rw [o1]; rfl)
      rcases r1 with ⟨rfl, h⟩ | ⟨rfl, rfl⟩
      · obtain ⟨x3, y3, c0, c1, g0, g1, b2, rfl, rfl, hx3, hy3, q2, r2⟩ := stEq_cons s2 h hx2 hy2
        have e2 := equal_simple (P := P) s2 t2 q2 w d
        have p2 : (part f2.type (u0 :: w0 :: c0 :: c1).toArray f2.offset).run P w = .ok c0 w := P0 s2 t2 (by rw [o2]; rfl)
        have p2' : (part f2.type (v0 :: z0 :: g0 :: g1).toArray f2.offset).run P w = .ok g0 w := P0 s2 t2 (by rw [o2]; rfl)
        rcases r2 with ⟨rfl, h⟩ | ⟨rfl, rfl⟩
        · obtain ⟨rfl, rfl, rfl⟩ := stEq_nil h hx3 hy3
          rw [Op.equalIn]; simp [run_underlying hu, st, n0, n1, n2, p0, p0', p1, p1', p2, p2', e0, e1, e2]
        · rw [Op.equalIn]; simp [run_underlying hu, st, n0, n1, n2, p0, p0', p1, p1', p2, p2', e0, e1, e2]
      · rw [Op.equalIn]; simp [run_underlying hu, st, n0, n1, p0, p0', p1, p1', e0, e1]
    · rw [Op.equalIn]; simp [run_underlying hu, st, n0, n1, p0, p0', e0]
  | [f0, f1, f2, f3], _, _, hf, hu =>
    obtain ⟨a0, k1, rfl, s0, t0, n0, o0, hf⟩ := fieldsOK_cons hf
    obtain ⟨a1, k2, rfl, s1, t1, n1, o1, hf⟩ := fieldsOK_cons hf
    obtain ⟨a2, k3, rfl, s2, t2, n2, o2, hf⟩ := fieldsOK_cons hf
    obtain ⟨a3, k4, rfl, s3, t3, n3, o3, hf⟩ := fieldsOK_cons hf
    obtain rfl := fieldsOK_nil hf
    obtain ⟨x1, y1, u0, u1, v0, v1, b0, rfl, rfl, hx1, hy1, q0, r0⟩ := stEq_cons s0 h hx hy
    have e0 := equal_simple (P := P) s0 t0 q0 w d
    have p0 : (part f0.type (u0 :: u1).toArray f0.offset).run P w = .ok u0 w := P0 s0 t0 (by rw [o0]; rfl)
    have p0' : (part f0.type (v0 :: v1).toArray f0.offset).run P w = .ok v0 w := P0 s0 t0 (by rw [o0]; rfl)
    rcases r0 with ⟨rfl, h⟩ | ⟨rfl, rfl⟩
    · obtain ⟨x2, y2, w0, w1, z0, z1, b1, rfl, rfl, hx2, hy2, q1, r1⟩ := stEq_cons s1 h hx1 hy1
      have e1 := equal_simple (P := P) s1 t1 q1 w d
      have p1 : (part f1.type (u0 :: w0 :: w1).toArray f1.offset).run P w = .ok w0 w := P0 s1 t1 (by rw [o1]; rfl)
      have p1' : (part f1.type (v0 :: z0 :: z1).toArray f1.offset).run P w = .ok z0 w := P0 s1 t1 (by rw [o1]; rfl)
      rcases r1 with ⟨rfl, h⟩ | ⟨rfl, rfl⟩
      · obtain ⟨x3, y3, c0, c1, g0, g1, b2, rfl, rfl, hx3, hy3, q2, r2⟩ := stEq_cons s2 h hx2 hy2
        have e2 := equal_simple (P := P) s2 t2 q2 w d
        have p2 : (part f2.type (u0 :: w0 :: c0 :: c1).toArray f2.offset).run P w = .ok c0 w := P0 s2 t2 (by rw [o2]; rfl)
        have p2' : (part f2.type (v0 :: z0 :: g0 :: g1).toArray f2.offset).run P w = .ok g0 w := P0 s2 t2 (by rw [o2]; rfl)
        rcases r2 with ⟨rfl, h⟩ | ⟨rfl, rfl⟩
        · obtain ⟨x4, y4, m0, m1, i0, i1, b3, rfl, rfl, hx4, hy4, q3, r3⟩ := stEq_cons s3 h hx3 hy3
          have e3 := equal_simple (P := P) s3 t3 q3 w d
          have p3 : (part f3.type (u0 :: w0 :: c0 :: m0 :: m1).toArray f3.offset).run P w = .ok m0 w := P0 s3 t3 (by rw [o3]; rfl)
          have p3' : (part f3.type (v0 :: z0 :: g0 :: i0 :: i1).toArray f3.offset).run P w = .ok i0 w := P0 s3 t3 (by rw [o3]; rfl)
          rcases r3 with ⟨rfl, h⟩ | ⟨rfl, rfl⟩
          · obtain ⟨rfl, rfl, rfl⟩ := stEq_nil h hx4 hy4
            rw [Op.equalIn]; simp [run_underlying hu, st, n0, n1, n2, n3, p0, p0', p1, p1', p2, p2', p3, p3', e0, e1, e2, e3]
          · rw [Op.equalIn]; simp [run_underlying hu, st, n0, n1, n2, n3, p0, p0', p1, p1', p2, p2', p3, p3', e0, e1, e2, e3]
        · rw [Op.equalIn]; simp [run_underlying hu, st, n0, n1, n2, p0, p0', p1, p1', p2, p2', e0, e1, e2]
      · rw [Op.equalIn]; simp [run_underlying hu, st, n0, n1, p0, p0', p1, p1', e0, e1]
    · rw [Op.equalIn]; simp [run_underlying hu, st, n0, n1, p0, p0', e0]
end
/-- Two operands, structs among them. -/
def abinS (P : Program) (op : BinOp) (t : TypeId) (ox oy : Operand) (x y : AV) : Option AV :=
  match op, structKs P t with
  | .eql, some ks => match steqY false ks AH.empty x y with | some r => some r.1 | none => none
  | .neq, some ks => match steqY true ks AH.empty x y with | some r => some r.1 | none => none
  | op, _ => abinC P op t ox oy x y
theorem steqY_ok {P : Program} {G : Gh} {t : TypeId} {ks : List MK} {neg : Bool} {H : AH} {x y : AV} {r : AV × AH} {u v : Value} (hk : structKs P t = some ks) (h : steqY neg ks H x y = some r) (hx : VR G x u) (hy : VR G y v) (w : World) :
    ∃ us vs b, u = .agg us ∧ v = .agg vs ∧ r = (.bool (b != neg), H) ∧ (Op.equal t u v).run P w = .ok b w ∧ P.eqGuardType P.depth t = false := by
  unfold steqY at h
  split at h
  · rename_i xs ys
    split at h
    · rename_i b hb
      cases h
      simp only [VR] at hx hy
      obtain ⟨us, rfl, h1⟩ := hx
      obtain ⟨vs, rfl, h2⟩ := hy
      unfold structKs at hk
      split at hk
      · rename_i fs hu
        split at hk
        · rename_i hc
          exact ⟨us, vs, b, rfl, rfl, rfl, struct_equal (d := 9998) hu hc.1 hc.2.1 hc.2.2.1 hk hb h1 h2, hc.2.2.2⟩
        · cases hk
      · cases hk
    · cases h
  · cases h
theorem abinS_ok {P : Program} {G : Gh} {op : BinOp} {t : TypeId} {ox oy : Operand} {x y z : AV} {u v : Value} (h : abinS P op t ox oy x y = some z) (hx : VR G x u) (hy : VR G y v) (w : World) :
    ∃ r, (do eqGuard op t ox oy u v; binOp op t u v : Sem Value).run P w = .ok r w ∧ VR G z r := by
  unfold abinS at h
  split at h
  · rename_i ks hk
    split at h
    · rename_i r hr
      cases h
      obtain ⟨us, vs, b, rfl, rfl, rfl, he, hg⟩ := steqY_ok hk hr hx hy w
      have e4 : binOp .eql t (.agg us) (.agg vs) = (do pure (.bool (← Op.equal t (.agg us) (.agg vs)))) := rfl
      refine ⟨.bool b, ?_, by simp [VR]⟩
      rw [e4]
      simp [eqGuard, hg, he]
    · cases h
  · rename_i ks hk
    split at h
    · rename_i r hr
      cases h
      obtain ⟨us, vs, b, rfl, rfl, rfl, he, hg⟩ := steqY_ok hk hr hx hy w
      have e4 : binOp .neq t (.agg us) (.agg vs) = (do pure (.bool (!(← Op.equal t (.agg us) (.agg vs))))) := rfl
      refine ⟨.bool (!b), ?_, by simp [VR]⟩
      rw [e4]
      simp [eqGuard, hg, he]
    · cases h
  · exact abinC_ok h hx hy w
end Go.Abs
namespace Go.Abs
open Go Go.RowKit
set_option linter.unusedVariables false
def mfind (k : AV) : List (Nat × AV × AV) → Option (Option (Nat × AV))
  | [] => some none
  | (n, k', x) :: es => match mcmp k k' with
    | some true => some (some (n, x))
    | some false => mfind k es
    | none => none
def mset (k x : AV) (c : Nat) : List (Nat × AV × AV) → Option MapA
  | [] => some (c + 1, [(c, k, x)])
  | (n, k', y) :: es => match mcmp k k' with
    | some true => some (c, (n, k, x) :: es)
    | some false => match mset k x c es with
      | some (c', es') => some (c', (n, k', y) :: es')
      | none => none
    | none => none
def mcut (k : AV) : List (Nat × AV × AV) → Option (List (Nat × AV × AV))
  | [] => some []
  | (n, k', y) :: es => match mcmp k k' with
    | some true => some es
    | some false => match mcut k es with
      | some es' => some ((n, k', y) :: es')
      | none => none
    | none => none
/-- The entry that was put in then. -/
def mstamp (b : Int) (x : AV) : List (Nat × AV × AV) → Option (List (Nat × AV × AV))
  | [] => none
  | (n, k, y) :: es => if (n : Int) = b then some ((n, k, x) :: es) else match mstamp b x es with
    | some es' => some ((n, k, y) :: es')
    | none => none
/-- What is done with maps. -/
inductive MOp where
  | make
  | get (k : MK) (z : AV) (ok : Bool)
  | put (k : MK)
  | len
  | del (k : MK)
  | entry (k : MK) (z : AV)
  | sete
  | clr (z : Nat) (zs : List AV)
  | steq (neg : Bool) (ks : List MK)
def mres (ok : Bool) (x : AV) (b : Bool) : AV := bif ok then .tup [x, .bool b] else x
def mmakeY (H : AH) : Option (AV × AH) := match H.ms.get H.next with
  | none => some (.mapp H.next, ⟨H.next + 1, H.gs, H.ms.set H.next (0, [])⟩)
  | some _ => none
def mgetY (kk : MK) (z : AV) (ok : Bool) (k : AV) (H : AH) : AV → Option (AV × AH)
  | .nilm => bif mkey kk k then some (mres ok z false, H) else none
  | .mapp g => bif mkey kk k then (match H.ms.get g with
      | some es => match mfind k es.2 with
        | some (some x) => some (mres ok x.2 true, H)
        | some none => some (mres ok z false, H)
        | none => none
      | none => none) else none
  | _ => none
def mputY (kk : MK) (k x : AV) (H : AH) : AV → Option (AV × AH)
  | .mapp g => bif mkey kk k then (match H.ms.get g with
      | some es => match mset k x es.1 es.2 with
        | some es' => some (.und, ⟨H.next, H.gs, H.ms.set g es'⟩)
        | none => none
      | none => none) else none
  | _ => none
def mlenY (H : AH) : AV → Option (AV × AH)
  | .nilm => some (.int .i64 0, H)
  | .mapp g => match H.ms.get g with
    | some es => some (.int .i64 es.2.length, H)
    | none => none
  | _ => none
def mdelY (kk : MK) (k : AV) (H : AH) : AV → Option (AV × AH)
  | .nilm => bif mkey kk k then some (.tup [], H) else none
  | .mapp g => bif mkey kk k then (match H.ms.get g with
      | some es => match mcut k es.2 with
        | some es' => some (.tup [], ⟨H.next, H.gs, H.ms.set g (es.1, es')⟩)
        | none => none
      | none => none) else none
  | _ => none
def mentryY (kk : MK) (z k : AV) (H : AH) : AV → Option (AV × AH)
  | .mapp g => bif mkey kk k then (match H.ms.get g with
      | some es => match mfind k es.2 with
        | some (some x) => some (.tup [x.2, .int .i64 x.1], H)
        | some none => match mset k z es.1 es.2 with
          | some es' => some (.tup [z, .int .i64 es.1], ⟨H.next, H.gs, H.ms.set g es'⟩)
          | none => none
        | none => none
      | none => none) else none
  | _ => none
def mseteY (b : Int) (x : AV) (H : AH) : AV → Option (AV × AH)
  | .mapp g => match H.ms.get g with
      | some es => match mstamp b x es.2 with
        | some es' => some (.und, ⟨H.next, H.gs, H.ms.set g (es.1, es')⟩)
        | none => none
      | none => none
  | _ => none
def mop (m : MOp) (xs : List AV) (H : AH) : Option (AV × AH) :=
  match m with
  | .make => match xs with | [] => mmakeY H | _ => none
  | .get kk z ok => match xs with | [m, k] => mgetY kk z ok k H m | _ => none
  | .put kk => match xs with | [m, k, x] => mputY kk k x H m | _ => none
  | .len => match xs with | [m] => mlenY H m | _ => none
  | .del kk => match xs with | [m, k] => mdelY kk k H m | _ => none
  | .entry kk z => match xs with | [m, k] => mentryY kk z k H m | _ => none
  | .sete => match xs with | [m, .int _ b, x] => mseteY b x H m | _ => none
  | .clr z zs => match xs with | [x] => clrY z zs H x | _ => none
  | .steq neg ks => match xs with | [x, y] => steqY neg ks H x y | _ => none
theorem HRel.kept {K : Kx} {G : Gh} {H : AH} {w w' : World} (h : HRel K G H w) (hb : Below w.heap.size w w') : HRel K G H w' :=
  ⟨h.below.trans (hb.mono h.hB), Nat.le_trans h.hB hb.size, fun b o v hv => by
    rw [← h.mem b o v hv]
    exact World.cell?_of_block (hb.block b (cell_lt (h.mem b o v hv))), h.ones, h.old, fun g r hr => by
      obtain ⟨b, o, n, cs, t, q⟩ := h.grp g r hr
      exact ⟨b, o, n, cs, t, q.mu, q.low, by rw [hb.block b (get_lt q.heap)]; exact q.heap, q.size, q.cell, q.free, q.kind⟩, h.apart, h.fresh, fun g es hg => by
      obtain ⟨b, l, c, q⟩ := h.maps g es hg
      exact ⟨b, l, c, q.mm, q.low, by rw [hb.block b (get_lt q.heap)]; exact q.heap, q.ents, q.clock⟩, h.mapart, h.mfresh, h.ages⟩
def Gh.putm (G : Gh) (g b : Nat) : Gh := ⟨G.M, G.mu, fun g' => if g' = g then some b else G.mm g'⟩
theorem Gh.putm_le {G : Gh} {g b : Nat} (h : G.mm g = none) : G.le (G.putm g b) :=
  ⟨fun _ _ _ h => h, fun _ _ _ h => h, fun g' x hx => by
    show (if _ then _ else _) = _
    by_cases hc : g' = g
    · rw [hc, h] at hx; cases hx
    · rw [if_neg hc]; exact hx⟩
theorem HRel.newMap {K : Kx} {G : Gh} {H : AH} {w : World} (h : HRel K G H w) {g nx : Nat} (hf : H.ms.get g = none) :
    HRel K (G.putm g w.heap.size) ⟨nx, H.gs, H.ms.set g (0, [])⟩ (w.alloc (.map #[] 0)) := by
  have hle := Gh.putm_le (b := w.heap.size) (h.mfresh g hf)
  have hb : Below w.heap.size w (w.alloc (.map #[] 0)) := Below.alloc (Below.refl _ _) (Nat.le_refl _) _
  have hs := h.kept hb
  have hne : ∀ {g' : Nat}, g' ≠ g → (G.putm g w.heap.size).mm g' = G.mm g' := fun {g'} hc => by show (if _ then _ else _) = _; rw [if_neg hc]
  have hsame : (G.putm g w.heap.size).mm g = some w.heap.size := by show (if _ then _ else _) = _; rw [if_pos rfl]
  refine ⟨hs.below, hs.hB, hs.mem, hs.ones, hs.old, ?_, hs.apart, hs.fresh, ?_, ?_, ?_, hs.ages⟩
  · intro g' r hr
    obtain ⟨b, o, n, c, t, q⟩ := hs.grp g' r hr
    exact ⟨b, o, n, c, t, q.mu, q.low, q.heap, q.size, fun i x hi => by obtain ⟨u, h1, h2, h3⟩ := q.cell i x hi; exact ⟨u, h1, VR.mono hle _ _ h2, h3⟩, q.free, q.kind⟩
  · intro g' es hg'
    have hg' : (H.ms.set g (0, [])).get g' = some es := hg'
    by_cases hc : g' = g
    · subst hc
      rw [Tr.get_set_same] at hg'
      cases hg'
      exact ⟨w.heap.size, #[], 0, hsame, h.hB, by show (w.heap.push _)[w.heap.size]? = _; simp, rfl, rfl⟩
    · rw [Tr.get_set_ne _ _ hc] at hg'
      obtain ⟨b, l, c, q⟩ := hs.maps g' es hg'
      exact ⟨b, l, c, by rw [hne hc]; exact q.mm, q.low, q.heap, q.ents.mono hle, q.clock⟩
  · intro g1 g2 e1 e2 b1 b2 k1 k2 k3 k4 k5
    have z1 : (H.ms.set g (0, [])).get g1 = some e1 := k1
    have z2 : (H.ms.set g (0, [])).get g2 = some e2 := k2
    clear k1 k2
    have old : ∀ {g' : Nat} {es : MapA} {b : Nat}, H.ms.get g' = some es → G.mm g' = some b → b < w.heap.size := fun {g' es b} hg hm => by
      obtain ⟨b', l, c, q⟩ := h.maps g' es hg
      rw [q.mm] at hm; cases hm
      exact get_lt q.heap
    by_cases c1 : g1 = g
    · have c2 : g2 ≠ g := fun c2 => k3 (c1.trans c2.symm)
      subst c1
      rw [hsame] at k4
      rw [Tr.get_set_ne _ _ c2] at z2
      rw [hne c2] at k5
      cases k4
      have := old z2 k5
      omega
    · rw [Tr.get_set_ne _ _ c1] at z1
      rw [hne c1] at k4
      by_cases c2 : g2 = g
      · subst c2
        rw [hsame] at k5
        cases k5
        have := old z1 k4
        omega
      · rw [Tr.get_set_ne _ _ c2] at z2
        rw [hne c2] at k5
        exact h.mapart g1 g2 e1 e2 b1 b2 z1 z2 k3 k4 k5
  · intro g' hg'
    have hg' : (H.ms.set g (0, [])).get g' = none := hg'
    by_cases hc : g' = g
    · subst hc; rw [Tr.get_set_same] at hg'; cases hg'
    · rw [Tr.get_set_ne _ _ hc] at hg'
      rw [hne hc]; exact h.mfresh g' hg'
theorem HRel.setMap {K : Kx} {G : Gh} {H : AH} {w : World} (h : HRel K G H w) {g : Nat} {es es' : MapA} {b c c' : Nat} {l l' : Array MapEntry} (hg : H.ms.get g = some es) (q : MapAt K G w g es b l c) (he : ERel G es'.2 l'.toList) (hc : c' = es'.1) :
    HRel K G ⟨H.next, H.gs, H.ms.set g es'⟩ { w with heap := w.heap.setIfInBounds b (.map l' c') } := by
  obtain ⟨k1, k2⟩ := MapKept.heap_set (o' := .map l' c') q.heap
  have hsz : (w.heap.setIfInBounds b (.map l' c')).size = w.heap.size := by simp
  have hcell : ∀ b' o v, w.cell? ⟨b', o, none⟩ = some v → b' ≠ b := fun b' o v hv hb => by
    subst hb
    simp [World.cell?, q.heap] at hv
  refine ⟨h.below.trans ⟨rfl, rfl, rfl, by show w.heap.size ≤ (w.heap.setIfInBounds b _).size; rw [hsz]; exact Nat.le_refl _, fun k hk => k2 k (by have := q.low; omega)⟩, by show K.B ≤ (w.heap.setIfInBounds b _).size; rw [hsz]; exact h.hB, ?_, h.ones, h.old, ?_, h.apart, h.fresh, ?_, ?_, ?_, h.ages⟩
  · intro b' o v hv
    have hm := h.mem b' o v hv
    rw [World.cell?_of_block (w := w) (k2 b' (hcell b' o v hm))]; exact hm
  · intro g' r hr
    obtain ⟨b1, o, n, cs, t, q1⟩ := h.grp g' r hr
    have hne : b1 ≠ b := fun hb => by have := q1.heap; rw [hb, q.heap] at this; cases this
    exact ⟨b1, o, n, cs, t, q1.mu, q1.low, (k2 b1 hne).trans q1.heap, q1.size, q1.cell, q1.free, q1.kind⟩
  · intro g' fs hg'
    have hg' : (H.ms.set g es').get g' = some fs := hg'
    by_cases hc : g' = g
    · subst hc
      rw [Tr.get_set_same] at hg'
      cases hg'
      exact ⟨b, l', c', q.mm, q.low, k1, he, hc⟩
    · rw [Tr.get_set_ne _ _ hc] at hg'
      obtain ⟨b1, l1, c1, q1⟩ := h.maps g' fs hg'
      have hne : b1 ≠ b := h.mapart g' g fs es b1 b hg' hg hc q1.mm q.mm
      exact ⟨b1, l1, c1, q1.mm, q1.low, (k2 b1 hne).trans q1.heap, q1.ents, q1.clock⟩
  · intro g1 g2 e1 e2 b1 b2 k1' k2' k3 k4 k5
    have back : ∀ g' fs, (H.ms.set g es').get g' = some fs → ∃ fs', H.ms.get g' = some fs' := fun g' fs hx => by
      by_cases hc : g' = g
      · exact ⟨es, by rw [hc]; exact hg⟩
      · rw [Tr.get_set_ne _ _ hc] at hx; exact ⟨fs, hx⟩
    obtain ⟨f1, j1⟩ := back g1 e1 k1'
    obtain ⟨f2, j2⟩ := back g2 e2 k2'
    exact h.mapart g1 g2 f1 f2 b1 b2 j1 j2 k3 k4 k5
  · intro g' hg'
    have hg' : (H.ms.set g es').get g' = none := hg'
    by_cases hc : g' = g
    · subst hc; rw [Tr.get_set_same] at hg'; cases hg'
    · rw [Tr.get_set_ne _ _ hc] at hg'
      exact h.mfresh g' hg'
theorem mcmp_ok {P : Program} {kt : TypeId} {G : Gh} {kk : MK} {k k' : AV} {v v' : Value} {b : Bool} (hK : KOK P kt kk) (hk : mkey kk k = true) (h : mcmp k k' = some b) (h1 : VR G k v) (h2 : VR G k' v') : kk.same v v' = some b ∧ (b = true → v' = v) := by
  by_cases hs : kk.simple = true
  · exact mcmp_simple hs hk h h1 h2
  · cases kk <;> try (exact absurd rfl hs)
    rename_i a c
    obtain ⟨x, y, u1, u2, rfl, rfl, k1, k2, v1, v2⟩ := pair_two hk h1
    obtain ⟨f, g, -, -, -, -, -, -, s1, s2, -, -⟩ := hK
    unfold mcmp at h
    split at h <;> try (cases h; done)
    all_goals (rename_i e1; try (cases e1; done))
    rename_i x0 y0 x' y' 
    cases e1
    simp only [VR] at h2
    obtain ⟨us, rfl, hus⟩ := h2
    simp only [VRs] at hus
    obtain ⟨w1, t1, e2, q1, w2, t2, e3, q2, e4⟩ := hus
    subst e4
    subst e3
    have hu : us = #[w1, w2] := by cases us with | mk l => simp at e2; subst e2; rfl
    subst hu
    have same2 : (MK.pair a c).same (.agg #[u1, u2]) (.agg #[w1, w2]) = match a.same u1 w1 with | some true => c.same u2 w2 | r => r := rfl
    cases h3 : mcmp x x' with
    | none => rw [h3] at h; cases h
    | some b1 =>
      rw [h3] at h
      obtain ⟨p1, p2⟩ := mcmp_simple s1 k1 h3 v1 q1
      cases b1 with
      | false => cases h; exact ⟨by rw [same2, p1], fun hb => by cases hb⟩
      | true =>
        obtain ⟨p3, p4⟩ := mcmp_simple s2 k2 h v2 q2
        refine ⟨by rw [same2, p1]; exact p3, fun hb => by rw [p2 rfl, p4 hb]⟩
theorem mfind_ok {P : Program} {kt : TypeId} {G : Gh} {kk : MK} {k : AV} {v : Value} (hK : KOK P kt kk) (hk : mkey kk k = true) (hv : VR G k v) : ∀ {es : List (Nat × AV × AV)} {l : List MapEntry} {r : Option (Nat × AV)}, ERel G es l → mfind k es = some r → ∀ i,
    (r = none ∧ findS kk.same v l i = some none) ∨ ∃ x j e, r = some x ∧ findS kk.same v l i = some (some (i + j, e.val)) ∧ VR G x.2 e.val ∧ l[j]? = some e ∧ e.born = x.1 ∧ e.key = v
  | [], l, r, he, h, i => by
    simp only [ERel] at he
    subst he
    simp only [mfind] at h
    cases h
    exact .inl ⟨rfl, rfl⟩
  | (n, k', x) :: es, l, r, he, h, i => by
    simp only [ERel] at he
    obtain ⟨e, l', rfl, h0, h1, h2, h3⟩ := he
    simp only [mfind] at h
    split at h
    · rename_i hc
      cases h
      have := mcmp_ok hK hk hc hv h1
      exact .inr ⟨(n, x), 0, e, rfl, by simp [findS, this.1], h2, by simp, h0, this.2 rfl⟩
    · rename_i hc
      have := (mcmp_ok hK hk hc hv h1).1
      rcases mfind_ok hK hk hv h3 h (i + 1) with ⟨a, b⟩ | ⟨y, j, u, a, b, c, d, d2, d3⟩
      · exact .inl ⟨a, by simp [findS, this, b]⟩
      · exact .inr ⟨y, j + 1, u, a, by simp [findS, this, b]; omega, c, by simpa using d, d2, d3⟩
    · cases h
theorem mset_ok {P : Program} {kt : TypeId} {G : Gh} {kk : MK} {k x : AV} {v u : Value} {c : Nat} (hK : KOK P kt kk) (hk : mkey kk k = true) (hv : VR G k v) (hu : VR G x u) : ∀ {es : List (Nat × AV × AV)} {es' : MapA} {l : List MapEntry}, ERel G es l → mset k x c es = some es' → ∀ i,
    (findS kk.same v l i = some none ∧ ERel G es'.2 (l ++ [{ key := v, val := u, born := c }]) ∧ es'.1 = c + 1) ∨ ∃ j y e, findS kk.same v l i = some (some (i + j, y)) ∧ l[j]? = some e ∧ e.key = v ∧ ERel G es'.2 (l.modify j fun e => { e with key := v, val := u }) ∧ es'.1 = c
  | [], es', l, he, h, i => by
    simp only [ERel] at he
    subst he
    simp only [mset] at h
    cases h
    exact .inl ⟨rfl, ⟨_, _, rfl, rfl, hv, hu, rfl⟩, rfl⟩
  | (n, k', y) :: es, es', l, he, h, i => by
    simp only [ERel] at he
    obtain ⟨e, l', rfl, h0, h1, h2, h3⟩ := he
    simp only [mset] at h
    split at h
    · rename_i hc
      cases h
      obtain ⟨q1, q2⟩ := mcmp_ok hK hk hc hv h1
      exact .inr ⟨0, e.val, e, by simp [findS, q1], by simp, q2 rfl, ⟨_, _, rfl, h0, hv, hu, h3⟩, rfl⟩
    · rename_i hc
      have := (mcmp_ok hK hk hc hv h1).1
      split at h
      · rename_i c2 es2 h4
        cases h
        rcases mset_ok hK hk hv hu h3 h4 (i + 1) with ⟨a, b, b2⟩ | ⟨j, y', e', a, b, c, d, d2⟩
        · exact .inl ⟨by simp [findS, this, a], ⟨e, _, rfl, h0, h1, h2, b⟩, b2⟩
        · exact .inr ⟨j + 1, y', e', by simp [findS, this, a]; omega, by simpa using b, c, ⟨e, _, rfl, h0, h1, h2, d⟩, d2⟩
      · cases h
    · cases h
theorem mcut_ok {P : Program} {kt : TypeId} {G : Gh} {kk : MK} {k : AV} {v : Value} (hK : KOK P kt kk) (hk : mkey kk k = true) (hv : VR G k v) : ∀ {es es' : List (Nat × AV × AV)} {l : List MapEntry}, ERel G es l → mcut k es = some es' → ∀ i,
    (findS kk.same v l i = some none ∧ ERel G es' l) ∨ ∃ j y, findS kk.same v l i = some (some (i + j, y)) ∧ ERel G es' (l.eraseIdx j)
  | [], es', l, he, h, i => by
    simp only [ERel] at he
    subst he
    simp only [mcut] at h
    cases h
    exact .inl ⟨rfl, rfl⟩
  | (n, k', y) :: es, es', l, he, h, i => by
    simp only [ERel] at he
    obtain ⟨e, l', rfl, h0, h1, h2, h3⟩ := he
    simp only [mcut] at h
    split at h
    · rename_i hc
      cases h
      obtain ⟨q1, q2⟩ := mcmp_ok hK hk hc hv h1
      exact .inr ⟨0, e.val, by simp [findS, q1], by simpa using h3⟩
    · rename_i hc
      have := (mcmp_ok hK hk hc hv h1).1
      split at h
      · rename_i es2 h4
        cases h
        rcases mcut_ok hK hk hv h3 h4 (i + 1) with ⟨a, b⟩ | ⟨j, y', a, d⟩
        · exact .inl ⟨by simp [findS, this, a], ⟨e, _, rfl, h0, h1, h2, b⟩⟩
        · exact .inr ⟨j + 1, y', by simp [findS, this, a]; omega, ⟨e, _, rfl, h0, h1, h2, d⟩⟩
      · cases h
    · cases h
theorem mstamp_ok {G : Gh} {x : AV} {u : Value} {b : Int} (hu : VR G x u) : ∀ {es es' : List (Nat × AV × AV)} {l : List MapEntry}, ERel G es l → mstamp b x es = some es' →
    ∃ j, l.findIdx? (fun e => (e.born : Int) == b) = some j ∧ ERel G es' (l.modify j fun e => { e with val := u })
  | [], es', l, he, h => by simp [mstamp] at h
  | (n, k, y) :: es, es', l, he, h => by
    simp only [ERel] at he
    obtain ⟨e, l', rfl, h0, h1, h2, h3⟩ := he
    simp only [mstamp] at h
    split at h
    · rename_i hc
      cases h
      exact ⟨0, by simp [List.findIdx?_cons, h0, hc], ⟨_, _, rfl, h0, h1, hu, h3⟩⟩
    · rename_i hc
      split at h
      · rename_i es2 h4
        cases h
        obtain ⟨j, a, d⟩ := mstamp_ok hu h3 h4
        exact ⟨j + 1, by simp [List.findIdx?_cons, h0, hc, a], ⟨e, _, rfl, h0, h1, h2, d⟩⟩
      · cases h
theorem mres_ok {G : Gh} {ok b : Bool} {x : AV} {u : Value} (h : VR G x u) : VR G (mres ok x b) (if ok = true then .tuple #[u, .bool b] else u) := by
  cases ok
  · simpa [mres] using h
  · simp only [mres, cond_true, if_true, VR]
    exact ⟨_, rfl, by simp only [VRs]; exact ⟨_, _, rfl, h, _, _, rfl, rfl, rfl⟩⟩
theorem mmake_ok {P : Program} {K : Kx} {G : Gh} {H H' : AH} {w : World} (h : HRel K G H w) {x : AV} {t : TypeId} (hb : mmakeY H = some (x, H')) :
    ∃ u w' G', (Instr.makeMap t none).run P w = .ok u w' ∧ G.le G' ∧ HRel K G' H' w' ∧ VR G' x u := by
  unfold mmakeY at hb
  split at hb
  · rename_i hf
    cases hb
    refine ⟨_, _, _, run_makeMap t w, Gh.putm_le (h.mfresh _ hf), h.newMap hf, ?_⟩
    simp only [VR]
    exact ⟨_, by show (if _ then _ else _) = _; rw [if_pos rfl], rfl⟩
  · cases hb
theorem mget_ok {P : Program} {K : Kx} {G : Gh} {H H' : AH} {w : World} (h : HRel K G H w) {t kt et : TypeId} {kk : MK} {z m k x : AV} {vm vk : Value} {ok : Bool} (hu : P.underlying t = some (.map kt et)) (hk : KOK P kt kk) (hz : zeroA P et = some z)
    (h1 : VR G m vm) (h2 : VR G k vk) (hb : mgetY kk z ok k H m = some (x, H')) : H' = H ∧ ∃ u, (Instr.lookup t vm vk ok).run P w = .ok u w ∧ VR G x u := by
  obtain ⟨zv, i, -, -, hzr, hzv⟩ := zeroA_ok (G := G) hz w
  unfold mgetY at hb
  split at hb
  · cases hkk : mkey kk k with
    | false => rw [hkk] at hb; cases hb
    | true =>
      rw [hkk] at hb
      cases hb
      simp only [VR] at h1
      subst h1
      have c1 := hk.check hkk h2 w true
      have c2 : (Instr.findKey kt vk (#[] : Array MapEntry).toList).run P w = .ok none w := hk.find w rfl
      refine ⟨rfl, _, ?_, mres_ok hzv⟩
      simp [Instr.lookup, run_underlying hu, c1, c2, hzr]
      all_goals (cases ok <;> rfl)
  · rename_i g
    cases hkk : mkey kk k with
    | false => rw [hkk] at hb; cases hb
    | true =>
      rw [hkk] at hb
      simp only [cond_true] at hb
      simp only [VR] at h1
      obtain ⟨b, hmm, rfl⟩ := h1
      split at hb
      · rename_i es hes
        obtain ⟨b', l, c, q⟩ := h.maps _ es hes
        rw [q.mm] at hmm
        cases hmm
        have c1 := fun e => hk.check hkk h2 w e
        have c0 := MapKept.run_getObj_map (P := P) q.heap
        split at hb
        · rename_i y hf
          cases hb
          rcases mfind_ok hk hkk h2 q.ents hf 0 with ⟨a, -⟩ | ⟨y', j, u, a, b2, c2, -, -, -⟩
          · cases a
          · cases a
            have c3 : (Instr.findKey kt vk l.toList).run P w = .ok (some (0 + j, u.val)) w := hk.find w b2
            refine ⟨rfl, _, ?_, mres_ok c2⟩
            simp [Instr.lookup, run_underlying hu, c0, c1, c3]
            all_goals (cases ok <;> rfl)
        · rename_i hf
          cases hb
          rcases mfind_ok hk hkk h2 q.ents hf 0 with ⟨-, b2⟩ | ⟨y', j, u, a, -, -, -, -, -⟩
          · have c3 : (Instr.findKey kt vk l.toList).run P w = .ok none w := hk.find w b2
            refine ⟨rfl, _, ?_, mres_ok hzv⟩
            simp [Instr.lookup, run_underlying hu, c0, c1, c3, hzr]
            all_goals (cases ok <;> rfl)
          · cases a
        · cases hb
      · cases hb
  · cases hb
theorem mput_ok {P : Program} {K : Kx} {G : Gh} {H H' : AH} {w : World} (h : HRel K G H w) {t kt et : TypeId} {kk : MK} {m k x y : AV} {vm vk vx : Value} (hu : P.underlying t = some (.map kt et)) (hk : KOK P kt kk)
    (h1 : VR G m vm) (h2 : VR G k vk) (h3 : VR G x vx) (hb : mputY kk k x H m = some (y, H')) : y = .und ∧ ∃ w', (Instr.mapUpdate t vm vk vx).run P w = .ok () w' ∧ HRel K G H' w' := by
  unfold mputY at hb
  split at hb <;> try (cases hb; done)
  rename_i g
  cases hkk : mkey kk k with
  | false => rw [hkk] at hb; cases hb
  | true =>
    rw [hkk] at hb
    simp only [cond_true] at hb
    simp only [VR] at h1
    obtain ⟨b, hmm, rfl⟩ := h1
    split at hb
    · rename_i es hes
      obtain ⟨b', l, c, q⟩ := h.maps _ es hes
      rw [q.mm] at hmm
      cases hmm
      have c1 := hk.check hkk h2 w false
      have c0 := MapKept.run_getObj_map (P := P) q.heap
      split at hb
      · rename_i es' hs
        cases hb
        refine ⟨rfl, ?_⟩
        rcases mset_ok hk hkk h2 h3 q.ents hs 0 with ⟨a, a2, a5⟩ | ⟨j, y', e, a, a2, a3, a4, a5⟩
        · have c3 : (Instr.findKey kt vk l.toList).run P w = .ok none w := hk.find w a
          have c4 := MapKept.run_setObj_map (P := P) (.map (l.push { key := vk, val := vx, born := c }) (c + 1)) q.heap
          refine ⟨_, ?_, h.setMap hes q (l' := l.push { key := vk, val := vx, born := c }) (c' := c + 1) (by rw [q.clock]; simpa using a2) (by rw [a5, q.clock])⟩
          simp [Instr.mapUpdate, run_underlying hu, c0, c1, c3, c4]
        · have c3 : (Instr.findKey kt vk l.toList).run P w = .ok (some (0 + j, y')) w := hk.find w a
          have c4 := MapKept.run_setObj_map (P := P) (.map (l.modify j fun e => { e with key := vk, val := vx }) c) q.heap
          have c5 : ((l[j]?).map (·.key)).getD vk = vk := by
            rw [← Array.getElem?_toList, a2]; exact a3
          have c6 : (Instr.keyThatStays vk vk).run P w = .ok vk w := hk.stays hkk h2 w
          refine ⟨_, ?_, h.setMap hes q (l' := l.modify j fun e => { e with key := vk, val := vx }) (c' := c) (by rw [Array.toList_modify]; exact a4) (by rw [a5, q.clock])⟩
          simp [Instr.mapUpdate, run_underlying hu, c0, c1, c3]
          rw [c5]
          simp [c6, c4]
      · cases hb
    · cases hb
theorem ERel.len {G : Gh} : ∀ {es : List (Nat × AV × AV)} {l : List MapEntry}, ERel G es l → l.length = es.length
  | [], l, h => by simp only [ERel] at h; subst h; rfl
  | (n, k, x) :: es, l, h => by
    simp only [ERel] at h
    obtain ⟨e, l', rfl, -, -, -, h3⟩ := h
    simp [ERel.len h3]
theorem mlen_ok {P : Program} {K : Kx} {G : Gh} {H H' : AH} {w : World} (h : HRel K G H w) {t kt et : TypeId} {m y : AV} {vm : Value} (ty : TypeId) (hu : P.underlying t = some (.map kt et))
    (h1 : VR G m vm) (hb : mlenY H m = some (y, H')) : H' = H ∧ ∃ u, (Builtin.len_ #[t] ty #[vm]).run P w = .ok u w ∧ VR G y u := by
  unfold mlenY at hb
  split at hb
  · cases hb
    simp only [VR] at h1
    subst h1
    exact ⟨rfl, goInt 0, by simp [Builtin.len_, run_underlying hu], by simp [VR, goInt]⟩
  · rename_i g
    simp only [VR] at h1
    obtain ⟨b, hmm, rfl⟩ := h1
    split at hb
    · rename_i es hes
      cases hb
      obtain ⟨b', l, c, q⟩ := h.maps _ es hes
      rw [q.mm] at hmm
      cases hmm
      have c0 := MapKept.run_getObj_map (P := P) q.heap
      have hl := q.ents.len
      refine ⟨rfl, goInt l.size, by simp [Builtin.len_, run_underlying hu, c0], ?_⟩
      simp only [VR, goInt]
      rw [← hl]; simp
    · cases hb
  · cases hb
theorem mdel_ok {P : Program} {K : Kx} {G : Gh} {H H' : AH} {w : World} (h : HRel K G H w) {t kt et : TypeId} {kk : MK} {m k y : AV} {vm vk : Value} (ts : Array TypeId) (ht : ts[0]? = some t) (ty : TypeId) (hu : P.underlying t = some (.map kt et)) (hk : KOK P kt kk)
    (h1 : VR G m vm) (h2 : VR G k vk) (hb : mdelY kk k H m = some (y, H')) : ∃ u w', (Builtin.delete_ ts ty #[vm, vk]).run P w = .ok u w' ∧ HRel K G H' w' ∧ VR G y u := by
  unfold mdelY at hb
  split at hb
  · cases hkk : mkey kk k with
    | false => rw [hkk] at hb; cases hb
    | true =>
      rw [hkk] at hb
      cases hb
      simp only [VR] at h1
      subst h1
      have c1 := hk.check hkk h2 w true
      exact ⟨.tuple #[], w, by simp [Builtin.delete_, ht, run_underlying hu, c1], h, by simp [VR, VRs]⟩
  · rename_i g
    cases hkk : mkey kk k with
    | false => rw [hkk] at hb; cases hb
    | true =>
      rw [hkk] at hb
      simp only [cond_true] at hb
      simp only [VR] at h1
      obtain ⟨b, hmm, rfl⟩ := h1
      split at hb
      · rename_i es hes
        obtain ⟨b', l, c, q⟩ := h.maps _ es hes
        rw [q.mm] at hmm
        cases hmm
        have c1 := fun e => hk.check hkk h2 w e
        have c0 := MapKept.run_getObj_map (P := P) q.heap
        split at hb
        · rename_i es' hs
          cases hb
          rcases mcut_ok hk hkk h2 q.ents hs 0 with ⟨a, a2⟩ | ⟨j, y', a, a2⟩
          · have c3 : (Instr.findKey kt vk l.toList).run P w = .ok none w := hk.find w a
            have c4 := MapKept.run_setObj_map (P := P) (.map l c) q.heap
            exact ⟨.tuple #[], _, by simp [Builtin.delete_, ht, run_underlying hu, c0, c1, c3, c4], h.setMap hes q (l' := l) (c' := c) a2 q.clock, by simp [VR, VRs]⟩
          · have c3 : (Instr.findKey kt vk l.toList).run P w = .ok (some (0 + j, y')) w := hk.find w a
            have c4 := MapKept.run_setObj_map (P := P) (.map (l.eraseIdxIfInBounds j) c) q.heap
            have c5 : (l.eraseIdxIfInBounds j).toList = l.toList.eraseIdx j := by
              unfold Array.eraseIdxIfInBounds
              split
              · simp
              · rename_i hh; rw [List.eraseIdx_of_length_le]; simp at hh; simpa using hh
            rw [Nat.zero_add] at c3
            exact ⟨.tuple #[], _, by simp [Builtin.delete_, ht, run_underlying hu, c0, c1, c3, c4], h.setMap hes q (l' := l.eraseIdxIfInBounds j) (c' := c) (by rw [c5]; exact a2) q.clock, by simp [VR, VRs]⟩
        · cases hb
      · cases hb
  · cases hb
theorem HRel.meq {K : Kx} {G : Gh} {H : AH} {ms : Tr MapA} {w : World} (h : HRel K G ⟨H.next, H.gs, ms⟩ w) (he : ∀ g, H.ms.get g = ms.get g) : HRel K G H w :=
  ⟨h.below, h.hB, h.mem, h.ones, h.old, h.grp, h.apart, h.fresh, fun g es hg => h.maps g es (by rw [← he]; exact hg), fun g g' es es' b b' k1 k2 => h.mapart g g' es es' b b' (by rw [← he]; exact k1) (by rw [← he]; exact k2), fun g hg => h.mfresh g (by rw [← he]; exact hg), h.ages⟩
theorem modify_key {l : List MapEntry} {j : Nat} {e : MapEntry} {v : Value} (h : l[j]? = some e) (hk : e.key = v) : (l.modify j fun e => { e with key := v }) = l := by
  apply List.ext_getElem?
  intro i
  rw [List.getElem?_modify]
  by_cases hi : j = i
  · subst hi
    rw [h]
    subst hk
    simp
  · simp [hi]
theorem mentry_ok {P : Program} {K : Kx} {G : Gh} {H H' : AH} {w : World} (h : HRel K G H w) {t kt et : TypeId} {kk : MK} {m k z y : AV} {vm vk : Value} (hu : P.underlying t = some (.map kt et)) (hk : KOK P kt kk) (hz : zeroA P et = some z)
    (h1 : VR G m vm) (h2 : VR G k vk) (hb : mentryY kk z k H m = some (y, H')) : ∃ u w', (Instr.mapEntry t vm vk).run P w = .ok u w' ∧ HRel K G H' w' ∧ VR G y u := by
  obtain ⟨zv, i, -, -, hzr, hzv⟩ := zeroA_ok (G := G) hz w
  unfold mentryY at hb
  split at hb <;> try (cases hb; done)
  rename_i g
  cases hkk : mkey kk k with
  | false => rw [hkk] at hb; cases hb
  | true =>
    rw [hkk] at hb
    simp only [cond_true] at hb
    simp only [VR] at h1
    obtain ⟨b, hmm, rfl⟩ := h1
    split at hb
    · rename_i es hes
      obtain ⟨b', l, c, q⟩ := h.maps _ es hes
      rw [q.mm] at hmm
      cases hmm
      have c1 := hk.check hkk h2 w false
      have c0 := MapKept.run_getObj_map (P := P) q.heap
      split at hb
      · rename_i y' hf
        cases hb
        rcases mfind_ok hk hkk h2 q.ents hf 0 with ⟨a, -⟩ | ⟨x', j, e, a, b2, c2, d1, d2, d3⟩
        · cases a
        · cases a
          rw [Nat.zero_add] at b2
          have c3 : (Instr.findKey kt vk l.toList).run P w = .ok (some (j, e.val)) w := hk.find w b2
          have hj : l[j]? = some e := by rw [← Array.getElem?_toList]; exact d1
          have c4 := MapKept.run_setObj_map (P := P) (.map (l.modify j fun e => { e with key := vk }) c) q.heap
          have c6 : (Instr.keyThatStays vk vk).run P w = .ok vk w := hk.stays hkk h2 w
          have hsame : l.modify j (fun e => { e with key := vk }) = l := by
            apply Array.toList_inj.1
            rw [Array.toList_modify]; exact modify_key d1 d3
          have hset : HRel K G H { w with heap := w.heap.setIfInBounds b (.map (l.modify j fun e => { e with key := vk }) c) } := by
            have := h.setMap hes q (es' := es) (l' := l.modify j fun e => { e with key := vk }) (c' := c) (by rw [hsame]; exact q.ents) q.clock
            refine this.meq fun g' => ?_
            show H.ms.get g' = (H.ms.set g es).get g'
            by_cases hg : g' = g
            · subst hg; rw [Tr.get_set_same]; exact hes
            · rw [Tr.get_set_ne _ _ hg]
          refine ⟨.tuple #[e.val, goInt e.born], _, ?_, hset, ?_⟩
          · simp [Instr.mapEntry, run_underlying hu, c0, c1, c3, hj, d3, c6, c4]
          · simp only [VR]
            exact ⟨_, rfl, by simp only [VRs, VR]; exact ⟨_, _, rfl, c2, _, _, rfl, by rw [d2]; rfl, rfl⟩⟩
      · rename_i hf
        split at hb
        · rename_i es' hs
          cases hb
          rcases mfind_ok hk hkk h2 q.ents hf 0 with ⟨-, b2⟩ | ⟨y', j, u, a, -, -, -, -, -⟩
          · have c3 : (Instr.findKey kt vk l.toList).run P w = .ok none w := hk.find w b2
            rcases mset_ok hk hkk h2 hzv q.ents hs 0 with ⟨a, a2, a5⟩ | ⟨j, y', e, a, -, -, -, -⟩
            · have c4 := MapKept.run_setObj_map (P := P) (.map (l.push { key := vk, val := zv, born := c }) (c + 1)) q.heap
              refine ⟨.tuple #[zv, goInt c], _, ?_, h.setMap hes q (l' := l.push { key := vk, val := zv, born := c }) (c' := c + 1) (by rw [q.clock]; simpa using a2) (by rw [a5, q.clock]), ?_⟩
              · simp [Instr.mapEntry, run_underlying hu, c0, c1, c3, hzr, c4]
              · simp only [VR]
                exact ⟨_, rfl, by simp only [VRs, VR]; exact ⟨_, _, rfl, hzv, _, _, rfl, by rw [q.clock]; rfl, rfl⟩⟩
            · rw [a] at b2; cases b2
          · cases a
        · cases hb
      · cases hb
    · cases hb
theorem msete_ok {P : Program} {K : Kx} {G : Gh} {H H' : AH} {w : World} (h : HRel K G H w) {t : TypeId} {m x y : AV} {kd : IntKind} {b : Int} {vm vx : Value}
    (h1 : VR G m vm) (h3 : VR G x vx) (hb : mseteY b x H m = some (y, H')) : y = .und ∧ ∃ w', (Instr.entryStore t vm (.int kd b) vx).run P w = .ok () w' ∧ HRel K G H' w' := by
  unfold mseteY at hb
  split at hb <;> try (cases hb; done)
  rename_i g
  simp only [VR] at h1
  obtain ⟨b', hmm, rfl⟩ := h1
  split at hb
  · rename_i es hes
    obtain ⟨b2, l, c, q⟩ := h.maps _ es hes
    rw [q.mm] at hmm
    cases hmm
    have c0 := MapKept.run_getObj_map (P := P) q.heap
    split at hb
    · rename_i es' hs
      cases hb
      obtain ⟨j, a, d⟩ := mstamp_ok h3 q.ents hs
      have c4 := MapKept.run_setObj_map (P := P) (.map (l.modify j fun e => { e with val := vx }) c) q.heap
      have hj : l.findIdx? (fun e => (e.born : Int) == b) = some j := by
        obtain ⟨l⟩ := l
        simpa using a
      refine ⟨rfl, _, ?_, h.setMap hes q (es' := (es.1, es')) (l' := l.modify j fun e => { e with val := vx }) (c' := c) (by rw [Array.toList_modify]; exact d) q.clock⟩
      simp [Instr.entryStore, c0, asInt, asIntOf, hj, c4]
    · cases hb
  · cases hb
end Go.Abs
namespace Go.Abs
open Go Go.RowKit
set_option linter.unusedVariables false
def aevs (T : Tr AV) : List Operand → Option (List AV)
  | [] => some []
  | o :: os => match aev T o, aevs T os with
    | some x, some xs => some (x :: xs)
    | _, _ => none
theorem aevs_ok {G : Gh} {nt : Nat} {T : Tr AV} {a : Act} (h : TRel G nt T a) : ∀ {os : List Operand} {xs : List AV}, aevs T os = some xs → VRs G xs (os.map a.eval)
  | [], xs, hx => by simp only [aevs] at hx; cases hx; simp [VRs]
  | o :: os, xs, hx => by
    simp only [aevs] at hx
    split at hx
    · rename_i x xs' h1 h2
      cases hx
      simp only [VRs, List.map_cons]
      exact ⟨_, _, rfl, aev_ok h h1, aevs_ok h h2⟩
    · cases hx
def aparts (T : Tr AV) : List (Nat × Operand) → Option (List (Nat × AV))
  | [] => some []
  | (i, o) :: os => match aev T o, aparts T os with
    | some x, some xs => some ((i, x) :: xs)
    | _, _ => none
theorem aparts_ok {G : Gh} {nt : Nat} {T : Tr AV} {a : Act} (h : TRel G nt T a) : ∀ {os : List (Nat × Operand)} {xs : List (Nat × AV)}, aparts T os = some xs →
    xs.length = os.length ∧ ∀ (j : Nat) p, xs[j]? = some p → ∃ v, (os.map fun (i, x) => (i, a.eval x))[j]? = some (p.1, v) ∧ VR G p.2 v
  | [], xs, hx => by simp only [aparts] at hx; cases hx; exact ⟨rfl, fun j p hj => by simp at hj⟩
  | (i, o) :: os, xs, hx => by
    simp only [aparts] at hx
    split at hx
    · rename_i x xs' h1 h2
      cases hx
      obtain ⟨q1, q2⟩ := aparts_ok h h2
      refine ⟨by simp [q1], fun j p hj => ?_⟩
      cases j with
      | zero => simp at hj; subst hj; exact ⟨a.eval o, by simp, aev_ok h h1⟩
      | succ j => simp at hj; simpa using q2 j p hj
    · cases hx
theorem aparts_arr {G : Gh} {nt : Nat} {T : Tr AV} {a : Act} (h : TRel G nt T a) {os : Array (Nat × Operand)} {xs : List (Nat × AV)} (hx : aparts T os.toList = some xs) :
    ∃ ps : Array (Nat × Value), ps = (os.map fun (i, x) => (i, a.eval x)) ∧ xs.length = ps.size ∧ ∀ (j : Nat) p, xs[j]? = some p → ∃ v, ps[j]? = some (p.1, v) ∧ VR G p.2 v := by
  obtain ⟨q1, q2⟩ := aparts_ok h hx
  refine ⟨_, rfl, by simp [q1], fun j p hj => ?_⟩
  obtain ⟨v, hv, hr⟩ := q2 j p hj
  refine ⟨v, ?_, hr⟩
  rw [← Array.getElem?_toList, Array.toList_map]
  exact hv
def aevo (T : Tr AV) : Option Operand → Option (Option AV)
  | none => some none
  | some o => (aev T o).map some
theorem aevo_ok {G : Gh} {nt : Nat} {T : Tr AV} {a : Act} (h : TRel G nt T a) {o : Option Operand} {x : Option AV} (hx : aevo T o = some x) : VRo G x (o.map a.eval) := by
  cases o with
  | none => simp only [aevo] at hx; cases hx; rfl
  | some o =>
    simp only [aevo] at hx
    rw [Option.map_eq_some_iff] at hx
    obtain ⟨y, h1, rfl⟩ := hx
    exact ⟨_, rfl, aev_ok h h1⟩
/-- The lesser or the greater of two. -/
def amm (mx : Bool) : List AV → Option AV
  | [.int k a, .int _ b] => some (.int k (if mx then (if b > a then b else a) else (if b < a then b else a)))
  | _ => none
/-- A map's kind of key, and what its values are. -/
def amapK (P : Program) (t : TypeId) : Option (MK × TypeId) :=
  match P.underlying t with
  | some (.map kt et) => match keyK P kt with
    | some kk => some (kk, et)
    | none => none
  | _ => none
theorem amapK_ok {P : Program} {t et : TypeId} {kk : MK} (h : amapK P t = some (kk, et)) : ∃ kt, P.underlying t = some (.map kt et) ∧ KOK P kt kk := by
  unfold amapK at h
  split at h
  · rename_i kt et' h1
    split at h
    · rename_i kk' h2
      cases h
      exact ⟨kt, h1, keyK_ok h2⟩
    · cases h
  · cases h
def isMap : Option TypeDesc → Bool
  | some (.map _ _) => true
  | _ => false
theorem isMap_ok {d : Option TypeDesc} (h : isMap d = true) : ∃ kt et, d = some (.map kt et) := by
  unfold isMap at h
  split at h
  · exact ⟨_, _, rfl⟩
  · cases h
def amget (P : Program) (t : TypeId) (ok : Bool) (m k : AV) (H : AH) : Option (AV × AH) :=
  match amapK P t with
  | some (kk, et) => match zeroA P et with
    | some z => mgetY kk z ok k H m
    | none => none
  | none => none
def amput (P : Program) (t : TypeId) (m k x : AV) (H : AH) : Option (AV × AH) :=
  match amapK P t with
  | some (kk, _) => mputY kk k x H m
  | none => none
def amentry (P : Program) (t : TypeId) (m k : AV) (H : AH) : Option (AV × AH) :=
  match amapK P t with
  | some (kk, et) => match zeroA P et with
    | some z => mentryY kk z k H m
    | none => none
  | none => none
def amsete (m s x : AV) (H : AH) : Option (AV × AH) :=
  match s with
  | .int _ b => mseteY b x H m
  | _ => none
def amdel (P : Program) (t : TypeId) (m k : AV) (H : AH) : Option (AV × AH) :=
  match amapK P t with
  | some (kk, _) => mdelY kk k H m
  | none => none
def amclr (P : Program) (t : TypeId) (x : AV) (H : AH) : Option (AV × AH) :=
  match P.underlying t with
  | some (.slice e) => match zeroA P e with
    | some zv => if zv.fit = true ∧ zv.cells.length = P.cellsOf e then clrY (P.cellsOf e) zv.cells H x else none
    | none => none
  | _ => none
/-- A call of a builtin. -/
def abuiltin (P : Program) (T : Tr AV) (c : Call) (H : AH) : Option (AV × AH) :=
  match c.callee with
  | .builtin b =>
    match aevs T c.args.toList with
    | some vs =>
      match b, vs, c.argTypes.toList with
      | .len, [p], [t] => bif isMap (P.underlying t) then mlenY H p else (alen P t p).map (·, H)
      | .cap, [p], [t] => (acap P t p).map (·, H)
      | .delete, [p, q], t :: _ => amdel P t p q H
      | .clear, [p], [t] => amclr P t p H
      | .append, [p, q], [t, u] => if u = t then aappend P t p q H else aappendZ P t u p q H
      | .min, vs, _ => (amm false vs).map (·, H)
      | .max, vs, _ => (amm true vs).map (·, H)
      | _, _, _ => none
    | none => none
  | _ => none
/-- An operation that is no call of a function. -/
def aop (P : Program) (T : Tr AV) (op : Op) (H : AH) : Option (AV × AH) :=
  match op with
  | .move x => (aev T x).map (·, H)
  | .assign x => (aev T x).map (·, H)
  | .pick c a b => match aev T c with
    | some (.bool true) => (aev T a).map (·, H)
    | some (.bool false) => (aev T b).map (·, H)
    | _ => none
  | .alloc e => (zeroA P e).bind fun z => abox H z
  | .box _ x => (aev T x).bind fun z => abox H z
  | .build t parts => (aparts T parts.toList).bind fun ps => (abuild P t ps).map (·, H)
  | .buildSlice t len parts => (aparts T parts.toList).bind fun ps => abuildSliceE P t len ps H
  | .makeInterface t x => (aev T x).bind fun p => (amkiface P t p).map (·, H)
  | .makeSlice t l c => (aev T l).bind fun p => (aev T c).bind fun q => amkslice P t p q H
  | .load t x => (aev T x).bind fun p => (aload P H t p).map (·, H)
  | .store t x y => (aev T x).bind fun p => (aev T y).bind fun v => (astore P H t p v).map fun H' => (.und, H')
  | .nilCheck x => (aev T x).bind fun p => match p with
    | .ptr g e i => some (.ptr g e i, H)
    | .vptr r i => some (.vptr r i, H)
    | .fn (.func f) cap => some (.fn (.func f) cap, H)
    | _ => none
  | .binOp op t x y _ => (aev T x).bind fun p => (aev T y).bind fun q => (abinS P op t x y p q).map (·, H)
  | .unOp op _ x => (aev T x).bind fun p => (aun op p).map (·, H)
  | .convert s d x => (aev T x).bind fun p => aconvH P s d p H
  | .makeFunc fn first cap => if first.isEmpty then (aevs T cap.toList).map fun cs => (.fn fn cs, H) else none
  | .slice t x lo hi mx => (aev T x).bind fun p => (aevo T lo).bind fun l => (aevo T hi).bind fun h => (aevo T mx).bind fun m => (aslice P t p l h m).map (·, H)
  | .fieldAddr t x f => (aev T x).bind fun p => (afieldAddr P t p f).map (·, H)
  | .field t x f => (aev T x).bind fun p => (afield P t p f).map (·, H)
  | .indexAddr t x i => (aev T x).bind fun p => (aev T i).bind fun q => (aindexAddr P t p q).map (·, H)
  | .index t x i => (aev T x).bind fun p => (aev T i).bind fun q => (aindex P t p q).map (·, H)
  | .extract x i => (aev T x).bind fun p => match p with
    | .tup vs => (vs[i]?).map (·, H)
    | _ => none
  | .makeMap t r => match r with | none => mmakeY H | some _ => none
  | .lookup t x k ok => (aev T x).bind fun p => (aev T k).bind fun q => amget P t ok p q H
  | .mapUpdate t m k v => (aev T m).bind fun p => (aev T k).bind fun q => (aev T v).bind fun r => amput P t p q r H
  | .insert t m k v => (aev T m).bind fun p => (aev T k).bind fun q => (aev T v).bind fun r => amput P t p q r H
  | .mapEntry t m k => (aev T m).bind fun p => (aev T k).bind fun q => amentry P t p q H
  | .entryStore _ m s v => (aev T m).bind fun p => (aev T s).bind fun q => (aev T v).bind fun r => amsete p q r H
  | .call c => abuiltin P T c H
  | _ => none
/-- What an operation leaves. -/
def OpOK (P : Program) (K : Kx) (G : Gh) (H' : AH) (x : AV) (s : Sem Next) (w : World) : Prop :=
  ∃ nx w' G', s.run P w = .ok nx w' ∧ G.le G' ∧ HRel K G' H' w' ∧ ((∃ u, nx = .value u ∧ VR G' x u) ∨ (nx = .skip ∧ x = .und))
theorem OpOK.val {P : Program} {K : Kx} {G : Gh} {H : AH} {x : AV} {s : Sem Value} {w : World} (h : HRel K G H w) (hs : ∃ u, s.run P w = .ok u w ∧ VR G x u) :
    OpOK P K G H x (do pure (.value (← s))) w := by
  obtain ⟨u, h1, h2⟩ := hs
  exact ⟨.value u, w, G, by simp [h1], Gh.le.refl _, h, .inl ⟨u, rfl, h2⟩⟩
theorem OpOK.mem {P : Program} {K : Kx} {G : Gh} {H' : AH} {x : AV} {s : Sem Value} {w : World} (hs : ∃ u w' G', s.run P w = .ok u w' ∧ G.le G' ∧ HRel K G' H' w' ∧ VR G' x u) :
    OpOK P K G H' x (do pure (.value (← s))) w := by
  obtain ⟨u, w', G', h1, h2, h3, h4⟩ := hs
  exact ⟨.value u, w', G', by simp [h1], h2, h3, .inl ⟨u, rfl, h4⟩⟩
theorem VRs.one {G : Gh} {x : AV} {vs : List Value} (h : VRs G [x] vs) : ∃ u, vs = [u] ∧ VR G x u := by
  simp only [VRs] at h
  obtain ⟨u, us, rfl, h1, rfl⟩ := h
  exact ⟨u, rfl, h1⟩
theorem amm_ok {P : Program} {G : Gh} {mx : Bool} {xs : List AV} {x : AV} {vs : List Value} (h : amm mx xs = some x) (hv : VRs G xs vs) (ts : Array TypeId) (t : TypeId) (w : World) :
    ∃ u, ((if mx then Builtin.max_ ts t vs.toArray else Builtin.min_ ts t vs.toArray) : Sem Value).run P w = .ok u w ∧ VR G x u := by
  unfold amm at h
  split at h
  · rename_i k a k' b
    cases h
    simp only [VRs, VR] at hv
    obtain ⟨u, us, rfl, rfl, u', us', rfl, rfl, rfl⟩ := hv
    cases mx
    · exact ⟨_, by simp [Builtin.min_, Builtin.min2]; rfl, by simp [VR]⟩
    · exact ⟨_, by simp [Builtin.max_, Builtin.max2]; rfl, by simp [VR]⟩
  · cases h
theorem VRs.two {G : Gh} {x y : AV} {vs : List Value} (h : VRs G [x, y] vs) : ∃ u v, vs = [u, v] ∧ VR G x u ∧ VR G y v := by
  simp only [VRs] at h
  obtain ⟨u, us, rfl, h1, v, vs, rfl, h2, rfl⟩ := h
  exact ⟨u, v, rfl, h1, h2⟩
theorem abuiltin_ok {P : Program} {K : Kx} {G : Gh} {H H' : AH} {w : World} {nt : Nat} {T : Tr AV} {a : Act} {c : Call} {x : AV} (h : HRel K G H w) (ht : TRel G nt T a) (ha : abuiltin P T c H = some (x, H'))
    (dst : Option Tmp) (type : TypeId) (pos : String) (after : Array Edge) (guard : Option (Nat × Bool)) : OpOK P K G H' x (execOp a.eval ⟨dst, .call c, type, pos, after, guard⟩) w := by
  obtain ⟨callee, args, argTypes⟩ := c
  unfold abuiltin at ha
  simp only at ha
  cases callee with
  | value f => cases ha
  | invoke r n => cases ha
  | builtin b =>
    simp only at ha
    cases hvs : aevs T args.toList with
    | none => rw [hvs] at ha; cases ha
    | some vs =>
      rw [hvs] at ha
      simp only at ha
      have hv := aevs_ok ht hvs
      have hargs : args.map a.eval = (args.toList.map a.eval).toArray := by apply Array.ext'; simp
      have hexec : execOp a.eval ⟨dst, .call ⟨.builtin b, args, argTypes⟩, type, pos, after, guard⟩ = builtin b argTypes type (args.map fun | .const _ => true | _ => false) (args.map a.eval) := by
        simp only [execOp, resolve]
        rfl
      have hty : argTypes = argTypes.toList.toArray := by simp
      rw [hexec, hargs]
      split at ha
      · rename_i p t e1
        rw [hty, e1]
        obtain ⟨u, hu, hp⟩ := hv.one
        rw [hu]
        cases hm : isMap (P.underlying t) with
        | true =>
          rw [hm] at ha
          obtain ⟨kt, et, hd⟩ := isMap_ok hm
          obtain ⟨rfl, u', k1, k2⟩ := mlen_ok h type hd hp ha
          exact OpOK.val h ⟨u', k1, k2⟩
        | false =>
        rw [hm] at ha
        simp only [cond_false] at ha
        rw [Option.map_eq_some_iff] at ha
        obtain ⟨y, h3, h4⟩ := ha
        cases h4
        exact OpOK.val h (alen_ok (P := P) (ty := type) hp h3 w)
      · rename_i p t e1
        rw [hty, e1]
        obtain ⟨u, hu, hp⟩ := hv.one
        rw [hu]
        rw [Option.map_eq_some_iff] at ha
        obtain ⟨y, h3, h4⟩ := ha
        cases h4
        exact OpOK.val h (acap_ok (P := P) (ty := type) hp h3 w)
      · rename_i p q t ts e1
        obtain ⟨v1, v2, hu, hp, hq⟩ := hv.two
        rw [hu]
        unfold amdel at ha
        split at ha
        · rename_i kk et hk
          obtain ⟨kt, hd1, hd2⟩ := amapK_ok hk
          obtain ⟨u, w', k1, k2, k3⟩ := mdel_ok h argTypes (t := t) (by rw [hty, e1]; rfl) type hd1 hd2 hp hq ha
          exact OpOK.mem ⟨u, w', G, k1, Gh.le.refl _, k2, k3⟩
        · cases ha
      · rename_i p t e1
        rw [hty, e1]
        obtain ⟨v1, hu, hp⟩ := hv.one
        rw [hu]
        unfold amclr at ha
        split at ha
        · rename_i e hd
          split at ha
          · rename_i zv hz
            split at ha
            · rename_i hc
              obtain ⟨u, w', k1, k2, k3⟩ := clr_ok (ty := type) h hd hz hc.1 hc.2 hp ha
              exact OpOK.mem ⟨u, w', G, k1, Gh.le.refl _, k2, k3⟩
            · cases ha
          · cases ha
        · cases ha
      · rename_i p q t u e1
        rw [hty, e1]
        split at ha
        · rename_i hut
          subst hut
          obtain ⟨v1, v2, hu, hp, hq⟩ := hv.two
          rw [hu]
          exact OpOK.mem (aappend_ok (P := P) (ty := type) h hp hq ha)
        · obtain ⟨v1, v2, hu, hp, hq⟩ := hv.two
          rw [hu]
          exact OpOK.mem (aappendZ_ok (P := P) (ty := type) h hp hq ha)
      · rw [Option.map_eq_some_iff] at ha
        obtain ⟨y, h3, h4⟩ := ha
        cases h4
        obtain ⟨u, k1, k2⟩ := amm_ok (P := P) h3 hv argTypes type w
        exact OpOK.val h ⟨u, by simpa using k1, k2⟩
      · rw [Option.map_eq_some_iff] at ha
        obtain ⟨y, h3, h4⟩ := ha
        cases h4
        obtain ⟨u, k1, k2⟩ := amm_ok (P := P) h3 hv argTypes type w
        exact OpOK.val h ⟨u, by simpa using k1, k2⟩
      · cases ha
set_option maxHeartbeats 2000000 in
theorem aop_ok {P : Program} {K : Kx} {G : Gh} {H H' : AH} {w : World} {nt : Nat} {T : Tr AV} {a : Act} {o : Oper} {x : AV} (h : HRel K G H w) (ht : TRel G nt T a) (ha : aop P T o.op H = some (x, H')) : OpOK P K G H' x (execOp a.eval o) w := by
  obtain ⟨dst, op, type, pos, after, guard⟩ := o
  simp only at ha
  cases op <;> simp only [aop] at ha <;> try (cases ha; done)
  case move x =>
    rw [Option.map_eq_some_iff] at ha
    obtain ⟨y, h1, h2⟩ := ha
    cases h2
    exact ⟨.value _, w, G, by simp [execOp], Gh.le.refl _, h, .inl ⟨_, rfl, aev_ok ht h1⟩⟩
  case assign x =>
    rw [Option.map_eq_some_iff] at ha
    obtain ⟨y, h1, h2⟩ := ha
    cases h2
    exact ⟨.value _, w, G, by simp [execOp], Gh.le.refl _, h, .inl ⟨_, rfl, aev_ok ht h1⟩⟩
  case pick c y z =>
    split at ha
    · rename_i hcv
      rw [Option.map_eq_some_iff] at ha
      obtain ⟨v, h1, h2⟩ := ha
      cases h2
      have hc := aev_ok ht hcv
      simp only [VR] at hc
      exact ⟨.value _, w, G, by simp [execOp, hc, asBool], Gh.le.refl _, h, .inl ⟨_, rfl, aev_ok ht h1⟩⟩
    · rename_i hcv
      rw [Option.map_eq_some_iff] at ha
      obtain ⟨v, h1, h2⟩ := ha
      cases h2
      have hc := aev_ok ht hcv
      simp only [VR] at hc
      exact ⟨.value _, w, G, by simp [execOp, hc, asBool], Gh.le.refl _, h, .inl ⟨_, rfl, aev_ok ht h1⟩⟩
    · cases ha
  case alloc e =>
    rw [Option.bind_eq_some_iff] at ha
    obtain ⟨z, h1, h2⟩ := ha
    obtain ⟨v, i, hi, hz, hr, hv⟩ := zeroA_ok (G := G) h1 w
    obtain ⟨u, w', G', k1, k2, k3, k4⟩ := abox_ok (P := P) h (t := e) hv h2
    refine ⟨.value (.pointer (some u)), w', G', ?_, k2, k3, .inl ⟨_, rfl, k4⟩⟩
    simp [execOp, Instr.alloc, hr, k1]
  case box e y =>
    rw [Option.bind_eq_some_iff] at ha
    obtain ⟨z, h1, h2⟩ := ha
    obtain ⟨u, w', G', k1, k2, k3, k4⟩ := abox_ok (P := P) h (t := e) (aev_ok ht h1) h2
    refine ⟨.value (.pointer (some u)), w', G', ?_, k2, k3, .inl ⟨_, rfl, k4⟩⟩
    simp [execOp, Instr.box, k1]
  case build t parts =>
    rw [Option.bind_eq_some_iff] at ha
    obtain ⟨ps, h1, h2⟩ := ha
    rw [Option.map_eq_some_iff] at h2
    obtain ⟨y, h3, h4⟩ := h2
    cases h4
    obtain ⟨qs, q0, q1, q2⟩ := aparts_arr ht h1
    simp only [execOp]
    generalize hps : Array.map (_ : Nat × Operand → Nat × Value) parts = ps'
    obtain rfl : ps' = qs := hps.symm.trans q0.symm
    exact OpOK.val h (abuild_ok q1 q2 h3 w)
  case buildSlice t len parts =>
    rw [Option.bind_eq_some_iff] at ha
    obtain ⟨ps, h1, h2⟩ := ha
    obtain ⟨qs, q0, q1, q2⟩ := aparts_arr ht h1
    simp only [execOp]
    generalize hps : Array.map (_ : Nat × Operand → Nat × Value) parts = ps'
    obtain rfl : ps' = qs := hps.symm.trans q0.symm
    exact OpOK.mem (abuildSliceE_ok h q1 q2 h2)
  case makeInterface t x' =>
    rw [Option.bind_eq_some_iff] at ha
    obtain ⟨p, h1, h2⟩ := ha
    rw [Option.map_eq_some_iff] at h2
    obtain ⟨y, h3, h4⟩ := h2
    cases h4
    exact OpOK.val h (amkiface_ok (aev_ok ht h1) h3 w)
  case makeMap t r =>
    cases r with
    | none => exact OpOK.mem (mmake_ok (P := P) (t := t) h ha)
    | some r => cases ha
  case lookup t x' k ok =>
    rw [Option.bind_eq_some_iff] at ha
    obtain ⟨p, h1, h2⟩ := ha
    rw [Option.bind_eq_some_iff] at h2
    obtain ⟨q, h3, h4⟩ := h2
    unfold amget at h4
    split at h4
    · rename_i kk et hk
      split at h4
      · rename_i z hz
        obtain ⟨kt, hd1, hd2⟩ := amapK_ok hk
        obtain ⟨rfl, u, k1, k2⟩ := mget_ok (P := P) h hd1 hd2 hz (aev_ok ht h1) (aev_ok ht h3) h4
        exact OpOK.val h ⟨u, k1, k2⟩
      · cases h4
    · cases h4
  case mapUpdate t m k v =>
    rw [Option.bind_eq_some_iff] at ha
    obtain ⟨p, h1, h2⟩ := ha
    rw [Option.bind_eq_some_iff] at h2
    obtain ⟨q, h3, h4⟩ := h2
    rw [Option.bind_eq_some_iff] at h4
    obtain ⟨r, h5, h6⟩ := h4
    unfold amput at h6
    split at h6
    · rename_i kk et hk
      obtain ⟨kt, hd1, hd2⟩ := amapK_ok hk
      obtain ⟨rfl, w', k1, k2⟩ := mput_ok (P := P) h hd1 hd2 (aev_ok ht h1) (aev_ok ht h3) (aev_ok ht h5) h6
      exact ⟨.skip, w', G, by simp [execOp, k1], Gh.le.refl _, k2, .inr ⟨rfl, rfl⟩⟩
    · cases h6
  case mapEntry t m k =>
    rw [Option.bind_eq_some_iff] at ha
    obtain ⟨p, h1, h2⟩ := ha
    rw [Option.bind_eq_some_iff] at h2
    obtain ⟨q, h3, h4⟩ := h2
    unfold amentry at h4
    split at h4
    · rename_i kk et hk
      split at h4
      · rename_i z hz
        obtain ⟨kt, hd1, hd2⟩ := amapK_ok hk
        obtain ⟨u, w', k1, k2, k3⟩ := mentry_ok (P := P) h hd1 hd2 hz (aev_ok ht h1) (aev_ok ht h3) h4
        exact OpOK.mem ⟨u, w', G, k1, Gh.le.refl _, k2, k3⟩
      · cases h4
    · cases h4
  case entryStore t m s' v =>
    rw [Option.bind_eq_some_iff] at ha
    obtain ⟨p, h1, h2⟩ := ha
    rw [Option.bind_eq_some_iff] at h2
    obtain ⟨q, h3, h4⟩ := h2
    rw [Option.bind_eq_some_iff] at h4
    obtain ⟨r, h5, h6⟩ := h4
    unfold amsete at h6
    split at h6
    · rename_i kd b
      have hs := aev_ok ht h3
      simp only [VR] at hs
      obtain ⟨rfl, w', k1, k2⟩ := msete_ok (P := P) (t := t) (kd := kd) h (aev_ok ht h1) (aev_ok ht h5) h6
      exact ⟨.skip, w', G, by simp [execOp, hs, k1], Gh.le.refl _, k2, .inr ⟨rfl, rfl⟩⟩
    · cases h6
  case insert t m k v =>
    rw [Option.bind_eq_some_iff] at ha
    obtain ⟨p, h1, h2⟩ := ha
    rw [Option.bind_eq_some_iff] at h2
    obtain ⟨q, h3, h4⟩ := h2
    rw [Option.bind_eq_some_iff] at h4
    obtain ⟨r, h5, h6⟩ := h4
    unfold amput at h6
    split at h6
    · rename_i kk et hk
      obtain ⟨kt, hd1, hd2⟩ := amapK_ok hk
      obtain ⟨rfl, w', k1, k2⟩ := mput_ok (P := P) h hd1 hd2 (aev_ok ht h1) (aev_ok ht h3) (aev_ok ht h5) h6
      exact ⟨.skip, w', G, by simp [execOp, k1], Gh.le.refl _, k2, .inr ⟨rfl, rfl⟩⟩
    · cases h6
  case makeSlice t l c =>
    rw [Option.bind_eq_some_iff] at ha
    obtain ⟨p, h1, h2⟩ := ha
    rw [Option.bind_eq_some_iff] at h2
    obtain ⟨q, h3, h4⟩ := h2
    exact OpOK.mem (amkslice_ok h (aev_ok ht h1) (aev_ok ht h3) h4)
  case load t x' =>
    rw [Option.bind_eq_some_iff] at ha
    obtain ⟨p, h1, h2⟩ := ha
    rw [Option.map_eq_some_iff] at h2
    obtain ⟨y, h3, h4⟩ := h2
    cases h4
    exact OpOK.val h (aload_ok h (aev_ok ht h1) h3)
  case store t x' y' =>
    rw [Option.bind_eq_some_iff] at ha
    obtain ⟨p, h1, h2⟩ := ha
    rw [Option.bind_eq_some_iff] at h2
    obtain ⟨v, h3, h4⟩ := h2
    rw [Option.map_eq_some_iff] at h4
    obtain ⟨y, h5, h6⟩ := h4
    cases h6
    obtain ⟨w', k1, k2⟩ := astore_ok (P := P) h (aev_ok ht h1) (aev_ok ht h3) h5
    exact ⟨.skip, w', G, by simp [execOp, k1], Gh.le.refl _, k2, .inr ⟨rfl, rfl⟩⟩
  case nilCheck x' =>
    rw [Option.bind_eq_some_iff] at ha
    obtain ⟨p, h1, h2⟩ := ha
    have hp := aev_ok ht h1
    split at h2
    · cases h2
      have hp' := hp
      simp only [VR] at hp'
      obtain ⟨b, o, n, _, he⟩ := hp'
      exact ⟨.value _, w, G, by simp [execOp, he]; rfl, Gh.le.refl _, h, .inl ⟨_, rfl, by rw [← he]; exact hp⟩⟩
    · cases h2
      have hp' := hp
      simp only [VR] at hp'
      obtain ⟨b, o, he, _⟩ := hp'
      exact ⟨.value _, w, G, by simp [execOp, he]; rfl, Gh.le.refl _, h, .inl ⟨_, rfl, by rw [← he]; exact hp⟩⟩
    · cases h2
      have hp' := hp
      simp only [VR] at hp'
      obtain ⟨cs, he, _⟩ := hp'
      exact ⟨.value _, w, G, by simp [execOp, he]; rfl, Gh.le.refl _, h, .inl ⟨_, rfl, by rw [← he]; exact hp⟩⟩
    · cases h2
  case binOp bop t x' y' yt =>
    rw [Option.bind_eq_some_iff] at ha
    obtain ⟨p, h1, h2⟩ := ha
    rw [Option.bind_eq_some_iff] at h2
    obtain ⟨q, h3, h4⟩ := h2
    rw [Option.map_eq_some_iff] at h4
    obtain ⟨y, h5, h6⟩ := h4
    cases h6
    exact OpOK.val h (abinS_ok h5 (aev_ok ht h1) (aev_ok ht h3) w)
  case unOp uop t x' =>
    rw [Option.bind_eq_some_iff] at ha
    obtain ⟨p, h1, h2⟩ := ha
    rw [Option.map_eq_some_iff] at h2
    obtain ⟨y, h3, h4⟩ := h2
    cases h4
    exact OpOK.val h (aun_ok h3 (aev_ok ht h1) w)
  case convert s d x' =>
    rw [Option.bind_eq_some_iff] at ha
    obtain ⟨p, h1, h2⟩ := ha
    exact OpOK.mem (aconvH_ok h (aev_ok ht h1) h2)
  case makeFunc fn first cap =>
    split at ha
    · rename_i hf
      rw [Option.map_eq_some_iff] at ha
      obtain ⟨cs, h1, h2⟩ := ha
      cases h2
      rw [Array.isEmpty_iff] at hf
      subst hf
      refine OpOK.val h ⟨_, rfl, ?_⟩
      simp only [VR]
      exact ⟨_, by simp; rfl, by simpa using aevs_ok ht h1⟩
    · cases ha
  case slice t x' lo hi' mx =>
    rw [Option.bind_eq_some_iff] at ha
    obtain ⟨p, h1, h2⟩ := ha
    rw [Option.bind_eq_some_iff] at h2
    obtain ⟨l, h3, h4⟩ := h2
    rw [Option.bind_eq_some_iff] at h4
    obtain ⟨hi, h5, h6⟩ := h4
    rw [Option.bind_eq_some_iff] at h6
    obtain ⟨m, h7, h8⟩ := h6
    rw [Option.map_eq_some_iff] at h8
    obtain ⟨y, h9, h10⟩ := h8
    cases h10
    exact OpOK.val h (aslice_ok (aev_ok ht h1) (aevo_ok ht h3) (aevo_ok ht h5) (aevo_ok ht h7) h9 w)
  case fieldAddr t x' f =>
    rw [Option.bind_eq_some_iff] at ha
    obtain ⟨p, h1, h2⟩ := ha
    rw [Option.map_eq_some_iff] at h2
    obtain ⟨y, h3, h4⟩ := h2
    cases h4
    exact OpOK.val h (afieldAddr_ok (aev_ok ht h1) h3 w)
  case field t x' f =>
    rw [Option.bind_eq_some_iff] at ha
    obtain ⟨p, h1, h2⟩ := ha
    rw [Option.map_eq_some_iff] at h2
    obtain ⟨y, h3, h4⟩ := h2
    cases h4
    exact OpOK.val h (afield_ok (aev_ok ht h1) h3 w)
  case indexAddr t x' ix =>
    rw [Option.bind_eq_some_iff] at ha
    obtain ⟨p, h1, h2⟩ := ha
    rw [Option.bind_eq_some_iff] at h2
    obtain ⟨q, h3, h4⟩ := h2
    rw [Option.map_eq_some_iff] at h4
    obtain ⟨y, h5, h6⟩ := h4
    cases h6
    exact OpOK.val h (aindexAddr_ok (aev_ok ht h1) (aev_ok ht h3) h5 w)
  case index t x' ix =>
    rw [Option.bind_eq_some_iff] at ha
    obtain ⟨p, h1, h2⟩ := ha
    rw [Option.bind_eq_some_iff] at h2
    obtain ⟨q, h3, h4⟩ := h2
    rw [Option.map_eq_some_iff] at h4
    obtain ⟨y, h5, h6⟩ := h4
    cases h6
    exact OpOK.val h (aindex_ok (aev_ok ht h1) (aev_ok ht h3) h5 w)
  case extract x' ix =>
    rw [Option.bind_eq_some_iff] at ha
    obtain ⟨p, h1, h2⟩ := ha
    split at h2
    · rename_i i vs
      rw [Option.map_eq_some_iff] at h2
      obtain ⟨y, h3, h4⟩ := h2
      cases h4
      have hp := aev_ok ht h1
      simp only [VR] at hp
      obtain ⟨us, he, hv⟩ := hp
      obtain ⟨u, k1, k2⟩ := hv.get _ _ h3
      refine OpOK.val h ⟨u, ?_, k2⟩
      rw [he]
      simp at k1
      simp [Instr.extract, k1]
    · cases h2
  case call c => exact abuiltin_ok h ht ha _ _ _ _ _
end Go.Abs
namespace Go.Abs
open Go Go.RowKit
set_option linter.unusedVariables false
/-- What holds behind a piece of code. -/
def LQ (K : Kx) (G : Gh) (nt : Nat) (Q : Exit → Tr AV → AH → Prop) : Exit → Act → World → Prop :=
  fun e a w => ∃ G' T H, G.le G' ∧ HRel K G' H w ∧ TRel G' nt T a ∧ Q e T H
/-- Code, abstractly. -/
def AT (P : Program) (nt : Nat) (c : Code) (T : Tr AV) (H : AH) (Q : Exit → Tr AV → AH → Prop) : Prop :=
  ∀ K G a w, HRel K G H w → TRel G nt T a → c.wp P (LQ K G nt Q) a w
/-- Operations in a row, abstractly. -/
def AOps (P : Program) (nt : Nat) (ops : Array Oper) (l : List Nat) (T : Tr AV) (H : AH) (Q : Exit → Tr AV → AH → Prop) : Prop :=
  ∀ K G a w, HRel K G H w → TRel G nt T a → wpOps P ops (LQ K G nt Q) l a w
/-- A call, abstractly. -/
def ACalls (P : Program) (f : FuncId) (args : List AV) (H : AH) (Q : AV → AH → Prop) : Prop :=
  ∀ K G (vs : Array Value) w, HRel K G H w → VRs G args vs.toList → Calls P f vs w fun e w' => ∃ u x G' H', e = .returned u ∧ G.le G' ∧ HRel K G' H' w' ∧ VR G' x u ∧ Q x H'
theorem LQ.weaken {K : Kx} {G G' : Gh} {nt : Nat} {Q : Exit → Tr AV → AH → Prop} (h : G.le G') {e : Exit} {a : Act} {w : World} (hq : LQ K G' nt Q e a w) : LQ K G nt Q e a w := by
  obtain ⟨G2, T, H, h1, h2⟩ := hq
  exact ⟨G2, T, H, h.trans h1, h2⟩
section
variable {P : Program} {nt : Nat} {T : Tr AV} {H : AH} {Q : Exit → Tr AV → AH → Prop}
theorem AT.mono {c : Code} {Q' : Exit → Tr AV → AH → Prop} (h : AT P nt c T H Q) (hq : ∀ e T H, Q e T H → Q' e T H) : AT P nt c T H Q' := fun K G a w hr ht =>
  wp_mono (h K G a w hr ht) fun e a w ⟨G', T', H', h1, h2, h3, h4⟩ => ⟨G', T', H', h1, h2, h3, hq _ _ _ h4⟩
theorem ACalls.mono {f : FuncId} {args : List AV} {R R' : AV → AH → Prop} (h : ACalls P f args H R) (hr : ∀ x H, R x H → R' x H) : ACalls P f args H R' := fun K G vs w h1 h2 =>
  (h K G vs w h1 h2).mono fun e w' ⟨u, x, G', H', q1, q2, q3, q4, q5⟩ => ⟨u, x, G', H', q1, q2, q3, q4, hr _ _ q5⟩
theorem AT.skip (h : Q .normal T H) : AT P nt .skip T H Q := fun K G a w hr ht => wp_skip ⟨G, T, H, Gh.le.refl _, hr, ht, h⟩
theorem AT.label {l : Nat} (h : Q .normal T H) : AT P nt (.label l) T H Q := fun K G a w hr ht => wp_label ⟨G, T, H, Gh.le.refl _, hr, ht, h⟩
theorem AT.exit {id : Nat} (h : Q (.exit id) T H) : AT P nt (.exit id) T H Q := fun K G a w hr ht => wp_exit ⟨G, T, H, Gh.le.refl _, hr, ht, h⟩
theorem AT.goto {id : Nat} (h : Q (.goto id) T H) : AT P nt (.goto id) T H Q := fun K G a w hr ht => wp_goto ⟨G, T, H, Gh.le.refl _, hr, ht, h⟩
theorem AT.ret (h : Q .ret T H) : AT P nt .ret T H Q := fun K G a w hr ht => wp_ret ⟨G, T, H, Gh.le.refl _, hr, ht, h⟩
theorem AT.seq {x y : Code} {R : Tr AV → AH → Prop} (h1 : AT P nt x T H fun e T' H' => match e with | .normal => R T' H' | e => Q e T' H') (h2 : ∀ T' H', R T' H' → AT P nt y T' H' Q) : AT P nt (.seq x y) T H Q := fun K G a w hr ht =>
  wp_seq (wp_mono (h1 K G a w hr ht) fun e a' w' ⟨G', T', H', q1, q2, q3, q4⟩ => by
    cases e with
    | normal => exact wp_mono (h2 T' H' q4 K G' a' w' q2 q3) fun e a w hq => LQ.weaken q1 hq
    | exit id => exact ⟨G', T', H', q1, q2, q3, q4⟩
    | goto l => exact ⟨G', T', H', q1, q2, q3, q4⟩
    | ret => exact ⟨G', T', H', q1, q2, q3, q4⟩
    | panic ch => exact ⟨G', T', H', q1, q2, q3, q4⟩
    | outgrown => exact ⟨G', T', H', q1, q2, q3, q4⟩)
/-- The usual form: what follows stands in the post. -/
theorem AT.seq' {x y : Code} (h : AT P nt x T H fun e T' H' => match e with | .normal => AT P nt y T' H' Q | e => Q e T' H') : AT P nt (.seq x y) T H Q := AT.seq h fun _ _ h => h
theorem AT.cond {c : Operand} {x y : Code} {b : Bool} (hc : aev T c = some (.bool b)) (h : AT P nt (if b then x else y) T H Q) : AT P nt (.cond c x y) T H Q := fun K G a w hr ht => by
  have hv := aev_ok ht hc
  simp only [VR] at hv
  exact wp_cond hv (h K G a w hr ht)
theorem AT.block {id : Nat} {c : Code} (h : AT P nt c T H fun e T' H' => match e with | .exit id' => if id' = id then Q .normal T' H' else Q (.exit id') T' H' | e => Q e T' H') : AT P nt (.block id c) T H Q := fun K G a w hr ht =>
  wp_block (wp_mono (h K G a w hr ht) fun e a' w' ⟨G', T', H', q1, q2, q3, q4⟩ => by
    cases e with
    | exit id' =>
      simp only [Exit.inBlock]
      simp only at q4
      split
      · rename_i he; rw [if_pos he] at q4; exact ⟨G', T', H', q1, q2, q3, q4⟩
      · rename_i he; rw [if_neg he] at q4; exact ⟨G', T', H', q1, q2, q3, q4⟩
    | normal => exact ⟨G', T', H', q1, q2, q3, q4⟩
    | goto l => exact ⟨G', T', H', q1, q2, q3, q4⟩
    | ret => exact ⟨G', T', H', q1, q2, q3, q4⟩
    | panic ch => exact ⟨G', T', H', q1, q2, q3, q4⟩
    | outgrown => exact ⟨G', T', H', q1, q2, q3, q4⟩)
theorem rounds_mono {c : Code} {Q Q' : Exit → Act → World → Prop} (hq : ∀ e a w, Q e a w → Q' e a w) : ∀ {n m : Nat}, n ≤ m → ∀ {a : Act} {w : World}, Code.rounds P c Q n a w → Code.rounds P c Q' m a w
  | 0, m, _, a, w, h => h.elim
  | n + 1, 0, hl, a, w, h => by omega
  | n + 1, m + 1, hl, a, w, h => by
    rw [rounds_succ] at h ⊢
    refine wp_mono h fun e a' w' he => ?_
    cases e with
    | normal => exact rounds_mono hq (by omega : n ≤ m) he
    | exit id => exact hq _ _ _ he
    | goto l => exact hq _ _ _ he
    | ret => exact hq _ _ _ he
    | panic ch => exact hq _ _ _ he
    | outgrown => exact hq _ _ _ he
/-- A loop: what holds at its head, with a number that falls. -/
theorem AT.loop {c : Code} (I : Nat → Tr AV → AH → Prop) {n : Nat} (h0 : I n T H) (round : ∀ n T H, I n T H → AT P nt c T H fun e T' H' => match e with | .normal => ∃ m, m < n ∧ I m T' H' | e => Q e T' H') : AT P nt (.loop c) T H Q := by
  intro K G a w hr ht
  have key : ∀ n T H, I n T H → ∀ G a w, HRel K G H w → TRel G nt T a → Code.rounds P c (LQ K G nt Q) (n + 1) a w := by
    intro n
    induction n using Nat.strongRecOn with
    | _ n ih =>
      intro T H hI G a w hr ht
      rw [rounds_succ]
      refine wp_mono (round n T H hI K G a w hr ht) fun e a' w' ⟨G', T', H', q1, q2, q3, q4⟩ => ?_
      cases e with
      | normal =>
        obtain ⟨m, hm, hI'⟩ := q4
        exact rounds_mono (fun e a w hq => LQ.weaken q1 hq) (by omega : m + 1 ≤ n) (ih m hm T' H' hI' G' a' w' q2 q3)
      | exit id => exact ⟨G', T', H', q1, q2, q3, q4⟩
      | goto l => exact ⟨G', T', H', q1, q2, q3, q4⟩
      | ret => exact ⟨G', T', H', q1, q2, q3, q4⟩
      | panic ch => exact ⟨G', T', H', q1, q2, q3, q4⟩
      | outgrown => exact ⟨G', T', H', q1, q2, q3, q4⟩
  exact wp_loop_rounds (n + 1) (key n T H h0 G a w hr ht)
/-- One more round. -/
theorem AT.region {id : Nat} {ops : Array Oper} (h : AOps P nt ops (List.range ops.size) T H Q) : AT P nt (.region id ops false) T H Q := fun K G a w hr ht => wp_region (h K G a w hr ht)
/-- Is an operation to be carried out? -/
def wantedA (ops : Array Oper) (T : Tr AV) (o : Oper) : Option Bool :=
  match o.guard with
  | none => some true
  | some (j, want) =>
    match (ops[j]?).bind (·.dst) with
    | some d =>
      match T.get d with
      | some (.bool b) => some (b == want)
      | some .und => some false
      | _ => none
    | none => none
theorem wantedA_ok {G : Gh} {ops : Array Oper} {a : Act} {o : Oper} {b : Bool} (ht : TRel G nt T a) (hd : ∀ d, ((o.guard.bind fun g => (ops[g.1]?).bind (·.dst)) = some d) → d < nt) (h : wantedA ops T o = some b) : Region.wanted o (yielded ops a.tmps) = b := by
  unfold wantedA at h
  unfold Region.wanted
  split at h
  · rename_i hg
    cases h
    rw [hg]
  · rename_i j want hg
    rw [hg]
    simp only
    split at h
    · rename_i d hdst
      split at h
      · rename_i v hv
        cases h
        have := ht.at' d _ hv
        simp only [VR] at this
        have hlt := hd d (by rw [hg]; simpa using hdst)
        unfold yielded
        rw [hdst]
        have hs : a.tmps[d]? = some (.bool v) := by
          rw [Array.getElem?_eq_getElem (by rw [ht.size]; exact hlt)]
          rw [Array.getD_eq_getD_getElem?, Array.getElem?_eq_getElem (by rw [ht.size]; exact hlt)] at this
          simpa using this
        simp only [Option.bind_some, hs]
        cases v <;> cases want <;> rfl
      · rename_i hv
        cases h
        have := ht.at' d _ hv
        simp only [VR] at this
        have hlt := hd d (by rw [hg]; simpa using hdst)
        unfold yielded
        rw [hdst]
        have hs : a.tmps[d]? = some undef := by
          rw [Array.getElem?_eq_getElem (by rw [ht.size]; exact hlt)]
          rw [Array.getD_eq_getD_getElem?, Array.getElem?_eq_getElem (by rw [ht.size]; exact hlt)] at this
          simpa using this
        simp only [Option.bind_some, hs]
        rfl
      · cases h
    · cases h
/-- The function that a call calls, and its arguments. -/
def acallee (T : Tr AV) (c : Call) : Option (FuncId × List AV) :=
  match c.callee with
  | .value f =>
    match aev T f, aevs T c.args.toList with
    | some (.fn (.func g) cap), some xs => some (g, xs ++ cap)
    | _, _ => none
  | _ => none
def callableB (P : Program) (f : FuncId) : Bool :=
  match P.funcs[f]? with
  | some fn => !(fn.name == "runtime.NumGoroutine") && fn.body.isSome
  | none => false
theorem run_callee {P : Program} {G : Gh} {a : Act} {c : Call} {f : FuncId} {xs : List AV} (ht : TRel G nt T a) (h : acallee T c = some (f, xs)) (hc : callableB P f = true)
    (dst : Option Tmp) (type : TypeId) (pos : String) (after : Array Edge) (guard : Option (Nat × Bool)) (w : World) :
    ∃ vs : Array Value, (execOp a.eval ⟨dst, .call c, type, pos, after, guard⟩).run P w = .ok (.enter f vs) w ∧ VRs G xs vs.toList := by
  obtain ⟨callee, args, argTypes⟩ := c
  unfold acallee at h
  simp only at h
  split at h
  · rename_i fo hco
    split at h
    · rename_i g cap ys h1 h2
      cases h
      have hf := aev_ok ht h1
      simp only [VR] at hf
      obtain ⟨cs, hf, hcs⟩ := hf
      have hv := aevs_ok ht h2
      unfold callableB at hc
      split at hc
      · rename_i fn hfn
        simp only [Bool.and_eq_true, Bool.not_eq_true'] at hc
        refine ⟨args.map a.eval ++ cs, ?_, by
          rw [Array.toList_append, Array.toList_map]
          exact hv.append hcs⟩
        have hb : fn.body.isNone = false := by
          cases hb : fn.body with
          | none => rw [hb] at hc; simp at hc
          | some _ => rfl
        have hname : ¬ fn.name = "runtime.NumGoroutine" := by simpa using hc.1
        have hnone : ¬ fn.body = none := by intro e; rw [e] at hb; cases hb
        simp [execOp, resolve, hf, Deferred.ofValue, invoke, callFunc, hfn, hname, hnone]
      · cases hc
    · cases h
  · cases h
variable {ops : Array Oper}
theorem AOps.nil (h : Q .normal T H) : AOps P nt ops [] T H Q := fun K G a w hr ht => ⟨G, T, H, Gh.le.refl _, hr, ht, h⟩
/-- Where an operation's guard looks is a slot that there is. -/
def guardIn (ops : Array Oper) (nt : Nat) (o : Oper) : Bool := match o.guard.bind fun g => (ops[g.1]?).bind (·.dst) with | some d => decide (d < nt) | none => true
theorem guardIn_ok {o : Oper} (h : guardIn ops nt o = true) : ∀ d, ((o.guard.bind fun g => (ops[g.1]?).bind (·.dst)) = some d) → d < nt := by
  intro d hd
  unfold guardIn at h
  rw [hd] at h
  simpa using h
theorem wpOps_weaken {K : Kx} {G G' : Gh} (hl : G.le G') : ∀ {l : List Nat} {a : Act} {w : World}, wpOps P ops (LQ K G' nt Q) l a w → wpOps P ops (LQ K G nt Q) l a w := by
  intro l
  induction l with
  | nil => intro a w h; exact LQ.weaken hl h
  | cons i l ih =>
    intro a w h
    rw [wpOps_cons] at h ⊢
    unfold wpOp at h ⊢
    split
    · rename_i ho; simp only [ho] at h; exact ih h
    · rename_i o ho
      simp only [ho] at h
      split
      · rename_i hw
        simp only [hw, if_true] at h
        rcases h with h | ⟨h1, h2⟩
        · refine .inl ?_
          have := Oper.wp_mono (P := P) (Q := LQ K G' nt Q) (fun a w h => ih h) h
          unfold Oper.wp at this ⊢
          generalize (execOp a.eval o).run P w = r at *
          cases r with
          | ok n w' =>
            cases n <;> simp only [Oper.upon] at this ⊢ <;> first
              | exact this
              | exact Calls.mono this (fun e w'' he => by
                  cases e with
                  | returned v => exact he
                  | panicked ch => exact LQ.weaken hl he
                  | outgrown => obtain ⟨a0, w0, h0⟩ := he; exact ⟨a0, w0, LQ.weaken hl h0⟩)
          | halt x w' => cases x <;> simp only [Oper.upon] at this ⊢ <;> first | exact this | exact LQ.weaken hl this
        · obtain ⟨a0, w0, h0⟩ := h2
          exact .inr ⟨h1, a0, w0, LQ.weaken hl h0⟩
      · rename_i hw
        simp only [hw, Bool.false_eq_true, if_false] at h
        exact ih h
theorem AOps.op {i : Nat} {l : List Nat} {o : Oper} {x : AV} {H' : AH} {T' : Tr AV} (ho : ops[i]? = some o) (hg : guardIn ops nt o = true) (hw : wantedA ops T o = some true) (ha : aop P T o.op H = some (x, H')) (hp : tput nt T o.dst x = some T')
    (h : AOps P nt ops l T' H' Q) : AOps P nt ops (i :: l) T H Q := fun K G a w hr ht => by
  rw [wpOps_cons]
  unfold wpOp
  rw [ho]
  simp only
  rw [if_pos (wantedA_ok ht (guardIn_ok hg) hw)]
  refine .inl ?_
  obtain ⟨nx, w', G', h1, h2, h3, h4⟩ := aop_ok hr ht ha
  unfold Oper.wp
  rw [h1]
  rcases h4 with ⟨u, rfl, hv⟩ | ⟨rfl, rfl⟩
  · rw [Oper.upon_value]
    exact wpOps_weaken h2 (h K G' _ w' h3 ((ht.mono h2).put hp hv))
  · rw [Oper.upon_skip]
    exact wpOps_weaken h2 (h K G' _ w' h3 ((ht.mono h2).put hp (by simp [VR])))
theorem AOps.no {i : Nat} {l : List Nat} {o : Oper} {T' : Tr AV} (ho : ops[i]? = some o) (hg : guardIn ops nt o = true) (hw : wantedA ops T o = some false) (hp : tput nt T o.dst .und = some T')
    (h : AOps P nt ops l T' H Q) : AOps P nt ops (i :: l) T H Q := fun K G a w hr ht => by
  rw [wpOps_cons]
  unfold wpOp
  rw [ho]
  simp only
  rw [if_neg (by rw [wantedA_ok ht (guardIn_ok hg) hw]; simp)]
  exact h K G _ w hr (ht.put hp (by simp [VR]))
theorem AOps.call {i : Nat} {l : List Nat} {o : Oper} {c : Call} {f : FuncId} {xs : List AV} {R : AV → AH → Prop} (ho : ops[i]? = some o) (hg : guardIn ops nt o = true) (hw : wantedA ops T o = some true) (hop : o.op = .call c)
    (hc : acallee T c = some (f, xs)) (hb : callableB P f = true) (hcall : ACalls P f xs H R) (h : ∀ x H', R x H' → ∃ T', tput nt T o.dst x = some T' ∧ AOps P nt ops l T' H' Q) : AOps P nt ops (i :: l) T H Q := fun K G a w hr ht => by
  obtain ⟨dst, op, type, pos, after, guard⟩ := o
  simp only at hop
  subst hop
  rw [wpOps_cons]
  unfold wpOp
  rw [ho]
  simp only
  rw [if_pos (wantedA_ok ht (guardIn_ok hg) hw)]
  refine .inl ?_
  obtain ⟨vs, h1, h2⟩ := run_callee ht hc hb dst type pos after guard w
  unfold Oper.wp
  rw [h1, Oper.upon_enter]
  refine (hcall K G vs w hr h2).mono fun e w' ⟨u, x, G', H', q1, q2, q3, q4, q5⟩ => ?_
  subst q1
  obtain ⟨T', k1, k2⟩ := h x H' q5
  exact wpOps_weaken q2 (k2 K G' _ w' q3 ((ht.mono q2).put k1 q4))
end
/-- The slots at a function's beginning. -/
def tinit : List AV → Nat → Tr AV
  | [], _ => .nil
  | x :: xs, i => (tinit xs (i + 1)).set i x
theorem tinit_get : ∀ (xs : List AV) (i j : Nat), (tinit xs i).get j = if i ≤ j then xs[j - i]? else none
  | [], i, j => by simp [tinit, Tr.get_nil]
  | x :: xs, i, j => by
    rw [tinit, Tr.get_set, tinit_get xs (i + 1) j]
    by_cases h : j = i
    · subst h; simp
    · rw [if_neg h]
      by_cases h1 : i + 1 ≤ j
      · rw [if_pos h1, if_pos (by omega), show j - i = (j - (i + 1)) + 1 by omega]; simp
      · rw [if_neg h1, if_neg (by omega)]
/-- What a function's result variables hold. -/
def ares (P : Program) (T : Tr AV) (H : AH) : List ResultVar → Option (List AV)
  | [] => some []
  | .tmp t :: rs => match T.get t, ares P T H rs with
    | some x, some xs => some (x :: xs)
    | _, _ => none
  | .cell p t :: rs => match (T.get p).bind fun x => aload P H t x, ares P T H rs with
    | some x, some xs => some (x :: xs)
    | _, _ => none
def aresult (P : Program) (T : Tr AV) (H : AH) (rs : List ResultVar) : Option AV :=
  match ares P T H rs with
  | some [x] => some x
  | some xs => some (.tup xs)
  | none => none
/-- One result. -/
def resOne (tmps : Array Value) : ResultVar → Sem Value
  | .tmp t => Pure.pure (tmps.getD t undef)
  | .cell a t => do loadVar t (← asAddr (tmps.getD a undef))
theorem results_eq (fn : Func) (tmps : Array Value) : results fn tmps = (do let vs ← fn.results.mapM (resOne tmps); Pure.pure (if h : vs.size = 1 then vs[0] else .tuple vs)) := by
  unfold results
  congr 1
theorem ares_ok {P : Program} {K : Kx} {G : Gh} {H : AH} {w : World} {nt : Nat} {T : Tr AV} {a : Act} (h : HRel K G H w) (ht : TRel G nt T a) : ∀ {rs : List ResultVar} {xs : List AV}, ares P T H rs = some xs →
    ∃ us : List Value, (rs.mapM (resOne a.tmps)).run P w = .ok us w ∧ VRs G xs us
  | [], xs, hx => by simp only [ares] at hx; cases hx; exact ⟨[], by simp, by simp [VRs]⟩
  | .tmp t :: rs, xs, hx => by
    simp only [ares] at hx
    split at hx
    · rename_i x xs' h1 h2
      cases hx
      obtain ⟨us, q1, q2⟩ := ares_ok h ht h2
      refine ⟨a.tmps.getD t undef :: us, ?_, by simp only [VRs]; exact ⟨_, _, rfl, ht.at' t x h1, q2⟩⟩
      simp only [List.mapM_cons, Sem.run_bind, q1, resOne, Sem.run_pure, Result.andThen_ok]
    · cases hx
  | .cell p t :: rs, xs, hx => by
    simp only [ares] at hx
    split at hx
    · rename_i x xs' h1 h2
      cases hx
      rw [Option.bind_eq_some_iff] at h1
      obtain ⟨y, h3, h4⟩ := h1
      obtain ⟨us, q1, q2⟩ := ares_ok h ht h2
      obtain ⟨u, k1, k2⟩ := aload_ok (P := P) h (ht.at' p y h3) h4
      refine ⟨u :: us, ?_, by simp only [VRs]; exact ⟨_, _, rfl, k2, q2⟩⟩
      have hptr : ∃ ad, a.tmps.getD p undef = .pointer (some ad) := by
        have hy := ht.at' p y h3
        unfold aload at h4
        split at h4
        · split at h4
          · rw [Option.map_eq_some_iff] at h4
            obtain ⟨cs, h5, _⟩ := h4
            obtain ⟨_, b, o, hv, _⟩ := cellsAt_ok h hy h5
            exact ⟨_, hv⟩
          · rw [Option.bind_eq_some_iff] at h4
            obtain ⟨cs, h5, _⟩ := h4
            obtain ⟨_, b, o, hv, _⟩ := cellsAt_ok h hy h5
            exact ⟨_, hv⟩
        · cases h4
      obtain ⟨ad, hptr⟩ := hptr
      have k1' : (loadVar t ad).run P w = .ok u w := by
        have := k1
        rw [hptr] at this
        simpa [Instr.loadAt, Instr.sureAddr] using this
      simp only [List.mapM_cons, Sem.run_bind, q1, resOne, hptr, asAddr, k1', Sem.run_pure, Result.andThen_ok]
    · cases hx
/-- What a function's body must do. -/
def bodyQ (P : Program) (fn : Func) (Q : AV → AH → Prop) : Exit → Tr AV → AH → Prop
  | .normal, T, H => ∃ x, aresult P T H fn.results.toList = some x ∧ Q x H
  | .ret, T, H => ∃ x, aresult P T H fn.results.toList = some x ∧ Q x H
  | _, _, _ => False
theorem aresult_ok {P : Program} {K : Kx} {G : Gh} {H : AH} {w : World} {nt : Nat} {T : Tr AV} {a : Act} {fn : Func} {x : AV} (h : HRel K G H w) (ht : TRel G nt T a) (hx : aresult P T H fn.results.toList = some x) :
    ∃ u, (results fn a.tmps).run P w = .ok u w ∧ VR G x u := by
  unfold aresult at hx
  split at hx
  · rename_i y hy
    cases hx
    obtain ⟨us, q1, q2⟩ := ares_ok h ht hy
    obtain ⟨u, rfl, q3⟩ := q2.one
    exact ⟨u, by rw [results_eq]; simp [Array.mapM_eq_mapM_toList, q1], q3⟩
  · rename_i xs hne hy
    cases hx
    obtain ⟨us, q1, q2⟩ := ares_ok h ht hy
    have hl : us.length ≠ 1 := by
      rw [q2.len]
      intro h1
      match xs, h1, hne with
      | [y], _, hne => exact hne y rfl
    refine ⟨.tuple us.toArray, ?_, by simp only [VR]; exact ⟨_, rfl, by simpa using q2⟩⟩
    rw [results_eq]
    simp [Array.mapM_eq_mapM_toList, q1, hl]
  · cases hx
/-- A function, by its body. -/
theorem ACalls.of_body {P : Program} {f : FuncId} {fn : Func} {c : Code} {args : List AV} {H : AH} {Q : AV → AH → Prop} (hf : P.funcs[f]? = some fn) (hb : fn.body = some c) (hn : args.length ≤ fn.ntmps)
    (h : AT P fn.ntmps c (tinit args 0) H (bodyQ P fn Q)) : ACalls P f args H Q := by
  intro K G vs w hr hv
  have hl : vs.size = args.length := by rw [← Array.length_toList]; exact hv.len
  refine calls_of_wp hf hb (wp_mono (h K G _ w hr ⟨rfl, by simp; omega, fun t x hx => ?_⟩) fun e a' w' ⟨G', T', H', q1, q2, q3, q4⟩ => ?_)
  · rw [tinit_get] at hx
    simp at hx
    obtain ⟨u, h1, h2⟩ := hv.get t x hx
    have h3 : vs[t]? = some u := by simpa using h1
    have hlt : t < vs.size := (Array.getElem?_eq_some_iff.1 h3).1
    have : (vs ++ Array.replicate (fn.ntmps - vs.size) undef).getD t undef = u := by
      rw [Array.getD_eq_getD_getElem?, Array.getElem?_append_left hlt, h3]; rfl
    rw [this]; exact h2
  · cases e with
    | normal =>
      obtain ⟨x, hx, hQ⟩ := q4
      obtain ⟨u, k1, k2⟩ := aresult_ok q2 q3 hx
      exact ⟨q3.defers, u, k1, u, x, G', H', rfl, q1, q2, k2, hQ⟩
    | ret =>
      obtain ⟨x, hx, hQ⟩ := q4
      obtain ⟨u, k1, k2⟩ := aresult_ok q2 q3 hx
      exact ⟨q3.defers, u, k1, u, x, G', H', rfl, q1, q2, k2, hQ⟩
    | exit id => exact q4.elim
    | goto l => exact q4.elim
    | panic ch => exact q4.elim
    | outgrown => exact q4.elim
end Go.Abs

namespace Go.Abs
open Go Go.RowKit
set_option linter.unusedVariables false
/-- An operand: a slot, or a value. -/
inductive Opd where
  | t (p : Pth)
  | c (x : AV)
def iev (T : Tr AV) : Opd → Option AV
  | .t p => T.getP p
  | .c x => some x
def cO : Operand → Option Opd
  | .tmp t => some (.t (Tr.path t))
  | .const v => match AV.ofV v with | some x => some (.c x) | none => none
  | .global _ => none
  | .func f => some (.c (.fn (.func f) []))
theorem cO_ok {o : Operand} {i : Opd} (h : cO o = some i) (T : Tr AV) : iev T i = aev T o := by
  cases o with
  | tmp t => simp only [cO] at h; cases h; simp [iev, aev, Tr.getP_eq]
  | const v =>
    simp only [cO] at h
    split at h
    · rename_i x hx; cases h; simp [iev, aev, hx]
    · cases h
  | global g => cases h
  | func f => simp only [cO] at h; cases h; rfl
def ievs (T : Tr AV) : List Opd → Option (List AV)
  | [] => some []
  | i :: is => match iev T i with
    | none => none
    | some x => match ievs T is with
      | none => none
      | some xs => some (x :: xs)
def cOs : List Operand → Option (List Opd)
  | [] => some []
  | o :: os => match cO o, cOs os with
    | some x, some xs => some (x :: xs)
    | _, _ => none
theorem cOs_ok : ∀ {os : List Operand} {is : List Opd}, cOs os = some is → ∀ (T : Tr AV), ievs T is = aevs T os
  | [], is, h, T => by simp only [cOs] at h; cases h; rfl
  | o :: os, is, h, T => by
    simp only [cOs] at h
    split at h
    · rename_i x xs h1 h2
      cases h
      simp only [ievs, aevs, cO_ok h1 T, cOs_ok h2 T]
      cases aev T o <;> cases aevs T os <;> rfl
    · cases h
/-- An operation, looked up. -/
inductive IOp where
  | ev (x : Opd)
  | pick (c a b : Opd)
  | new (x : Opd)
  | build (zs : List AV) (parts : List (Nat × Nat × Opd))
  | bslice (z n : Nat) (zs : List AV) (parts : List (Nat × Nat × Opd))
  | mkif (t : TypeId) (x : Opd)
  | empty
  | mksl (z by_ : Nat) (zs : List AV) (l c : Opd)
  | load (n : Option Nat) (x : Opd)
  | store (n : Nat) (x y : Opd)
  | nilck (x : Opd)
  | bin (op : BinOp) (t : TypeId) (d : Option TypeDesc) (nc : Bool) (x y : Opd)
  | un (op : UnOp) (x : Opd)
  | conv (k : IntKind) (x : Opd)
  | convs (x : Opd)
  | s2b (x : Opd)
  | b2s (x : Opd)
  | i2s (x : Opd)
  | fn (f : Fn) (cap : List Opd)
  | slice (z : Option Nat) (x : Opd) (lo hi mx : Option Opd)
  | faddr (off : Nat) (x : Opd)
  | field (off : Nat) (n : Option Nat) (x : Opd)
  | iaddr (z : Nat) (x i : Opd)
  | iaddrA (n z : Nat) (x i : Opd)
  | index (x i : Opd)
  | ext (x : Opd) (i : Nat)
  | len (isS : Bool) (x : Opd)
  | app (z by_ : Nat) (s x : Opd)
  | mm (mx : Bool) (l : List Opd)
  | capn (x : Opd)
  | appz (z by_ : Nat) (zs : List AV) (s x : Opd)
  | mop (m : MOp) (l : List Opd)
def ifill (cells : List AV) : List (Nat × Nat × AV) → Option (List AV)
  | [] => some cells
  | (off, size, v) :: rest => if v.cells.length = size ∧ off + v.cells.length ≤ cells.length ∧ v.fit = true then ifill (cells.take off ++ v.cells ++ cells.drop (off + v.cells.length)) rest else none
def iparts (T : Tr AV) : List (Nat × Nat × Opd) → Option (List (Nat × Nat × AV))
  | [] => some []
  | (a, b, i) :: is => match iev T i with
    | none => none
    | some x => match iparts T is with
      | none => none
      | some xs => some ((a, b, x) :: xs)
def iload (n : Option Nat) (H : AH) (x : AV) : Option AV :=
  match n with
  | some n => match cellsAt H x n with
    | some cs => some (.agg cs)
    | none => none
  | none => match cellsAt H x 1 with
    | some (c :: _) => some c
    | _ => none
def istore (n : Nat) (H : AH) (x v : AV) : Option AH :=
  match x with
  | .ptr g e i =>
    match H.gs.get g with
    | some r => if r.e = e ∧ r.fz ≤ i ∧ v.cells.length = n ∧ i + v.cells.length ≤ r.cells.length ∧ v.fit = true then
        some ⟨H.next, H.gs.set g ⟨r.e, r.fz, r.cells.take i ++ v.cells ++ r.cells.drop (i + v.cells.length)⟩, H.ms⟩ else none
    | none => none
  | _ => none
def ibin0 (op : BinOp) (t : TypeId) (d : Option TypeDesc) (x y : AV) : Option AV :=
  match x, y with
  | .str a, .str b => astr op a b
  | .int k a, .int k' b => (pureOf (binOp op t (.int k a) (.int k' b))).bind AV.ofV0
  | .bool a, .bool b =>
    match op, d with
    | .eql, some .bool => some (.bool (a == b))
    | .neq, some .bool => some (.bool !(a == b))
    | _, _ => none
  | x, y =>
    match op with
    | .eql => (aeq d x y).map .bool
    | .neq => (aeq d x y).map fun b => .bool !b
    | _ => none
def ibin (op : BinOp) (t : TypeId) (d : Option TypeDesc) (nc : Bool) (x y : AV) : Option AV :=
  match x, y with
  | .nili, .nili => bif nc then anilc op d else none
  | x, y => ibin0 op t d x y
def islice (z : Option Nat) (x : AV) (lo hi mx : Option AV) : Option AV :=
  match z, x, mx with
  | none, .str s, none =>
    match natOf hi s.length, natOf lo 0 with
    | some h, some l => if l ≤ h ∧ h ≤ s.length then some (.str ((s.drop l).take (h - l))) else none
    | _, _ => none
  | some e, .slc g a i len z, none =>
    match natOf hi len, natOf lo 0 with
    | some h, some l => if l ≤ h ∧ h ≤ len ∧ z = e ∧ z ≠ 0 then (if l = 0 ∨ l < h then some (.slc g a (i + l * z) (h - l) z) else some (.vals z [])) else none
    | _, _ => none
  | some e, .vals z rows, none =>
    match natOf hi rows.length, natOf lo 0 with
    | some h, some l => if l ≤ h ∧ h ≤ rows.length ∧ z = e ∧ z ≠ 0 then some (.vals z ((rows.drop l).take (h - l))) else none
    | _, _ => none
  | some e, .nils, none =>
    match natOf hi 0, natOf lo 0 with
    | some 0, some 0 => if e ≠ 0 then some .nils else none
    | _, _ => none
  | some e, .slc g a i len z, some m =>
    match natOf (some m) 0, natOf hi 1, natOf lo 0 with
    | some 0, some 0, some 0 => if e ≠ 0 then some .zslc else none
    | _, _, _ => none
  | some e, .vals z rows, some m =>
    match natOf (some m) 0, natOf hi 1, natOf lo 0 with
    | some 0, some 0, some 0 => if e ≠ 0 then some .zslc else none
    | _, _, _ => none
  | some e, .nils, some m =>
    match natOf (some m) 0, natOf hi 1, natOf lo 0 with
    | some 0, some 0, some 0 => if e ≠ 0 then some .zslc else none
    | _, _, _ => none
  | _, _, _ => none
def ievo (T : Tr AV) : Option Opd → Option (Option AV)
  | none => some none
  | some o => match iev T o with
    | some x => some (some x)
    | none => none
def iapp (z by_ : Nat) (s x : AV) (H : AH) : Option (AV × AH) :=
  match listCells H z x with
  | some (m, xs) =>
    if m = 0 then (if anySlice s = true then some (s, H) else none) else
    match s with
    | .slc g a i len z' =>
      match H.gs.get g with
      | some r =>
        if r.e = a ∧ z' = z ∧ r.fz ≤ i + len * z' ∧ i + len * z' ≤ r.cells.length ∧ (len + m) * by_ ≤ 140737488355328 ∧ len + m ≤ 9223372036854775807 then
          some (.slc g (a + 1) 0 (len + m) z', ⟨H.next, H.gs.set g ⟨a + 1, r.fz - i, (r.cells.drop i).take (len * z') ++ xs⟩, H.ms⟩)
        else none
      | none => none
    | .nils => if m * by_ ≤ 140737488355328 ∧ m ≤ 9223372036854775807 ∧ H.free = true then some (.slc H.next 0 0 m z, H.add xs) else none
    | .zslc => if m * by_ ≤ 140737488355328 ∧ m ≤ 9223372036854775807 ∧ H.free = true then some (.slc H.next 0 0 m z, H.add xs) else none
    | _ => none
  | none => none
/-- Carried out. -/
def iop (T : Tr AV) (op : IOp) (H : AH) : Option (AV × AH) :=
  match op with
  | .ev x => match iev T x with | some x => some (x, H) | none => none
  | .pick c a b => match iev T c with
    | some (.bool true) => match iev T a with | some x => some (x, H) | none => none
    | some (.bool false) => match iev T b with | some x => some (x, H) | none => none
    | _ => none
  | .new x => match iev T x with | some x => abox H x | none => none
  | .build zs parts => match iparts T parts with
    | some ps => match ifill zs ps with | some cs => some (.agg cs, H) | none => none
    | none => none
  | .bslice z n zs parts => match iparts T parts with
    | some ps => match ifill zs ps with | some cs => bif H.free then some (.slc H.next 0 0 n z, H.add cs) else none | none => none
    | none => none
  | .mkif t x => match iev T x with | some x => some (.iface t x, H) | none => none
  | .empty => some (.zslc, H)
  | .mksl z by_ zs l c => match iev T l with
    | some (.int _ l) => match iev T c with
      | some (.int _ c) => if 0 ≤ l ∧ l ≤ c ∧ c.toNat * z ≤ 16777216 ∧ by_ * c ≤ 281474976710656 ∧ c ≤ 9223372036854775807 ∧ H.free = true then some (.slc H.next 0 0 l.toNat z, H.add ((List.replicate l.toNat zs).flatten)) else none
      | _ => none
    | _ => none
  | .load n x => match iev T x with
    | some x => match iload n H x with | some y => some (y, H) | none => none
    | none => none
  | .store n x y => match iev T x with
    | some x => match iev T y with
      | some y => match istore n H x y with | some H' => some (.und, H') | none => none
      | none => none
    | none => none
  | .nilck x => match iev T x with
    | some (.ptr g e i) => some (.ptr g e i, H)
    | some (.vptr r i) => some (.vptr r i, H)
    | some (.fn (.func f) cap) => some (.fn (.func f) cap, H)
    | _ => none
  | .bin op t d nc x y => match iev T x with
    | some x => match iev T y with
      | some y => match ibin op t d nc x y with | some z => some (z, H) | none => none
      | none => none
    | none => none
  | .un op x => match iev T x with
    | some x => match aun op x with | some z => some (z, H) | none => none
    | none => none
  | .conv k x => match iev T x with
    | some (.int _ n) => some (.int k (k.wrap n), H)
    | _ => none
  | .convs x => match iev T x with
    | some (.str s) => some (.str s, H)
    | _ => none
  | .s2b x => match iev T x with
    | some (.str s) => some (.vals 1 (byteRows s), H)
    | _ => none
  | .b2s x => match iev T x with
    | some x => match listCells H 1 x with
      | some (_, xs) => match bytesA xs with
        | some l => some (.str l, H)
        | none => none
      | none => none
    | none => none
  | .i2s x => match iev T x with
    | some (.int _ n) => some (.str (Utf8.encode n).data.toList, H)
    | _ => none
  | .fn f cap => match ievs T cap with | some cs => some (.fn f cs, H) | none => none
  | .slice z x lo hi mx => match iev T x with
    | some x => match ievo T lo with
      | some lo => match ievo T hi with
        | some hi => match ievo T mx with
          | some mx => match islice z x lo hi mx with | some y => some (y, H) | none => none
          | none => none
        | none => none
      | none => none
    | none => none
  | .faddr off x => match iev T x with
    | some (.ptr g e i) => some (.ptr g e (i + off), H)
    | some (.vptr row i) => some (.vptr row (i + off), H)
    | _ => none
  | .field off n x => match iev T x with
    | some (.agg cs) => match n with
      | some n => some (.agg ((cs.drop off).take n), H)
      | none => match cs[off]? with | some y => some (y, H) | none => none
    | _ => none
  | .iaddr z x i => match iev T x with
    | some (.slc g a s len z') => match iev T i with
      | some (.int _ i) => if 0 ≤ i ∧ i < len ∧ z' = z then some (.ptr g a (s + i.toNat * z), H) else none
      | _ => none
    | some (.vals z' rows) => match iev T i with
      | some (.int _ i) => if 0 ≤ i ∧ z' = z then (match rows[i.toNat]? with | some r => some (.vptr r 0, H) | none => none) else none
      | _ => none
    | _ => none
  | .iaddrA n z x i => match iev T x with
    | some (.ptr g a s) => match iev T i with
      | some (.int _ i) => if 0 ≤ i ∧ i < n then some (.ptr g a (s + i.toNat * z), H) else none
      | _ => none
    | some (.vptr row s) => match iev T i with
      | some (.int _ i) => if 0 ≤ i ∧ i < n then some (.vptr row (s + i.toNat * z), H) else none
      | _ => none
    | _ => none
  | .index x i => match iev T x with
    | some (.str s) => match iev T i with
      | some (.int _ i) => if 0 ≤ i then (match s[i.toNat]? with | some c => some (.int .u8 c.toNat, H) | none => none) else none
      | _ => none
    | _ => none
  | .ext x i => match iev T x with
    | some (.tup vs) => match vs[i]? with | some y => some (y, H) | none => none
    | _ => none
  | .len isS x => match iev T x with
    | some (.str s) => bif isS then some (.int .i64 s.length, H) else none
    | some (.slc _ _ _ len _) => bif isS then none else some (.int .i64 len, H)
    | some (.vals _ rows) => bif isS then none else some (.int .i64 rows.length, H)
    | some .nils => bif isS then none else some (.int .i64 0, H)
    | some .zslc => bif isS then none else some (.int .i64 0, H)
    | _ => none
  | .app z b s x => match iev T s with
    | some s => match iev T x with
      | some x => iapp z b s x H
      | none => none
    | none => none
  | .mm mx l => match ievs T l with
    | some vs => match amm mx vs with | some y => some (y, H) | none => none
    | none => none
  | .capn x => match iev T x with
    | some .nils => some (.int .i64 0, H)
    | _ => none
  | .appz z by_ zs s x => match iev T s with
    | some .nils => match iev T x with
      | some (.int _ n) => if 0 < n ∧ n ≤ 9223372036854775807 ∧ n.toNat * by_ ≤ 281474976710656 ∧ H.free = true then some (.slc H.next 0 0 n.toNat z, H.add ((List.replicate n.toNat zs).flatten)) else none
      | _ => none
    | _ => none
  | .mop m l => match ievs T l with
    | some xs => mop m xs H
    | none => none
def cParts (l : List (Nat × Nat × Bool)) : List (Nat × Operand) → Option (List (Nat × Nat × Opd))
  | [] => some []
  | (i, o) :: os => match l[i]?, cO o, cParts l os with
    | some (off, size, _), some x, some xs => some ((off, size, x) :: xs)
    | _, _, _ => none
def cPartsZ (z : Nat) : List (Nat × Operand) → Option (List (Nat × Nat × Opd))
  | [] => some []
  | (i, o) :: os => match cO o, cPartsZ z os with
    | some x, some xs => some ((i * z, z, x) :: xs)
    | _, _ => none
def cOo : Option Operand → Option (Option Opd)
  | none => some none
  | some o => match cO o with
    | some x => some (some x)
    | none => none
/-- Looked up. -/
def cOp (P : Program) (op : Op) : Option IOp :=
  match op with
  | .move x => match cO x with | some x => some (.ev x) | none => none
  | .assign x => match cO x with | some x => some (.ev x) | none => none
  | .pick c a b => match cO c, cO a, cO b with
    | some c, some a, some b => some (.pick c a b)
    | _, _, _ => none
  | .alloc e => match zeroA P e with | some z => some (.new (.c z)) | none => none
  | .box _ x => match cO x with | some x => some (.new x) | none => none
  | .build t parts => match structA P t, zeroA P t with
    | some l, some (.agg zs) => if zs.all AV.one = true then (match cParts l parts.toList with | some ps => some (.build zs ps) | none => none) else none
    | _, _ => none
  | .makeInterface t x => match P.underlying t, cO x with
    | some (.interface _), _ => none
    | some _, some x => some (.mkif t x)
    | _, _ => none
  | .makeSlice t l c => match P.underlying t, cO l, cO c with
    | some (.slice e), some l, some c => match zeroA P e with
      | some zv => if zv.fit = true ∧ zv.cells.length = P.cellsOf e ∧ P.cellsOf e ≠ 0 then some (.mksl (P.cellsOf e) (P.bytesOf e) zv.cells l c) else none
      | none => none
    | _, _, _ => none
  | .buildSlice t len parts => match P.underlying t with
    | some (.slice e) => bif Nat.beq len 0 then (match parts.toList, P.info? e with
        | [], some _ => some .empty
        | _, _ => none) else (match zeroA P e with
      | some zv => if zv.fit = true ∧ zv.cells.length = P.cellsOf e ∧ len * P.cellsOf e ≤ 16777216 ∧ len * P.cellsOf e ≠ 0 then
          (match cPartsZ (P.cellsOf e) parts.toList with | some ps => some (.bslice (P.cellsOf e) len ((List.replicate len zv.cells).flatten) ps) | none => none) else none
      | none => none)
    | _ => none
  | .load t x => match P.underlying t, cO x with
    | some d, some x => some (.load (if isAggD d then some (P.cellsOf t) else none) x)
    | _, _ => none
  | .store t x y => match cO x, cO y with
    | some x, some y => if P.cellsOf t ≠ 0 then some (.store (P.cellsOf t) x y) else none
    | _, _ => none
  | .nilCheck x => match cO x with | some x => some (.nilck x) | none => none
  | .binOp op t x y _ => match cO x, cO y with
    | some x', some y' => match op, structKs P t with
      | .eql, some ks => some (.mop (.steq false ks) [x', y'])
      | .neq, some ks => some (.mop (.steq true ks) [x', y'])
      | op, _ => some (.bin op t (P.underlying t) (isC x || isC y) x' y')
    | _, _ => none
  | .unOp op _ x => match cO x with | some x => some (.un op x) | none => none
  | .convert s d x => match P.underlying s, P.underlying d, cO x with
    | some _, some (.int k), some x => some (.conv k x)
    | some .string, some .string, some x => some (.convs x)
    | some .string, some (.slice e), some x => match P.underlying e with
      | some (.int .u8) => some (.s2b x)
      | _ => none
    | some (.slice e), some .string, some x => match P.underlying e with
      | some (.int .u8) => some (.b2s x)
      | _ => none
    | some (.int _), some .string, some x => some (.i2s x)
    | _, _, _ => none
  | .makeFunc fn first cap => if first.isEmpty then (match cOs cap.toList with | some cs => some (.fn fn cs) | none => none) else none
  | .slice t x lo hi mx => match cO x, cOo lo, cOo hi, cOo mx with
    | some x, some lo, some hi, some mx => match P.underlying t with
      | some .string => some (.slice none x lo hi mx)
      | some (.slice e) => some (.slice (some (P.cellsOf e)) x lo hi mx)
      | _ => none
    | _, _, _, _ => none
  | .fieldAddr t x f => match structA P t, cO x with
    | some l, some x => match l[f]? with
      | some (off, size, _) => if size = 0 then none else some (.faddr off x)
      | none => none
    | _, _ => none
  | .field t x f => match structA P t, cO x with
    | some l, some x => match l[f]? with
      | some (off, size, true) => some (.field off (some size) x)
      | some (off, _, false) => some (.field off none x)
      | none => none
    | _, _ => none
  | .indexAddr t x i => match cO x, cO i with
    | some x, some i => match P.underlying t with
      | some (.slice e) => if P.cellsOf e = 0 then none else some (.iaddr (P.cellsOf e) x i)
      | some (.array n e) => if P.cellsOf e = 0 then none else some (.iaddrA n (P.cellsOf e) x i)
      | _ => none
    | _, _ => none
  | .index t x i => match cO x, cO i, P.underlying t with
    | some x, some i, some .string => some (.index x i)
    | _, _, _ => none
  | .extract x i => match cO x with | some x => some (.ext x i) | none => none
  | .makeMap _ r => match r with | none => some (.mop .make []) | some _ => none
  | .lookup t x k ok => match cO x, cO k, amapK P t with
    | some x, some k, some (kk, et) => match zeroA P et with
      | some z => some (.mop (.get kk z ok) [x, k])
      | none => none
    | _, _, _ => none
  | .mapUpdate t m k v => match cO m, cO k, cO v, amapK P t with
    | some m, some k, some v, some (kk, _) => some (.mop (.put kk) [m, k, v])
    | _, _, _, _ => none
  | .mapEntry t m k => match cO m, cO k, amapK P t with
    | some m, some k, some (kk, et) => match zeroA P et with
      | some z => some (.mop (.entry kk z) [m, k])
      | none => none
    | _, _, _ => none
  | .entryStore _ m s v => match cO m, cO s, cO v with
    | some m, some s, some v => some (.mop .sete [m, s, v])
    | _, _, _ => none
  | .insert t m k v => match cO m, cO k, cO v, amapK P t with
    | some m, some k, some v, some (kk, _) => some (.mop (.put kk) [m, k, v])
    | _, _, _, _ => none
  | .call c => match c.callee with
    | .builtin b => match cOs c.args.toList with
      | some vs => match b, vs, c.argTypes.toList with
        | .len, [p], [t] => match P.underlying t with
          | some .string => some (.len true p)
          | some (.slice _) => some (.len false p)
          | some (.map _ _) => some (.mop .len [p])
          | _ => none
        | .delete, [p, q], t :: _ => match amapK P t with
          | some (kk, _) => some (.mop (.del kk) [p, q])
          | none => none
        | .clear, [p], [t] => match P.underlying t with
          | some (.slice e) => match zeroA P e with
            | some zv => if zv.fit = true ∧ zv.cells.length = P.cellsOf e then some (.mop (.clr (P.cellsOf e) zv.cells) [p]) else none
            | none => none
          | _ => none
        | .append, [p, q], [t, u] => if u = t then (match P.underlying t with
            | some (.slice e) => match zeroA P e with
              | some zv => if zv.fit = true ∧ zv.cells.length = P.cellsOf e ∧ P.cellsOf e ≠ 0 then some (.app (P.cellsOf e) (P.bytesOf e) p q) else none
              | none => none
            | _ => none) else (match P.underlying t, P.underlying u with
            | some (.slice e), some (.int _) => match zeroA P e with
              | some zv => if zv.fit = true ∧ zv.cells.length = P.cellsOf e ∧ P.cellsOf e ≠ 0 then some (.appz (P.cellsOf e) (P.bytesOf e) zv.cells p q) else none
              | none => none
            | _, _ => none)
        | .cap, [p], [t] => match P.underlying t with
          | some (.slice _) => some (.capn p)
          | _ => none
        | .min, vs, _ => some (.mm false vs)
        | .max, vs, _ => some (.mm true vs)
        | _, _, _ => none
      | none => none
    | _ => none
  | _ => none
end Go.Abs
namespace Go.Abs
open Go Go.RowKit
set_option linter.unusedVariables false
theorem ifill_ok {l : List (Nat × Nat × Bool)} : ∀ {ps : List (Nat × Operand)} {is : List (Nat × Nat × Opd)} {T : Tr AV} {xs : List (Nat × Nat × AV)} {cells ys : List AV}, cParts l ps = some is → iparts T is = some xs → ifill cells xs = some ys →
    ∃ zs, aparts T ps = some zs ∧ afill (fun i => (l[i]?).map fun x => (x.1, x.2.1)) cells zs = some ys
  | [], is, T, xs, cells, ys, h1, h2, h3 => by
    simp only [cParts] at h1; cases h1
    simp only [iparts] at h2; cases h2
    simp only [ifill] at h3; cases h3
    exact ⟨[], rfl, rfl⟩
  | (i, o) :: ps, is, T, xs, cells, ys, h1, h2, h3 => by
    simp only [cParts] at h1
    split at h1
    · rename_i off size ag x is' e1 e2 e3
      cases h1
      simp only [iparts] at h2
      split at h2
      · cases h2
      · rename_i y e4
        split at h2
        · cases h2
        · rename_i xs' e5
          cases h2
          simp only [ifill] at h3
          split at h3
          · rename_i hc
            obtain ⟨zs, q1, q2⟩ := ifill_ok e3 e5 h3
            refine ⟨(i, y) :: zs, ?_, ?_⟩
            · simp only [aparts, ← cO_ok e2 T, e4, q1]
            · simp only [afill, e1, Option.map_some]
              rw [if_pos hc]
              exact q2
          · cases h3
    · cases h1
theorem ifillZ_ok {z : Nat} : ∀ {ps : List (Nat × Operand)} {is : List (Nat × Nat × Opd)} {T : Tr AV} {xs : List (Nat × Nat × AV)} {cells ys : List AV}, cPartsZ z ps = some is → iparts T is = some xs → ifill cells xs = some ys →
    ∃ zs, aparts T ps = some zs ∧ afill (fun i => some (i * z, z)) cells zs = some ys
  | [], is, T, xs, cells, ys, h1, h2, h3 => by
    simp only [cPartsZ] at h1; cases h1
    simp only [iparts] at h2; cases h2
    simp only [ifill] at h3; cases h3
    exact ⟨[], rfl, rfl⟩
  | (i, o) :: ps, is, T, xs, cells, ys, h1, h2, h3 => by
    simp only [cPartsZ] at h1
    split at h1
    · rename_i x is' e2 e3
      cases h1
      simp only [iparts] at h2
      split at h2
      · cases h2
      · rename_i y e4
        split at h2
        · cases h2
        · rename_i xs' e5
          cases h2
          simp only [ifill] at h3
          split at h3
          · rename_i hc
            obtain ⟨zs, q1, q2⟩ := ifillZ_ok e3 e5 h3
            refine ⟨(i, y) :: zs, ?_, ?_⟩
            · simp only [aparts, ← cO_ok e2 T, e4, q1]
            · simp only [afill]
              rw [if_pos hc]
              exact q2
          · cases h3
    · cases h1
theorem cOo_ok {o : Option Operand} {i : Option Opd} (h : cOo o = some i) (T : Tr AV) : ievo T i = aevo T o := by
  cases o with
  | none => simp only [cOo] at h; cases h; rfl
  | some o =>
    simp only [cOo] at h
    split at h
    · rename_i x hx
      cases h
      simp only [ievo, aevo, cO_ok hx T]
      cases aev T o <;> rfl
    · cases h
set_option maxHeartbeats 2000000 in
theorem cOp_ok {P : Program} {T : Tr AV} {op : Op} {i : IOp} {H : AH} {r : AV × AH} (hc : cOp P op = some i) (hr : iop T i H = some r) : aop P T op H = some r := by
  cases op <;> simp only [cOp] at hc <;> try (cases hc; done)
  case move x =>
    split at hc
    · rename_i y e; cases hc
      simp only [iop, cO_ok e T] at hr
      split at hr
      · rename_i z e2; cases hr; simp [aop, e2]
      · cases hr
    · cases hc
  case assign x =>
    split at hc
    · rename_i y e; cases hc
      simp only [iop, cO_ok e T] at hr
      split at hr
      · rename_i z e2; cases hr; simp [aop, e2]
      · cases hr
    · cases hc
  case pick c a b =>
    split at hc
    · rename_i x y z e1 e2 e3
      cases hc
      simp only [iop, cO_ok e1 T, cO_ok e2 T, cO_ok e3 T] at hr
      split at hr
      · rename_i e4
        split at hr
        · rename_i v e5; cases hr; simp [aop, e4, e5]
        · cases hr
      · rename_i e4
        split at hr
        · rename_i v e5; cases hr; simp [aop, e4, e5]
        · cases hr
      · cases hr
    · cases hc
  case alloc e =>
    split at hc
    · rename_i z e1; cases hc
      simp only [iop, iev] at hr
      simp [aop, e1, hr]
    · cases hc
  case box e x =>
    split at hc
    · rename_i y e; cases hc
      simp only [iop, cO_ok e T] at hr
      split at hr
      · rename_i z e2; simp [aop, e2, hr]
      · cases hr
    · cases hc
  case build t parts =>
    split at hc
    · rename_i l zs e1 e2
      split at hc
      · rename_i ho
        split at hc
        · rename_i ps e3
          cases hc
          simp only [iop] at hr
          split at hr
          · rename_i xs e4
            split at hr
            · rename_i cs e5
              cases hr
              obtain ⟨ws, q1, q2⟩ := ifill_ok e3 e4 e5
              simp [aop, q1, abuild, e1, e2, ho, q2]
            · cases hr
          · cases hr
        · cases hc
      · cases hc
    · cases hc
  case makeInterface t x =>
    split at hc
    · cases hc
    · rename_i d y hne e1 e2
      cases hc
      simp only [iop, cO_ok e2 T] at hr
      split at hr
      · rename_i p e3
        cases hr
        have : amkiface P t p = some (.iface t p) := by
          unfold amkiface
          rw [e1]
          cases d <;> first | rfl | exact absurd rfl (hne _)
        simp [aop, e3, this]
      · cases hr
    · cases hc
  case makeSlice t l c =>
    split at hc
    · rename_i e l' c' e1 e2 e3
      split at hc
      · rename_i zv e4
        split at hc
        · rename_i hcond
          cases hc
          simp only [iop, cO_ok e2 T, cO_ok e3 T] at hr
          split at hr
          · rename_i k n e5
            split at hr
            · rename_i k' m e6
              split at hr
              · rename_i hh
                cases hr
                simp only [aop, e5, e6, Option.bind_some, amkslice, e1, e4]
                rw [if_pos ⟨hcond.1, hcond.2.1, hcond.2.2, hh⟩]
              · cases hr
            · cases hr
          · cases hr
        · cases hc
      · cases hc
    · cases hc
  case buildSlice t len parts =>
    split at hc
    · rename_i e e1
      cases hl0 : Nat.beq len 0 with
      | true =>
        rw [hl0] at hc
        have hz := Nat.eq_of_beq_eq_true hl0
        subst hz
        simp only [cond_true] at hc
        split at hc
        · rename_i i' e2 e3
          cases hc
          simp only [iop] at hr
          cases hr
          simp [aop, e2, aparts, abuildSliceE, e1, e3]
        · cases hc
      | false =>
        rw [hl0] at hc
        have hz : len ≠ 0 := fun e0 => by subst e0; cases hl0
        simp only [cond_false] at hc
        split at hc
        · rename_i zv e2
          split at hc
          · rename_i ho
            split at hc
            · rename_i ps e3
              cases hc
              simp only [iop] at hr
              split at hr
              · rename_i xs e4
                split at hr
                · rename_i cs e5
                  cases hfr : H.free with
                  | false => rw [hfr] at hr; cases hr
                  | true =>
                    rw [hfr] at hr
                    cases hr
                    obtain ⟨ws, q1, q2⟩ := ifillZ_ok e3 e4 e5
                    have hE : abuildSliceE P t len ws H = abuildSlice P t len ws H := by
                      unfold abuildSliceE
                      split
                      · exact absurd rfl hz
                      · rfl
                    simp only [aop, q1, hE, abuildSlice, e1, e2, Option.bind_some, q2]
                    rw [if_pos ⟨ho.1, ho.2.1, ho.2.2.1, ho.2.2.2, hfr⟩]
                · cases hr
              · cases hr
            · cases hc
          · cases hc
        · cases hc
    · cases hc
  case load t x =>
    split at hc
    · rename_i d y e1 e2
      cases hc
      simp only [iop, cO_ok e2 T] at hr
      split at hr
      · rename_i z e3
        split at hr
        · rename_i v e4
          cases hr
          have : aload P H t z = some v := by
            unfold aload
            rw [e1]
            simp only
            unfold iload at e4
            cases ha : isAggD d with
            | true =>
              rw [ha] at e4
              simp only [if_true] at e4 ⊢
              split at e4
              · rename_i cs e5; cases e4; rw [e5]; rfl
              · cases e4
            | false =>
              rw [ha] at e4
              simp only [Bool.false_eq_true, if_false] at e4 ⊢
              split at e4
              · rename_i c rest e5; cases e4; rw [e5]; rfl
              · cases e4
          simp [aop, e3, this]
        · cases hr
      · cases hr
    · cases hc
  case store t x y =>
    split at hc
    · rename_i a b e1 e2
      split at hc
      · rename_i hz
        cases hc
        simp only [iop, cO_ok e1 T, cO_ok e2 T] at hr
        split at hr
        · rename_i p e3
          split at hr
          · rename_i v e4
            split at hr
            · rename_i H' e5
              cases hr
              have : astore P H t p v = some H' := by
                unfold istore at e5
                unfold astore
                split at e5
                · rename_i g e i
                  split at e5
                  · rename_i r e6
                    split at e5
                    · rename_i hcond
                      cases e5
                      simp only [e6]
                      rw [if_pos ⟨hcond.1, hcond.2.1, hcond.2.2.1, hz, hcond.2.2.2.1, hcond.2.2.2.2⟩]
                    · cases e5
                  · cases e5
                · cases e5
              simp [aop, e3, e4, this]
            · cases hr
          · cases hr
        · cases hr
      · cases hc
    · cases hc
  case nilCheck x =>
    split at hc
    · rename_i y e; cases hc
      simp only [iop, cO_ok e T] at hr
      split at hr
      · rename_i e2; cases hr; simp [aop, e2]
      · rename_i e2; cases hr; simp [aop, e2]
      · rename_i e2; cases hr; simp [aop, e2]
      · cases hr
    · cases hc
  case binOp op t x y yt =>
    split at hc
    · rename_i a b e1 e2
      have steq : ∀ neg ks, iop T (.mop (.steq neg ks) [a, b]) H = some r → ∃ p q, aev T x = some p ∧ aev T y = some q ∧ steqY neg ks H p q = some r := by
        intro neg ks hr
        simp only [iop, ievs, cO_ok e1 T, cO_ok e2 T, mop] at hr
        cases e6 : aev T x with
        | none => rw [e6] at hr; simp at hr
        | some v =>
          cases e7 : aev T y with
          | none => rw [e6, e7] at hr; simp at hr
          | some v' =>
            rw [e6, e7] at hr
            exact ⟨v, v', rfl, rfl, hr⟩
      have memo : ∀ neg ks p q, steqY neg ks H p q = some r → steqY neg ks AH.empty p q = some (r.1, AH.empty) ∧ r.2 = H := by
        intro neg ks p q h
        unfold steqY at h ⊢
        split at h
        · split at h
          · rename_i b hb
            cases h
            exact ⟨by simp only [hb], rfl⟩
          · cases h
        · cases h
      split at hc
      · rename_i ks hk
        cases hc
        obtain ⟨p, q, e3, e4, e5⟩ := steq _ _ hr
        obtain ⟨q1, q2⟩ := memo _ _ _ _ e5
        simp only [aop, e3, e4, Option.bind_some, abinS, hk, q1]
        rw [← q2]; rfl
      · rename_i ks hk
        cases hc
        obtain ⟨p, q, e3, e4, e5⟩ := steq _ _ hr
        obtain ⟨q1, q2⟩ := memo _ _ _ _ e5
        simp only [aop, e3, e4, Option.bind_some, abinS, hk, q1]
        rw [← q2]; rfl
      · rename_i op' _ _ hn1 hn2
        cases hc
        simp only [iop, cO_ok e1 T, cO_ok e2 T] at hr
        split at hr
        · rename_i p e3
          split at hr
          · rename_i q e4
            split at hr
            · rename_i z e5
              cases hr
              have h1 : abinC P op' t x y p q = some z := by
                rw [← e5]
                unfold abinC ibin
                split
                · rfl
                · split
                  · rename_i hne; exact (hne rfl rfl).elim
                  · rfl
              have h2 : abinS P op' t x y p q = some z := by
                unfold abinS
                split
                · rename_i ks hk; exact (hn1 ks rfl hk).elim
                · rename_i ks hk; exact (hn2 ks rfl hk).elim
                · exact h1
              simp [aop, e3, e4, h2]
            · cases hr
          · cases hr
        · cases hr
    · cases hc
  case unOp op t x =>
    split at hc
    · rename_i a e1
      cases hc
      simp only [iop, cO_ok e1 T] at hr
      split at hr
      · rename_i p e3
        split at hr
        · rename_i z e5
          cases hr
          simp [aop, e3, e5]
        · cases hr
      · cases hr
    · cases hc
  case convert s d x =>
    split at hc
    · rename_i ds k y e1 e2 e3
      cases hc
      simp only [iop, cO_ok e3 T] at hr
      split at hr
      · rename_i k' n e4
        cases hr
        cases ds <;> simp [aop, e4, aconvH, aconv, e1, e2]
      · cases hr
    · rename_i y e1 e2 e3
      cases hc
      simp only [iop, cO_ok e3 T] at hr
      split at hr
      · rename_i s e4; cases hr; simp [aop, e4, aconvH, aconv, e1, e2]
      · cases hr
    · rename_i e y e1 e2 e3
      split at hc
      · rename_i e5
        cases hc
        simp only [iop, cO_ok e3 T] at hr
        split at hr
        · rename_i s e4; cases hr; simp [aop, e4, aconvH, e1, e2, e5]
        · cases hr
      · cases hc
    · rename_i e y e1 e2 e3
      split at hc
      · rename_i e5
        cases hc
        simp only [iop, cO_ok e3 T] at hr
        split at hr
        · rename_i x e4
          split at hr
          · rename_i m xs e6
            split at hr
            · rename_i l e7; cases hr; simp [aop, e4, aconvH, e1, e2, e5, e6, e7]
            · cases hr
          · cases hr
        · cases hr
      · cases hc
    · rename_i k y e1 e2 e3
      cases hc
      simp only [iop, cO_ok e3 T] at hr
      split at hr
      · rename_i k' n e4; cases hr; simp [aop, e4, aconvH, e1, e2]
      · cases hr
    · cases hc
  case makeFunc fn first cap =>
    split at hc
    · rename_i hf
      split at hc
      · rename_i cs e1
        cases hc
        simp only [iop, cOs_ok e1 T] at hr
        split at hr
        · rename_i xs e2; cases hr; simp [aop, hf, e2]
        · cases hr
      · cases hc
    · cases hc
  case slice t x lo hi mx =>
    split at hc
    · rename_i x' lo' hi' mx' e1 e2 e3 e4
      have key : ∀ z, iop T (.slice z x' lo' hi' mx') H = some r → (∀ p l h m y, islice z p l h m = some y → aslice P t p l h m = some y) → aop P T (.slice t x lo hi mx) H = some r := by
        intro z hr hz
        simp only [iop, cO_ok e1 T, cOo_ok e2 T, cOo_ok e3 T, cOo_ok e4 T] at hr
        split at hr
        · rename_i p e5
          split at hr
          · rename_i l e6
            split at hr
            · rename_i h e7
              split at hr
              · rename_i m e8
                split at hr
                · rename_i y e9
                  cases hr
                  simp [aop, e5, e6, e7, e8, hz _ _ _ _ _ e9]
                · cases hr
              · cases hr
            · cases hr
          · cases hr
        · cases hr
      split at hc
      · rename_i e5
        cases hc
        refine key _ hr fun p l h m y hy => ?_
        unfold islice at hy
        unfold aslice
        rw [e5]
        cases p <;> cases m <;> simp only at hy ⊢ <;> first | exact hy | cases hy
      · rename_i e e5
        cases hc
        refine key _ hr fun p l h m y hy => ?_
        unfold islice at hy
        unfold aslice
        rw [e5]
        cases p <;> cases m <;> simp only at hy ⊢ <;> first | exact hy | cases hy
      · cases hc
    · cases hc
  case fieldAddr t x f =>
    split at hc
    · rename_i l y e1 e2
      split at hc
      · rename_i off size ag e3
        split at hc
        · cases hc
        · rename_i hz
          cases hc
          simp only [iop, cO_ok e2 T] at hr
          split at hr
          · rename_i e4; cases hr; simp [aop, e4, afieldAddr, e1, e3, hz]
          · rename_i e4; cases hr; simp [aop, e4, afieldAddr, e1, e3, hz]
          · cases hr
      · cases hc
    · cases hc
  case field t x f =>
    split at hc
    · rename_i l y e1 e2
      split at hc
      · rename_i off size e3
        cases hc
        simp only [iop, cO_ok e2 T] at hr
        split at hr
        · rename_i cs e4; cases hr; simp [aop, e4, afield, e1, e3]
        · cases hr
      · rename_i off size e3
        cases hc
        simp only [iop, cO_ok e2 T] at hr
        split at hr
        · rename_i cs e4
          split at hr
          · rename_i y e5; cases hr; simp [aop, e4, afield, e1, e3, e5]
          · cases hr
        · cases hr
      · cases hc
    · cases hc
  case indexAddr t x i =>
    split at hc
    · rename_i a b e1 e2
      split at hc
      · rename_i e e3
        split at hc
        · cases hc
        · rename_i hz
          cases hc
          simp only [iop, cO_ok e1 T, cO_ok e2 T] at hr
          split at hr
          · rename_i g ag s len z e4
            split at hr
            · rename_i k n e5
              split at hr
              · rename_i hcond; cases hr
                obtain ⟨h1, h2, rfl⟩ := hcond
                simp [aop, e4, e5, aindexAddr, e3, h1, h2, hz]
              · cases hr
            · cases hr
          · rename_i z rows e4
            split at hr
            · rename_i k n e5
              split at hr
              · rename_i hcond
                obtain ⟨h1, rfl⟩ := hcond
                split at hr
                · rename_i w e6; cases hr; simp [aop, e4, e5, aindexAddr, e3, h1, hz, e6]
                · cases hr
              · cases hr
            · cases hr
          · cases hr
      · rename_i n e e3
        split at hc
        · cases hc
        · rename_i hz
          cases hc
          simp only [iop, cO_ok e1 T, cO_ok e2 T] at hr
          split at hr
          · rename_i g ag s e4
            split at hr
            · rename_i k m e5
              split at hr
              · rename_i hcond; cases hr
                simp [aop, e4, e5, aindexAddr, e3, hcond, hz]
              · cases hr
            · cases hr
          · rename_i row s e4
            split at hr
            · rename_i k m e5
              split at hr
              · rename_i hcond; cases hr
                simp [aop, e4, e5, aindexAddr, e3, hcond, hz]
              · cases hr
            · cases hr
          · cases hr
      · cases hc
    · cases hc
  case index t x i =>
    split at hc
    · rename_i a b e1 e2 e3
      cases hc
      simp only [iop, cO_ok e1 T, cO_ok e2 T] at hr
      split at hr
      · rename_i s e4
        split at hr
        · rename_i k n e5
          split at hr
          · rename_i h0
            split at hr
            · rename_i c e6; cases hr; simp [aop, e4, e5, aindex, e3, h0, e6]
            · cases hr
          · cases hr
        · cases hr
      · cases hr
    · cases hc
  case makeMap t r' =>
    cases r' with
    | none =>
      cases hc
      simp only [iop, ievs, mop] at hr
      simp [aop, hr]
    | some r' => cases hc
  case lookup t x k ok =>
    split at hc
    · rename_i x' k' kk et e1 e2 e3
      split at hc
      · rename_i z e4
        cases hc
        simp only [iop, ievs, cO_ok e1 T, cO_ok e2 T, mop] at hr
        cases e6 : aev T x with
        | none => rw [e6] at hr; simp at hr
        | some v =>
          cases e7 : aev T k with
          | none => rw [e6, e7] at hr; simp at hr
          | some v' =>
            rw [e6, e7] at hr
            simp only at hr
            simp [aop, e6, e7, amget, e3, e4, hr]
      · cases hc
    · cases hc
  case mapUpdate t m k v =>
    split at hc
    · rename_i m' k' v' kk et e1 e2 e3 e4
      cases hc
      simp only [iop, ievs, cO_ok e1 T, cO_ok e2 T, cO_ok e3 T, mop] at hr
      cases e6 : aev T m with
      | none => rw [e6] at hr; simp at hr
      | some a =>
        cases e7 : aev T k with
        | none => rw [e6, e7] at hr; simp at hr
        | some b =>
          cases e8 : aev T v with
          | none => rw [e6, e7, e8] at hr; simp at hr
          | some c =>
            rw [e6, e7, e8] at hr
            simp only at hr
            simp [aop, e6, e7, e8, amput, e4, hr]
    · cases hc
  case mapEntry t m k =>
    split at hc
    · rename_i m' k' kk et e1 e2 e3
      split at hc
      · rename_i z e4
        cases hc
        simp only [iop, ievs, cO_ok e1 T, cO_ok e2 T, mop] at hr
        cases e6 : aev T m with
        | none => rw [e6] at hr; simp at hr
        | some v =>
          cases e7 : aev T k with
          | none => rw [e6, e7] at hr; simp at hr
          | some v' =>
            rw [e6, e7] at hr
            simp only at hr
            simp [aop, e6, e7, amentry, e3, e4, hr]
      · cases hc
    · cases hc
  case entryStore t m k v =>
    split at hc
    · rename_i m' k' v' e1 e2 e3
      cases hc
      simp only [iop, ievs, cO_ok e1 T, cO_ok e2 T, cO_ok e3 T, mop] at hr
      cases e6 : aev T m with
      | none => rw [e6] at hr; simp at hr
      | some a =>
        cases e7 : aev T k with
        | none => rw [e6, e7] at hr; simp at hr
        | some b =>
          cases e8 : aev T v with
          | none => rw [e6, e7, e8] at hr; simp at hr
          | some c =>
            rw [e6, e7, e8] at hr
            simp only at hr
            split at hr
            · rename_i kd n x' heq
              cases heq
              simp [aop, e6, e7, e8, amsete, hr]
            · cases hr
    · cases hc
  case insert t m k v =>
    split at hc
    · rename_i m' k' v' kk et e1 e2 e3 e4
      cases hc
      simp only [iop, ievs, cO_ok e1 T, cO_ok e2 T, cO_ok e3 T, mop] at hr
      cases e6 : aev T m with
      | none => rw [e6] at hr; simp at hr
      | some a =>
        cases e7 : aev T k with
        | none => rw [e6, e7] at hr; simp at hr
        | some b =>
          cases e8 : aev T v with
          | none => rw [e6, e7, e8] at hr; simp at hr
          | some c =>
            rw [e6, e7, e8] at hr
            simp only at hr
            simp [aop, e6, e7, e8, amput, e4, hr]
    · cases hc
  case extract x i =>
    split at hc
    · rename_i a e1
      cases hc
      simp only [iop, cO_ok e1 T] at hr
      split at hr
      · rename_i vs e2
        split at hr
        · rename_i y e3; cases hr; simp [aop, e2, e3]
        · cases hr
      · cases hr
    · cases hc
  case call c =>
    split at hc
    · rename_i b e1
      split at hc
      · rename_i vs e2
        split at hc
        · rename_i p t e3
          have hargs : ∃ o, c.args.toList = [o] ∧ cO o = some p := by
            cases hl : c.args.toList with
            | nil => rw [hl] at e2; simp [cOs] at e2
            | cons o os =>
              rw [hl] at e2
              simp only [cOs] at e2
              split at e2
              · rename_i x xs h1 h2
                cases e2
                cases os with
                | nil => exact ⟨o, rfl, h1⟩
                | cons o' os => simp only [cOs] at h2; split at h2 <;> cases h2
              · cases e2
          obtain ⟨o, ho, hp⟩ := hargs
          split at hc
          · rename_i e4
            cases hc
            simp only [iop, cO_ok hp T] at hr
            split at hr <;> (try simp only [cond_true] at hr) <;> first
              | (rename_i e5; cases hr; simp [aop, abuiltin, e1, ho, aevs, e5, e3, alen, e4, isMap])
              | cases hr
          · rename_i e e4
            cases hc
            simp only [iop, cO_ok hp T] at hr
            split at hr <;> (try simp only [cond_false] at hr) <;> first
              | (rename_i e5; cases hr; simp [aop, abuiltin, e1, ho, aevs, e5, e3, alen, e4, isMap])
              | cases hr
          · rename_i kt et e4
            cases hc
            simp only [iop, ievs, cO_ok hp T, mop] at hr
            split at hr
            · rename_i vs e5
              split at e5
              · cases e5
              · rename_i v e6
                cases e5
                simp only at hr
                simp [aop, abuiltin, e1, ho, aevs, e6, e3, e4, isMap, hr]
            · cases hr
          · cases hc
        · rename_i p q t ts e3
          have hargs : ∃ o o', c.args.toList = [o, o'] ∧ cO o = some p ∧ cO o' = some q := by
            cases hl : c.args.toList with
            | nil => rw [hl] at e2; simp [cOs] at e2
            | cons o os =>
              rw [hl] at e2
              simp only [cOs] at e2
              split at e2
              · rename_i x xs h1 h2
                cases e2
                cases os with
                | nil => simp [cOs] at h2
                | cons o' os =>
                  simp only [cOs] at h2
                  split at h2
                  · rename_i x' xs' h3 h4
                    cases h2
                    cases os with
                    | nil => exact ⟨o, o', rfl, h1, h3⟩
                    | cons o'' os => simp only [cOs] at h4; split at h4 <;> cases h4
                  · cases h2
              · cases e2
          obtain ⟨o, o', ho, hp, hq⟩ := hargs
          split at hc
          · rename_i kk et e4
            cases hc
            simp only [iop, ievs, cO_ok hp T, cO_ok hq T, mop] at hr
            cases e6 : aev T o with
            | none => rw [e6] at hr; simp at hr
            | some v =>
              cases e7 : aev T o' with
              | none => rw [e6, e7] at hr; simp at hr
              | some v' =>
                rw [e6, e7] at hr
                simp only at hr
                simp [aop, abuiltin, e1, ho, aevs, e6, e7, e3, amdel, e4, hr]
          · cases hc
        · rename_i p t e3
          have hargs : ∃ o, c.args.toList = [o] ∧ cO o = some p := by
            cases hl : c.args.toList with
            | nil => rw [hl] at e2; simp [cOs] at e2
            | cons o os =>
              rw [hl] at e2
              simp only [cOs] at e2
              split at e2
              · rename_i x xs h1 h2
                cases e2
                cases os with
                | nil => exact ⟨o, rfl, h1⟩
                | cons o' os => simp only [cOs] at h2; split at h2 <;> cases h2
              · cases e2
          obtain ⟨o, ho, hp⟩ := hargs
          split at hc
          · rename_i e e4
            split at hc
            · rename_i zv e5
              split at hc
              · rename_i hcond
                cases hc
                simp only [iop, ievs, cO_ok hp T, mop] at hr
                cases e6 : aev T o with
                | none => rw [e6] at hr; simp at hr
                | some v =>
                  rw [e6] at hr
                  simp only at hr
                  simp [aop, abuiltin, e1, ho, aevs, e6, e3, amclr, e4, e5, hcond, hr]
              · cases hc
            · cases hc
          · cases hc
        · rename_i p q t u e3
          have hargs : ∃ o o', c.args.toList = [o, o'] ∧ cO o = some p ∧ cO o' = some q := by
            cases hl : c.args.toList with
            | nil => rw [hl] at e2; simp [cOs] at e2
            | cons o os =>
              rw [hl] at e2
              simp only [cOs] at e2
              split at e2
              · rename_i x xs h1 h2
                cases e2
                cases os with
                | nil => simp [cOs] at h2
                | cons o' os =>
                  simp only [cOs] at h2
                  split at h2
                  · rename_i x' xs' h3 h4
                    cases h2
                    cases os with
                    | nil => exact ⟨o, o', rfl, h1, h3⟩
                    | cons o'' os => simp only [cOs] at h4; split at h4 <;> cases h4
                  · cases h2
              · cases e2
          obtain ⟨o, o', ho, hp, hq⟩ := hargs
          split at hc
          · rename_i hut
            subst hut
            split at hc
            · rename_i e e4
              split at hc
              · rename_i zv e5
                split at hc
                · rename_i hcond
                  cases hc
                  simp only [iop, cO_ok hp T, cO_ok hq T] at hr
                  split at hr
                  · rename_i s e6
                    split at hr
                    · rename_i x e7
                      have : aappend P u s x H = some r := by
                        unfold aappend
                        rw [e4]
                        simp only [e5]
                        unfold iapp at hr
                        split at hr
                        · rename_i m xs e8
                          rw [e8]
                          simp only
                          rw [if_pos hcond]
                          exact hr
                        · cases hr
                      simp [aop, abuiltin, e1, ho, aevs, e6, e7, e3, this]
                    · cases hr
                  · cases hr
                · cases hc
              · cases hc
            · cases hc
          · rename_i hut
            split at hc
            · rename_i e k' e4 e4'
              split at hc
              · rename_i zv e5
                split at hc
                · rename_i hcond
                  cases hc
                  simp only [iop, cO_ok hp T, cO_ok hq T] at hr
                  split at hr
                  · rename_i e6
                    split at hr
                    · rename_i k n e7
                      split at hr
                      · rename_i hh
                        cases hr
                        have : aappendZ P t u .nils (.int k n) H = some (.slc H.next 0 0 n.toNat (P.cellsOf e), H.add ((List.replicate n.toNat zv.cells).flatten)) := by
                          unfold aappendZ
                          rw [e4, e4']
                          simp only [e5]
                          rw [if_pos ⟨hcond.1, hcond.2.1, hcond.2.2, hh⟩]
                        simp [aop, abuiltin, e1, ho, aevs, e6, e7, e3, this, hut]
                      · cases hr
                    · cases hr
                  · cases hr
                · cases hc
              · cases hc
            · cases hc
        · rename_i p t e3
          have hargs : ∃ o, c.args.toList = [o] ∧ cO o = some p := by
            cases hl : c.args.toList with
            | nil => rw [hl] at e2; simp [cOs] at e2
            | cons o os =>
              rw [hl] at e2
              simp only [cOs] at e2
              split at e2
              · rename_i x xs h1 h2
                cases e2
                cases os with
                | nil => exact ⟨o, rfl, h1⟩
                | cons o' os => simp only [cOs] at h2; split at h2 <;> cases h2
              · cases e2
          obtain ⟨o, ho, hp⟩ := hargs
          split at hc
          · rename_i e e4
            cases hc
            simp only [iop, cO_ok hp T] at hr
            split at hr
            · rename_i e5; cases hr; simp [aop, abuiltin, e1, ho, aevs, e5, e3, acap, e4]
            · cases hr
          · cases hc
        · rename_i vs' l'
          cases hc
          simp only [iop, cOs_ok e2 T] at hr
          split at hr
          · rename_i xs e4
            split at hr
            · rename_i y e5; cases hr; simp [aop, abuiltin, e1, e4, e5]
            · cases hr
          · cases hr
        · rename_i vs' l'
          cases hc
          simp only [iop, cOs_ok e2 T] at hr
          split at hr
          · rename_i xs e4
            split at hr
            · rename_i y e5; cases hr; simp [aop, abuiltin, e1, e4, e5]
            · cases hr
          · cases hr
        · cases hc
      · cases hc
    · cases hc
end Go.Abs
namespace Go.Abs
open Go Go.RowKit
set_option linter.unusedVariables false
inductive IK where
  | op (o : IOp)
  | call (f : Opd) (args : List Opd)
structure IOper where
  dst : Option Pth
  guard : Option (Pth × Bool)
  op : IK
abbrev ICall := FuncId → List AV → AH → Option (AV × AH)
def xput (T : Tr AV) : Option Pth → AV → Tr AV
  | none, _ => T
  | some p, x => Tr.setP p T x
def xop (call : ICall) (T : Tr AV) (H : AH) : IK → Option (AV × AH)
  | .op o => iop T o H
  | .call f args => match iev T f with
    | some (.fn (.func g) cap) => match ievs T args with
      | some xs => call g (xs ++ cap) H
      | none => none
    | _ => none
def xops (call : ICall) : List IOper → Tr AV → AH → Option (Tr AV × AH)
  | [], T, H => some (T, H)
  | o :: os, T, H => match o.guard with
    | none => match xop call T H o.op with
      | some (x, H') => xops call os (xput T o.dst x) H'
      | none => none
    | some (p, want) => match T.getP p with
      | some (.bool b) => bif b == want then (match xop call T H o.op with
          | some (x, H') => xops call os (xput T o.dst x) H'
          | none => none) else xops call os (xput T o.dst .und) H
      | some .und => xops call os (xput T o.dst .und) H
      | _ => none
def cDst (nt : Nat) : Option Tmp → Option (Option Pth)
  | none => some none
  | some d => if d < nt then some (some (Tr.path d)) else none
def cGuard (nt : Nat) (ops : Array Oper) (o : Oper) : Option (Option (Pth × Bool)) :=
  match o.guard with
  | none => some none
  | some (j, want) => match (ops[j]?).bind (·.dst) with
    | some d => if d < nt then some (some (Tr.path d, want)) else none
    | none => none
def cK (P : Program) : Op → Option IK
  | .call c => match c.callee with
    | .value f => match cO f, cOs c.args.toList with
      | some f, some xs => some (.call f xs)
      | _, _ => none
    | _ => match cOp P (.call c) with | some i => some (.op i) | none => none
  | op => match cOp P op with | some i => some (.op i) | none => none
def cOper (P : Program) (nt : Nat) (ops : Array Oper) (o : Oper) : Option IOper :=
  match cDst nt o.dst, cGuard nt ops o, cK P o.op with
  | some d, some g, some k => some ⟨d, g, k⟩
  | _, _, _ => none
/-- Where a call's answer is right. -/
def CallOK (P : Program) (call : ICall) : Prop := ∀ g xs H x H', call g xs H = some (x, H') → callableB P g = true ∧ ACalls P g xs H fun y H1 => y = x ∧ H1 = H'
theorem TRel.congr {G : Gh} {nt : Nat} {T T' : Tr AV} {a : Act} (h : TRel G nt T a) (he : ∀ k, T'.get k = T.get k) : TRel G nt T' a := ⟨h.defers, h.size, fun t x hx => h.at' t x (by rw [← he]; exact hx)⟩
theorem AOps.congr {P : Program} {nt : Nat} {ops : Array Oper} {l : List Nat} {T T' : Tr AV} {H : AH} {Q : Exit → Tr AV → AH → Prop} (he : ∀ k, T'.get k = T.get k) (h : AOps P nt ops l T' H Q) : AOps P nt ops l T H Q := fun K G a w hr ht =>
  h K G a w hr (ht.congr he)
theorem cDst_ok {nt : Nat} {d : Option Tmp} {p : Option Pth} (h : cDst nt d = some p) (T : Tr AV) (x : AV) : ∃ T', tput nt T d x = some T' ∧ ∀ k, (xput T p x).get k = T'.get k := by
  cases d with
  | none => simp only [cDst] at h; cases h; exact ⟨T, rfl, fun k => rfl⟩
  | some d =>
    simp only [cDst] at h
    split at h
    · rename_i hd
      cases h
      refine ⟨T.set d x, by simp [tput, hd], fun k => ?_⟩
      rw [xput, Tr.get_setP, Tr.get_set]
    · cases h
def bval : Option AV → Bool → Option Bool
  | some (.bool b), want => some (b == want)
  | some .und, _ => some false
  | _, _ => none
def gval (T : Tr AV) : Option (Pth × Bool) → Option Bool
  | none => some true
  | some (p, want) => bval (T.getP p) want
theorem cGuard_ok {nt : Nat} {ops : Array Oper} {o : Oper} {g : Option (Pth × Bool)} (h : cGuard nt ops o = some g) :
    guardIn ops nt o = true ∧ ∀ T, wantedA ops T o = gval T g := by
  unfold cGuard at h
  split at h
  · rename_i hg
    cases h
    exact ⟨by simp [guardIn, hg], fun T => by simp [wantedA, hg, gval]⟩
  · rename_i j want hg
    split at h
    · rename_i d hd
      split at h
      · rename_i hlt
        cases h
        refine ⟨by simp [guardIn, hg, hd, hlt], fun T => ?_⟩
        simp only [wantedA, hg, hd, gval, Tr.getP_eq]
        cases T.get d with
        | none => rfl
        | some v => cases v <;> rfl
      · cases h
    · cases h
section
variable {P : Program} {nt : Nat} {ops : Array Oper} {call : ICall}
/-- One that is carried out. -/
theorem AOps.run {i : Nat} {l : List Nat} {o : Oper} {io : IOper} {T : Tr AV} {H H' : AH} {x : AV} {Q : Exit → Tr AV → AH → Prop} (hcall : CallOK P call) (ho : ops[i]? = some o) (hc : cOper P nt ops o = some io)
    (hw : wantedA ops T o = some true) (hx : xop call T H io.op = some (x, H')) (h : AOps P nt ops l (xput T io.dst x) H' Q) : AOps P nt ops (i :: l) T H Q := by
  unfold cOper at hc
  split at hc
  · rename_i d g k e1 e2 e3
    cases hc
    obtain ⟨hg, _⟩ := cGuard_ok e2
    obtain ⟨T', ht, he⟩ := cDst_ok e1 T x
    have hop : ∀ i' : IOp, cOp P o.op = some i' → k = .op i' → AOps P nt ops (i :: l) T H Q := by
      intro i' h1 h2
      subst h2
      exact AOps.op ho hg hw (cOp_ok h1 hx) ht (AOps.congr he h)
    cases hk : o.op with
    | call c =>
      rw [hk] at e3
      simp only [cK] at e3
      split at e3
      · rename_i f hf
        split at e3
        · rename_i f' xs' h1 h2
          cases e3
          simp only [xop, cO_ok h1 T, cOs_ok h2 T] at hx
          split at hx
          · rename_i gg cap h3
            split at hx
            · rename_i ys h4
              obtain ⟨q1, q2⟩ := hcall _ _ _ _ _ hx
              refine AOps.call (R := fun y H1 => y = x ∧ H1 = H') ho hg hw hk ?_ q1 q2 ?_
              · unfold acallee; rw [hf]; simp only [h3, h4]
              · rintro y H1 ⟨rfl, rfl⟩
                exact ⟨T', ht, AOps.congr he h⟩
            · cases hx
          · cases hx
        · cases e3
      · split at e3
        · rename_i i' h1; cases e3; exact hop i' (by rw [hk]; exact h1) rfl
        · cases e3
    | _ =>
      rw [hk] at e3
      simp only [cK] at e3
      split at e3
      · rename_i i' h1; cases e3; exact hop i' (by rw [hk]; exact h1) rfl
      · cases e3
  · cases hc
theorem AOps.skip {i : Nat} {l : List Nat} {o : Oper} {io : IOper} {T : Tr AV} {H : AH} {Q : Exit → Tr AV → AH → Prop} (ho : ops[i]? = some o) (hc : cOper P nt ops o = some io)
    (hw : wantedA ops T o = some false) (h : AOps P nt ops l (xput T io.dst .und) H Q) : AOps P nt ops (i :: l) T H Q := by
  unfold cOper at hc
  split at hc
  · rename_i d g k e1 e2 e3
    cases hc
    obtain ⟨hg, _⟩ := cGuard_ok e2
    obtain ⟨T', ht, he⟩ := cDst_ok e1 T .und
    exact AOps.no ho hg hw ht (AOps.congr he h)
  · cases hc
theorem cOper_guard {o : Oper} {io : IOper} (hc : cOper P nt ops o = some io) (T : Tr AV) : wantedA ops T o = gval T io.guard := by
  unfold cOper at hc
  split at hc
  · rename_i d g k e1 e2 e3
    cases hc
    exact (cGuard_ok e2).2 T
  · cases hc
theorem xops_ok (hcall : CallOK P call) : ∀ (l : List Nat) (is : List IOper) (T : Tr AV) (H : AH) (T' : Tr AV) (H' : AH), l.length = is.length → (∀ (j : Nat) i io, l[j]? = some i → is[j]? = some io → ∃ o, ops[i]? = some o ∧ cOper P nt ops o = some io) →
    xops call is T H = some (T', H') → AOps P nt ops l T H fun e T1 H1 => e = .normal ∧ T1 = T' ∧ H1 = H'
  | [], [], T, H, T', H', hl, hc, h => by
    simp only [xops] at h; cases h
    exact AOps.nil ⟨rfl, rfl, rfl⟩
  | [], _ :: _, T, H, T', H', hl, hc, h => by simp at hl
  | _ :: _, [], T, H, T', H', hl, hc, h => by simp at hl
  | i :: l, io :: is, T, H, T', H', hl, hc, h => by
    obtain ⟨o, ho, hco⟩ := hc 0 i io rfl rfl
    have hg := cOper_guard hco T
    have hl' : l.length = is.length := by simpa using hl
    have hc' : ∀ (j : Nat) i io, l[j]? = some i → is[j]? = some io → ∃ o, ops[i]? = some o ∧ cOper P nt ops o = some io := fun j i io h1 h2 => hc (j + 1) i io (by simpa using h1) (by simpa using h2)
    simp only [xops] at h
    split at h
    · rename_i e
      rw [e] at hg
      simp only [gval] at hg
      split at h
      · rename_i x H1 hx
        exact AOps.run hcall ho hco hg hx (xops_ok hcall l is _ _ _ _ hl' hc' h)
      · cases h
    · rename_i p want e
      rw [e] at hg
      simp only [gval] at hg
      split at h
      · rename_i b hb
        rw [hb] at hg
        simp only [bval] at hg
        cases hbw : b == want with
        | true =>
          rw [hbw] at h hg
          simp only [cond_true] at h
          split at h
          · rename_i x H1 hx
            exact AOps.run hcall ho hco hg hx (xops_ok hcall l is _ _ _ _ hl' hc' h)
          · cases h
        | false =>
          rw [hbw] at h hg
          simp only [cond_false] at h
          exact AOps.skip ho hco hg (xops_ok hcall l is _ _ _ _ hl' hc' h)
      · rename_i hb
        rw [hb] at hg
        simp only [bval] at hg
        exact AOps.skip ho hco hg (xops_ok hcall l is _ _ _ _ hl' hc' h)
      · cases h
end
end Go.Abs
