/- A text that stands for a function's text.   A plain function that stands for a function of the program.   Functions carried out by another text that stands for theirs.   Functions carried out by plain functions of their own, that may call.   What is carried out with fewer calls is carried out with more. A function's body in pieces.   The end of a body behind which no memory is kept.   (*strings.Builder).String of bytes that lie in a row.   tale.Run: at a text, from nothing; what is kept of it.   tale.Run, carried out; what is kept of it. -/
import Derived.Test.YtjnagmdbkkccpaaGreatDoorAbsL
import Derived.Test.YtjnagmdbkkccpaaGreatDoorAbsZZ
import Derived.Test.YtjnagmdbkkccpaaGreatDoorStA
import Derived.Test.YtjnagmdbkkccpaaGreatDoorTlA
import Derived.Lib.Builder
import Derived.Lib.UnsafeStr
import Derived.Shelf.RegionOpen
import Derived.ProofKit
namespace Go.Abs
open Go Go.RowKit
set_option linter.unusedVariables false
abbrev Fns := FuncId → Option IFun
/-- What the text does is what a call does. -/
structure FnOK (P : Program) (f : FuncId) (fn : IFun) : Prop where
  okc : okC fn.body
  ok : ∀ call F, CallOK P call → CallFrame call → ∀ args H x H', Nat.ble args.length fn.nt = true → xend fn (xcode call F fn.body (xinit args 0 .nil) H) = some (x, H') → callableB P f = true ∧ ACalls P f args H fun y H1 => y = x ∧ H1 = H'
theorem FnOK.plain {P : Program} {f : FuncId} {fn : IFun} (hm : P.follows .mixedOrders = true) (hD : funD P f = true) (hfn : cFun P (fun _ => true) f = some fn) : FnOK P f fn := by
  unfold cFun at hfn
  simp only [cond_true] at hfn
  split at hfn
  · rename_i fn' hf'
    cases hnm : (fn'.name == "runtime.NumGoroutine") with
    | true => rw [hnm] at hfn; cases hfn
    | false =>
      rw [hnm] at hfn
      simp only [cond_false] at hfn
      split at hfn
      · rename_i c hbody
        split at hfn
        · rename_i rs hrs
          cases hfn
          have hcd : codeD P fn'.ntmps c = true := by
            have := hD
            unfold funD at this
            rw [hf'] at this
            simpa [hbody] using this
          refine ⟨cCode_okC _ _ _, fun call F ih ihf args H x H' hb h => ?_⟩
          refine ⟨by unfold callableB; rw [hf']; simp [hnm, hbody], ?_⟩
          refine ACalls.of_body hf' hbody (Nat.le_of_ble_eq_true hb) ?_
          have hxi : ∀ k, (xinit args 0 .nil).get k = (tinit args 0).get k := by
            intro k
            rw [xinit_get, tinit_get]
            simp only [Nat.zero_le, true_and, Nat.zero_add, Nat.sub_zero, if_true, Tr.get_nil]
            by_cases hk : k < args.length
            · rw [if_pos hk]
            · rw [if_neg hk, List.getElem?_eq_none (by omega)]
          have main : ∀ e T1 H1, xcode call F (cCode P fn'.ntmps c) (xinit args 0 .nil) H = some (e, T1, H1) → (e = .normal ∨ e = .ret) → ires T1 H1 rs = some x → H1 = H' → AT P fn'.ntmps c (tinit args 0) H (bodyQ P fn' fun y H1 => y = x ∧ H1 = H') := by
            rintro e T1 H1 k1 k2 k3 rfl
            have hAT := xcode_ok (nt := fn'.ntmps) ih ihf hm c _ _ _ _ _ hcd k1
            intro K G a w hr ht
            refine wp_mono (hAT K G a w hr (ht.congr hxi)) fun e1 a1 w1 ⟨G', T2, H2, r1, r2, r3, r4, r5, r6⟩ => ?_
            subst r4; subst r5; subst r6
            refine ⟨G', T2, H2, r1, r2, r3, ?_⟩
            rcases k2 with rfl | rfl <;> exact ⟨x, ires_ok hrs k3, rfl, rfl⟩
          cases hx : xcode call F (cCode P fn'.ntmps c) (xinit args 0 .nil) H with
          | none => rw [hx] at h; simp [xend] at h
          | some r =>
            obtain ⟨e, T1, H1⟩ := r
            rw [hx] at h
            cases e with
            | normal =>
              simp only [xend] at h
              split at h
              · rename_i y hy; cases h; exact main _ _ _ hx (.inl rfl) hy rfl
              · cases h
            | ret =>
              simp only [xend] at h
              split at h
              · rename_i y hy; cases h; exact main _ _ _ hx (.inr rfl) hy rfl
              · cases h
            | exit id => simp [xend] at h
        · cases hfn
      · cases hfn
  · cases hfn
end Go.Abs
namespace Go.Abs
open Go Go.RowKit
set_option linter.unusedVariables false
abbrev Sps := FuncId → Option MZ
/-- A function's own text, as a plain function. -/
noncomputable def textM (fn : IFun) : MZ := fun c F args H => bif Nat.ble args.length fn.nt then xend fn (xcode c F fn.body (xinit args 0 .nil) H) else none
end Go.Abs
namespace Go.Abs
open Go Go.RowKit
set_option linter.unusedVariables false
/-- A plain function refines a text. -/
def EZ (fns : Fns) (f : FuncId) (m : MZ) : Prop := ∀ c c2, CLe c c2 → ∀ F args H r, m c F args H = some r → ∃ fn, fns f = some fn ∧ Nat.ble args.length fn.nt = true ∧ xend fn (xcode c2 F fn.body (xinit args 0 .nil) H) = some r
theorem EZ.of {P : Program} {fns : Fns} {f : FuncId} {m : MZ} (h : ZOK P f m) (hf : fns f = cFun P (fun _ => true) f) : EZ fns f m := fun c c2 hc F args H r hr => by
  rw [hf]
  exact zrun_ok hc (h c F args H r hr)
end Go.Abs
namespace Go.Abs
open Go Go.RowKit
set_option linter.unusedVariables false
/-- The program's own texts, but for one function. -/
noncomputable def spOf (P : Program) (g : FuncId) (m : MZ) (good : FuncId → Bool) : Sps := fun f => if f = g then some m else if good f = true then (cFun P (fun _ => true) f).map textM else none
/-- A table's entry is what the texts do. -/
def EZS (sp : Sps) (f : FuncId) (m : MZ) : Prop := ∀ c c2, CLe c c2 → ∀ F args H r, m c F args H = some r → ∃ m', sp f = some m' ∧ m' c2 F args H = some r
theorem EZS.of {P : Program} {g : FuncId} {mg : MZ} {good : FuncId → Bool} {f : FuncId} {m : MZ} (h : ZOK P f m) (hne : f ≠ g) (hf : good f = true) : EZS (spOf P g mg good) f m := fun c c2 hc F args H r hr => by
  obtain ⟨fn, h1, h2, h3⟩ := zrun_ok hc (h c F args H r hr)
  refine ⟨textM fn, ?_, ?_⟩
  · unfold spOf
    rw [if_neg hne, if_pos hf, h1]; rfl
  · unfold textM
    rw [h2]; exact h3
end Go.Abs
namespace Go.Abs
open Go Go.RowKit
set_option linter.unusedVariables false
section
variable {c1 c2 : ICall}
theorem xop_le (hc : CLe c1 c2) {T : Tr AV} {H : AH} {k : IK} {r : AV × AH} (h : xop c1 T H k = some r) : xop c2 T H k = some r := by
  cases k with
  | op o => exact h
  | call f args =>
    simp only [xop] at h ⊢
    split at h
    · split at h
      · exact hc _ _ _ _ h
      · cases h
    · cases h
theorem xops_le (hc : CLe c1 c2) : ∀ {l : List IOper} {T : Tr AV} {H : AH} {r : Tr AV × AH}, xops c1 l T H = some r → xops c2 l T H = some r
  | [], T, H, r, h => h
  | o :: os, T, H, r, h => by
    simp only [xops] at h ⊢
    cases hg : o.guard with
    | none =>
      rw [hg] at h
      simp only at h ⊢
      cases hx : xop c1 T H o.op with
      | none => rw [hx] at h; cases h
      | some p =>
        obtain ⟨x, H1⟩ := p
        rw [hx] at h
        rw [xop_le hc hx]
        exact xops_le hc h
    | some g =>
      obtain ⟨p, want⟩ := g
      rw [hg] at h
      simp only at h ⊢
      cases hT : T.getP p with
      | none => rw [hT] at h; cases h
      | some v =>
        rw [hT] at h
        cases v <;> simp only at h ⊢ <;> try (cases h; done)
        · rename_i b
          cases hb : (b == want) with
          | false => rw [hb] at h; exact xops_le hc h
          | true =>
            rw [hb] at h
            simp only [cond_true] at h ⊢
            cases hx : xop c1 T H o.op with
            | none => rw [hx] at h; cases h
            | some p =>
              obtain ⟨x, H1⟩ := p
              rw [hx] at h
              rw [xop_le hc hx]
              exact xops_le hc h
        · exact xops_le hc h
theorem eff_le (hc : CLe c1 c2) {base : Nat} {T : Tr AV} {H : AH} {W : List WE} {idx : Nat} {k : DK} {r : AV × AH × List WE} (h : eff c1 base T H W idx k = some r) : eff c2 base T H W idx k = some r := by
  cases k with
  | pure i => exact h
  | load n x => exact h
  | alloc i => exact h
  | k2 k w =>
    simp only [eff] at h ⊢
    cases hx : xop c1 T H k with
    | none => rw [hx] at h; cases h
    | some p => obtain ⟨x, H1⟩ := p; rw [hx] at h; rw [xop_le hc hx]; exact h
theorem drun_le (hc : CLe c1 c2) {base : Nat} : ∀ {l : List DOp} {s r : DS}, drun c1 base l s = some r → drun c2 base l s = some r
  | [], s, r, h => h
  | d :: l, s, r, h => by
    simp only [drun] at h ⊢
    have hd : ∀ u, dstep c1 base d s = some u → dstep c2 base d s = some u := by
      intro u hu
      unfold dstep at hu ⊢
      split at hu
      · cases hu
      · exact hu
      · cases hx : eff c1 base s.T s.H s.W d.idx d.k with
        | none => rw [hx] at hu; cases hu
        | some p => rw [hx] at hu; rw [eff_le hc hx]; exact hu
    cases hx : dstep c1 base d s with
    | none => rw [hx] at h; cases h
    | some u => rw [hx] at h; rw [hd u hx]; exact drun_le hc h
theorem iter_le {f g : Tr AV → AH → XR} (hfg : ∀ T H r, f T H = some r → g T H = some r) : ∀ (n : Nat) (T : Tr AV) (H : AH) (r : IEx × Tr AV × AH), iter f n T H = some r → iter g n T H = some r
  | 0, T, H, r, h => h
  | n + 1, T, H, r, h => by
    simp only [iter] at h ⊢
    cases hx : f T H with
    | none => rw [hx] at h; cases h
    | some p =>
      rw [hx] at h
      rw [hfg _ _ _ hx]
      obtain ⟨e, T1, H1⟩ := p
      cases e <;> first | exact iter_le hfg n _ _ _ h | exact h
theorem xcode_le (hc : CLe c1 c2) {F : Nat} : ∀ (c : ICode) (T : Tr AV) (H : AH) (r : IEx × Tr AV × AH), xcode c1 F c T H = some r → xcode c2 F c T H = some r := by
  intro c
  induction c with
  | skip => intro T H r h; exact h
  | exit id => intro T H r h; exact h
  | ret => intro T H r h; exact h
  | bad => intro T H r h; exact h
  | ops l =>
    intro T H r h
    simp only [xcode] at h ⊢
    cases hx : xops c1 l T H with
    | none => rw [hx] at h; cases h
    | some p => rw [hx] at h; rw [xops_le hc hx]; exact h
  | dops n l =>
    intro T H r h
    simp only [xcode] at h ⊢
    cases hx : drun c1 H.next l ⟨T, ⟨H.next + n, H.gs, H.ms⟩, []⟩ with
    | none => rw [hx] at h; cases h
    | some p => rw [hx] at h; rw [drun_le hc hx]; exact h
  | seq a b ha hb =>
    intro T H r h
    simp only [xcode] at h ⊢
    cases hx : xcode c1 F a T H with
    | none => rw [hx] at h; cases h
    | some p =>
      rw [hx] at h
      rw [ha _ _ _ hx]
      obtain ⟨e, T1, H1⟩ := p
      cases e <;> first | exact hb _ _ _ h | exact h
  | cond x a b ha hb =>
    intro T H r h
    simp only [xcode] at h ⊢
    split at h
    · exact ha _ _ _ h
    · exact hb _ _ _ h
    · cases h
  | block id c hc' =>
    intro T H r h
    simp only [xcode] at h ⊢
    cases hx : xcode c1 F c T H with
    | none => rw [hx] at h; cases h
    | some p => rw [hx] at h; rw [hc' _ _ _ hx]; exact h
  | loop c hc' =>
    intro T H r h
    exact iter_le (fun T H r => hc' T H r) F T H r h
end
end Go.Abs
namespace Go.Abs
open Go Go.RowKit Go.Lib
set_option linter.unusedVariables false
/-- What a body must leave. -/
def Qf (P : Program) (fd : Func) (K : Kx) (x : AV) : Exit → Act → World → Prop := bodyPost P fd fun e w => ∃ u, e = .returned u ∧ (∀ G, VR G x u) ∧ Below K.B K.w0 w
def GoodC (P : Program) (fd : Func) (nt : Nat) (c : Code) (K : Kx) (x : AV) (T : Tr AV) (H : AH) : Prop := ∀ G a w, HRel K G H w → TRel G nt T a → c.wp P (Qf P fd K x) a w
/-- One piece, and what follows; or the end. -/
def sqy (r : XR) (rs : List IRes) (k : Tr AV → AH → Option AV) : Option AV := match r with
  | some (.normal, T, H) => k T H
  | some (.ret, T, H) => ires T H rs
  | _ => none
theorem sqy_ok {P : Program} {fd : Func} {nt : Nat} {a c : Code} {T : Tr AV} {H : AH} {K : Kx} {x : AV} {r : XR} {rs : List IRes} {k : Tr AV → AH → Option AV} (hrs : cRes P fd.results.toList = some rs) (hx : ∀ G G' u, VR G x u → VR G' x u)
    (h1 : ∀ e T' H', r = some (e, T', H') → AT P nt a T H (Is e T' H')) (h2 : ∀ T' H', k T' H' = some x → GoodC P fd nt c K x T' H') (h : sqy r rs k = some x) : GoodC P fd nt (.seq a c) K x T H := by
  intro G w0 w hr ht
  cases r with
  | none => cases h
  | some p =>
    obtain ⟨e, T1, H1⟩ := p
    refine wp_seq (wp_mono (h1 _ _ _ rfl K G w0 w hr ht) fun e1 a1 w1 ⟨G1, T2, H2, q1, q2, q3, q4, q5, q6⟩ => ?_)
    subst q4; subst q5; subst q6
    cases e with
    | normal => exact h2 _ _ h G1 a1 w1 q2 q3
    | ret =>
      replace h : ires T2 H2 rs = some x := h
      obtain ⟨u, k1, k2⟩ := aresult_ok q2 q3 (ires_ok hrs h)
      exact ⟨q3.defers, u, k1, u, rfl, fun G => hx _ _ _ k2, q2.below⟩
    | exit id => cases h
theorem sqy_le {r r' : XR} {rs : List IRes} {k k' : Tr AV → AH → Option AV} {x : AV} (h : sqy r rs k = some x) (hr : ∀ y, r = some y → r' = some y) (hk : ∀ T H x, k T H = some x → k' T H = some x) : sqy r' rs k' = some x := by
  cases r with
  | none => cases h
  | some p =>
    rw [hr _ rfl]
    obtain ⟨e, T, H⟩ := p
    cases e with
    | normal => exact hk _ _ _ h
    | ret => exact h
    | exit id => cases h
/-- A body, from nothing. -/
theorem calls_good {P : Program} {f : FuncId} {fd : Func} {c : Code} {args : List AV} {x : AV} (hf : P.funcs[f]? = some fd) (hb : fd.body = some c) (hn : args.length ≤ fd.ntmps) (w : World) (gl : Glob w w.heap.size)
    (h : ∀ K, K.B = w.heap.size → K.w0 = w → GoodC P fd fd.ntmps c K x (xinit args 0 .nil) AH.empty) {vs : Array Value} (hv : VRs (allG w) args vs.toList) :
    Calls P f vs w fun e w' => ∃ u, e = .returned u ∧ (∀ G, VR G x u) ∧ Below w.heap.size w w' := by
  have hl : vs.size = args.length := by rw [← Array.length_toList]; exact hv.len
  refine calls_of_wp hf hb (wp_mono (h ⟨w.heap.size, w, (allG w).M, gl⟩ rfl rfl (allG w) _ w (allG_rel w gl) ⟨rfl, by simp; omega, fun t y hy => ?_⟩) fun e a w' hq => hq)
  rw [xinit_get, Tr.get_nil] at hy
  split at hy
  · simp at hy
    obtain ⟨u, h1, h2⟩ := hv.get t y hy
    have h3 : vs[t]? = some u := by simpa using h1
    have hlt : t < vs.size := (Array.getElem?_eq_some_iff.1 h3).1
    have : (vs ++ Array.replicate (fd.ntmps - vs.size) undef).getD t undef = u := by
      rw [Array.getD_eq_getD_getElem?, Array.getElem?_append_left hlt, h3]; rfl
    rw [this]; exact h2
  · cases hy
/-- Bytes, read as a text. -/
def txtOf : List AV → Option (List UInt8)
  | [] => some []
  | .int .u8 (.ofNat n) :: l => bif Nat.blt n 256 then (match txtOf l with | some r => some (UInt8.ofNat n :: r) | none => none) else none
  | _ :: _ => none
theorem txtOf_ok : ∀ {l : List AV} {r : List UInt8}, txtOf l = some r → r.length = l.length ∧ ∀ (j : Nat) b, r[j]? = some b → l[j]? = some (.int .u8 b.toNat)
  | [], r, h => by cases h; exact ⟨rfl, fun j x hj => by simp at hj⟩
  | x :: l, r, h => by
    unfold txtOf at h
    split at h
    · rename_i e; cases e
    · rename_i n l' e
      cases e
      cases hb : Nat.blt n 256 with
      | false => rw [hb] at h; cases h
      | true =>
        rw [hb] at h
        simp only [cond_true] at h
        split at h
        · rename_i r' hr
          cases h
          obtain ⟨q1, q2⟩ := txtOf_ok hr
          have hn : n < 256 := Nat.le_of_ble_eq_true hb
          refine ⟨by simp [q1], fun j b hj => ?_⟩
          cases j with
          | zero =>
            simp at hj
            subst hj
            simp only [List.getElem?_cons_zero, UInt8.toNat_ofNat']
            rw [Nat.mod_eq_of_lt hn]; rfl
          | succ j => simpa using q2 j b (by simpa using hj)
        · cases h
    · cases h
/-- What a builder holds. -/
def bldTxt (ty : Nat) (H : AH) (g : Nat) (c1 : AV) : Option (List UInt8) :=
  match c1 with
  | .nils => some []
  | .slc gq eq i len z => match H.gs.get gq with
    | some rq => bif Nat.beq i 0 && Nat.beq rq.e eq && Nat.beq rq.fz (1000000001 + 2 * ty) && Nat.beq rq.cells.length len && Nat.blt len 1000000 && Nat.blt 0 len then txtOf rq.cells else none
    | none => none
  | _ => none
/-- A builder, in the world. -/
theorem bld_world {K : Kx} {G : Gh} {H : AH} {w : World} (h : HRel K G H w) {g e tb ty : Nat} {c0 c1 : AV} (hg : H.gs.get g = some ⟨e, 1000000000 + 2 * tb, [c0, c1]⟩) {l : List UInt8} (hl : bldTxt ty H g c1 = some l) :
    ∃ b u0 u1, (∀ v, VR G (.ptr g e 0) v → v = .pointer (some ⟨b, 0, none⟩)) ∧ K.B ≤ b ∧ w.heap[b]? = some (.cells #[u0, u1] tb (0, 0)) ∧ VR G c0 u0 ∧
      ((l = [] ∧ u1 = .slice none 0 0) ∨ ∃ gb cap cur, l ≠ [] ∧ u1 = .slice (some ⟨gb, 0, none⟩) l.length cap ∧ K.B ≤ gb ∧ w.heap[gb]? = some (.cells cur ty (0, 0)) ∧ l.length ≤ cap ∧ l.length ≤ cur.size ∧ l.length < 1000000 ∧ ∀ (j : Nat) x, l[j]? = some x → cur[j]? = some (.int .u8 x.toNat)) := by
  obtain ⟨b, o, n, cs, t, q⟩ := h.grp g _ hg
  obtain ⟨htag, rfl, hM⟩ := q.kind (by show 2 < 1000000000 + 2 * tb; omega)
  obtain ⟨ht, hn⟩ : @Eq Nat t tb ∧ n = 2 := by
    unfold TagOk at htag
    dsimp only at htag
    simp only [List.length_cons, List.length_nil] at htag
    exact ⟨by omega, by omega⟩
  subst ht; subst hn
  obtain ⟨u0, hu0, hv0, ho0⟩ := q.cell 0 c0 rfl
  obtain ⟨u1, hu1, hv1, ho1⟩ := q.cell 1 c1 rfl
  rw [Nat.zero_add] at hu0 hu1
  have hcs2 : cs = #[u0, u1] := by
    apply Array.ext'
    have hsz : cs.toList.length = 2 := by rw [Array.length_toList]; exact q.size
    rw [← Array.getElem?_toList] at hu0 hu1
    match hl : cs.toList, hsz with
    | [a, b], _ => rw [hl] at hu0 hu1; simp at hu0 hu1; simp [hu0, hu1]
  subst hcs2
  refine ⟨b, u0, u1, fun v hv => ?_, q.low, q.heap, hv0, ?_⟩
  · simp only [VR] at hv
    obtain ⟨b', o', n', hmu, rfl⟩ := hv
    rw [show G.mu g e = some (b, 0, 2) from q.mu] at hmu
    cases hmu; rfl
  · unfold bldTxt at hl
    split at hl
    · cases hl
      simp only [VR] at hv1
      exact .inl ⟨rfl, hv1⟩
    · rename_i gq eq i len z
      split at hl
      · rename_i rq hq
        cases hc : (Nat.beq i 0 && Nat.beq rq.e eq && Nat.beq rq.fz (1000000001 + 2 * ty) && Nat.beq rq.cells.length len && Nat.blt len 1000000 && Nat.blt 0 len) with
        | false => rw [hc] at hl; cases hl
        | true =>
          rw [hc] at hl
          simp only [cond_true] at hl
          simp only [Bool.and_eq_true, Nat.beq_eq, Nat.blt_eq] at hc
          obtain ⟨⟨⟨⟨⟨rfl, rfl⟩, hfz⟩, rfl⟩, hlen⟩, hpos⟩ := hc
          obtain ⟨bq, oq, nq, cq, tq, qq⟩ := h.grp gq rq hq
          obtain ⟨htag, rfl, hM⟩ := qq.kind (by rw [hfz]; omega)
          obtain rfl : @Eq Nat tq ty := by
            unfold TagOk at htag
            omega
          obtain ⟨hlen2, hget⟩ := txtOf_ok hl
          simp only [VR] at hv1
          obtain ⟨b', o', n', cap, hmu, rfl, hlc, hcn⟩ := hv1
          rw [qq.mu] at hmu
          cases hmu
          have hcsz : l.length ≤ cq.size := by
            rw [hlen2]
            rcases Nat.eq_zero_or_pos rq.cells.length with h0 | h0
            · omega
            · obtain ⟨u, hu, -, -⟩ := qq.cell (rq.cells.length - 1) _ (List.getElem?_eq_getElem (by omega))
              have := (Array.getElem?_eq_some_iff.1 hu).1
              omega
          refine .inr ⟨bq, cap, cq, fun e => by rw [e] at hlen2; simp only [List.length_nil] at hlen2; omega, by rw [hlen2], qq.low, qq.heap, by rw [hlen2]; exact hlc, hcsz, by rw [hlen2]; exact hlen, fun j x hj => ?_⟩
          obtain ⟨u, k1, k2, k3⟩ := qq.cell j _ (hget j x hj)
          simp only [VR] at k2
          rw [Nat.zero_add] at k1
          rw [k1, k2]
      · cases hl
    · cases hl
end Go.Abs
namespace Go.Proofs.YtjnagmdbkkccpaaGreatDoor
open Go Go.Abs Go.RowKit Go.Lib
set_option linter.unusedVariables false
set_option linter.unusedSimpArgs false
set_option maxHeartbeats 1000000 in
set_option maxRecDepth 100000 in
theorem str_walk (B b g cap : Nat) (l : List UInt8) (p : Value) (cur : Array Value) (w : World) (hbk : w.heap[b]? = some (.cells #[p, .slice (some ⟨g, 0, none⟩) l.length cap] 48 (0, 0))) (hg : w.heap[g]? = some (.cells cur 5 (0, 0))) (h0 : l ≠ [])
    (hcap : l.length ≤ cap) (hsz : l.length ≤ cur.size) (hl : l.length < 1000000) (hcells : ∀ (j : Nat) x, l[j]? = some x → cur[j]? = some (.int .u8 x.toNat)) (hB : B ≤ g) :
    Calls Tryz.prog 14 #[.pointer (some ⟨b, 0, none⟩)] w fun e w' => e = .returned (.string ⟨l.toArray⟩) ∧ Below B w w' := by
  have hl0 : l.length ≠ 0 := by simpa using h0
  have c1 : w.drew.cell? ⟨b, 1, none⟩ = some (.slice (some ⟨g, 0, none⟩) l.length cap) := by
    have : w.drew.heap[b]? = some (.cells #[p, .slice (some ⟨g, 0, none⟩) l.length cap] 48 (0, 0)) := hbk
    rw [Lib.cell_of_heap this]; rfl
  have c0 : w.cell? ⟨b, 1, none⟩ = some (.slice (some ⟨g, 0, none⟩) l.length cap) := c1
  have hSD : (Builtin.unsafeSliceData_ #[46] 102 #[.slice (some ⟨g, 0, none⟩) l.length cap]).run Tryz.prog w.drew = .ok (.pointer (some ⟨g, 0, none⟩)) w.drew :=
    Lib.run_unsafeSliceData_row _ _ _ _ _ _ (by omega)
  have hUS : (Builtin.unsafeString_ #[102, 3] 9 #[.pointer (some ⟨g, 0, none⟩), .int .i64 l.length]).run Tryz.prog w.drew = .ok (.string ⟨l.toArray⟩) (w.drew.freeze ⟨g, 0, none⟩ l.length) := by
    refine Lib.run_unsafeString_row w.drew 102 3 9 5 Tryz.underlying102 Tryz.Builder_Extra_169.cellsByte g cur.size (by have hg' : w.drew.heap[g]? = some (.cells cur 5 (0, 0)) := hg; simp [World.shape?, hg']) l h0 hsz (by omega) ?_
    intro j x hx
    have hg' : w.drew.heap[g]? = some (.cells cur 5 (0, 0)) := hg
    rw [Addr.add_lit, Nat.zero_add, Lib.cell_of_heap hg']
    exact hcells j x hx
  have mixed : (Tryz.prog).follows .mixedOrders = true := by kernel_rfl
  go_enter Tryz.func14, Tryz.ntmps14
  go_wp2
  go_region_o
  all_goals (go_wp2; go_ret; exact ⟨rfl, Lib.below_freeze (Below.drew (Below.refl B w)) (p := ⟨g, 0, none⟩) hB _⟩)
end Go.Proofs.YtjnagmdbkkccpaaGreatDoor
namespace Go.Proofs.YtjnagmdbkkccpaaGreatDoor
open Go Go.Abs Go.RowKit Go.Lib
set_option linter.unusedVariables false
set_option linter.unusedSimpArgs false
def rl1 : Code → Code
  | .seq a _ => a
  | c => c
def rl2 : Code → Code
  | .seq _ b => b
  | c => c
noncomputable def rB : Code := (Tryz.f5.body).getD .skip
noncomputable def rA0 : Code := rl1 rB
noncomputable def rA1 : Code := rl1 (rl2 rB)
noncomputable def rA2 : Code := rl1 (rl2 (rl2 rB))
noncomputable def rA3 : Code := rl1 (rl2 (rl2 (rl2 rB)))
noncomputable def rA4 : Code := rl1 (rl2 (rl2 (rl2 (rl2 rB))))
noncomputable def rA5 : Code := rl1 (rl2 (rl2 (rl2 (rl2 (rl2 rB)))))
noncomputable def rA6 : Code := rl1 (rl2 (rl2 (rl2 (rl2 (rl2 (rl2 rB))))))
noncomputable def rA7 : Code := rl1 (rl2 (rl2 (rl2 (rl2 (rl2 (rl2 (rl2 rB)))))))
noncomputable def rA8 : Code := rl1 (rl2 (rl2 (rl2 (rl2 (rl2 (rl2 (rl2 (rl2 rB))))))))
noncomputable def rA9 : Code := rl1 (rl2 (rl2 (rl2 (rl2 (rl2 (rl2 (rl2 (rl2 (rl2 rB)))))))))
noncomputable def rL : Code := rl1 (rl2 (rl2 (rl2 (rl2 (rl2 (rl2 (rl2 (rl2 (rl2 (rl2 rB))))))))))
noncomputable def rZ : Code := rl1 (rl2 (rl2 (rl2 (rl2 (rl2 (rl2 (rl2 (rl2 (rl2 (rl2 (rl2 rB)))))))))))
theorem rB_eq : rB = .seq rA0 (.seq rA1 (.seq rA2 (.seq rA3 (.seq rA4 (.seq rA5 (.seq rA6 (.seq rA7 (.seq rA8 (.seq rA9 (.seq rL (.seq rZ .ret))))))))))) := by rfl
theorem r_body : Tryz.f5.body = some rB := by rfl
noncomputable def rOps (c : Code) : Array Oper := match c with
  | .region _ ops _ => ops
  | _ => #[]
theorem rA9_eq : rA9 = .region 13 (rOps rA9) false := by rfl
theorem rZ_eq : rZ = .region 19 (rOps rZ) false := by rfl
theorem rA0_d : codeD Tryz.prog 78 rA0 = true := by kernel_rfl
theorem rA1_d : codeD Tryz.prog 78 rA1 = true := by kernel_rfl
theorem rA2_d : codeD Tryz.prog 78 rA2 = true := by kernel_rfl
theorem rA3_d : codeD Tryz.prog 78 rA3 = true := by kernel_rfl
theorem rA4_d : codeD Tryz.prog 78 rA4 = true := by kernel_rfl
theorem rA5_d : codeD Tryz.prog 78 rA5 = true := by kernel_rfl
theorem rA6_d : codeD Tryz.prog 78 rA6 = true := by kernel_rfl
theorem rA7_d : codeD Tryz.prog 78 rA7 = true := by kernel_rfl
theorem rA8_d : codeD Tryz.prog 78 rA8 = true := by kernel_rfl
theorem rL_d : codeD Tryz.prog 78 rL = true := by kernel_rfl
theorem mixedR : Tryz.prog.follows .mixedOrders = true := by decide +kernel
def rRes : List IRes := [.tmp (Tr.path 2), .tmp (Tr.path 3)]
theorem rRes_ok : cRes Tryz.prog Tryz.f5.results.toList = some rRes := by kernel_rfl
theorem bld_zero : zeroA Tryz.prog 48 = some (.agg [.nilp, .nils]) := by kernel_rfl
set_option maxRecDepth 100000 in
/-- The builder's variable. -/
theorem rA9_ok {K : Kx} {x : AV} {c : Code} {T : Tr AV} {H : AH} (hf : H.free = true) (h : GoodC Tryz.prog Tryz.f5 78 c K x (xput T (some (Tr.path 10)) (.ptr H.next 0 0)) (H.put H.next ⟨0, 1000000000 + 2 * 48, [.nilp, .nils]⟩ (H.next + 1))) : GoodC Tryz.prog Tryz.f5 78 (.seq rA9 c) K x T H := by
  intro G a w hr ht
  rw [rA9_eq]
  refine wp_seq (wp_region ?_)
  obtain ⟨o, ho, hop, hd, hg⟩ : ∃ o, (rOps rA9)[0]? = some o ∧ o.op = .alloc 48 ∧ o.dst = some 10 ∧ o.guard = none := ⟨_, rfl, rfl, rfl, rfl⟩
  rw [show List.range (rOps rA9).size = [0] from rfl, wpOps_cons]
  unfold wpOp
  rw [ho]
  simp only
  rw [if_pos (by simp [Region.wanted, hg])]
  refine .inl ?_
  obtain ⟨dst, op, type, pos, after, guard⟩ := o
  simp only at hop hd hg
  subst hop; subst hd; subst hg
  obtain ⟨v, i, hi, hz, hrun, hv⟩ := zeroA_ok (G := G) bld_zero w
  obtain rfl : v = .agg #[.pointer none, .slice none 0 0] := by
    simp only [VR] at hv
    obtain ⟨us, rfl, hus⟩ := hv
    obtain ⟨p, q, h1, h2, h3⟩ := hus.two
    simp only [VR] at h2 h3
    subst h2; subst h3
    congr
    apply Array.ext'
    rw [h1]
  have hfree := hr.fresh _ (AH.free_ok hf)
  have hrun2 : (execOp a.eval ⟨some 10, .alloc 48, type, pos, after, none⟩).run Tryz.prog w = .ok (.value (.pointer (some ⟨w.heap.size, 0, none⟩))) (w.alloc (.cells #[.pointer none, .slice none 0 0] 48)) := by
    simp only [execOp, Instr.alloc, Sem.run_bind, hrun, Result.andThen_ok]
    rfl
  unfold Oper.wp
  rw [hrun2, Oper.upon_value]
  have key := hr.newBlock (g := H.next) (e := 0) (fz := 1000000000 + 2 * 48) (nx := H.next + 1) (xs := [.nilp, .nils]) (w' := w.alloc (.cells #[.pointer none, .slice none 0 0] 48)) (cs := #[.pointer none, .slice none 0 0]) (t := 48)
    (Below.alloc (Below.refl _ _) (Nat.le_refl _) _) (by show (w.heap.push _)[w.heap.size]? = _; simp) (fun j y hj => by
      match j, hj with
      | 0, hj => simp at hj; subst hj; exact ⟨_, rfl, by simp [VR], rfl⟩
      | 1, hj => simp at hj; subst hj; exact ⟨_, rfl, by simp [VR], rfl⟩) (hfree 0) (fun e' _ => hfree e') (fun _ => .inl ⟨rfl, rfl⟩)
  refine h _ _ _ key ?_
  have hp : tput 78 T (some 10) (.ptr H.next 0 0) = some (T.set 10 (.ptr H.next 0 0)) := by simp [tput]
  refine ((ht.mono (Gh.put_le (hfree 0))).put hp (v := .pointer (some ⟨w.heap.size, 0, none⟩)) ?_).congr fun k => ?_
  · simp only [VR]
    exact ⟨_, _, _, Gh.put_same _ _ _ _, rfl⟩
  · show (Tr.setP (Tr.path 10) T _).get k = (T.set 10 _).get k
    rw [Tr.get_setP, Tr.get_set]
theorem tupF {G G' : Gh} {l : List UInt8} {n : Int} {u : Value} (h : VR G (.tup [.str l, .int .i64 n]) u) : VR G' (.tup [.str l, .int .i64 n]) u := by
  simp only [VR, VRs] at h ⊢
  exact h
set_option maxRecDepth 100000 in
/-- The builder's text. -/
theorem rZ_ok {K : Kx} {T : Tr AV} {H : AH} {g e : Nat} {c0 c1 : AV} {l : List UInt8} (h10 : T.get 10 = some (.ptr g e 0)) (hg : H.gs.get g = some ⟨e, 1000000000 + 2 * 48, [c0, c1]⟩) (hself : selfN g e c0 = true) (hl : bldTxt 5 H g c1 = some l) :
    GoodC Tryz.prog Tryz.f5 78 (.seq rZ .ret) K (.tup [.str l, .int .i64 0]) T H := by
  intro G a w hr ht
  rw [rZ_eq]
  refine wp_seq (wp_region ?_)
  obtain ⟨o0, ho0, hop0, hd0, hg0⟩ : ∃ o, (rOps rZ)[0]? = some o ∧ o.op = .call { callee := .value (.func 14), args := #[.tmp 10], argTypes := #[48] } ∧ o.dst = some 77 ∧ o.guard = none := ⟨_, rfl, rfl, rfl, rfl⟩
  obtain ⟨o1, ho1, hop1, hd1, hg1⟩ : ∃ o, (rOps rZ)[1]? = some o ∧ o.op = .assign (.tmp 77) ∧ o.dst = some 2 ∧ o.guard = none := ⟨_, rfl, rfl, rfl, rfl⟩
  obtain ⟨o2, ho2, hop2, hd2, hg2⟩ : ∃ o, (rOps rZ)[2]? = some o ∧ o.op = .assign (.const (.int .i64 0)) ∧ o.dst = some 3 ∧ o.guard = none := ⟨_, rfl, rfl, rfl, rfl⟩
  rw [show List.range (rOps rZ).size = [0, 1, 2] from rfl, wpOps_cons]
  unfold wpOp
  rw [ho0]
  simp only
  rw [if_pos (by simp [Region.wanted, hg0])]
  refine .inl ?_
  obtain ⟨dst, op, type, pos, after, guard⟩ := o0
  simp only at hop0 hd0 hg0
  subst hop0; subst hd0; subst hg0
  obtain ⟨vs, k1, k2⟩ := run_callee (P := Tryz.prog) (c := { callee := .value (.func 14), args := #[.tmp 10], argTypes := #[48] }) (f := 14) (xs := [.ptr g e 0]) ht (by simp [acallee, aev, aevs, h10]) (by decide +kernel) (some 77) type pos after none w
  unfold Oper.wp
  rw [k1, Oper.upon_enter]
  obtain ⟨b, u0, u1, hb0, hbB, hbw, hv0, hcase⟩ := bld_world hr hg hl
  obtain rfl : vs = #[.pointer (some ⟨b, 0, none⟩)] := by
    obtain ⟨u, hu, hv⟩ := k2.one
    rw [hb0 u hv] at hu
    cases vs; simpa using hu
  have hstr : Calls Tryz.prog 14 #[.pointer (some ⟨b, 0, none⟩)] w fun e w' => e = .returned (.string ⟨l.toArray⟩) ∧ Below K.B w w' := by
    rcases hcase with ⟨rfl, rfl⟩ | ⟨gb, cap, cur, h0, rfl, q1, q2, q3, q4, q5, q6⟩
    · have hown : w.ownsRow K.B 5 1 (.slice none 0 0) 0 [] := World.ownsRow_nil _ _ _ _
      refine Tryz.Builder_String_any K.B b [] w ?_ hr.hB
      cases c0 with
      | nilp =>
        simp only [VR] at hv0
        subst hv0
        exact .inl ⟨hbB, _, hbw, hown, by simp [Value.ownBlock]⟩
      | ptr g' e' i' =>
        simp only [selfN, Bool.and_eq_true, Nat.beq_eq] at hself
        obtain ⟨⟨rfl, rfl⟩, rfl⟩ := hself
        rw [hb0 u0 hv0] at hbw
        exact .inr ⟨hbB, _, hbw, hown, by simp [Value.ownBlock]⟩
      | _ => cases hself
    · exact str_walk K.B b gb cap l u0 cur w hbw q2 h0 q3 q4 q5 q6 q1
  refine hstr.mono fun e0 w' ⟨he, hbel⟩ => ?_
  subst he
  have hbel2 : Below K.B K.w0 w' := hr.below.trans hbel
  have ht2 : TRel (allG w') 78 (Tr.set .nil 77 (.str l)) (a.put (some 77) (.string ⟨l.toArray⟩)) := by
    have h0 : TRel (allG w') 78 .nil a := ⟨ht.defers, ht.size, fun t y hy => by rw [Tr.get_nil] at hy; cases hy⟩
    exact h0.put (x := .str l) (by simp [tput]) (by simp [VR])
  have ha77 : (a.put (some 77) (.string ⟨l.toArray⟩)).eval (.tmp 77) = .string ⟨l.toArray⟩ := by
    have := ht2.at' 77 _ (Tr.get_set_same _ _ _)
    simp only [VR] at this
    exact this
  show wpOps Tryz.prog (rOps rZ) _ [1, 2] (a.put (some 77) (.string ⟨l.toArray⟩)) w'
  rw [wpOps_cons]
  unfold wpOp
  rw [ho1]
  simp only
  rw [if_pos (by simp [Region.wanted, hg1])]
  refine .inl ?_
  unfold Oper.wp
  rw [show (execOp (a.put (some 77) (.string ⟨l.toArray⟩)).eval o1).run Tryz.prog w' = .ok (.value (.string ⟨l.toArray⟩)) w' by simp only [execOp, hop1, ha77]; rfl, Oper.upon_value, hd1]
  have ht3 := ht2.put (d := some 2) (x := .str l) (v := .string ⟨l.toArray⟩) (T' := (Tr.set .nil 77 (.str l)).set 2 (.str l)) (by simp [tput]) (by simp [VR])
  rw [wpOps_cons]
  unfold wpOp
  rw [ho2]
  simp only
  rw [if_pos (by simp [Region.wanted, hg2])]
  refine .inl ?_
  unfold Oper.wp
  rw [show (execOp ((a.put (some 77) (.string ⟨l.toArray⟩)).put (some 2) (.string ⟨l.toArray⟩)).eval o2).run Tryz.prog w' = .ok (.value (.int .i64 0)) w' by simp only [execOp, hop2]; rfl, Oper.upon_value, hd2]
  have r3 := ht3.put (d := some 3) (x := .int .i64 0) (v := .int .i64 0) (T' := ((Tr.set .nil 77 (.str l)).set 2 (.str l)).set 3 (.int .i64 0)) (by simp [tput]) (by simp [VR])
  have r5 : (((Tr.set .nil 77 (.str l)).set 2 (.str l)).set 3 (.int .i64 0) : Tr AV).get 2 = some (.str l) := by rw [Tr.get_set_ne _ _ (by decide), Tr.get_set_same]
  have r6 : (((Tr.set .nil 77 (.str l)).set 2 (.str l)).set 3 (.int .i64 0) : Tr AV).get 3 = some (.int .i64 0) := Tr.get_set_same _ _ _
  have gl : Glob w' w'.heap.size := (K.gl.keep hbel2).mono (Nat.le_trans hr.hB hbel.size)
  obtain ⟨u, k3, k4⟩ := aresult_ok (P := Tryz.prog) (fn := Tryz.f5) (x := .tup [.str l, .int .i64 0]) (allG_rel w' gl) r3 (by
    rw [show (Tryz.f5).results.toList = [.tmp 2, .tmp 3] from rfl]
    simp only [aresult, ares, r5, r6])
  exact wp_ret ⟨r3.defers, u, k3, u, rfl, fun G => tupF k4, hbel2⟩
end Go.Proofs.YtjnagmdbkkccpaaGreatDoor
namespace Go.Proofs.YtjnagmdbkkccpaaGreatDoor
open Go Go.Abs Go.RowKit Go.Lib
set_option linter.unusedVariables false
set_option linter.unusedSimpArgs false
noncomputable def endT (T : Tr AV) (H : AH) : Option AV := match T.getP (Tr.path 10) with
  | some (.ptr g e i) => match H.gs.get g with
    | some r => match r.cells with
      | [c0, c1] => bif Nat.beq i 0 && Nat.beq r.e e && Nat.beq r.fz (1000000000 + 2 * 48) && selfN g e c0 then (match bldTxt 5 H g c1 with | some l => some (.tup [.str l, .int .i64 0]) | none => none) else none
      | _ => none
    | none => none
  | _ => none
noncomputable def runT (call : ICall) (F : Nat) (t : List UInt8) : Option AV :=
  sqy (xcode call F (cCode Tryz.prog 78 rA0) (xinit [.str t] 0 .nil) AH.empty) rRes fun T H =>
  sqy (xcode call F (cCode Tryz.prog 78 rA1) T H) rRes fun T H =>
  sqy (xcode call F (cCode Tryz.prog 78 rA2) T H) rRes fun T H =>
  sqy (xcode call F (cCode Tryz.prog 78 rA3) T H) rRes fun T H =>
  sqy (xcode call F (cCode Tryz.prog 78 rA4) T H) rRes fun T H =>
  sqy (xcode call F (cCode Tryz.prog 78 rA5) T H) rRes fun T H =>
  sqy (xcode call F (cCode Tryz.prog 78 rA6) T H) rRes fun T H =>
  sqy (xcode call F (cCode Tryz.prog 78 rA7) T H) rRes fun T H =>
  sqy (xcode call F (cCode Tryz.prog 78 rA8) T H) rRes fun T H =>
  bif H.free then sqy (xcode call F (cCode Tryz.prog 78 rL) (xput T (some (Tr.path 10)) (.ptr H.next 0 0)) (H.put H.next ⟨0, 1000000000 + 2 * 48, [.nilp, .nils]⟩ (H.next + 1))) rRes endT else none
theorem endT_ok {K : Kx} {T : Tr AV} {H : AH} {x : AV} (h : endT T H = some x) : GoodC Tryz.prog Tryz.f5 78 (.seq rZ .ret) K x T H := by
  unfold endT at h
  split at h
  · rename_i g e i h10
    split at h
    · rename_i r hr
      split at h
      · rename_i c0 c1 hcs
        cases hc : (Nat.beq i 0 && Nat.beq r.e e && Nat.beq r.fz (1000000000 + 2 * 48) && selfN g e c0) with
        | false => rw [hc] at h; cases h
        | true =>
          rw [hc] at h
          simp only [cond_true] at h
          split at h
          · rename_i l hl
            cases h
            simp only [Bool.and_eq_true, Nat.beq_eq] at hc
            obtain ⟨⟨⟨rfl, he⟩, hfz⟩, hself⟩ := hc
            obtain ⟨re, rz, rc⟩ := r
            simp only at he hfz hcs
            subst he; subst hfz; subst hcs
            exact rZ_ok h10 hr hself hl
          · cases h
      · cases h
    · cases h
  · cases h
set_option maxRecDepth 100000 in
theorem runT_good {call : ICall} (hok : CallOK Tryz.prog call) (hf : CallFrame call) {F : Nat} {K : Kx} {t : List UInt8} {x : AV} (hx : ∀ G G' u, VR G x u → VR G' x u) (h : runT call F t = some x) : GoodC Tryz.prog Tryz.f5 78 rB K x (xinit [.str t] 0 .nil) AH.empty := by
  rw [rB_eq]
  unfold runT at h
  refine sqy_ok rRes_ok hx (fun e T' H' h => xcode_ok hok hf mixedR _ _ _ _ _ _ rA0_d h) (fun T H h => sqy_ok rRes_ok hx (fun e T' H' h => xcode_ok hok hf mixedR _ _ _ _ _ _ rA1_d h) (fun T H h => sqy_ok rRes_ok hx (fun e T' H' h => xcode_ok hok hf mixedR _ _ _ _ _ _ rA2_d h) (fun T H h => sqy_ok rRes_ok hx (fun e T' H' h => xcode_ok hok hf mixedR _ _ _ _ _ _ rA3_d h) (fun T H h => sqy_ok rRes_ok hx (fun e T' H' h => xcode_ok hok hf mixedR _ _ _ _ _ _ rA4_d h) (fun T H h => sqy_ok rRes_ok hx (fun e T' H' h => xcode_ok hok hf mixedR _ _ _ _ _ _ rA5_d h) (fun T H h => sqy_ok rRes_ok hx (fun e T' H' h => xcode_ok hok hf mixedR _ _ _ _ _ _ rA6_d h) (fun T H h => sqy_ok rRes_ok hx (fun e T' H' h => xcode_ok hok hf mixedR _ _ _ _ _ _ rA7_d h) (fun T H h => sqy_ok rRes_ok hx (fun e T' H' h => xcode_ok hok hf mixedR _ _ _ _ _ _ rA8_d h) (fun T H h => ?_) h) h) h) h) h) h) h) h) h
  cases hb : H.free with
  | false => rw [hb] at h; cases h
  | true =>
    rw [hb] at h
    exact rA9_ok hb (sqy_ok rRes_ok hx (fun e T' H' h => xcode_ok hok hf mixedR _ _ _ _ _ _ rL_d h) (fun T H h => endT_ok h) h)
set_option maxRecDepth 100000 in
theorem runT_le {c1 c2 : ICall} (hc : CLe c1 c2) {F : Nat} {t : List UInt8} {x : AV} (h : runT c1 F t = some x) : runT c2 F t = some x := by
  unfold runT at h ⊢
  refine sqy_le h (fun x h => xcode_le hc _ _ _ _ h) fun T H x h => sqy_le h (fun x h => xcode_le hc _ _ _ _ h) fun T H x h => sqy_le h (fun x h => xcode_le hc _ _ _ _ h) fun T H x h => sqy_le h (fun x h => xcode_le hc _ _ _ _ h) fun T H x h => sqy_le h (fun x h => xcode_le hc _ _ _ _ h) fun T H x h => sqy_le h (fun x h => xcode_le hc _ _ _ _ h) fun T H x h => sqy_le h (fun x h => xcode_le hc _ _ _ _ h) fun T H x h => sqy_le h (fun x h => xcode_le hc _ _ _ _ h) fun T H x h => sqy_le h (fun x h => xcode_le hc _ _ _ _ h) fun T H x h => ?_
  cases hb : H.free with
  | false => rw [hb] at h; cases h
  | true =>
    rw [hb] at h
    exact sqy_le h (fun x h => xcode_le hc _ _ _ _ h) fun T H x h => h
noncomputable def oneR (c : ICall) (e : List AV × AV) : Bool := match e with
  | ([.str t], .tup [.str l, .int .i64 k]) => (match runT c 10000 t with | some x => dsame 100 x (.tup [.str l, .int .i64 k]) | none => false)
  | _ => false
noncomputable def allR (c : ICall) (L : List (List AV × AV)) : Bool := List.rec (motive := fun _ => Bool) true (fun e _ ih => Bool.rec (motive := fun _ => Bool) false ih (oneR c e)) L
theorem allR_ok {c : ICall} : ∀ {L : List (List AV × AV)}, allR c L = true → ∀ e ∈ L, oneR c e = true
  | [], _, e, he => by cases he
  | a :: L, h, e, he => by
    replace h : Bool.rec (motive := fun _ => Bool) false (allR c L) (oneR c a) = true := h
    cases ha : oneR c a with
    | false => rw [ha] at h; cases h
    | true =>
      rw [ha] at h
      rcases List.mem_cons.1 he with rfl | he
      · exact ha
      · exact allR_ok h e he
theorem runAll {good : FuncId → Bool} {hs : HL} {l : List (Nat × MZ)} (hg : ∀ e ∈ l, good e.1 = true) (hT : AllZ Tryz.prog l) (hok : CallOK Tryz.prog (arun Tryz.prog good (hooksOf hs) 10000 200)) (hf : CallFrame (arun Tryz.prog good (hooksOf hs) 10000 200)) {L : List (List AV × AV)}
    (h : allR (tabU (hkT hs) (mkT l) 10000 200) L = true) : AllE Tryz.prog 5 L := by
  intro e he m args H hk
  have h1 := allR_ok h e he
  unfold oneR at h1
  split at h1
  · rename_i t l' k
    split at h1
    · rename_i x hx
      obtain rfl := dsame_ok _ _ _ h1
      rw [tabU_eq] at hx
      have hx2 := runT_le (tabH_le hg hT 200) hx
      intro K G vs w hr hv
      have hv' : VRs (allG w) [.str t] vs.toList := frzs_VRs hr (fun b o v _ hc ho => allG_cell hc ho) (fun b o v hM => allG_cell (hr.mem b o v hM) (hr.ones b o v hM)) m hk hv
      refine (calls_good (args := [.str t]) Tryz.func5 r_body (show 1 ≤ (Tryz.f5).ntmps by decide) w hr.glob (fun K _ _ => runT_good hok hf (fun G G' u h => tupF h) hx2) hv').mono fun e w' ⟨u, q1, q2, q3⟩ => ?_
      exact ⟨u, _, G, H, q1, Gh.le.refl _, hr.stay q3, q2 G, rfl, rfl⟩
    · cases h1
  · cases h1
end Go.Proofs.YtjnagmdbkkccpaaGreatDoor
