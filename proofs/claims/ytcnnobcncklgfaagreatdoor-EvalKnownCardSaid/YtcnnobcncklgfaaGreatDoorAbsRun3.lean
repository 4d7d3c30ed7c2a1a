/- What is looked up does as is told. -/
import Derived.Test.YtcnnobcncklgfaaGreatDoorAbsRun2
namespace Go.Abs
open Go Go.RowKit
set_option linter.unusedVariables false
theorem ifill_ok {l : List (Nat × Nat × Bool)} : ∀ {ps : List (Nat × Operand)} {is : List (Nat × Nat × Opd)} {T : Tr AV} {xs : List (Nat × Nat × AV)} {cells ys : List AV}, cParts l ps = some is → iparts T is = some xs → ifill cells xs = some ys →
    ∃ zs, aparts T ps = some zs ∧ afill (fun i => (l[i]?).map fun x => (x.1, x.2.1)) cells zs = some ys
  | [], is, T, xs, cells, ys, h1, h2, h3 => by
    simp only [cParts] at h1; cases h1
    simp only [iparts] at h2; cases h2
    simp only [ifill] at h3; cases h3
    exact ⟨[], rfl, rfl⟩
  | (i, o) :: ps, is, T, xs, cells, ys, h1, h2, h3 => by
    simp only [cParts] at h1
    split at h1
    · rename_i off size ag x is' e1 e2 e3
      cases h1
      simp only [iparts] at h2
      split at h2
      · cases h2
      · rename_i y e4
        split at h2
        · cases h2
        · rename_i xs' e5
          cases h2
          simp only [ifill] at h3
          split at h3
          · rename_i hc
            obtain ⟨zs, q1, q2⟩ := ifill_ok e3 e5 h3
            refine ⟨(i, y) :: zs, ?_, ?_⟩
            · simp only [aparts, ← cO_ok e2 T, e4, q1]
            · simp only [afill, e1, Option.map_some]
              rw [if_pos hc]
              exact q2
          · cases h3
    · cases h1
theorem ifillZ_ok {z : Nat} : ∀ {ps : List (Nat × Operand)} {is : List (Nat × Nat × Opd)} {T : Tr AV} {xs : List (Nat × Nat × AV)} {cells ys : List AV}, cPartsZ z ps = some is → iparts T is = some xs → ifill cells xs = some ys →
    ∃ zs, aparts T ps = some zs ∧ afill (fun i => some (i * z, z)) cells zs = some ys
  | [], is, T, xs, cells, ys, h1, h2, h3 => by
    simp only [cPartsZ] at h1; cases h1
    simp only [iparts] at h2; cases h2
    simp only [ifill] at h3; cases h3
    exact ⟨[], rfl, rfl⟩
  | (i, o) :: ps, is, T, xs, cells, ys, h1, h2, h3 => by
    simp only [cPartsZ] at h1
    split at h1
    · rename_i x is' e2 e3
      cases h1
      simp only [iparts] at h2
      split at h2
      · cases h2
      · rename_i y e4
        split at h2
        · cases h2
        · rename_i xs' e5
          cases h2
          simp only [ifill] at h3
          split at h3
          · rename_i hc
            obtain ⟨zs, q1, q2⟩ := ifillZ_ok e3 e5 h3
            refine ⟨(i, y) :: zs, ?_, ?_⟩
            · simp only [aparts, ← cO_ok e2 T, e4, q1]
            · simp only [afill]
              rw [if_pos hc]
              exact q2
          · cases h3
    · cases h1
theorem cOo_ok {o : Option Operand} {i : Option Opd} (h : cOo o = some i) (T : Tr AV) : ievo T i = aevo T o := by
  cases o with
  | none => simp only [cOo] at h; cases h; rfl
  | some o =>
    simp only [cOo] at h
    split at h
    · rename_i x hx
      cases h
      simp only [ievo, aevo, cO_ok hx T]
      cases aev T o <;> rfl
    · cases h
set_option maxHeartbeats 2000000 in
theorem cOp_ok {P : Program} {T : Tr AV} {op : Op} {i : IOp} {H : AH} {r : AV × AH} (hc : cOp P op = some i) (hr : iop T i H = some r) : aop P T op H = some r := by
  cases op <;> simp only [cOp] at hc <;> try (cases hc; done)
  case move x =>
    split at hc
    · rename_i y e; cases hc
      simp only [iop, cO_ok e T] at hr
      split at hr
      · rename_i z e2; cases hr; simp [aop, e2]
      · cases hr
    · cases hc
  case assign x =>
    split at hc
    · rename_i y e; cases hc
      simp only [iop, cO_ok e T] at hr
      split at hr
      · rename_i z e2; cases hr; simp [aop, e2]
      · cases hr
    · cases hc
  case pick c a b =>
    split at hc
    · rename_i x y z e1 e2 e3
      cases hc
      simp only [iop, cO_ok e1 T, cO_ok e2 T, cO_ok e3 T] at hr
      split at hr
      · rename_i e4
        split at hr
        · rename_i v e5; cases hr; simp [aop, e4, e5]
        · cases hr
      · rename_i e4
        split at hr
        · rename_i v e5; cases hr; simp [aop, e4, e5]
        · cases hr
      · cases hr
    · cases hc
  case alloc e =>
    split at hc
    · rename_i z e1; cases hc
      simp only [iop, iev] at hr
      simp [aop, e1, hr]
    · cases hc
  case box e x =>
    split at hc
    · rename_i y e; cases hc
      simp only [iop, cO_ok e T] at hr
      split at hr
      · rename_i z e2; simp [aop, e2, hr]
      · cases hr
    · cases hc
  case build t parts =>
    split at hc
    · rename_i l zs e1 e2
      split at hc
      · rename_i ho
        split at hc
        · rename_i ps e3
          cases hc
          simp only [iop] at hr
          split at hr
          · rename_i xs e4
            split at hr
            · rename_i cs e5
              cases hr
              obtain ⟨ws, q1, q2⟩ := ifill_ok e3 e4 e5
              simp [aop, q1, abuild, e1, e2, ho, q2]
            · cases hr
          · cases hr
        · cases hc
      · cases hc
    · cases hc
  case makeInterface t x =>
    split at hc
    · cases hc
    · rename_i d y hne e1 e2
      cases hc
      simp only [iop, cO_ok e2 T] at hr
      split at hr
      · rename_i p e3
        cases hr
        have : amkiface P t p = some (.iface t p) := by
          unfold amkiface
          rw [e1]
          cases d <;> first | rfl | exact absurd rfl (hne _)
        simp [aop, e3, this]
      · cases hr
    · cases hc
  case makeSlice t l c =>
    split at hc
    · rename_i e l' c' e1 e2 e3
      split at hc
      · rename_i zv e4
        split at hc
        · rename_i hcond
          cases hc
          simp only [iop, cO_ok e2 T, cO_ok e3 T] at hr
          split at hr
          · rename_i k n e5
            split at hr
            · rename_i k' m e6
              split at hr
              · rename_i hh
                cases hr
                simp only [aop, e5, e6, Option.bind_some, amkslice, e1, e4]
                rw [if_pos ⟨hcond.1, hcond.2.1, hcond.2.2, hh⟩]
              · cases hr
            · cases hr
          · cases hr
        · cases hc
      · cases hc
    · cases hc
  case buildSlice t len parts =>
    split at hc
    · rename_i e e1
      cases hl0 : Nat.beq len 0 with
      | true =>
        rw [hl0] at hc
        have hz := Nat.eq_of_beq_eq_true hl0
        subst hz
        simp only [cond_true] at hc
        split at hc
        · rename_i i' e2 e3
          cases hc
          simp only [iop] at hr
          cases hr
          simp [aop, e2, aparts, abuildSliceE, e1, e3]
        · cases hc
      | false =>
        rw [hl0] at hc
        have hz : len ≠ 0 := fun e0 => by subst e0; cases hl0
        simp only [cond_false] at hc
        split at hc
        · rename_i zv e2
          split at hc
          · rename_i ho
            split at hc
            · rename_i ps e3
              cases hc
              simp only [iop] at hr
              split at hr
              · rename_i xs e4
                split at hr
                · rename_i cs e5
                  cases hfr : H.free with
                  | false => rw [hfr] at hr; cases hr
                  | true =>
                    rw [hfr] at hr
                    cases hr
                    obtain ⟨ws, q1, q2⟩ := ifillZ_ok e3 e4 e5
                    have hE : abuildSliceE P t len ws H = abuildSlice P t len ws H := by
                      unfold abuildSliceE
                      split
                      · exact absurd rfl hz
                      · rfl
                    simp only [aop, q1, hE, abuildSlice, e1, e2, Option.bind_some, q2]
                    rw [if_pos ⟨ho.1, ho.2.1, ho.2.2.1, ho.2.2.2, hfr⟩]
                · cases hr
              · cases hr
            · cases hc
          · cases hc
        · cases hc
    · cases hc
  case load t x =>
    split at hc
    · rename_i d y e1 e2
      cases hc
      simp only [iop, cO_ok e2 T] at hr
      split at hr
      · rename_i z e3
        split at hr
        · rename_i v e4
          cases hr
          have : aload P H t z = some v := by
            unfold aload
            rw [e1]
            simp only
            unfold iload at e4
            cases ha : isAggD d with
            | true =>
              rw [ha] at e4
              simp only [if_true] at e4 ⊢
              split at e4
              · rename_i cs e5; cases e4; rw [e5]; rfl
              · cases e4
            | false =>
              rw [ha] at e4
              simp only [Bool.false_eq_true, if_false] at e4 ⊢
              split at e4
              · rename_i c rest e5; cases e4; rw [e5]; rfl
              · cases e4
          simp [aop, e3, this]
        · cases hr
      · cases hr
    · cases hc
  case store t x y =>
    split at hc
    · rename_i a b e1 e2
      split at hc
      · rename_i hz
        cases hc
        simp only [iop, cO_ok e1 T, cO_ok e2 T] at hr
        split at hr
        · rename_i p e3
          split at hr
          · rename_i v e4
            split at hr
            · rename_i H' e5
              cases hr
              have : astore P H t p v = some H' := by
                unfold istore at e5
                unfold astore
                split at e5
                · rename_i g e i
                  split at e5
                  · rename_i r e6
                    split at e5
                    · rename_i hcond
                      cases e5
                      simp only [e6]
                      rw [if_pos ⟨hcond.1, hcond.2.1, hcond.2.2.1, hz, hcond.2.2.2.1, hcond.2.2.2.2⟩]
                    · cases e5
                  · cases e5
                · cases e5
              simp [aop, e3, e4, this]
            · cases hr
          · cases hr
        · cases hr
      · cases hc
    · cases hc
  case nilCheck x =>
    split at hc
    · rename_i y e; cases hc
      simp only [iop, cO_ok e T] at hr
      split at hr
      · rename_i e2; cases hr; simp [aop, e2]
      · rename_i e2; cases hr; simp [aop, e2]
      · rename_i e2; cases hr; simp [aop, e2]
      · cases hr
    · cases hc
  case binOp op t x y yt =>
    split at hc
    · rename_i a b e1 e2
      cases hc
      simp only [iop, cO_ok e1 T, cO_ok e2 T] at hr
      split at hr
      · rename_i p e3
        split at hr
        · rename_i q e4
          split at hr
          · rename_i z e5
            cases hr
            have : abinC P op t x y p q = some z := by
              rw [← e5]
              unfold abinC ibin
              split
              · rfl
              · split
                · rename_i hne; exact (hne rfl rfl).elim
                · rfl
            simp [aop, e3, e4, this]
          · cases hr
        · cases hr
      · cases hr
    · cases hc
  case unOp op t x =>
    split at hc
    · rename_i a e1
      cases hc
      simp only [iop, cO_ok e1 T] at hr
      split at hr
      · rename_i p e3
        split at hr
        · rename_i z e5
          cases hr
          simp [aop, e3, e5]
        · cases hr
      · cases hr
    · cases hc
  case convert s d x =>
    split at hc
    · rename_i ds k y e1 e2 e3
      cases hc
      simp only [iop, cO_ok e3 T] at hr
      split at hr
      · rename_i k' n e4
        cases hr
        cases ds <;> simp [aop, e4, aconvH, aconv, e1, e2]
      · cases hr
    · rename_i y e1 e2 e3
      cases hc
      simp only [iop, cO_ok e3 T] at hr
      split at hr
      · rename_i s e4; cases hr; simp [aop, e4, aconvH, aconv, e1, e2]
      · cases hr
    · rename_i e y e1 e2 e3
      split at hc
      · rename_i e5
        cases hc
        simp only [iop, cO_ok e3 T] at hr
        split at hr
        · rename_i s e4; cases hr; simp [aop, e4, aconvH, e1, e2, e5]
        · cases hr
      · cases hc
    · rename_i e y e1 e2 e3
      split at hc
      · rename_i e5
        cases hc
        simp only [iop, cO_ok e3 T] at hr
        split at hr
        · rename_i x e4
          split at hr
          · rename_i m xs e6
            split at hr
            · rename_i l e7; cases hr; simp [aop, e4, aconvH, e1, e2, e5, e6, e7]
            · cases hr
          · cases hr
        · cases hr
      · cases hc
    · rename_i k y e1 e2 e3
      cases hc
      simp only [iop, cO_ok e3 T] at hr
      split at hr
      · rename_i k' n e4; cases hr; simp [aop, e4, aconvH, e1, e2]
      · cases hr
    · cases hc
  case makeFunc fn first cap =>
    split at hc
    · rename_i hf
      split at hc
      · rename_i cs e1
        cases hc
        simp only [iop, cOs_ok e1 T] at hr
        split at hr
        · rename_i xs e2; cases hr; simp [aop, hf, e2]
        · cases hr
      · cases hc
    · cases hc
  case slice t x lo hi mx =>
    split at hc
    · rename_i x' lo' hi' mx' e1 e2 e3 e4
      have key : ∀ z, iop T (.slice z x' lo' hi' mx') H = some r → (∀ p l h m y, islice z p l h m = some y → aslice P t p l h m = some y) → aop P T (.slice t x lo hi mx) H = some r := by
        intro z hr hz
        simp only [iop, cO_ok e1 T, cOo_ok e2 T, cOo_ok e3 T, cOo_ok e4 T] at hr
        split at hr
        · rename_i p e5
          split at hr
          · rename_i l e6
            split at hr
            · rename_i h e7
              split at hr
              · rename_i m e8
                split at hr
                · rename_i y e9
                  cases hr
                  simp [aop, e5, e6, e7, e8, hz _ _ _ _ _ e9]
                · cases hr
              · cases hr
            · cases hr
          · cases hr
        · cases hr
      split at hc
      · rename_i e5
        cases hc
        refine key _ hr fun p l h m y hy => ?_
        unfold islice at hy
        unfold aslice
        rw [e5]
        cases p <;> cases m <;> simp only at hy ⊢ <;> first | exact hy | cases hy
      · rename_i e e5
        cases hc
        refine key _ hr fun p l h m y hy => ?_
        unfold islice at hy
        unfold aslice
        rw [e5]
        cases p <;> cases m <;> simp only at hy ⊢ <;> first | exact hy | cases hy
      · cases hc
    · cases hc
  case fieldAddr t x f =>
    split at hc
    · rename_i l y e1 e2
      split at hc
      · rename_i off size ag e3
        split at hc
        · cases hc
        · rename_i hz
          cases hc
          simp only [iop, cO_ok e2 T] at hr
          split at hr
          · rename_i e4; cases hr; simp [aop, e4, afieldAddr, e1, e3, hz]
          · rename_i e4; cases hr; simp [aop, e4, afieldAddr, e1, e3, hz]
          · cases hr
      · cases hc
    · cases hc
  case field t x f =>
    split at hc
    · rename_i l y e1 e2
      split at hc
      · rename_i off size e3
        cases hc
        simp only [iop, cO_ok e2 T] at hr
        split at hr
        · rename_i cs e4; cases hr; simp [aop, e4, afield, e1, e3]
        · cases hr
      · rename_i off size e3
        cases hc
        simp only [iop, cO_ok e2 T] at hr
        split at hr
        · rename_i cs e4
          split at hr
          · rename_i y e5; cases hr; simp [aop, e4, afield, e1, e3, e5]
          · cases hr
        · cases hr
      · cases hc
    · cases hc
  case indexAddr t x i =>
    split at hc
    · rename_i a b e1 e2
      split at hc
      · rename_i e e3
        split at hc
        · cases hc
        · rename_i hz
          cases hc
          simp only [iop, cO_ok e1 T, cO_ok e2 T] at hr
          split at hr
          · rename_i g ag s len z e4
            split at hr
            · rename_i k n e5
              split at hr
              · rename_i hcond; cases hr
                obtain ⟨h1, h2, rfl⟩ := hcond
                simp [aop, e4, e5, aindexAddr, e3, h1, h2, hz]
              · cases hr
            · cases hr
          · rename_i z rows e4
            split at hr
            · rename_i k n e5
              split at hr
              · rename_i hcond
                obtain ⟨h1, rfl⟩ := hcond
                split at hr
                · rename_i w e6; cases hr; simp [aop, e4, e5, aindexAddr, e3, h1, hz, e6]
                · cases hr
              · cases hr
            · cases hr
          · cases hr
      · rename_i n e e3
        split at hc
        · cases hc
        · rename_i hz
          cases hc
          simp only [iop, cO_ok e1 T, cO_ok e2 T] at hr
          split at hr
          · rename_i g ag s e4
            split at hr
            · rename_i k m e5
              split at hr
              · rename_i hcond; cases hr
                simp [aop, e4, e5, aindexAddr, e3, hcond, hz]
              · cases hr
            · cases hr
          · rename_i row s e4
            split at hr
            · rename_i k m e5
              split at hr
              · rename_i hcond; cases hr
                simp [aop, e4, e5, aindexAddr, e3, hcond, hz]
              · cases hr
            · cases hr
          · cases hr
      · cases hc
    · cases hc
  case index t x i =>
    split at hc
    · rename_i a b e1 e2 e3
      cases hc
      simp only [iop, cO_ok e1 T, cO_ok e2 T] at hr
      split at hr
      · rename_i s e4
        split at hr
        · rename_i k n e5
          split at hr
          · rename_i h0
            split at hr
            · rename_i c e6; cases hr; simp [aop, e4, e5, aindex, e3, h0, e6]
            · cases hr
          · cases hr
        · cases hr
      · cases hr
    · cases hc
  case extract x i =>
    split at hc
    · rename_i a e1
      cases hc
      simp only [iop, cO_ok e1 T] at hr
      split at hr
      · rename_i vs e2
        split at hr
        · rename_i y e3; cases hr; simp [aop, e2, e3]
        · cases hr
      · cases hr
    · cases hc
  case call c =>
    split at hc
    · rename_i b e1
      split at hc
      · rename_i vs e2
        split at hc
        · rename_i p t e3
          have hargs : ∃ o, c.args.toList = [o] ∧ cO o = some p := by
            cases hl : c.args.toList with
            | nil => rw [hl] at e2; simp [cOs] at e2
            | cons o os =>
              rw [hl] at e2
              simp only [cOs] at e2
              split at e2
              · rename_i x xs h1 h2
                cases e2
                cases os with
                | nil => exact ⟨o, rfl, h1⟩
                | cons o' os => simp only [cOs] at h2; split at h2 <;> cases h2
              · cases e2
          obtain ⟨o, ho, hp⟩ := hargs
          split at hc
          · rename_i e4
            cases hc
            simp only [iop, cO_ok hp T] at hr
            split at hr <;> (try simp only [cond_true] at hr) <;> first
              | (rename_i e5; cases hr; simp [aop, abuiltin, e1, ho, aevs, e5, e3, alen, e4])
              | cases hr
          · rename_i e e4
            cases hc
            simp only [iop, cO_ok hp T] at hr
            split at hr <;> (try simp only [cond_false] at hr) <;> first
              | (rename_i e5; cases hr; simp [aop, abuiltin, e1, ho, aevs, e5, e3, alen, e4])
              | cases hr
          · cases hc
        · rename_i p q t u e3
          have hargs : ∃ o o', c.args.toList = [o, o'] ∧ cO o = some p ∧ cO o' = some q := by
            cases hl : c.args.toList with
            | nil => rw [hl] at e2; simp [cOs] at e2
            | cons o os =>
              rw [hl] at e2
              simp only [cOs] at e2
              split at e2
              · rename_i x xs h1 h2
                cases e2
                cases os with
                | nil => simp [cOs] at h2
                | cons o' os =>
                  simp only [cOs] at h2
                  split at h2
                  · rename_i x' xs' h3 h4
                    cases h2
                    cases os with
                    | nil => exact ⟨o, o', rfl, h1, h3⟩
                    | cons o'' os => simp only [cOs] at h4; split at h4 <;> cases h4
                  · cases h2
              · cases e2
          obtain ⟨o, o', ho, hp, hq⟩ := hargs
          split at hc
          · rename_i hut
            subst hut
            split at hc
            · rename_i e e4
              split at hc
              · rename_i zv e5
                split at hc
                · rename_i hcond
                  cases hc
                  simp only [iop, cO_ok hp T, cO_ok hq T] at hr
                  split at hr
                  · rename_i s e6
                    split at hr
                    · rename_i x e7
                      have : aappend P u s x H = some r := by
                        unfold aappend
                        rw [e4]
                        simp only [e5]
                        unfold iapp at hr
                        split at hr
                        · rename_i m xs e8
                          rw [e8]
                          simp only
                          rw [if_pos hcond]
                          exact hr
                        · cases hr
                      simp [aop, abuiltin, e1, ho, aevs, e6, e7, e3, this]
                    · cases hr
                  · cases hr
                · cases hc
              · cases hc
            · cases hc
          · rename_i hut
            split at hc
            · rename_i e k' e4 e4'
              split at hc
              · rename_i zv e5
                split at hc
                · rename_i hcond
                  cases hc
                  simp only [iop, cO_ok hp T, cO_ok hq T] at hr
                  split at hr
                  · rename_i e6
                    split at hr
                    · rename_i k n e7
                      split at hr
                      · rename_i hh
                        cases hr
                        have : aappendZ P t u .nils (.int k n) H = some (.slc H.next 0 0 n.toNat (P.cellsOf e), H.add ((List.replicate n.toNat zv.cells).flatten)) := by
                          unfold aappendZ
                          rw [e4, e4']
                          simp only [e5]
                          rw [if_pos ⟨hcond.1, hcond.2.1, hcond.2.2, hh⟩]
                        simp [aop, abuiltin, e1, ho, aevs, e6, e7, e3, this, hut]
                      · cases hr
                    · cases hr
                  · cases hr
                · cases hc
              · cases hc
            · cases hc
        · rename_i p t e3
          have hargs : ∃ o, c.args.toList = [o] ∧ cO o = some p := by
            cases hl : c.args.toList with
            | nil => rw [hl] at e2; simp [cOs] at e2
            | cons o os =>
              rw [hl] at e2
              simp only [cOs] at e2
              split at e2
              · rename_i x xs h1 h2
                cases e2
                cases os with
                | nil => exact ⟨o, rfl, h1⟩
                | cons o' os => simp only [cOs] at h2; split at h2 <;> cases h2
              · cases e2
          obtain ⟨o, ho, hp⟩ := hargs
          split at hc
          · rename_i e e4
            cases hc
            simp only [iop, cO_ok hp T] at hr
            split at hr
            · rename_i e5; cases hr; simp [aop, abuiltin, e1, ho, aevs, e5, e3, acap, e4]
            · cases hr
          · cases hc
        · rename_i vs' l'
          cases hc
          simp only [iop, cOs_ok e2 T] at hr
          split at hr
          · rename_i xs e4
            split at hr
            · rename_i y e5; cases hr; simp [aop, abuiltin, e1, e4, e5]
            · cases hr
          · cases hr
        · rename_i vs' l'
          cases hc
          simp only [iop, cOs_ok e2 T] at hr
          split at hr
          · rename_i xs e4
            split at hr
            · rename_i y e5; cases hr; simp [aop, abuiltin, e1, e4, e5]
            · cases hr
          · cases hr
        · cases hc
      · cases hc
    · cases hc
end Go.Abs
