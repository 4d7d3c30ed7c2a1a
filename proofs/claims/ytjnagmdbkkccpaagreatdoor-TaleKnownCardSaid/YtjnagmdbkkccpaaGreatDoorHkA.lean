/- Digits, and places of texts, quickly.   What stands in for strings.Index and strconv.Itoa.   What stands in for internal/strconv.FormatInt and internal/stringslite.Index.   What stands in for strings.Join, of no text too.   What stands in for strings.IndexByte. -/
import Derived.Test.YtjnagmdbkkccpaaGreatDoorAbsL
import Derived.Lib.ItoaNum
import Derived.Lib.ItoaMem
import Derived.Lib.Index
import Derived.Test.YtjnagmdbkkccpaaGreatDoorShelf
import Derived.Lib.AppendIntMem
namespace Go.Abs
open Go Go.RowKit
set_option linter.unusedVariables false
noncomputable section
def digQ : Nat → Nat → List UInt8
  | 0, u => [UInt8.ofNat (48 + u)]
  | f + 1, u => bif Nat.blt u 10 then [UInt8.ofNat (48 + u)] else digQ f (u / 10) ++ [UInt8.ofNat (48 + u % 10)]
theorem digQ_eq : ∀ (f u : Nat), u < 10 ^ f → digQ f u = Lib.decDigits u
  | 0, u, h => by
    have : u = 0 := by simpa using h
    subst this
    rw [Lib.decDigits, dif_pos (by omega)]; rfl
  | f + 1, u, h => by
    rw [digQ, Lib.decDigits]
    cases hb : Nat.blt u 10 with
    | true =>
      have : u < 10 := Nat.le_of_ble_eq_true hb
      rw [dif_pos this]; rfl
    | false =>
      have : ¬ u < 10 := fun hh => by rw [show Nat.blt u 10 = true from Nat.ble_eq_true_of_le hh] at hb; cases hb
      rw [dif_neg this, digQ_eq f (u / 10) (by rw [Nat.pow_succ] at h; omega)]; rfl
/-- The place of a text in a text. -/
def preQ (a : List UInt8) : List UInt8 → Bool := List.rec (motive := fun _ => List UInt8 → Bool) (fun _ => true) (fun x _ ih b => List.rec (motive := fun _ => Bool) false (fun y t _ => Bool.rec (motive := fun _ => Bool) false (ih t) (Nat.beq x.toNat y.toNat)) b) a
theorem preQ_eq : ∀ (a b : List UInt8), preQ a b = a.isPrefixOf b
  | [], b => by simp [List.isPrefixOf]; rfl
  | x :: a, [] => rfl
  | x :: a, y :: b => by
    show Bool.rec (motive := fun _ => Bool) false (preQ a b) (Nat.beq x.toNat y.toNat) = (x == y && a.isPrefixOf b)
    rw [preQ_eq a b]
    by_cases h : x = y
    · subst h; simp
    · have h2 : Nat.beq x.toNat y.toNat = false := by
        cases hb : Nat.beq x.toNat y.toNat with
        | false => rfl
        | true => exact absurd (UInt8.toNat_inj.1 (Nat.eq_of_beq_eq_true hb)) h
      rw [h2]; simp [h]
def idxQ (sub : List UInt8) (l : List UInt8) : Nat → Int :=
  List.rec (motive := fun _ => Nat → Int) (fun i => Bool.rec (motive := fun _ => Int) (-1) (Int.ofNat i) (preQ sub [])) (fun b t ih i => Bool.rec (motive := fun _ => Int) (ih (Nat.succ i)) (Int.ofNat i) (preQ sub (b :: t))) l
theorem idxQ_eq (sub : List UInt8) : ∀ (l : List UInt8) (i : Nat), idxQ sub l i = if Lib.index l sub = -1 then -1 else Lib.index l sub + i
  | [], i => by
    show Bool.rec (motive := fun _ => Int) (-1) (Int.ofNat i) (preQ sub []) = _
    rw [preQ_eq]
    simp only [Lib.index]
    cases sub with
    | nil => simp
    | cons x s => simp
  | b :: t, i => by
    show Bool.rec (motive := fun _ => Int) (idxQ sub t (i + 1)) (Int.ofNat i) (preQ sub (b :: t)) = _
    rw [preQ_eq, idxQ_eq sub t (i + 1), show ∀ (a b : Int) (c : Bool), Bool.rec (motive := fun _ => Int) a b c = if c = true then b else a from fun a b c => by cases c <;> rfl]
    simp only [Lib.index]
    have hge := Lib.index_ge t sub
    by_cases hp : sub.isPrefixOf (b :: t) = true
    · simp [hp]
    · simp only [hp, if_false]
      by_cases hm : Lib.index t sub = -1
      · simp [hm]
      · simp only [hm, if_false, beq_iff_eq, Bool.false_eq_true]
        rw [if_neg (by omega)]
        omega
theorem idxQ_0 (sub l : List UInt8) : idxQ sub l 0 = Lib.index l sub := by
  rw [idxQ_eq]
  split
  · rename_i h; exact h.symm
  · omega
end
/-- A contract of the walks where the library's variables are as they are. -/
theorem ACalls.of_callsG {P : Program} {f : FuncId} {args : List AV} {H : AH} {x : AV} (h : ∀ (G : Gh) (vs : Array Value) (w : World), Glob w w.heap.size → VRs G args vs.toList → Calls P f vs w fun e w' => ∃ u, e = .returned u ∧ (∀ G : Gh, VR G x u) ∧ Below w.heap.size w w') :
    ACalls P f args H fun y H' => y = x ∧ H' = H := fun K G vs w hr hv =>
  (h G vs w hr.glob hv).mono fun e w' ⟨u, h1, h2, h3⟩ => ⟨u, x, G, H, h1, Gh.le.refl _, hr.stay h3, h2 G, rfl, rfl⟩
end Go.Abs
namespace Go.Proofs.YtjnagmdbkkccpaaGreatDoor
open Go Go.Abs Go.RowKit
set_option linter.unusedVariables false
noncomputable section
def sindexH (args : List AV) (H : AH) : Option (AV × AH) :=
  match args with
  | [.str s, .str sub] => bif Nat.blt s.length 4294967281 then some (.int .i64 (idxQ sub s 0), H) else none
  | _ => none
theorem sindex_one : HookOne Tryz.prog 43 sindexH := by
  refine ⟨by decide +kernel, fun args H x H' h => ?_, fun args H x H' h => ?_⟩
  · unfold sindexH at h
    split at h
    · rename_i s sub
      cases hb : Nat.blt s.length 4294967281 with
      | false => rw [hb] at h; cases h
      | true =>
        rw [hb] at h
        cases h
        have hn : s.length < 4294967281 := Nat.le_of_ble_eq_true hb
        refine ACalls.of_callsG fun G vs w hg hv => ?_
        obtain ⟨u, v, hu, h1, h2⟩ := hv.two
        simp only [VR] at h1 h2
        subst h1; subst h2
        obtain rfl : vs = #[.string ⟨s.toArray⟩, .string ⟨sub.toArray⟩] := by cases vs; simpa using hu
        obtain ⟨_, m, hm⟩ := hg
        refine (Tryz.strings_Index ⟨s.toArray⟩ ⟨sub.toArray⟩ m w (by simpa [ByteArray.size] using hn) hm).mono fun e w' ⟨he, hw⟩ => ?_
        subst hw
        exact ⟨_, he, fun G => by simp only [VR]; rw [idxQ_0], Below.refl _ _⟩
    · cases h
  · unfold sindexH at h
    split at h
    · rename_i s sub
      cases hb : Nat.blt s.length 4294967281 with
      | false => rw [hb] at h; cases h
      | true =>
        rw [hb] at h
        cases h
        exact FrameR.same fun R H2 _ _ => by show (bif Nat.blt s.length 4294967281 then _ else _) = _; rw [hb]; rfl
    · cases h
def itoaH (args : List AV) (H : AH) : Option (AV × AH) :=
  match args with
  | [.int .i64 (.ofNat n)] => bif Nat.blt n 100 then some (.str (digQ 9 n), H) else none
  | _ => none
theorem itoa_one : HookOne Tryz.prog 40 itoaH := by
  refine ⟨by decide +kernel, fun args H x H' h => ?_, fun args H x H' h => ?_⟩
  · unfold itoaH at h
    split at h
    · rename_i n
      cases hb : Nat.blt n 100 with
      | false => rw [hb] at h; cases h
      | true =>
        rw [hb] at h
        cases h
        have hn : n < 100 := Nat.le_of_ble_eq_true hb
        refine ACalls.of_calls fun G vs w hv => ?_
        obtain ⟨v, hu, h1⟩ := hv.one
        simp only [VR] at h1
        subst h1
        obtain rfl : vs = #[.int .i64 (.ofNat n)] := by cases vs; simpa using hu
        refine (Tryz.strconv_Itoa_small n hn w).mono fun e w' ⟨he, hw⟩ => ?_
        subst hw
        exact ⟨_, he, fun G => by simp only [VR]; rw [digQ_eq 9 n (by omega)], Below.refl _ _⟩
    · cases h
  · unfold itoaH at h
    split at h
    · rename_i n
      cases hb : Nat.blt n 100 with
      | false => rw [hb] at h; cases h
      | true =>
        rw [hb] at h
        cases h
        exact FrameR.same fun R H2 _ _ => by show (bif Nat.blt n 100 then _ else _) = _; rw [hb]; rfl
    · cases h
/-- The texts in a list of cells. -/
def strs : List AV → Option (List (List UInt8))
  | [] => some []
  | .str s :: l => match strs l with
    | some r => some (s :: r)
    | none => none
  | _ :: _ => none
theorem strs_get : ∀ {l : List AV} {r : List (List UInt8)}, strs l = some r → r.length = l.length ∧ ∀ (j : Nat) x, r[j]? = some x → l[j]? = some (.str x)
  | [], r, h => by cases h; exact ⟨rfl, fun j x hj => by simp at hj⟩
  | .str s :: l, r, h => by
    simp only [strs] at h
    split at h
    · rename_i r' hr
      cases h
      obtain ⟨q1, q2⟩ := strs_get hr
      refine ⟨by simp [q1], fun j x hj => ?_⟩
      cases j with
      | zero => simpa using hj
      | succ j => simpa using q2 j x (by simpa using hj)
    · cases h
/-- Texts with a text between them. -/
def joinQ (sep : List UInt8) (l : List (List UInt8)) : List UInt8 :=
  List.rec (motive := fun _ => List UInt8) [] (fun x t ih => List.rec (motive := fun _ => List UInt8) x (fun _ _ _ => x ++ (sep ++ ih)) t) l
theorem joinQ_eq (sep : List UInt8) : ∀ l : List (List UInt8), joinQ sep l = Lib.join l sep
  | [] => rfl
  | [x] => by simp [Lib.join, List.intercalate]; rfl
  | x :: y :: t => by
    show x ++ (sep ++ joinQ sep (y :: t)) = _
    rw [joinQ_eq sep (y :: t)]
    simp [Lib.join, List.intercalate, List.intersperse]
def joinH (args : List AV) (H : AH) : Option (AV × AH) :=
  match args with
  | [s, .str sep] => match listCells H 1 s with
    | some (m, cs) => match strs cs with
      | some l => bif Nat.blt 0 m && (Nat.blt m 1000000 && Nat.blt (joinQ sep l).length 1000000) then some (.str (joinQ sep l), H) else none
      | none => none
    | none => none
  | _ => none
theorem join_hook : HookOne Tryz.prog 59 joinH := by
  refine ⟨by decide +kernel, fun args H x H' h => ?_, fun args H x H' h => ?_⟩
  · unfold joinH at h
    split at h
    · rename_i s sep
      split at h
      · rename_i m cs hc
        split at h
        · rename_i l hl
          cases hb : (Nat.blt 0 m && (Nat.blt m 1000000 && Nat.blt (joinQ sep l).length 1000000)) with
          | false => rw [hb] at h; cases h
          | true =>
            rw [hb] at h
            cases h
            simp only [Bool.and_eq_true] at hb
            have h0 : 0 < m := Nat.le_of_ble_eq_true hb.1
            have h1 : m < 1000000 := Nat.le_of_ble_eq_true hb.2.1
            have h2 : (joinQ sep l).length < 1000000 := Nat.le_of_ble_eq_true hb.2.2
            intro K G vs w hr hv
            obtain ⟨u, v, hu, hv1, hv2⟩ := hv.two
            simp only [VR] at hv2
            subst hv2
            obtain ⟨a, c, rfl, hmc, hlen, hin⟩ := listCells_ok hr hv1 hc
            rcases hin with hz | ⟨b, o, rfl, hin⟩
            · omega
            obtain ⟨q1, q2⟩ := strs_get hl
            obtain rfl : vs = #[.slice (some ⟨b, o, none⟩) m c, .string ⟨sep.toArray⟩] := by cases vs; simpa using hu
            have hcell : ∀ (j : Nat) x, l[j]? = some x → w.cell? ⟨b, o + j, none⟩ = some (.string ⟨x.toArray⟩) := fun j x hj => by
              obtain ⟨u, r1, r2, _⟩ := hin j _ (q2 j x hj)
              simp only [VR] at r2
              rw [r1, r2]
            obtain rfl : m = l.length := by omega
            have hbk : b < w.heap.size := by
              obtain ⟨x, hx⟩ : ∃ x, l[0]? = some x := ⟨l[0], List.getElem?_eq_getElem h0⟩
              exact cell_lt (hcell 0 x hx)
            have hmap : (l.map fun x => (⟨x.toArray⟩ : ByteArray)).map (·.data.toList) = l := by simp [Function.comp_def]
            have hj := Tryz.strings_Join b o c (l.map fun x => (⟨x.toArray⟩ : ByteArray)) ⟨sep.toArray⟩ w (fun j x hj => by
              rw [List.getElem?_map] at hj
              cases hx : l[j]? with
              | none => rw [hx] at hj; cases hj
              | some y => rw [hx] at hj; cases hj; exact hcell j y hx) hbk (by simp; omega) (by simpa using hmc) (by rw [hmap]; show (Lib.join l sep).length ≤ _; rw [← joinQ_eq]; omega)
            rw [hmap, List.length_map] at hj
            refine hj.mono fun e w' ⟨he, hw⟩ => ?_
            refine ⟨_, .str (joinQ sep l), G, H, he, Gh.le.refl _, hr.stay hw, ?_, rfl, rfl⟩
            simp only [VR]
            rw [joinQ_eq]
        · cases h
      · cases h
    · cases h
  · unfold joinH at h
    split at h
    · rename_i s sep
      split at h
      · rename_i m cs hc
        split at h
        · rename_i l hl
          cases hb : (Nat.blt 0 m && (Nat.blt m 1000000 && Nat.blt (joinQ sep l).length 1000000)) with
          | false => rw [hb] at h; cases h
          | true =>
            rw [hb] at h
            cases h
            exact FrameR.same fun R H2 he ha => by simp only [joinH, listCells_ext he ha hc, hl, hb, cond_true]
        · cases h
      · cases h
    · cases h
end
end Go.Proofs.YtjnagmdbkkccpaaGreatDoor
namespace Go.Proofs.YtjnagmdbkkccpaaGreatDoor
open Go Go.Abs Go.RowKit
set_option linter.unusedVariables false
theorem pow_is {w : World} (h : GlobV w w.heap.size) : Lib.TabIs Tryz.prog w "internal/strconv.uint64pow10" .u64 Lib.pow10Tab := by
  obtain ⟨-, t, f, h1⟩ := h
  unfold Lib.TabIs World.var?
  rw [show (Tryz.prog).globalNamed "internal/strconv.uint64pow10" = some 1 by kernel_rfl]
  simp only [Option.bind_some]
  rw [show w.heap[1]? = some (.cells powCs t f) from h1]
  rfl
noncomputable section
def fintB (args : List AV) (H : AH) : Option (AV × AH) :=
  match args with
  | [.int .i64 (.ofNat n), .int .i64 (.ofNat 10)] => bif Nat.blt n 1000000000 then some (.str (digQ 9 n), H) else none
  | _ => none
theorem fintB_one : HookOne Tryz.prog 62 fintB := by
  refine ⟨by decide +kernel, fun args H x H' h => ?_, fun args H x H' h => ?_⟩
  · unfold fintB at h
    split at h
    · rename_i n
      cases hb : Nat.blt n 1000000000 with
      | false => rw [hb] at h; cases h
      | true =>
        rw [hb] at h
        cases h
        have hn : n < 1000000000 := Nat.le_of_ble_eq_true hb
        refine ACalls.of_callsG fun G vs w hg hv => ?_
        obtain ⟨u, v, hu, h1, h2⟩ := hv.two
        simp only [VR] at h1 h2
        subst h1; subst h2
        obtain rfl : vs = #[.int .i64 (.ofNat n), .int .i64 (.ofNat 10)] := by cases vs; simpa using hu
        refine (Tryz.internal_strconv_FormatInt_10 (.ofNat n) (by simp only [Int.ofNat_eq_natCast]; omega) (by simp only [Int.ofNat_eq_natCast]; omega) w (pow_is hg.1.2)).mono fun e w' ⟨he, k, os, hw⟩ => ?_
        subst hw
        refine ⟨_, he, fun G => ?_, Lib.below_grow _ _ (Nat.le_refl _) k os⟩
        simp only [VR]
        rw [digQ_eq 9 n hn, show Lib.itoa (Int.ofNat n) = Lib.decDigits n from Lib.itoa_nonneg n]
    · cases h
  · unfold fintB at h
    split at h
    · rename_i n
      cases hb : Nat.blt n 1000000000 with
      | false => rw [hb] at h; cases h
      | true =>
        rw [hb] at h
        cases h
        exact FrameR.same fun R H2 _ _ => by show (bif Nat.blt n 1000000000 then _ else _) = _; rw [hb]; rfl
    · cases h
theorem slindex_one : HookOne Tryz.prog 72 sindexH := by
  refine ⟨by decide +kernel, fun args H x H' h => ?_, fun args H x H' h => ?_⟩
  · unfold sindexH at h
    split at h
    · rename_i s sub
      cases hb : Nat.blt s.length 4294967281 with
      | false => rw [hb] at h; cases h
      | true =>
        rw [hb] at h
        cases h
        have hn : s.length < 4294967281 := Nat.le_of_ble_eq_true hb
        refine ACalls.of_callsG fun G vs w hg hv => ?_
        obtain ⟨u, v, hu, h1, h2⟩ := hv.two
        simp only [VR] at h1 h2
        subst h1; subst h2
        obtain rfl : vs = #[.string ⟨s.toArray⟩, .string ⟨sub.toArray⟩] := by cases vs; simpa using hu
        obtain ⟨_, m, hm⟩ := hg
        refine (Tryz.stringslite_Index ⟨s.toArray⟩ ⟨sub.toArray⟩ m w (by simpa [ByteArray.size] using hn) hm).mono fun e w' ⟨he, hw⟩ => ?_
        subst hw
        exact ⟨_, he, fun G => by simp only [VR]; rw [idxQ_0], Below.refl _ _⟩
    · cases h
  · unfold sindexH at h
    split at h
    · rename_i s sub
      cases hb : Nat.blt s.length 4294967281 with
      | false => rw [hb] at h; cases h
      | true =>
        rw [hb] at h
        cases h
        exact FrameR.same fun R H2 _ _ => by show (bif Nat.blt s.length 4294967281 then _ else _) = _; rw [hb]; rfl
    · cases h
end
end Go.Proofs.YtjnagmdbkkccpaaGreatDoor
namespace Go.Proofs.YtjnagmdbkkccpaaGreatDoor
open Go Go.Abs Go.RowKit
set_option linter.unusedVariables false
noncomputable def joinZ (args : List AV) (H : AH) : Option (AV × AH) :=
  match args with
  | [s, .str sep] => match listCells H 1 s with
    | some (0, _) => some (.str [], H)
    | _ => joinH [s, .str sep] H
  | _ => none
theorem joinz_hook : HookOne Tryz.prog 59 joinZ := by
  refine ⟨by decide +kernel, fun args H x H' h => ?_, fun args H x H' h => ?_⟩
  · unfold joinZ at h
    split at h
    · rename_i s sep
      split at h
      · rename_i cs hc
        cases h
        intro K G vs w hr hv
        obtain ⟨u, v, hu, hv1, hv2⟩ := hv.two
        simp only [VR] at hv2
        subst hv2
        obtain ⟨a, c, rfl, hmc, hlen, hin⟩ := listCells_ok hr hv1 hc
        obtain rfl : vs = #[.slice a 0 c, .string ⟨sep.toArray⟩] := by cases vs; simpa using hu
        refine (Tryz.strings_Join_none a c ⟨sep.toArray⟩ w).mono fun e w' ⟨he, hw⟩ => ?_
        subst hw
        exact ⟨_, .str [], G, H, he, Gh.le.refl _, hr, by simp only [VR], rfl, rfl⟩
      · exact join_hook.ok _ _ _ _ h
    · cases h
  · unfold joinZ at h
    split at h
    · rename_i s sep
      split at h
      · rename_i cs hc
        cases h
        exact FrameR.same fun R H2 he ha => by simp only [joinZ, listCells_ext he ha hc]
      · rename_i hn
        have hj := h
        have := join_hook.frame _ _ _ _ h
        refine ⟨this.1, fun R H2 he ha => ?_⟩
        obtain ⟨H2', k1, k2⟩ := this.2 R H2 he ha
        refine ⟨H2', ?_, k2⟩
        have ha0 : Apart R H := ha.back this.1
        unfold joinH at hj
        simp only at hj
        split at hj
        · rename_i m cs hc
          simp only [joinZ, listCells_ext he ha0 hc]
          cases m with
          | zero => exact absurd hc (by intro hc; exact hn _ hc)
          | succ m => exact k1
        · cases hj
    · cases h
end Go.Proofs.YtjnagmdbkkccpaaGreatDoor
namespace Go.Proofs.YtjnagmdbkkccpaaGreatDoor
open Go Go.Abs Go.RowKit
set_option linter.unusedVariables false
def indexH (args : List AV) (H : AH) : Option (AV × AH) :=
  match args with
  | [.str s, .int .u8 c] => some (.int .i64 (Lib.indexByte s c.toNat.toUInt8), H)
  | _ => none
theorem index_one : HookOne Tryz.prog 211 indexH := by
  refine ⟨by decide +kernel, fun args H x H' h => ?_, fun args H x H' h => ?_⟩
  · unfold indexH at h
    split at h
    · rename_i s c
      cases h
      refine ACalls.of_calls fun G vs w hv => ?_
      obtain ⟨u, v, hu, h1, h2⟩ := hv.two
      simp only [VR] at h1 h2
      subst h1; subst h2
      obtain rfl : vs = #[.string ⟨s.toArray⟩, .int .u8 c] := by cases vs; simpa using hu
      refine (Tryz.strings_IndexByte ⟨s.toArray⟩ c w).mono fun e w' ⟨he, hw⟩ => ?_
      subst hw
      exact ⟨_, he, fun G => by simp [VR], Below.refl _ _⟩
    · cases h
  · unfold indexH at h
    split at h
    · cases h
      exact FrameR.same fun R H2 _ _ => rfl
    · cases h
end Go.Proofs.YtjnagmdbkkccpaaGreatDoor
