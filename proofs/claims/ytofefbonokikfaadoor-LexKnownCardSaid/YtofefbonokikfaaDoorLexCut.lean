/- The contracts of package lex: Cut. -/
import Derived.Test.YtofefbonokikfaaDoorLexOneD
import Derived.Test.YtofefbonokikfaaDoorLexCutP
import Derived.Deep.DeepCutAuto
namespace Go.Proofs.YtofefbonokikfaaDoor
open Go Go.ChangeShapes Go.WideShapes Go.ChangeAt Go.RowKit
set_option linter.unusedVariables false
theorem info_tok : (Tryd.prog.info? 28).map (fun i => (i.zero, i.size, i.bytes)) = some (some (tokV tok0), 5, 48) := by kernel_rfl
/-- Tokens as a row's cells. -/
def tokRow (l : List Tok) : List Value := l.flatMap fun t => (tokCells t).toList
/-- What Cut leaves. -/
def CutIs (o : List Tok × Int × Int) (w : World) (e : Ending) (w' : World) : Prop :=
  ∃ v, e = .returned (.tuple #[v, .int .i64 o.2.1, .int .i64 o.2.2]) ∧ w'.ownsRow w.heap.size 28 5 v o.1.length (tokRow o.1) ∧ Below w.heap.size w w'
theorem own_below {w w' : World} {base : Nat} {e : TypeId} {size : Nat} {v : Value} {n : Nat} {xs : List Value} (h : w.ownsRow base e size v n xs) (hb : Below w.heap.size w w') : w'.ownsRow base e size v n xs :=
  h.kept ⟨hb.os, hb.tape, hb.output, hb.size, fun k hk _ => hb.block k hk⟩ (row := none) (by cases v.ownBlock <;> simp)
theorem own_but {b : Nat} {w w' : World} {base : Nat} {e : TypeId} {size : Nat} {v : Value} {n : Nat} {xs : List Value} (h : w.ownsRow base e size v n xs) (hb : But b w w') (hl : b < base) : w'.ownsRow base e size v n xs :=
  h.kept (row := some b) ⟨hb.os, hb.tape, hb.output, hb.size, fun k hk hne => hb.block k hk (fun e => hne (by rw [e]))⟩ (by
    cases hv : v.ownBlock with
    | none => exact .inl rfl
    | some g => refine .inr ?_; intro e; have := (h.lt g hv).1; simp at e; omega)
theorem own_le {w : World} {base base' : Nat} {e : TypeId} {size : Nat} {v : Value} {n : Nat} {xs : List Value} (h : w.ownsRow base e size v n xs) (hl : base' ≤ base) : w.ownsRow base' e size v n xs := by
  refine ⟨h.1, ?_⟩
  rcases h.2 with h' | ⟨g, cap, cur, h1, h2, h3⟩
  · exact .inl h'
  · exact .inr ⟨g, cap, cur, h1, by omega, h3⟩
theorem own_shape {w : World} {base : Nat} {e : TypeId} {size : Nat} {v : Value} {n : Nat} {xs : List Value} (h : w.ownsRow base e size v n xs) : ∃ a c, v = .slice a n c := by
  rcases h.2 with ⟨rfl, rfl⟩ | ⟨g, cap, cur, rfl, _⟩
  · exact ⟨_, _, rfl⟩
  · exact ⟨_, _, rfl⟩
theorem row_new {w : World} {n : Nat} (h : w.heap.size = n) {l : List Value} {t : TypeId} : ∀ j x, l[j]? = some x → (w.alloc (.cells l.toArray t)).cell? ((⟨n, 0, none⟩ : Addr).add j) = some x := by
  subst h
  intro j x hj
  have hadd : (⟨w.heap.size, 0, none⟩ : Addr).add j = ⟨w.heap.size, j, none⟩ := by unfold Addr.add; split <;> simp_all
  rw [hadd]
  exact (Blk.new w l.toArray t).cell (by simpa using hj)
theorem over_eq {t : Tok} {n : Nat} {b1 b2 bl bn : Bool} (h1 : (t.kind == 1) = b1) (h2 : (t.kind == 2) = b2) (hl : decide (64 < (t.text.length : Int)) = bl) (hn : ((n : Int) == 1024) = bn) : overT t n = ((b1 || b2) && bl || bn) := by
  unfold overT
  subst h1 h2 hl hn
  congr 1
  · congr 1; rw [decide_eq_decide]; omega
  · rw [Bool.eq_iff_iff]; simp; omega
theorem cut_err {s : ByteArray} {k f : Nat} {out : List Tok} {O : List Tok × Int × Int} {t : Tok} {rest : List UInt8} {er e : Int} {w w' : World} (hO : Hid (O = cutF s.size f out (s.data.toList.drop k))) (hf : s.size - k < f) (hlt : k < s.size)
    (HO : Hid ((t, rest, er) = oneT (s.data.toList.drop k))) (he : e = if er == 0 && overT t out.length then 3 else er) (h0 : (e != 0) = true) (hb : Below w.heap.size w w') :
    CutIs O w (.returned (.tuple #[.slice none 0 0, .int .i64 k, .int .i64 e])) w' := by
  have h := HO.out
  obtain ⟨f', rfl⟩ : ∃ f', f = f' + 1 := ⟨f - 1, by omega⟩
  have hd := drop_cons hlt
  rw [hd] at h
  have hO' := hO.out
  rw [hd, cut_bad h.symm he h0] at hO'
  rw [hO']
  refine ⟨_, ?_, World.ownsRow_nil _ _ _ _, hb⟩
  have : ((s.size : Int) - (s[k] :: s.data.toList.drop (k + 1)).length) = k := by simp; omega
  rw [this]
theorem below_grown {B : Nat} {a w w' : World} {row : Option Nat} (h : Below B a w) (hg : w.grownBy w' row) (hr : ∀ g, row = some g → B ≤ g) (hB : B ≤ w.heap.size) : Below B a w' :=
  ⟨hg.os.trans h.os, hg.tape.trans h.tape, hg.output.trans h.output, Nat.le_trans h.size hg.size, fun k hk => (hg.block k (by omega) (fun e => by have := hr k e.symm; omega)).trans (h.block k hk)⟩
theorem cut_own {W : World} {base : Nat} {e : TypeId} {size : Nat} {v : Value} {n B : Nat} {xs : List Value} (h : W.ownsRow base e size v n xs) (hne : v.ownBlock ≠ some B) (x y : Value) (o : Obj) :
    (((W.setCell ⟨B, 4, none⟩ x).setCell ⟨B, 3, none⟩ y).alloc o).ownsRow base e size v n xs :=
  (ownsRow_setCell_other (ownsRow_setCell_other h hne x) hne y).alloc o
theorem cut_next {s : ByteArray} {k f j' j2 B : Nat} {out : List Tok} {O : List Tok × Int × Int} {t : Tok} {rest : List UInt8} {w wc w2 w3 : World} {v v' x y : Value} {o : Obj} {opn : Bool} (hO : Hid (O = cutF s.size f out (s.data.toList.drop k))) (hf : s.size - k < f) (hlt : k < s.size)
    (HO : Hid ((t, rest, (0 : Int)) = oneT (s.data.toList.drop k))) (hov : overT t out.length = false) (hn : out.length ≤ 1024) (hbw : Below w.heap.size w wc) (hB : w.heap.size < B) (hbl : w.heap.size < wc.heap.size)
    (hown' : w2.ownsRow (w.heap.size + 1) 28 5 v' (out.length + 1) (tokRow out ++ (tokCells ⟨t.kind, t.text, t.num, opn, k⟩).toList)) (hgrow : (((wc.setCell ⟨B, 4, none⟩ x).setCell ⟨B, 3, none⟩ y).alloc o).grownBy w2 v.ownBlock)
    (hv : ∀ g, v.ownBlock = some g → w.heap.size + 1 ≤ g) (hop : Hid (opn = (rest.head? == some 40))) (j2' : Hid (s.data.toList.drop j' = rest)) (a1 : j2 ≤ s.size) (a2 : s.data.toList.drop j2 = skipS false (s.data.toList.drop j')) (a3 : But w.heap.size w2 w3) (a4 : Blk w3 w.heap.size #[.string s, .int .i64 j2] 36) :
    s.size - j2 < s.size - k ∧ ∃ (k f : Nat) (out : List Tok), s.size - j2 = s.size - k ∧ k ≤ s.size ∧ Hid (O = cutF s.size f out (s.data.toList.drop k)) ∧ s.size - k < f ∧ w3.ownsRow (w.heap.size + 1) 28 5 v' out.length (tokRow out) ∧ out.length ≤ 1024 ∧ Below w.heap.size w w3 ∧ Blk w3 w.heap.size #[.string s, .int .i64 k] 36 := by
  have h := HO.out
  obtain ⟨f', rfl⟩ : ∃ f', f = f' + 1 := ⟨f - 1, by omega⟩
  have hd := drop_cons hlt
  rw [hd] at h
  have hO' := hO.out
  rw [hd, cut_good h.symm hov] at hO'
  have hl : rest.length ≤ (s.data.toList.drop (k + 1)).length := by have := one_le (c := s[k]) (r := s.data.toList.drop (k + 1)); rw [← h] at this; exact this
  have hl2 := skip_le (s.data.toList.drop j') false
  rw [← a2, j2'.out] at hl2
  simp at hl hl2
  have hk : k < j2 := by omega
  have hn1 : out.length ≠ 1024 := by
    intro e; unfold overT at hov; rw [e] at hov; simp at hov
  refine ⟨by omega, j2, f', out ++ [⟨t.kind, t.text, t.num, opn, k⟩], rfl, a1, Lib.hid (hO'.trans ?_), by omega, ?_, ?_, ?_, a4⟩
  · rw [a2, j2'.out, ← hop.out]
    congr 3
    simp; omega
  · have := own_but hown' a3 (Nat.lt_succ_self _)
    simpa [tokRow] using this
  · simp; omega
  · exact But.below (below_grown (((hbw.setCell (by show w.heap.size ≤ B; omega) _).setCell (by show w.heap.size ≤ B; omega) _).alloc (by simp; omega) _) hgrow (fun g e => by have := hv g e; omega) (by simp; omega)) a3 (Nat.le_refl _) (by have := hgrow.size; simp at this; omega)
theorem cut_end {s : ByteArray} {k f : Nat} {out : List Tok} {O : List Tok × Int × Int} {w w' : World} {v : Value} (hO : Hid (O = cutF s.size f out (s.data.toList.drop k))) (hlt : ¬ k < s.size)
    (hown : w'.ownsRow (w.heap.size + 1) 28 5 v out.length (tokRow out)) (hb : Below w.heap.size w w') :
    CutIs O w (.returned (.tuple #[v, .int .i64 s.size, .int .i64 0])) w' := by
  have hO' := hO.out
  rw [drop_nil hlt] at hO'
  have : cutF s.size f out [] = (out, (s.size : Int), 0) := by cases f <;> rfl
  rw [hO', this]
  exact ⟨v, rfl, own_le hown (by omega), hb⟩
set_option maxRecDepth 100000 in
set_option maxHeartbeats 10000000 in
theorem cut_any (s : ByteArray) (w : World) (hr : Rng w) : Calls Tryd.prog 9 #[.string s] w (CutIs (cutT s.data.toList) w) := by
  have R := Lib.hid hr; clear hr
  obtain ⟨i0, hi0, hz0, hz1, hz2⟩ := info_parts info_tok
  by_cases hs : s.size ≤ 4096
  · have hs2 : s.size ≤ 281474976710656 := by omega
    have hs' : ¬ 4096 < (s.size : Int) := by omega
    obtain ⟨O, hO⟩ : ∃ O, O = cutT s.data.toList := ⟨_, rfl⟩
    rw [← hO]
    have HO := Lib.hid hO; clear hO
    go_enter Tryd.func9, Tryd.ntmps9
    go_wp2_with fail
    refine (skip_any s w.heap.size 0 (by omega) hs2 _ (Blk.new _ _ _)).mono ?_; rintro e w' ⟨rfl, j, j1, j2, j3, j4⟩; have J2 := Lib.hid j2; clear j2
    go_wp2_with fail
    go_loopg [6] (s.size - j) (fun g v wr => ∃ (k f : Nat) (out : List Tok), g = s.size - k ∧ k ≤ s.size ∧ Hid (O = cutF s.size f out (s.data.toList.drop k)) ∧ s.size - k < f ∧ wr.ownsRow (w.heap.size + 1) 28 5 v out.length (tokRow out) ∧ out.length ≤ 1024 ∧ Below w.heap.size w wr ∧ Blk wr w.heap.size #[.string s, .int .i64 k] 36)
    case atStart =>
      refine ⟨j, s.size + 1, [], rfl, j1, Lib.hid ?_, by omega, World.ownsRow_nil _ _ _ _, by simp, But.below (Below.alloc (Below.refl _ _) (Nat.le_refl _) _) j3 (Nat.le_refl _) (by simp), j4⟩
      rw [HO.out, J2.out, cutT, if_neg (by simp; omega)]
      simp
    case round =>
      obtain ⟨k, f, out, hg, h2, hO, hf, hown, hout, hbel, hblk⟩ := hrel
      have G := Lib.hid hg; clear hg
      obtain ⟨c0, c1, f0, f1, lt⟩ := hblk.two
      have k0 : (0 : Int) ≤ (k : Int) := by omega
      by_cases hlt : k < s.size
      · have hlt' : (k : Int) < (s.size : Int) := by omega
        have DC := Lib.hid (drop_cons hlt)
        obtain ⟨o, ho⟩ : ∃ o, o = oneT (s.data.toList.drop k) := ⟨_, rfl⟩
        obtain ⟨t, rest, er⟩ := o
        have HO := Lib.hid ho; clear ho
        have hlb := hbel.size
        go_wp2_with fail
        refine (one_any s w.heap.size k hlt hs _ hblk (Rng.keep R.out hbel)).mono ?_; rw [← HO.out]; rintro e w1 ⟨rfl, q1, q2⟩
        have Q2 := Lib.hid q2; clear q2
        simp only [tokR, tokV, tokCells]
        obtain ⟨oa, oc, rfl⟩ := own_shape hown
        go_upto_region 10 with fail
        go_cut [58] (fun x wx => x = .bool (er == 0 && overT t out.length) ∧ Below w1.heap.size w1 wx ∧ Blk wx w1.heap.size (tokCells t) 28)
        case first =>
          clear hown Q2 HO DC c0 c1 f0 f1
          cases e0 : er == 0
          · go_wp2_with fail
            go_meet
            case rel => exact ⟨by rw [e0]; rfl, Below.alloc (Below.refl _ _) (Nat.le_refl _) _, Blk.new _ _ _⟩
          · cases k1 : t.kind == 1 <;> cases k2 : t.kind == 2 <;> cases l1 : decide (64 < (t.text.length : Int)) <;> cases n1 : ((out.length : Int) == 1024)
            all_goals (go_wp2_with fail; go_meet; case rel => exact ⟨by rw [e0, over_eq k1 k2 l1 n1]; rfl, Below.alloc (Below.refl _ _) (Nat.le_refl _) _, Blk.new _ _ _⟩)
        case rest =>
          obtain ⟨rfl, hbq, htok⟩ := hcut
          have hbb := q1.trans (But.of hbq)
          have hbw := But.below hbel hbb (Nat.le_refl _) hlb
          have lt1 : w.heap.size < w1.heap.size := by have := q1.size; omega
          cases hov : (er == 0 && overT t out.length)
          · cases e0 : er == 0
            · have hne : (er != 0) = true := by rw [bne, e0]; rfl
              clear hown
              go_wp2
              ((try simp only [Exit.inBlock, Exit.then]); refine bodyPost_ret (results_tmp3 rfl _ _ _) rfl ?_)
              exact cut_err hO hf hlt HO (by rw [hov]; rfl) hne hbw
            · have her : er = 0 := eq_of_beq e0
              subst her
              rw [e0] at hov
              have hov' : overT t out.length = false := hov
              have hn1 : out.length ≠ 1024 := by
                intro e; unfold overT at hov'; rw [e] at hov'; simp at hov'
              obtain ⟨j', j1', j2', j3'⟩ := Q2.out rfl
              have hblkx := j3'.keep hbq
              obtain ⟨c0, c1, f0, f1, lt⟩ := hblkx.two
              obtain ⟨t0, t1, t2, t3, t4, z0, z1, z2, z3, z4, ltt⟩ := htok.five
              have hownx := own_but hown hbb (Nat.lt_succ_self _)
              have hne : (Value.slice oa out.length oc).ownBlock ≠ some w1.heap.size := by
                intro e; have := (hown.lt _ e).2; have := q1.size; omega
              have HOV := Lib.hid hov'
              clear hov e0 hov'
              have k0' : (0 : Int) ≤ (j' : Int) := by omega
              by_cases hj : j' < s.size
              · have hj' : (j' : Int) < (s.size : Int) := by omega
                obtain ⟨opn, hop⟩ : ∃ opn, opn = (rest.head? == some 40) := ⟨_, rfl⟩
                have eo : ((s[j'].toNat : Int) == 40) = opn := by
                  rw [u8_eq s[j'] 40 40 rfl, hop, show rest = s.data.toList.drop j' from j2'.symm, drop_cons hj]; rfl
                have HOP := Lib.hid hop; clear hop
                have J2' := Lib.hid j2'; clear j2'
                have hv : ∀ g, (Value.slice oa out.length oc).ownBlock = some g → w.heap.size + 1 ≤ g := fun g e => (hown.lt g e).1
                have HW := Lib.hid hown; have HX := Lib.hid hownx; have HN := Lib.hid hne; have HV := Lib.hid hv
                clear hown hownx hne hv Q2
                go_wp2_with (at_builtin; refine wpList_append_own _ rfl _ _ 23 rfl (w.heap.size + 1) 28 i0 (tokV tok0) 5 48 Tryd.underlying23 hi0 hz0 hz1 hz2 rfl (by decide) _ _ _ rfl (cut_own HX.out HN.out _ _ _) ⟨wc.heap.size, 0, none⟩ 1 1 (tokCells ⟨t.kind, t.text, t.num, opn, k⟩).toList rfl rfl (row_new (by simp)) (by intro u hu; simp [tokCells] at hu; rcases hu with rfl | rfl | rfl | rfl | rfl <;> rfl) (by unfold maxLen; omega) (by omega) (by simp; omega) ?_; intro v' w2 hown' hgrow hnil)
                have HG := Lib.hid hgrow; have HO2 := Lib.hid hown'; clear hgrow hown' hnil
                refine (skip_any s w.heap.size j' (by omega) hs2 w2 (Blk.grown (((hblkx.other (by show w1.heap.size ≠ w.heap.size; omega) _).other (by show w1.heap.size ≠ w.heap.size; omega) _).alloc _) HG.out (fun g e => by have := HV.out g e; omega))).mono ?_; rintro e w3 ⟨rfl, j2, a1, a2, a3, a4⟩
                have A2 := Lib.hid a2; clear a2
                have hnx := cut_next hO hf hlt HO HOV.out hout hbw lt1 (by omega) HO2.out HG.out HV.out HOP J2' a1 A2.out a3 a4
                have HNX := Lib.hid hnx; clear hnx
                go_wp2_with fail
                go_roundg (s.size - j2)
                case measure => have := G.out; have := HNX.out.1; omega
                case rel => exact HNX.out.2
              · have hj' : decide ((j' : Int) < (s.size : Int)) = false := by simp; omega
                obtain ⟨opn, hop⟩ : ∃ opn, opn = (rest.head? == some 40) := ⟨_, rfl⟩
                have eo : opn = false := by
                  rw [hop, show rest = s.data.toList.drop j' from j2'.symm, drop_nil hj]; rfl
                subst eo
                have HOP := Lib.hid hop; clear hop
                have J2' := Lib.hid j2'; clear j2'
                have hv : ∀ g, (Value.slice oa out.length oc).ownBlock = some g → w.heap.size + 1 ≤ g := fun g e => (hown.lt g e).1
                have HW := Lib.hid hown; have HX := Lib.hid hownx; have HN := Lib.hid hne; have HV := Lib.hid hv
                clear hown hownx hne hv Q2
                go_wp2_with (at_builtin; refine wpList_append_own _ rfl _ _ 23 rfl (w.heap.size + 1) 28 i0 (tokV tok0) 5 48 Tryd.underlying23 hi0 hz0 hz1 hz2 rfl (by decide) _ _ _ rfl (cut_own HX.out HN.out _ _ _) ⟨wc.heap.size, 0, none⟩ 1 1 (tokCells ⟨t.kind, t.text, t.num, false, k⟩).toList rfl rfl (row_new (by simp)) (by intro u hu; simp [tokCells] at hu; rcases hu with rfl | rfl | rfl | rfl | rfl <;> rfl) (by unfold maxLen; omega) (by omega) (by simp; omega) ?_; intro v' w2 hown' hgrow hnil)
                have HG := Lib.hid hgrow; have HO2 := Lib.hid hown'; clear hgrow hown' hnil
                refine (skip_any s w.heap.size j' (by omega) hs2 w2 (Blk.grown (((hblkx.other (by show w1.heap.size ≠ w.heap.size; omega) _).other (by show w1.heap.size ≠ w.heap.size; omega) _).alloc _) HG.out (fun g e => by have := HV.out g e; omega))).mono ?_; rintro e w3 ⟨rfl, j2, a1, a2, a3, a4⟩
                have A2 := Lib.hid a2; clear a2
                have hnx := cut_next hO hf hlt HO HOV.out hout hbw lt1 (by omega) HO2.out HG.out HV.out HOP J2' a1 A2.out a3 a4
                have HNX := Lib.hid hnx; clear hnx
                go_wp2_with fail
                go_roundg (s.size - j2)
                case measure => have := G.out; have := HNX.out.1; omega
                case rel => exact HNX.out.2
          · have hov2 := hov
            rw [Bool.and_eq_true] at hov2
            obtain ⟨e0, e1⟩ := hov2
            have e0' := eq_of_beq e0
            subst e0'
            clear hown
            go_wp2
            ((try simp only [Exit.inBlock, Exit.then]); refine bodyPost_ret (results_tmp3 rfl _ _ _) rfl ?_)
            exact cut_err hO hf hlt HO (by rw [hov]; rfl) (by decide) hbw
      · have hlt' : decide ((k : Int) < (s.size : Int)) = false := by simp; omega
        go_wp2
        ((try simp only [Exit.inBlock, Exit.then]); refine bodyPost_ret (results_tmp3 rfl _ _ _) rfl ?_)
        refine cut_end hO hlt hown hbel
  · have hs' : 4096 < (s.size : Int) := by omega
    have ho : cutT s.data.toList = ([], 4096, 3) := by unfold cutT; rw [if_pos (by simp; omega)]
    rw [ho]
    go_enter Tryd.func9, Tryd.ntmps9
    go_wp2
    ((try simp only [Exit.inBlock, Exit.then]); refine bodyPost_ret (results_tmp3 rfl _ _ _) rfl ?_)
    exact ⟨_, rfl, World.ownsRow_nil _ _ _ _, Below.refl _ _⟩
end Go.Proofs.YtofefbonokikfaaDoor
