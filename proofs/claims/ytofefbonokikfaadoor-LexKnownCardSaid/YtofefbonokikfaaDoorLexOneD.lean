/- The contracts of package lex: one. -/
import Derived.Test.YtofefbonokikfaaDoorLexOneC
namespace Go.Proofs.YtofefbonokikfaaDoor
open Go Go.ChangeShapes Go.WideShapes Go.ChangeAt Go.RowKit
set_option linter.unusedVariables false
set_option maxRecDepth 100000 in
set_option maxHeartbeats 10000000 in
theorem one_any (s : ByteArray) (b i : Nat) (hi : i < s.size) (hs : s.size ≤ 4096) (w : World) (hb : Blk w b #[.string s, .int .i64 i] 36) (hr : Rng w) :
    Calls Tryd.prog 13 #[.pointer (some ⟨b, 0, none⟩)] w (OneIs s b (oneT (s.data.toList.drop i)) w) := by
  have R := Lib.hid hr; clear hr
  have hs2 : s.size ≤ 281474976710656 := by omega
  have hbl := hb.lt
  have n0 : b ≠ w.heap.size := by omega
  have hblk : Blk (w.alloc (.cells (tokCells tok0) 28)) b #[.string s, .int .i64 i] 36 := hb.alloc _
  have htok : Blk (w.alloc (.cells (tokCells tok0) 28)) w.heap.size (tokCells tok0) 28 := Blk.new _ _ _
  have hbut : But b w (w.alloc (.cells (tokCells tok0) 28)) := (But.refl _ _).alloc _
  obtain ⟨c0, c1, f0, f1, lt⟩ := hb.two
  have k0 : (0 : Int) ≤ (i : Int) := by omega
  have hlt' : (i : Int) < (s.size : Int) := by omega
  rw [drop_cons hi]
  have DC := Lib.hid (drop_cons hi)
  cases g1 : lsmall s[i]
  · cases g2 : lgreat s[i]
    · cases g3 : ldigit s[i]
      · cases g4 : s[i] == 39
        · have e39 : ((s[i].toNat : Int) == 39) = false := by rw [u8_eq s[i] 39 39 rfl]; exact g4
          have RS : Rest s[i] := ⟨g1, g2, g3, g4⟩
          have kw : IntKind.i64.wrap ((i : Int) + 1) = (i : Int) + 1 := IntWalk.i64_in _ (by omega)
          obtain ⟨t0, t1, t2, t3, t4, z0, z1, z2, z3, z4, ltt⟩ := htok.five
          cases g5 : endsS (s.data.toList.drop i)
          · cases g6 : lsym s[i]
            · have h := one_rest s b i hi hs w hb RS g5 g6
              rw [drop_cons hi] at h; exact h
            · clear t0 t1 t2 t3 t4 z0 z1 z2 z3 z4 ltt
              go_enter Tryd.func13, Tryd.ntmps13
              (go_wp2_with fail; go_quiet (fail); go_wp2_with fail; (refine (small_any s[i] _).mono ?_); (rintro e w' ⟨rfl, rfl⟩); go_wp2_with fail; (refine (great_any s[i] _).mono ?_); (rintro e w' ⟨rfl, rfl⟩); go_wp2_with fail; (refine (digit_any s[i] _).mono ?_); (rintro e w' ⟨rfl, rfl⟩); go_wp2_with fail)
              refine (ends_any s b i hi hs2 _ (hblk.drewN _)).mono ?_; rw [g5]; rintro e w' ⟨rfl, m, rfl⟩
              go_wp2_with fail
              refine (symbol_any s[i] _).mono ?_; rintro e w' ⟨rfl, rfl⟩
              go_wp2_with fail
              refine (symbols_any s b i (by omega) hs2 _ (hblk.drewN _)).mono ?_; rintro e w' ⟨rfl, j, j2, j3, j5, j6⟩; have J3 := Lib.hid j3; clear j3
              have htok' := (htok.drewN _).but j5 (Ne.symm n0)
              obtain ⟨t0, t1, t2, t3, t4, z0, z1, z2, z3, z4, ltt⟩ := htok'.five
              go_wp2
              (try simp only [Exit.inBlock, Exit.then]); refine bodyPost_ret (res_tok rfl _ w.heap.size rfl 0 rfl ⟨1, _, 0, false, 0⟩ _ (htok'.storeTok _ _ _ _ _)) rfl ?_
              rw [← DC.out]
              rw [DC.out] at g5
              exact one_fin (by rw [DC.out]; exact one_sym RS g5 g6) hbl ((hbut.drewN _).trans j5) (fun _ => ⟨j, j2, by rw [J3.out, DC.out], j6⟩) _ _ _ _ _
          · go_enter Tryd.func13, Tryd.ntmps13
            (go_wp2_with fail; go_quiet (fail); go_wp2_with fail; (refine (small_any s[i] _).mono ?_); (rintro e w' ⟨rfl, rfl⟩); go_wp2_with fail; (refine (great_any s[i] _).mono ?_); (rintro e w' ⟨rfl, rfl⟩); go_wp2_with fail; (refine (digit_any s[i] _).mono ?_); (rintro e w' ⟨rfl, rfl⟩); go_wp2_with fail)
            refine (ends_any s b i hi hs2 _ (hblk.drewN _)).mono ?_; rw [g5]; rintro e w' ⟨rfl, m, rfl⟩
            go_wp2
            (try simp only [Exit.inBlock, Exit.then]); refine bodyPost_ret (res_tok rfl _ w.heap.size rfl 0 rfl ⟨6, [], 0, false, 0⟩ _ (((htok.drewN _).other n0 _).storeTok _ _ _ _ _)) rfl ?_
            rw [← DC.out]
            rw [DC.out] at g5
            exact one_fin (by rw [DC.out]; exact one_end RS g5) hbl ((hbut.drewN _).set _ _) (fun _ => ⟨i + 1, by omega, rfl, (hblk.drewN _).store 1 _⟩) _ _ _ _ _
        · have e39 : ((s[i].toNat : Int) == 39) = true := by rw [u8_eq s[i] 39 39 rfl]; exact g4
          go_enter Tryd.func13, Tryd.ntmps13
          (go_wp2_with fail; go_quiet (fail); go_wp2_with fail; (refine (small_any s[i] _).mono ?_); (rintro e w' ⟨rfl, rfl⟩); go_wp2_with fail; (refine (great_any s[i] _).mono ?_); (rintro e w' ⟨rfl, rfl⟩); go_wp2_with fail; (refine (digit_any s[i] _).mono ?_); (rintro e w' ⟨rfl, rfl⟩); go_wp2_with fail)
          refine (quoted_any s b i hi hs _ (hblk.drewN _)).mono ?_
          obtain ⟨o, ho⟩ : ∃ o, o = quoR (quotS [] (s.data.toList.drop (i + 1))) := ⟨_, rfl⟩
          rw [← ho]
          obtain ⟨t, rest, er⟩ := o
          have HO := Lib.hid ho; clear ho
          rintro e w' ⟨rfl, q1, q2⟩
          have Q2 := Lib.hid q2; clear q2
          have htok' := (htok.drewN _).but q1 (Ne.symm n0)
          obtain ⟨t0, t1, t2, t3, t4, z0, z1, z2, z3, z4, ltt⟩ := htok'.five
          simp only [tokR, tokV, tokCells]
          go_wp2
          (try simp only [Exit.inBlock, Exit.then]); refine bodyPost_ret (res_tok rfl _ w.heap.size rfl _ rfl t _ (htok'.storeTok _ _ _ _ _)) rfl ?_
          rw [← DC.out]
          exact one_fin (by rw [DC.out, one_quot g1 g2 g3 g4]; exact HO.out.symm) hbl ((hbut.drewN _).trans q1) Q2.out _ _ _ _ _
      · go_enter Tryd.func13, Tryd.ntmps13
        go_wp2_with fail
        go_quiet (fail)
        go_wp2_with fail
        refine (small_any s[i] _).mono ?_; rintro e w' ⟨rfl, rfl⟩
        go_wp2_with fail
        refine (great_any s[i] _).mono ?_; rintro e w' ⟨rfl, rfl⟩
        go_wp2_with fail
        refine (digit_any s[i] _).mono ?_; rintro e w' ⟨rfl, rfl⟩
        go_wp2_with fail
        refine (run_digit s b i (by omega) hs2 _ (hblk.drewN _)).mono ?_; rintro e w' ⟨rfl, j, j1, j2, j3, -, j5, j6⟩; have J3 := Lib.hid j3; clear j3
        go_wp2_with fail
        refine (parse_p _ ?_ _ ?_).mono ?_
        · have := (List.takeWhile_sublist ldigit (l := s.data.toList.drop i)).length_le; simp at this ⊢; omega
        · exact Rng.but (Rng.keep R.out (Below.alloc (Below.refl _ _) (Nat.le_refl _) _)) hblk ((But.refl _ _).drewN _ |>.trans j5)
        rintro e w2 ⟨rfl, hb2⟩
        have htok' := ((htok.drewN _).but j5 (Ne.symm n0)).keep hb2
        obtain ⟨t0, t1, t2, t3, t4, z0, z1, z2, z3, z4, ltt⟩ := htok'.five
        go_wp2
        (try simp only [Exit.inBlock, Exit.then]); refine bodyPost_ret (res_tok rfl _ w.heap.size rfl _ rfl ⟨4, [], _, false, 0⟩ _ (htok'.storeTok _ _ _ _ _)) rfl ?_
        rw [← DC.out]
        exact one_fin (by rw [DC.out]; exact one_digit g1 g2 g3) hbl (((hbut.drewN _).trans j5).trans (But.of hb2)) (fun _ => ⟨j, j2, by rw [J3.out, DC.out], j6.keep hb2⟩) _ _ _ _ _
    · go_enter Tryd.func13, Tryd.ntmps13
      go_wp2_with fail
      go_quiet (fail)
      go_wp2_with fail
      refine (small_any s[i] _).mono ?_; rintro e w' ⟨rfl, rfl⟩
      go_wp2_with fail
      refine (great_any s[i] _).mono ?_; rintro e w' ⟨rfl, rfl⟩
      go_wp2_with fail
      refine (run_word s b i (by omega) hs2 _ (hblk.drewN _)).mono ?_; rintro e w' ⟨rfl, j, j1, j2, j3, -, j5, j6⟩; have J3 := Lib.hid j3; clear j3
      have htok' := (htok.drewN _).but j5 (Ne.symm n0)
      obtain ⟨t0, t1, t2, t3, t4, z0, z1, z2, z3, z4, ltt⟩ := htok'.five
      go_wp2
      (try simp only [Exit.inBlock, Exit.then]); refine bodyPost_ret (res_tok rfl _ w.heap.size rfl 0 rfl ⟨3, _, 0, false, 0⟩ _ (htok'.storeTok _ _ _ _ _)) rfl ?_
      rw [← DC.out]
      exact one_fin (by rw [DC.out]; exact one_great g1 g2) hbl ((hbut.drewN _).trans j5) (fun _ => ⟨j, j2, by rw [J3.out, DC.out], j6⟩) _ _ _ _ _
  · go_enter Tryd.func13, Tryd.ntmps13
    go_wp2_with fail
    go_quiet (fail)
    go_wp2_with fail
    refine (small_any s[i] _).mono ?_; rintro e w' ⟨rfl, rfl⟩
    go_wp2_with fail
    refine (run_word s b i (by omega) hs2 _ (hblk.drewN _)).mono ?_; rintro e w' ⟨rfl, j, j1, j2, j3, -, j5, j6⟩; have J3 := Lib.hid j3; clear j3
    have htok' := (htok.drewN _).but j5 (Ne.symm n0)
    obtain ⟨t0, t1, t2, t3, t4, z0, z1, z2, z3, z4, ltt⟩ := htok'.five
    go_wp2
    (try simp only [Exit.inBlock, Exit.then]); refine bodyPost_ret (res_tok rfl _ w.heap.size rfl 0 rfl ⟨1, _, 0, false, 0⟩ _ (htok'.storeTok _ _ _ _ _)) rfl ?_
    rw [← DC.out]
    exact one_fin (by rw [DC.out]; exact one_small g1) hbl ((hbut.drewN _).trans j5) (fun _ => ⟨j, j2, by rw [J3.out, DC.out], j6⟩) _ _ _ _ _
end Go.Proofs.YtofefbonokikfaaDoor
