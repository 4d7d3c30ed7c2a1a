/- The contracts of package lex: one, at a pair. -/
import Derived.Test.YtofefbonokikfaaDoorLexOne
namespace Go.Proofs.YtofefbonokikfaaDoor
open Go Go.ChangeShapes Go.WideShapes Go.ChangeAt Go.RowKit
set_option linter.unusedVariables false
set_option maxRecDepth 100000 in
set_option maxHeartbeats 10000000 in
theorem one_pairA (s : ByteArray) (b i : Nat) (hi : i < s.size) (hs : s.size ≤ 4096) (w : World) (hb : Blk w b #[.string s, .int .i64 i] 36) (RS : Rest s[i]) (g5 : endsS (s.data.toList.drop i) = false) (g6 : lsym s[i] = false)
    (g7 : (s[i] == 59) = false) (g8 : (s[i] == 33) = false) (P1 : Hid (Lib.hasPrefix (s.extract i s.size).data.toList [91, 93] = true)) (HP : Hid (pairS s[i] (s.data.toList.drop (i + 1)) = true)) :
    Calls Tryd.prog 13 #[.pointer (some ⟨b, 0, none⟩)] w (OneIs s b (oneT (s.data.toList.drop i)) w) := by
  have hs2 : s.size ≤ 281474976710656 := by omega
  have hbl := hb.lt
  have n0 : b ≠ w.heap.size := by omega
  have hblk : Blk (w.alloc (.cells (tokCells tok0) 28)) b #[.string s, .int .i64 i] 36 := hb.alloc _
  have htok : Blk (w.alloc (.cells (tokCells tok0) 28)) w.heap.size (tokCells tok0) 28 := Blk.new _ _ _
  have hbut : But b w (w.alloc (.cells (tokCells tok0) 28)) := (But.refl _ _).alloc _
  obtain ⟨c0, c1, f0, f1, lt⟩ := hb.two
  obtain ⟨t0, t1, t2, t3, t4, z0, z1, z2, z3, z4, ltt⟩ := htok.five
  have k0 : (0 : Int) ≤ (i : Int) := by omega
  have hlt' : (i : Int) < (s.size : Int) := by omega
  have hle' : (i : Int) ≤ (s.size : Int) := by omega
  have kw : IntKind.i64.wrap ((i : Int) + 1) = (i : Int) + 1 := IntWalk.i64_in _ (by omega)
  have DC := Lib.hid (drop_cons hi)
  have g5' : endsS (s[i] :: s.data.toList.drop (i + 1)) = false := by rw [← drop_cons hi]; exact g5
  have g1 := RS.a; have g2 := RS.b; have g3 := RS.d; have g4 := RS.q
  have e39 : ((s[i].toNat : Int) == 39) = false := by rw [u8_eq s[i] 39 39 rfl]; exact g4
  have e59 : ((s[i].toNat : Int) == 59) = false := by rw [u8_eq s[i] 59 59 rfl]; exact g7
  have e33 : ((s[i].toNat : Int) == 33) = false := by rw [u8_eq s[i] 33 33 rfl]; exact g8
  have g78 : (s[i] == 59 || s[i] == 33) = false := by rw [g7, g8]; rfl
  have hi2 := pair_lt hi HP.out
  have kw2 : IntKind.i64.wrap ((i : Int) + 2) = (i : Int) + 2 := IntWalk.i64_in _ (by omega)
  have hx : s.extract i (i + 2) = ⟨((s.data.toList.drop i).take 2).toArray⟩ := by rw [extract_eq, show i + 2 - i = 2 from by omega]
  (go_enter Tryd.func13, Tryd.ntmps13; (go_wp2_with fail; go_quiet (fail); go_wp2_with fail; (refine (small_any s[i] _).mono ?_); (rintro e w' ⟨rfl, rfl⟩); go_wp2_with fail; (refine (great_any s[i] _).mono ?_); (rintro e w' ⟨rfl, rfl⟩); go_wp2_with fail; (refine (digit_any s[i] _).mono ?_); (rintro e w' ⟨rfl, rfl⟩); go_wp2_with fail); (refine (ends_any s b i hi hs2 _ (hblk.drewN _)).mono ?_); rw [g5]; (rintro e w' ⟨rfl, m, rfl⟩); go_wp2_with fail; (refine (symbol_any s[i] _).mono ?_); (rintro e w' ⟨rfl, rfl⟩); rw [g6])
  go_wp2_with fail
  go_quiet (first | exact hp_q P1 _ _ | exact hp_q2 P1 _ _ _)
  go_wp2_with fail
  go_region
  all_goals go_wp2
  (try simp only [Exit.inBlock, Exit.then]); refine bodyPost_ret (res_tok rfl _ w.heap.size rfl 0 rfl ⟨1, (s.data.toList.drop i).take 2, 0, false, 0⟩ _ (Blk.drew (((htok.drewN _).other n0 _).storeTok _ _ _ _ _))) rfl ?_
  exact OneIs.drew (one_fin (by rw [DC.out]; exact one_pair RS g5' g6 g78 HP.out) hbl ((hbut.drewN _).set _ _) (fun _ => ⟨i + 2, by omega, by rw [List.drop_drop], (hblk.drewN _).store 1 _⟩) _ _ _ _ _)
end Go.Proofs.YtofefbonokikfaaDoor
