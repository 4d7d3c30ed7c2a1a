/- The contracts of the document's own answer to chapter 2: One, Cmp, NumParse. -/
import Derived.Test.YtnnfmfiaecaahaaDoorRefW3
import Derived.Test.YtnnfmfiaecaahaaDoorParse
namespace Go.Proofs.YtnnfmfiaecaahaaDoor
open Go Go.ChangeShapes Go.WideShapes Go.ChangeAt Go.RowKit
set_option linter.unusedVariables false
set_option maxRecDepth 100000 in
set_option maxHeartbeats 1000000 in
theorem rone_any (s : ByteArray) (a : Int) (ha : i64 a) (w : World) : Calls Tryd.prog 8 #[.string s, .int .i64 a] w fun e w' => e = .returned (two64 (oneS s.toList a)) ∧ w = w' := by
  obtain ⟨op, ho⟩ : ∃ op, s.toList = op := ⟨_, rfl⟩
  rw [ho]
  have A := Lib.hid ha
  obtain ⟨a0, a1⟩ := ha
  by_cases c1 : op = [43]
  · have m1 : (op == [43]) = true := by simpa using c1
    have D := Lib.hid (show oneS op a = (a, 0) by rw [c1]; rfl)
    clear c1
    go_enter Tryd.func8, Tryd.ntmps8
    go_wp2
    go_ret2
    exact ⟨ret2 D.out, rfl⟩
  have m1 : (op == [43]) = false := by simpa using c1
  by_cases c0 : op = [45]
  · have m0 : (op == [45]) = true := by simpa using c0
    have D := Lib.hid (show oneS op a = lim (0 - a) by rw [c0]; rfl)
    clear c0
    by_cases h : a = -9223372036854775808
    · subst h
      go_enter Tryd.func8, Tryd.ntmps8
      go_wp2_with ((go_at_call 19; refine (least_any _).mono ?_; rintro e w' ⟨rfl, rfl⟩))
      go_ret2
      exact ⟨ret2 (by rw [D.out]; decide), rfl⟩
    · have h' : (a == -9223372036854775808) = false := by simpa using h
      have L := Lib.hid (show i64 (-a) by unfold i64; omega)
      go_enter Tryd.func8, Tryd.ntmps8
      go_wp2_with ((go_at_call 19; refine (least_any _).mono ?_; rintro e w' ⟨rfl, rfl⟩))
      go_ret2
      exact ⟨ret2 (by rw [D.out, Int.zero_sub, lim_in L.out]), rfl⟩
  have m0 : (op == [45]) = false := by simpa using c0
  by_cases c2 : op = [97, 98, 115]
  · have m2 : (op == [97, 98, 115]) = true := by simpa using c2
    have D := Lib.hid (show oneS op a = lim (if a < 0 then 0 - a else a) by rw [c2]; rfl)
    clear c2
    by_cases h : a = -9223372036854775808
    · subst h
      go_enter Tryd.func8, Tryd.ntmps8
      go_wp2_with ((go_at_call 19; refine (least_any _).mono ?_; rintro e w' ⟨rfl, rfl⟩))
      go_ret2
      exact ⟨ret2 (by rw [D.out]; decide), rfl⟩
    · have h' : (a == -9223372036854775808) = false := by simpa using h
      by_cases hn : a < 0
      · rw [if_pos hn] at D
        have L := Lib.hid (show i64 (-a) by unfold i64; omega)
        go_enter Tryd.func8, Tryd.ntmps8
        go_wp2_with ((go_at_call 19; refine (least_any _).mono ?_; rintro e w' ⟨rfl, rfl⟩))
        go_ret2
        exact ⟨ret2 (by rw [D.out, Int.zero_sub, lim_in L.out]), rfl⟩
      · rw [if_neg hn] at D
        go_enter Tryd.func8, Tryd.ntmps8
        go_wp2_with ((go_at_call 19; refine (least_any _).mono ?_; rintro e w' ⟨rfl, rfl⟩))
        go_ret2
        exact ⟨ret2 (by rw [D.out, lim_in A.out]), rfl⟩
  have m2 : (op == [97, 98, 115]) = false := by simpa using c2
  by_cases c3 : op = [115, 105, 103, 110]
  · have m3 : (op == [115, 105, 103, 110]) = true := by simpa using c3
    have D := Lib.hid (show oneS op a = (max (min a 1) (-1), 0) by rw [c3]; rfl)
    clear c3
    go_enter Tryd.func8, Tryd.ntmps8
    go_wp2
    all_goals go_ret2
    all_goals exact ⟨ret2 (by first | exact D.out | exact D.out.trans (by congr 1; omega)), rfl⟩
  have m3 : (op == [115, 105, 103, 110]) = false := by simpa using c3
  by_cases c4 : op = [92]
  · have m4 : (op == [92]) = true := by simpa using c4
    have D := Lib.hid (show oneS op a = (-1 - a, 0) by rw [c4]; rfl)
    clear c4
    go_enter Tryd.func8, Tryd.ntmps8
    go_wp2
    all_goals go_ret2
    all_goals exact ⟨ret2 (by first | exact D.out | exact D.out.trans (by congr 1; omega)), rfl⟩
  have m4 : (op == [92]) = false := by simpa using c4
  have D := Lib.hid (show oneS op a = (0, 1) by simp [oneS, c0, c1, c2, c3, c4])
  clear c0 c1 c2 c3 c4
  go_enter Tryd.func8, Tryd.ntmps8
  go_wp2
  go_ret2
  exact ⟨ret2 D.out, rfl⟩
set_option maxHeartbeats 1000000 in
theorem rcmp_any (s : ByteArray) (a b : Int) (w : World) : Calls Tryd.prog 10 #[.string s, .int .i64 a, .int .i64 b] w fun e w' => e = .returned (.tuple #[.bool (cmpS s.toList a b).1, .int .i64 (cmpS s.toList a b).2]) ∧ w = w' := by
  obtain ⟨op, ho⟩ : ∃ op, s.toList = op := ⟨_, rfl⟩
  rw [ho]
  by_cases c0 : op = [61, 58, 61]
  · have m0 : (op == [61, 58, 61]) = true := by simpa using c0
    have D := Lib.hid (show cmpS op a b = (a == b, 0) by rw [c0]; rfl)
    clear c0
    go_enter Tryd.func10, Tryd.ntmps10
    go_wp2
    go_ret2
    exact ⟨retb D.out, rfl⟩
  have m0 : (op == [61, 58, 61]) = false := by simpa using c0
  by_cases c1 : op = [61, 92, 61]
  · have m1 : (op == [61, 92, 61]) = true := by simpa using c1
    have D := Lib.hid (show cmpS op a b = (a != b, 0) by rw [c1]; rfl)
    clear c1
    go_enter Tryd.func10, Tryd.ntmps10
    go_wp2
    go_ret2
    exact ⟨retb D.out, rfl⟩
  have m1 : (op == [61, 92, 61]) = false := by simpa using c1
  by_cases c2 : op = [60]
  · have m2 : (op == [60]) = true := by simpa using c2
    have D := Lib.hid (show cmpS op a b = (decide (a < b), 0) by rw [c2]; rfl)
    clear c2
    go_enter Tryd.func10, Tryd.ntmps10
    go_wp2
    go_ret2
    exact ⟨retb D.out, rfl⟩
  have m2 : (op == [60]) = false := by simpa using c2
  by_cases c3 : op = [62]
  · have m3 : (op == [62]) = true := by simpa using c3
    have D := Lib.hid (show cmpS op a b = (decide (b < a), 0) by rw [c3]; rfl)
    clear c3
    go_enter Tryd.func10, Tryd.ntmps10
    go_wp2
    go_ret2
    exact ⟨retb D.out, rfl⟩
  have m3 : (op == [62]) = false := by simpa using c3
  by_cases c4 : op = [61, 60]
  · have m4 : (op == [61, 60]) = true := by simpa using c4
    have D := Lib.hid (show cmpS op a b = (decide (a ≤ b), 0) by rw [c4]; rfl)
    clear c4
    go_enter Tryd.func10, Tryd.ntmps10
    go_wp2
    go_ret2
    exact ⟨retb D.out, rfl⟩
  have m4 : (op == [61, 60]) = false := by simpa using c4
  by_cases c5 : op = [62, 61]
  · have m5 : (op == [62, 61]) = true := by simpa using c5
    have D := Lib.hid (show cmpS op a b = (decide (b ≤ a), 0) by rw [c5]; rfl)
    clear c5
    go_enter Tryd.func10, Tryd.ntmps10
    go_wp2
    go_ret2
    exact ⟨retb D.out, rfl⟩
  have m5 : (op == [62, 61]) = false := by simpa using c5
  have D := Lib.hid (show cmpS op a b = (false, 1) by simp [cmpS, c0, c1, c2, c3, c4, c5])
  clear c0 c1 c2 c3 c4 c5
  go_enter Tryd.func10, Tryd.ntmps10
  go_wp2
  go_ret2
  exact ⟨retb D.out, rfl⟩
theorem rdig_any (c : UInt8) (w : World) : Calls Tryd.prog 26 #[.int .u8 c.toNat] w fun e w' => e = .returned (.bool (dig c)) ∧ w = w' := by
  go_enter Tryd.func26, Tryd.ntmps26
  go_wp2
  all_goals (go_ret; refine ⟨?_, rfl⟩; unfold dig; congr 1; first | (refine congrArg Value.bool ?_; rw [Bool.eq_iff_iff]; simp; omega) | (show Value.bool _ = _; refine congrArg Value.bool ?_; rw [Bool.eq_iff_iff]; simp; omega))
def sg (neg : Bool) (x : Int) : Int := if neg then -x else x
theorem sg_far {neg : Bool} {x y : Int} (h : ¬ i64 (sg neg x)) (h0 : 0 ≤ x) (hxy : x ≤ y) : ¬ i64 (sg neg y) := by
  unfold sg i64 at *
  cases neg <;> simp at * <;> omega
theorem rplus_ok (s : ByteArray) (hs : s.toList = [43]) (a b : Int) (ha : i64 a) (hb : i64 b) (h : i64 (a + b)) (w : World) : Calls Tryd.prog 6 #[.string s, .int .i64 a, .int .i64 b] w fun e w' => e = .returned (.tuple #[.int .i64 (a + b), .int .i64 0]) ∧ w = w' := by
  have := rtwo_any s a b ha hb w; rw [hs, show twoS [43] a b = lim (a + b) from rfl, lim_b h] at this; exact this
theorem rplus_no (s : ByteArray) (hs : s.toList = [43]) (a b : Int) (ha : i64 a) (hb : i64 b) (h : ¬ i64 (a + b)) (w : World) : Calls Tryd.prog 6 #[.string s, .int .i64 a, .int .i64 b] w fun e w' => e = .returned (.tuple #[.int .i64 0, .int .i64 3]) ∧ w = w' := by
  have := rtwo_any s a b ha hb w; rw [hs, show twoS [43] a b = lim (a + b) from rfl, lim_b' h] at this; exact this
theorem pdrop_cons {s : ByteArray} {i : Nat} (h : i < s.size) : s.data.toList.drop i = s[i] :: s.data.toList.drop (i + 1) := by
  have h2 : i < s.data.toList.length := by simpa using h
  rw [List.drop_eq_getElem_cons h2]; rfl
theorem pdrop_nil {s : ByteArray} {i : Nat} (h : ¬ i < s.size) : s.data.toList.drop i = [] := by
  apply List.drop_eq_nil_of_le; simp; omega
theorem pu8_eq (c : UInt8) (n : Int) (d : UInt8) (hd : (d.toNat : Int) = n) : ((c.toNat : Int) == n) = (c == d) := by
  subst hd
  by_cases h : c = d
  · subst h; simp
  · have h2 : ¬ (c.toNat : Int) = (d.toNat : Int) := fun e => h (UInt8.toNat.inj (by omega))
    rw [beq_eq_false_iff_ne.mpr h2, beq_eq_false_iff_ne.mpr h]
theorem num_step {neg : Bool} {acc : Nat} {v : Int} {c : UInt8} (hv : v = sg neg acc) (h : 48 ≤ c.toNat) : v * 10 + sg neg ((c.toNat : Int) - 48) = sg neg ((acc * 10 + (c.toNat - 48) : Nat) : Int) := by
  subst hv
  unfold sg
  cases neg <;> simp <;> omega
theorem num_far {neg : Bool} {acc : Nat} {v : Int} {c : UInt8} {r : List UInt8} (hv : v = sg neg acc) (h : 48 ≤ c.toNat) (hno : ¬ i64 (v * 10) ∨ ¬ i64 (v * 10 + sg neg ((c.toNat : Int) - 48))) : lim (sg neg (valF acc (c :: r))) = (0, 3) := by
  have hge := valF_ge r (acc * 10 + (c.toNat - 48))
  refine lim_out ?_
  show ¬ i64 (sg neg (valF (acc * 10 + (c.toNat - 48)) r))
  rcases hno with hno | hno
  · have e : v * 10 = sg neg ((acc * 10 : Nat) : Int) := by subst hv; unfold sg; cases neg <;> simp <;> omega
    rw [e] at hno
    exact sg_far hno (by omega) (by omega)
  · rw [num_step hv h] at hno
    exact sg_far hno (by omega) (by omega)
/-- Of what stands behind the sign. -/
def restS (neg : Bool) (r : List UInt8) : Int × Int := if r = [] ∨ r.all dig = false then (0, 2) else lim (sg neg (valF 0 r))
theorem restS_bad {neg : Bool} {r : List UInt8} (h : r.all dig = false) : restS neg r = (0, 2) := if_pos (.inr h)
theorem restS_good {neg : Bool} {r : List UInt8} (h0 : r ≠ []) (h : r.all dig = true) : restS neg r = lim (sg neg (valF 0 r)) := if_neg (by simp [h0, h])
theorem parseS_neg {r : List UInt8} : parseS (45 :: r) = restS true r := by
  unfold parseS restS sg
  simp
theorem parseS_pos {c : UInt8} {r : List UInt8} (h : (c == 45) = false) : parseS (c :: r) = restS false (c :: r) := by
  show (if c = 45 then _ else (if (c :: r).all dig = false then (0, 2) else lim (valF 0 (c :: r)))) = _
  rw [if_neg (by simpa using h)]
  unfold restS sg
  simp
set_option maxRecDepth 100000 in
set_option maxHeartbeats 4000000 in
/-- From the first loop on: 'i' letters are behind. (The two ways to it: with a sign, without.) -/
theorem rparse_any (s : ByteArray) (hs : s.size ≤ 200) (w : World) : Calls Tryd.prog 12 #[.string s] w fun e w' => e = .returned (two64 (parseS s.data.toList)) ∧ w = w' := by
  by_cases h0 : 0 < s.size
  · have h0' : (0 : Int) < (s.size : Int) := by omega
    obtain ⟨i, neg, hin, hp, hc⟩ : ∃ (i : Nat) (neg : Bool), i ≤ 1 ∧ parseS s.data.toList = restS neg (s.data.toList.drop i) ∧ (((s[0].toNat : Int) == 45) = neg ∧ i = (if neg then 1 else 0)) := by
      have hd := pdrop_cons h0
      rw [List.drop_zero] at hd
      cases hn : s[0] == 45
      · refine ⟨0, false, by omega, ?_, by rw [pu8_eq s[0] 45 45 rfl]; exact hn, rfl⟩
        rw [List.drop_zero, hd]; exact parseS_pos hn
      · refine ⟨1, true, by omega, ?_, by rw [pu8_eq s[0] 45 45 rfl]; exact hn, rfl⟩
        rw [hd, eq_of_beq hn, parseS_neg]; rfl
    obtain ⟨R, hR⟩ : ∃ R, R = parseS s.data.toList := ⟨_, rfl⟩
    rw [← hR]
    have HP := Lib.hid (hR.trans hp)
    clear hp hR
    obtain ⟨hc, hi⟩ := hc
    have W0 : ∀ j : Nat, j ≤ 200 → IntKind.i64.wrap ((j : Int) + 1) = (j : Int) + 1 := fun j hj => IntWalk.i64_in _ (by omega)
    have h00 : ¬ (s.size : Int) ≤ 0 := by omega
    have hse : ¬ s = ByteArray.empty := by rintro rfl; exact absurd h0 (by decide)
    cases neg
    · simp only [Bool.false_eq_true, if_false] at hi
      subst hi
      have HPN : Hid (R = restS false (s.data.toList.drop 0)) := HP
      by_cases hlt0 : 0 < s.size
      · have hlt0' : ¬ (s.size : Int) ≤ 0 := by omega
        clear HP
        go_enter Tryd.func12, Tryd.ntmps12
        go_wp2_with fail
        go_loopg [6] (s.size - 0) (fun g x wr => ∃ k : Nat, 0 ≤ k ∧ k ≤ s.size ∧ g = s.size - k ∧ x = .int .i64 k ∧ Hid ((s.data.toList.drop 0).all dig = (s.data.toList.drop k).all dig) ∧ wr = w)
        case atStart => exact ⟨0, Nat.le_refl _, by omega, rfl, rfl, Lib.hid rfl, rfl⟩
        case round =>
          obtain ⟨k, h1, h2, hg, rfl, HA, rfl⟩ := hrel
          have G := Lib.hid hg; clear hg
          have k0 : (0 : Int) ≤ (k : Int) := by omega
          by_cases hlt : k < s.size
          · have hlt' : (k : Int) < (s.size : Int) := by omega
            have kw := W0 k (by omega)
            have DC := Lib.hid (pdrop_cons hlt)
            go_wp2_with fail
            refine (rdig_any s[k] _).mono ?_; rintro e w' ⟨rfl, rfl⟩
            cases hd : dig s[k]
            · go_wp2
              go_ret2
              exact ⟨ret2 (by rw [HPN.out]; exact restS_bad (by rw [HA.out, DC.out, List.all_cons, hd]; rfl)), rfl⟩
            · go_wp2
              go_roundg (s.size - (k + 1))
              case measure => have := G.out; omega
              case rel => exact ⟨k + 1, by omega, by omega, rfl, rfl, Lib.hid (by rw [HA.out, DC.out, List.all_cons, hd]; rfl), rfl⟩
          · have hlt' : ¬ (k : Int) < (s.size : Int) := by omega
            have HG := Lib.hid (show (s.data.toList.drop 0).all dig = true by rw [HA.out, pdrop_nil hlt]; rfl)
            have HR := Lib.hid (HPN.out.trans (restS_good (by rw [pdrop_cons hlt0]; simp) HG.out))
            go_wp2_with fail
            go_loopg [4, 7] (s.size - 0) (fun g x y wr' => ∃ (k acc : Nat) (v : Int), k ≤ s.size ∧ g = s.size - k ∧ x = .int .i64 k ∧ y = .int .i64 v ∧ Hid (v = sg false acc ∧ i64 v ∧ R = lim (sg false (valF acc (s.data.toList.drop k))) ∧ (s.data.toList.drop k).all dig = true) ∧ wr' = wr)
            case atStart => exact ⟨0, 0, 0, by omega, rfl, rfl, rfl, Lib.hid ⟨rfl, by decide, HR.out, HG.out⟩, rfl⟩
            case round =>
              clear k0 h1 h2 hlt hlt'
              obtain ⟨k, acc, v, h2, hg, rfl, rfl, HH, rfl⟩ := hrel
              have G := Lib.hid hg; clear hg
              have k0 : (0 : Int) ≤ (k : Int) := by omega
              by_cases hlt : k < s.size
              · have hlt' : (k : Int) < (s.size : Int) := by omega
                have kw := W0 k (by omega)
                have DC := Lib.hid (pdrop_cons hlt)
                have hdd := HH.out.2.2.2
                rw [DC.out, List.all_cons, Bool.and_eq_true] at hdd
                have hd1 := hdd.1
                unfold dig at hd1
                simp only [Bool.and_eq_true, decide_eq_true_eq] at hd1
                obtain ⟨d0, d9⟩ := hd1
                have ku : IntKind.u8.wrap ((s[k].toNat : Int) - 48) = (s[k].toNat : Int) - 48 := by unfold IntKind.wrap; simp [IntKind.bits, IntKind.signed]; omega
                have ki : IntKind.i64.wrap ((s[k].toNat : Int) - 48) = (s[k].toNat : Int) - 48 := IntWalk.i64_in _ (by omega)
                clear hdd
                by_cases hm : i64 (v * 10)
                · have HM := Lib.hid hm; clear hm
                  go_wp2_with fail
                  refine (rstar_ok _ (by decide +kernel) v 10 HH.out.2.1 (by decide) HM.out _).mono ?_; rintro e w' ⟨rfl, rfl⟩
                  by_cases hp : i64 (v * 10 + ((s[k].toNat : Int) - 48))
                  · have HPL := Lib.hid hp; clear hp
                    have HD := Lib.hid (show i64 ((s[k].toNat : Int) - 48) by unfold i64; omega)
                    have HST := Lib.hid (num_step (neg := false) (acc := acc) HH.out.1 d0)
                    go_wp2_with fail
                    refine (rplus_ok _ (by decide +kernel) (v * 10) ((s[k].toNat : Int) - 48) HM.out HD.out HPL.out _).mono ?_; rintro e w' ⟨rfl, rfl⟩
                    go_wp2_with fail
                    refine (rplus_ok _ (by decide +kernel) (v * 10) ((s[k].toNat : Int) - 48) HM.out HD.out HPL.out _).mono ?_; rintro e w' ⟨rfl, rfl⟩
                    go_wp2
                    go_roundg (s.size - (k + 1))
                    case measure => have := G.out; omega
                    case rel => exact ⟨k + 1, acc * 10 + (s[k].toNat - 48), _, by omega, rfl, rfl, rfl, Lib.hid ⟨HST.out, HPL.out, by have h := HH.out.2.2.1; rw [DC.out] at h; exact h, by have h := HH.out.2.2.2; rw [DC.out, List.all_cons, Bool.and_eq_true] at h; exact h.2⟩, rfl⟩
                  · have HPL := Lib.hid hp; clear hp
                    have HD := Lib.hid (show i64 ((s[k].toNat : Int) - 48) by unfold i64; omega)
                    have HF := Lib.hid (num_far (r := s.data.toList.drop (k + 1)) (neg := false) (acc := acc) HH.out.1 d0 (.inr HPL.out))
                    go_wp2_with fail
                    refine (rplus_no _ (by decide +kernel) (v * 10) ((s[k].toNat : Int) - 48) HM.out HD.out HPL.out _).mono ?_; rintro e w' ⟨rfl, rfl⟩
                    go_wp2_with fail
                    refine (rplus_no _ (by decide +kernel) (v * 10) ((s[k].toNat : Int) - 48) HM.out HD.out HPL.out _).mono ?_; rintro e w' ⟨rfl, rfl⟩
                    go_wp2
                    go_ret2
                    exact ⟨ret2 (by rw [HH.out.2.2.1, DC.out]; exact HF.out), rfl⟩
                · have HM := Lib.hid hm; clear hm
                  have HD := Lib.hid (show i64 ((s[k].toNat : Int) - 48) by unfold i64; omega)
                  have HPL := Lib.hid (show i64 (0 + ((s[k].toNat : Int) - 48)) by unfold i64; omega)
                  have HF := Lib.hid (num_far (r := s.data.toList.drop (k + 1)) (neg := false) (acc := acc) HH.out.1 d0 (.inl HM.out))
                  go_wp2_with fail
                  refine (rstar_no _ (by decide +kernel) v 10 HH.out.2.1 (by decide) HM.out _).mono ?_; rintro e w' ⟨rfl, rfl⟩
                  go_wp2_with fail
                  refine (rplus_ok _ (by decide +kernel) 0 ((s[k].toNat : Int) - 48) (by decide) HD.out HPL.out _).mono ?_; rintro e w' ⟨rfl, rfl⟩
                  go_wp2_with fail
                  refine (rplus_ok _ (by decide +kernel) 0 ((s[k].toNat : Int) - 48) (by decide) HD.out HPL.out _).mono ?_; rintro e w' ⟨rfl, rfl⟩
                  go_wp2
                  go_ret2
                  exact ⟨ret2 (by rw [HH.out.2.2.1, DC.out]; exact HF.out), rfl⟩
              · have hlt' : ¬ (k : Int) < (s.size : Int) := by omega
                go_wp2
                go_ret2
                exact ⟨ret2 (by have h := HH.out; rw [h.2.2.1, pdrop_nil hlt]; show lim (sg false acc) = _; rw [← h.1]; exact lim_in h.2.1), rfl⟩
      · have hlt0' : (s.size : Int) ≤ 0 := by omega
        clear HP
        exact absurd h0 hlt0
    · simp only [if_true] at hi
      subst hi
      have HPN : Hid (R = restS true (s.data.toList.drop 1)) := HP
      by_cases hlt0 : 1 < s.size
      · have hlt0' : ¬ (s.size : Int) ≤ 1 := by omega
        clear HP
        go_enter Tryd.func12, Tryd.ntmps12
        go_wp2_with fail
        go_loopg [6] (s.size - 1) (fun g x wr => ∃ k : Nat, 1 ≤ k ∧ k ≤ s.size ∧ g = s.size - k ∧ x = .int .i64 k ∧ Hid ((s.data.toList.drop 1).all dig = (s.data.toList.drop k).all dig) ∧ wr = w)
        case atStart => exact ⟨1, Nat.le_refl _, by omega, rfl, rfl, Lib.hid rfl, rfl⟩
        case round =>
          obtain ⟨k, h1, h2, hg, rfl, HA, rfl⟩ := hrel
          have G := Lib.hid hg; clear hg
          have k0 : (0 : Int) ≤ (k : Int) := by omega
          by_cases hlt : k < s.size
          · have hlt' : (k : Int) < (s.size : Int) := by omega
            have kw := W0 k (by omega)
            have DC := Lib.hid (pdrop_cons hlt)
            go_wp2_with fail
            refine (rdig_any s[k] _).mono ?_; rintro e w' ⟨rfl, rfl⟩
            cases hd : dig s[k]
            · go_wp2
              go_ret2
              exact ⟨ret2 (by rw [HPN.out]; exact restS_bad (by rw [HA.out, DC.out, List.all_cons, hd]; rfl)), rfl⟩
            · go_wp2
              go_roundg (s.size - (k + 1))
              case measure => have := G.out; omega
              case rel => exact ⟨k + 1, by omega, by omega, rfl, rfl, Lib.hid (by rw [HA.out, DC.out, List.all_cons, hd]; rfl), rfl⟩
          · have hlt' : ¬ (k : Int) < (s.size : Int) := by omega
            have HG := Lib.hid (show (s.data.toList.drop 1).all dig = true by rw [HA.out, pdrop_nil hlt]; rfl)
            have HR := Lib.hid (HPN.out.trans (restS_good (by rw [pdrop_cons hlt0]; simp) HG.out))
            go_wp2_with fail
            go_loopg [4, 7] (s.size - 1) (fun g x y wr' => ∃ (k acc : Nat) (v : Int), k ≤ s.size ∧ g = s.size - k ∧ x = .int .i64 k ∧ y = .int .i64 v ∧ Hid (v = sg true acc ∧ i64 v ∧ R = lim (sg true (valF acc (s.data.toList.drop k))) ∧ (s.data.toList.drop k).all dig = true) ∧ wr' = wr)
            case atStart => exact ⟨1, 0, 0, by omega, rfl, rfl, rfl, Lib.hid ⟨rfl, by decide, HR.out, HG.out⟩, rfl⟩
            case round =>
              clear k0 h1 h2 hlt hlt'
              obtain ⟨k, acc, v, h2, hg, rfl, rfl, HH, rfl⟩ := hrel
              have G := Lib.hid hg; clear hg
              have k0 : (0 : Int) ≤ (k : Int) := by omega
              by_cases hlt : k < s.size
              · have hlt' : (k : Int) < (s.size : Int) := by omega
                have kw := W0 k (by omega)
                have DC := Lib.hid (pdrop_cons hlt)
                have hdd := HH.out.2.2.2
                rw [DC.out, List.all_cons, Bool.and_eq_true] at hdd
                have hd1 := hdd.1
                unfold dig at hd1
                simp only [Bool.and_eq_true, decide_eq_true_eq] at hd1
                obtain ⟨d0, d9⟩ := hd1
                have ku : IntKind.u8.wrap ((s[k].toNat : Int) - 48) = (s[k].toNat : Int) - 48 := by unfold IntKind.wrap; simp [IntKind.bits, IntKind.signed]; omega
                have ki : IntKind.i64.wrap ((s[k].toNat : Int) - 48) = (s[k].toNat : Int) - 48 := IntWalk.i64_in _ (by omega)
                clear hdd
                by_cases hm : i64 (v * 10)
                · have HM := Lib.hid hm; clear hm
                  go_wp2_with fail
                  refine (rstar_ok _ (by decide +kernel) v 10 HH.out.2.1 (by decide) HM.out _).mono ?_; rintro e w' ⟨rfl, rfl⟩
                  by_cases hp : i64 (v * 10 + -((s[k].toNat : Int) - 48))
                  · have HPL := Lib.hid hp; clear hp
                    have HD := Lib.hid (show i64 (-((s[k].toNat : Int) - 48)) by unfold i64; omega)
                    have HST := Lib.hid (num_step (neg := true) (acc := acc) HH.out.1 d0)
                    go_wp2_with fail
                    refine (rplus_ok _ (by decide +kernel) (v * 10) (-((s[k].toNat : Int) - 48)) HM.out HD.out HPL.out _).mono ?_; rintro e w' ⟨rfl, rfl⟩
                    go_wp2_with fail
                    refine (rplus_ok _ (by decide +kernel) (v * 10) (-((s[k].toNat : Int) - 48)) HM.out HD.out HPL.out _).mono ?_; rintro e w' ⟨rfl, rfl⟩
                    go_wp2
                    go_roundg (s.size - (k + 1))
                    case measure => have := G.out; omega
                    case rel => exact ⟨k + 1, acc * 10 + (s[k].toNat - 48), _, by omega, rfl, rfl, rfl, Lib.hid ⟨HST.out, HPL.out, by have h := HH.out.2.2.1; rw [DC.out] at h; exact h, by have h := HH.out.2.2.2; rw [DC.out, List.all_cons, Bool.and_eq_true] at h; exact h.2⟩, rfl⟩
                  · have HPL := Lib.hid hp; clear hp
                    have HD := Lib.hid (show i64 (-((s[k].toNat : Int) - 48)) by unfold i64; omega)
                    have HF := Lib.hid (num_far (r := s.data.toList.drop (k + 1)) (neg := true) (acc := acc) HH.out.1 d0 (.inr HPL.out))
                    go_wp2_with fail
                    refine (rplus_no _ (by decide +kernel) (v * 10) (-((s[k].toNat : Int) - 48)) HM.out HD.out HPL.out _).mono ?_; rintro e w' ⟨rfl, rfl⟩
                    go_wp2_with fail
                    refine (rplus_no _ (by decide +kernel) (v * 10) (-((s[k].toNat : Int) - 48)) HM.out HD.out HPL.out _).mono ?_; rintro e w' ⟨rfl, rfl⟩
                    go_wp2
                    go_ret2
                    exact ⟨ret2 (by rw [HH.out.2.2.1, DC.out]; exact HF.out), rfl⟩
                · have HM := Lib.hid hm; clear hm
                  have HD := Lib.hid (show i64 (-((s[k].toNat : Int) - 48)) by unfold i64; omega)
                  have HPL := Lib.hid (show i64 (0 + -((s[k].toNat : Int) - 48)) by unfold i64; omega)
                  have HF := Lib.hid (num_far (r := s.data.toList.drop (k + 1)) (neg := true) (acc := acc) HH.out.1 d0 (.inl HM.out))
                  go_wp2_with fail
                  refine (rstar_no _ (by decide +kernel) v 10 HH.out.2.1 (by decide) HM.out _).mono ?_; rintro e w' ⟨rfl, rfl⟩
                  go_wp2_with fail
                  refine (rplus_ok _ (by decide +kernel) 0 (-((s[k].toNat : Int) - 48)) (by decide) HD.out HPL.out _).mono ?_; rintro e w' ⟨rfl, rfl⟩
                  go_wp2_with fail
                  refine (rplus_ok _ (by decide +kernel) 0 (-((s[k].toNat : Int) - 48)) (by decide) HD.out HPL.out _).mono ?_; rintro e w' ⟨rfl, rfl⟩
                  go_wp2
                  go_ret2
                  exact ⟨ret2 (by rw [HH.out.2.2.1, DC.out]; exact HF.out), rfl⟩
              · have hlt' : ¬ (k : Int) < (s.size : Int) := by omega
                go_wp2
                go_ret2
                exact ⟨ret2 (by have h := HH.out; rw [h.2.2.1, pdrop_nil hlt]; show lim (sg true acc) = _; rw [← h.1]; exact lim_in h.2.1), rfl⟩
      · have hlt0' : (s.size : Int) ≤ 1 := by omega
        clear HP
        go_enter Tryd.func12, Tryd.ntmps12
        go_wp2
        go_ret2
        exact ⟨ret2 (by rw [HPN.out, pdrop_nil hlt0]; rfl), rfl⟩
  · have hz0 : s.data.toList.length = s.size := by simp
    have hz : s.data.toList = [] := List.eq_nil_of_length_eq_zero (by omega)
    clear hz0
    have h0' : ¬ (0 : Int) < (s.size : Int) := by omega
    have hsz : (s.size : Int) = 0 := by omega
    rw [hz]
    go_enter Tryd.func12, Tryd.ntmps12
    go_wp2
    go_ret2
    exact ⟨ret2 rfl, rfl⟩
end Go.Proofs.YtnnfmfiaecaahaaDoor
