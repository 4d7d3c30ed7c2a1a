/- Strings of bytes, bytes of strings, read abstractly. -/
import Derived.Test.YtcnnobcncklgfaaGreatDoorAbsMem4
import Derived.Laws.IdiomStrings
namespace Go.Abs
open Go Go.RowKit
set_option linter.unusedVariables false
/-- More cells stand for good: those of a block. -/
def Gh.good (G : Gh) (b : Nat) (cs : Array Value) : Gh := ⟨fun b' o => if b' = b then cs[o]? else G.M b' o, G.mu, G.mm⟩
theorem Gh.good_le {G : Gh} {b : Nat} {cs : Array Value} (h : ∀ o, G.M b o = none) : G.le (G.good b cs) :=
  ⟨fun b' o v hv => by
    simp only [Gh.good]
    by_cases hb : b' = b
    · subst hb; rw [h] at hv; cases hv
    · rw [if_neg hb]; exact hv, fun _ _ _ h => h, fun _ _ h => h⟩
/-- A new block whose cells stand for good. -/
theorem HRel.newGood {K : Kx} {G : Gh} {H : AH} {w w' : World} (h : HRel K G H w) {cs : Array Value} {t : TypeId} {f : Nat × Nat} (hb : Below w.heap.size w w') (hw : w'.heap[w.heap.size]? = some (.cells cs t f)) (ho : ∀ c ∈ cs.toList, c.oneCell' = true) :
    G.le (G.good w.heap.size cs) ∧ HRel K (G.good w.heap.size cs) H w' := by
  have hMlt : ∀ b o v, G.M b o = some v → b < w.heap.size := fun b o v hv => cell_lt (h.mem b o v hv)
  have hnone : ∀ o, G.M w.heap.size o = none := fun o => by
    cases hM : G.M w.heap.size o with
    | none => rfl
    | some v => exact absurd (hMlt _ _ _ hM) (Nat.lt_irrefl _)
  have hle := Gh.good_le (cs := cs) hnone
  refine ⟨hle, h.below.trans (hb.mono h.hB), Nat.le_trans h.hB hb.size, ?_, ?_, ?_, ?_, h.apart, h.fresh, ?_, h.mapart, h.mfresh, h.ages⟩
  · intro b o v hv
    simp only [Gh.good] at hv
    by_cases hbb : b = w.heap.size
    · subst hbb
      rw [if_pos rfl] at hv
      rw [cell_of hw]; exact hv
    · rw [if_neg hbb] at hv
      rw [← h.mem b o v hv]
      exact World.cell?_of_block (hb.block b (hMlt b o v hv))
  · intro b o v hv
    simp only [Gh.good] at hv
    by_cases hbb : b = w.heap.size
    · rw [if_pos hbb] at hv
      exact ho v (by rw [Array.mem_toList_iff]; exact Array.mem_of_getElem? hv)
    · rw [if_neg hbb] at hv; exact h.ones b o v hv
  · intro b o hbB
    simp only [Gh.good]
    rw [if_neg (by have := h.hB; omega)]
    exact h.old b o hbB
  · intro g r hr
    obtain ⟨b, o, n, c, ty, q⟩ := h.grp g r hr
    have hbl := get_lt q.heap
    exact ⟨b, o, n, c, ty, q.mu, q.low, by rw [hb.block b hbl]; exact q.heap, q.size, fun i x hi => by obtain ⟨u, h1, h2, h3⟩ := q.cell i x hi; exact ⟨u, h1, VR.mono hle _ _ h2, h3⟩,
      fun j hj => by simp only [Gh.good]; rw [if_neg (by omega)]; exact q.free j hj⟩
  · intro g es hg
    obtain ⟨b, l, c, q⟩ := h.maps g es hg
    exact ⟨b, l, c, q.mm, q.low, by rw [hb.block b (get_lt q.heap)]; exact q.heap, q.ents.mono hle⟩
def byteRows (s : List UInt8) : List (List AV) := s.map fun c => [.int .u8 c.toNat]
theorem VRows.bytes {G : Gh} {b : Nat} : ∀ {s : List UInt8} {o : Nat}, (∀ j c, s[j]? = some c → G.M b (o + j) = some (.int .u8 c.toNat)) → VRows G 1 (byteRows s) b o
  | [], o, h => by simp [byteRows, VRows]
  | c :: s, o, h => by
    show VRows G 1 ([.int .u8 c.toNat] :: byteRows s) b o
    simp only [VRows, VRow]
    refine ⟨rfl, ⟨⟨_, by simpa using h 0 c rfl, by simp [VR]⟩, trivial⟩, VRows.bytes fun j d hj => ?_⟩
    have := h (j + 1) d (by simpa using hj)
    rw [← this]; congr 1; omega
def bytesA : List AV → Option (List UInt8)
  | [] => some []
  | .int .u8 n :: xs => if 0 ≤ n ∧ n < 256 then (match bytesA xs with | some l => some (UInt8.ofNat n.toNat :: l) | none => none) else none
  | _ => none
theorem bytesA_ok {G : Gh} : ∀ {xs : List AV} {l : List UInt8}, bytesA xs = some l → xs.length = l.length ∧ ∀ (j : Nat) c, l[j]? = some c → ∃ x, xs[j]? = some x ∧ ∀ u, VR G x u → u = .int .u8 (c.toNat : Int)
  | [], l, h => by simp only [bytesA] at h; cases h; exact ⟨rfl, fun j c hj => by simp at hj⟩
  | x :: xs, l, h => by
    unfold bytesA at h
    split at h
    · rename_i h1; cases h1
    · rename_i n ys h1
      cases h1
      split at h
      · rename_i hn
        split at h
        · rename_i l' h2
          cases h
          obtain ⟨q1, q2⟩ := bytesA_ok h2
          refine ⟨by simp [q1], fun j c hj => ?_⟩
          cases j with
          | zero =>
            simp at hj; subst hj
            refine ⟨_, rfl, fun u hu => ?_⟩
            simp only [VR] at hu
            subst hu
            congr 1
            simp only [UInt8.toNat_ofNat']
            omega
          | succ j => simpa using q2 j c (by simpa using hj)
        · cases h
      · cases h
    · cases h
/-- Turned into another type. -/
def aconvH (P : Program) (src dst : TypeId) (x : AV) (H : AH) : Option (AV × AH) :=
  match P.underlying src, P.underlying dst with
  | some .string, some (.slice e) => match P.underlying e, x with
    | some (.int .u8), .str s => some (.vals 1 (byteRows s), H)
    | _, _ => none
  | some (.slice e), some .string => match P.underlying e with
    | some (.int .u8) => match listCells H 1 x with
      | some (m, xs) => (bytesA xs).map fun l => (.str l, H)
      | none => none
    | _ => none
  | some (.int _), some .string => match x with
    | .int _ n => some (.str (Utf8.encode n).data.toList, H)
    | _ => none
  | _, _ => (aconv P src dst x).map (·, H)
theorem aconvH_ok {P : Program} {K : Kx} {G : Gh} {H H' : AH} {w : World} (h : HRel K G H w) {src dst : TypeId} {x z : AV} {u : Value} (hx : VR G x u) (ha : aconvH P src dst x H = some (z, H')) :
    ∃ r w' G', (convert src dst u).run P w = .ok r w' ∧ G.le G' ∧ HRel K G' H' w' ∧ VR G' z r := by
  unfold aconvH at ha
  split at ha
  · rename_i e hs hd
    split at ha
    · rename_i s he
      cases ha
      simp only [VR] at hx
      subst hx
      have hrun := run_bytes_of_string w src dst e ⟨s.toArray⟩ hs hd he
      generalize hcap : grownCap w (⟨s.toArray⟩ : ByteArray).size 0 e = cap at hrun
      have hge : (⟨s.toArray⟩ : ByteArray).size ≤ cap := by rw [← hcap]; exact grownCap_ge w _ 0 e
      obtain ⟨k1, k2⟩ := h.newGood (cs := bytesRow ⟨s.toArray⟩ cap) (t := e) (f := ((bytesRow ⟨s.toArray⟩ cap).size, (bytesRow ⟨s.toArray⟩ cap).size + 1))
        (w' := w.drew.alloc (.cells (bytesRow ⟨s.toArray⟩ cap) e ((bytesRow ⟨s.toArray⟩ cap).size, (bytesRow ⟨s.toArray⟩ cap).size + 1)))
        (Below.alloc (Below.drew (Below.refl _ _)) (Nat.le_refl _) _) (by show (w.heap.push _)[w.heap.size]? = _; simp) (fun c hc => by
          simp only [bytesRow, Array.toList_append, List.mem_append, Array.toList_map, List.mem_map, Array.toList_replicate, List.mem_replicate] at hc
          rcases hc with ⟨_, _, rfl⟩ | ⟨_, rfl⟩ <;> rfl)
      refine ⟨_, _, _, hrun, k1, k2, ?_⟩
      simp only [VR]
      refine ⟨_, cap, ?_, ?_, .inr ⟨w.heap.size, 0, rfl, VRows.bytes fun j c hj => ?_⟩⟩
      · simp [byteRows, ByteArray.size]
      · simpa [byteRows, ByteArray.size] using hge
      · simp only [Gh.good, if_true, bytesRow, Nat.zero_add]
        have hjl : j < s.length := (List.getElem?_eq_some_iff.1 hj).1
        rw [Array.getElem?_append_left (by simpa using hjl)]
        simp [hj]
    · cases ha
  · rename_i e hs hd
    split at ha
    · rename_i he
      split at ha
      · rename_i m xs hl
        rw [Option.map_eq_some_iff] at ha
        obtain ⟨l, h1, h2⟩ := ha
        cases h2
        obtain ⟨a, c, rfl, hmc, hlen, hin⟩ := listCells_ok h hx hl
        obtain ⟨q1, q2⟩ := bytesA_ok (G := G) h1
        have hml : m = l.length := by omega
        subst hml
        refine ⟨_, w, G, ?_, Gh.le.refl _, h, by simp only [VR]; rfl⟩
        rcases hin with h0 | ⟨b, o, rfl, hin⟩
        · have hl0 : l = [] := List.eq_nil_of_length_eq_zero h0
          subst hl0
          rw [run_convert_bytes_string w src dst e a _ c hs he hd]
          cases a with
          | none => simp [Conv.bytesToString]; rfl
          | some a => simp [Conv.bytesToString, loadCells, loadCellsFrom]; rfl
        · refine run_convert_bytes_back w src dst e _ c l hs he hd fun j hj => ?_
          obtain ⟨x', k1, k2⟩ := q2 j l[j] (List.getElem?_eq_getElem hj)
          obtain ⟨u, k3, k4, _⟩ := hin j x' k1
          rw [Addr.add_lit, k3, k2 u k4]
      · cases ha
    · cases ha
  · rename_i k hs hd
    split at ha
    · rename_i k' n
      cases ha
      simp only [VR] at hx
      subst hx
      exact ⟨.string (Utf8.encode n), w, G, by simp [convert, run_underlying hs, run_underlying hd, Conv.intToString], Gh.le.refl _, h, by simp [VR]⟩
    · cases ha
  · rw [Option.map_eq_some_iff] at ha
    obtain ⟨y, h1, h2⟩ := ha
    cases h2
    obtain ⟨r, k1, k2⟩ := aconv_ok (P := P) h1 hx w
    exact ⟨r, w, G, k1, Gh.le.refl _, h, k2⟩
end Go.Abs
