/- What stands in for slices.Insert, slices.Delete, and a store's Drop.   slices.Delete of a store's clauses: the walk, and what stands in for it.   slices.Delete of a store's clauses: the walk.   A memory of which less is known.   What stands in for slices.Delete of a store's clauses. -/
import Derived.Test.YtjnagmdbkkccpaaGreatDoorAbsL
import Derived.Test.YtjnagmdbkkccpaaGreatDoorRows
import Derived.Shelf.RegionOpenPlain
import Derived.WalkKit
import Derived.Lib.Walk
import Derived.ArgAppend
import Derived.Laws.IdiomCopy
namespace Go.Abs
open Go Go.RowKit
set_option linter.unusedVariables false
/-- slices.Insert: rows are put in ahead of row i; the row lies where it lay, or elsewhere. -/
def insertH (z by_ : Nat) (args : List AV) (H : AH) : Option (AV × AH) :=
  match args with
  | [.nils, .int .i64 0, .slc gv ev iv mv zv] => bif Nat.beq mv 0 then none else iapp z by_ .nils (.slc gv ev iv mv zv) H
  | [.zslc, .int .i64 0, .slc gv ev iv mv zv] => bif Nat.beq mv 0 then none else iapp z by_ .zslc (.slc gv ev iv mv zv) H
  | [.slc g e 0 len z', .int .i64 (.ofNat i), .slc gv ev iv mv zv] =>
    bif Nat.beq mv 0 || Nat.beq gv g then none else
    bif Nat.beq i len then iapp z by_ (.slc g e 0 len z') (.slc gv ev iv mv zv) H else
    match listCells H z (.slc gv ev iv mv zv) with
    | some (m, xs) =>
      match H.gs.get g with
      | some r =>
        bif Nat.beq r.e e && Nat.beq z' z && Nat.beq r.fz 0 && Nat.beq r.cells.length (len * z) && Nat.blt i len && Nat.blt 0 m && Nat.ble ((len + m) * by_) 140737488355328 && Nat.ble (len + m) 9223372036854775807 then
          some (.slc g (e + 1) 0 (len + m) z, ⟨H.next, H.gs.set g ⟨e + 1, 0, r.cells.take (i * z) ++ xs ++ r.cells.drop (i * z)⟩, H.ms⟩)
        else none
      | none => none
    | none => none
  | _ => none
theorem ERel.mem {G : Gh} : ∀ {es : List (Nat × AV × AV)} {l : List MapEntry}, ERel G es l → ∀ e ∈ l, ∃ t ∈ es, t.1 = e.born ∧ VR G t.2.1 e.key ∧ VR G t.2.2 e.val
  | [], l, h, e, he => by simp only [ERel] at h; subst h; cases he
  | (n, k, x) :: es, l, h, e, he => by
    simp only [ERel] at h
    obtain ⟨e0, l', rfl, h0, h1, h2, h3⟩ := h
    rcases List.mem_cons.1 he with rfl | he
    · exact ⟨_, List.mem_cons_self .., h0.symm, h1, h2⟩
    · obtain ⟨t, ht, q⟩ := ERel.mem h3 e he
      exact ⟨t, List.mem_cons_of_mem _ ht, q⟩
theorem ERel.born {G : Gh} : ∀ {es : List (Nat × AV × AV)} {l : List MapEntry}, ERel G es l → l.map (·.born) = es.map (·.1)
  | [], l, h => by simp only [ERel] at h; subst h; rfl
  | (n, k, x) :: es, l, h => by
    simp only [ERel] at h
    obtain ⟨e0, l', rfl, h0, h1, h2, h3⟩ := h
    simp only [List.map_cons, h0, ERel.born h3]
theorem setCells_with (b : Nat) : ∀ (vs : List Value) (o : Nat) (w : World), w.setCells b o vs = { w with heap := (w.setCells b o vs).heap }
  | [], o, w => rfl
  | v :: vs, o, w => by
    rw [World.setCells]
    have := setCells_with b vs (o + 1) (w.setCell ⟨b, o, none⟩ v)
    rw [this]
    rfl
/-- Two rows of cells, set one behind the other, the further ones first. -/
theorem setCells_two {w : World} {b p1 p2 : Nat} {A B : List Value} {cs : Array Value} {t : TypeId} {f : Nat × Nat} (hb : w.heap[b]? = some (.cells cs t f)) (hp : p1 + B.length = p2) (hin : p2 + A.length ≤ cs.size) :
    (w.setCells b p2 A).setCells b p1 B = w.setCells b p1 (B ++ A) := by
  obtain ⟨c1, h1, s1, g1⟩ := heap_sets b t f A p2 w cs hb hin
  obtain ⟨c2, h2, s2, g2⟩ := heap_sets b t f B p1 (w.setCells b p2 A) c1 h1 (by omega)
  obtain ⟨c3, h3, s3, g3⟩ := heap_sets b t f (B ++ A) p1 w cs hb (by rw [List.length_append]; omega)
  have hc : c2 = c3 := by
    refine Array.ext_getElem? fun j => ?_
    rw [g2, g1, g3, List.length_append]
    by_cases q1 : p1 ≤ j ∧ j < p1 + B.length
    · rw [if_pos q1, if_pos (by omega), List.getElem?_append_left (by omega)]
    · rw [if_neg q1]
      by_cases q2 : p2 ≤ j ∧ j < p2 + A.length
      · rw [if_pos q2, if_pos (by omega), List.getElem?_append_right (by omega)]
        congr 1; omega
      · rw [if_neg q2, if_neg (by omega)]
  have hh : ((w.setCells b p2 A).setCells b p1 B).heap = (w.setCells b p1 (B ++ A)).heap := by
    refine Array.ext_getElem? fun k => ?_
    by_cases hk : k = b
    · subst hk; rw [h2, h3, hc]
    · rw [heap_sets_ne b k hk, heap_sets_ne b k hk, heap_sets_ne b k hk]
  rw [setCells_with b B p1 (w.setCells b p2 A), hh, setCells_with b A p2 w, setCells_with b (B ++ A) p1 w]
end Go.Abs
namespace Go.Proofs.YtjnagmdbkkccpaaGreatDoor
open Go Go.Abs Go.RowKit Go.Lib
set_option linter.unusedVariables false
set_option linter.unusedSimpArgs false
def zClause : AV := .agg [.int .i64 0, .int .u64 0, .int .i64 0, .int .i64 0, .str [], .nils, .int .i64 0, .int .i64 0, .str [], .nils]
theorem clause_zero : zeroA Tryz.prog 130 = some zClause := by kernel_rfl
theorem clause_cells : (Tryz.prog).cellsOf 130 = 10 := by kernel_rfl
theorem clause_bytes : (Tryz.prog).bytesOf 130 = 128 := by kernel_rfl
theorem clause_info : ∃ i z, (Tryz.prog).info? 130 = some i ∧ i.size = 10 ∧ i.zero = some z ∧ z.cells.size = 10 ∧ (∀ c ∈ z.cells.toList, c.oneCell' = true) ∧ i.bytes = 128 ∧ ∀ w, (zeroValue 130).run Tryz.prog w = .ok z w := by
  obtain ⟨zz, inf, hi, hzz, -, hvz⟩ := zeroA_ok (G := noG) clause_zero default
  obtain ⟨q1, q2, q3⟩ := fit_ok (by rfl) hvz
  have hs : inf.size = 10 := by have := clause_cells; simpa [Program.cellsOf, hi] using this
  have hb : inf.bytes = 128 := by have := clause_bytes; simpa [Program.bytesOf, hi] using this
  refine ⟨inf, zz, hi, hs, hzz, ?_, q3, hb, fun w => by simp [zeroValue, typeInfo, hi, hzz]⟩
  rw [← Array.length_toList, q1.len]; rfl
end Go.Proofs.YtjnagmdbkkccpaaGreatDoor
namespace Go.Proofs.YtjnagmdbkkccpaaGreatDoor
open Go Go.Abs Go.RowKit Go.Lib
set_option linter.unusedVariables false
set_option linter.unusedSimpArgs false
end Go.Proofs.YtjnagmdbkkccpaaGreatDoor
namespace Go.Abs
open Go Go.RowKit
set_option linter.unusedVariables false
/-- The same groups and ages; of their cells no others. -/
structure LessH (H H' : AH) : Prop where
  none' : ∀ g, H.gs.get g = none → H'.gs.get g = none
  some' : ∀ g r, H.gs.get g = some r → ∃ r', H'.gs.get g = some r' ∧ r'.e = r.e ∧ r'.fz = r.fz ∧ (r'.cells.length < r'.fz → r'.cells.length = r.cells.length) ∧ ∀ (i : Nat) x, r'.cells[i]? = some x → r.cells[i]? = some x
  ms : ∀ g, H'.ms.get g = H.ms.get g
theorem LessH.back {H H' : AH} (h : LessH H H') {g : Nat} {r' : Grp} (hg : H'.gs.get g = some r') : ∃ r, H.gs.get g = some r ∧ r'.e = r.e ∧ r'.fz = r.fz ∧ (r'.cells.length < r'.fz → r'.cells.length = r.cells.length) ∧ ∀ (i : Nat) x, r'.cells[i]? = some x → r.cells[i]? = some x := by
  cases hr : H.gs.get g with
  | none => rw [h.none' g hr] at hg; cases hg
  | some r =>
    obtain ⟨q, h1, h2⟩ := h.some' g r hr
    rw [hg] at h1
    cases h1
    exact ⟨r, rfl, h2⟩
theorem HRel.less {K : Kx} {G : Gh} {H H' : AH} {w : World} (h : HRel K G H w) (hl : LessH H H') : HRel K G H' w := by
  refine ⟨h.below, h.hB, h.mem, h.ones, h.old, ?_, ?_, ?_, ?_, ?_, ?_, ?_⟩
  · intro g r' hg
    obtain ⟨r, h1, h2, h3, h5, h4⟩ := hl.back hg
    obtain ⟨b, o, n, cs, t, q⟩ := h.grp g r h1
    exact ⟨b, o, n, cs, t, by rw [h2]; exact q.mu, q.low, q.heap, q.size, fun i x hi => q.cell i x (h4 i x hi), fun j hj => q.free j (by rw [← h3]; exact hj), fun hk => by rw [h5 hk, h3]; exact q.kind (by rw [← h3, ← h5 hk]; exact hk)⟩
  · intro g g' r r' b o n b' o' n' h1 h2 hne h3 h4
    obtain ⟨r1, k1, k2, _⟩ := hl.back h1
    obtain ⟨r2, k3, k4, _⟩ := hl.back h2
    exact h.apart g g' r1 r2 b o n b' o' n' k1 k3 hne (by rw [← k2]; exact h3) (by rw [← k4]; exact h4)
  · intro g hg e
    refine h.fresh g ?_ e
    cases hr : H.gs.get g with
    | none => rfl
    | some r => obtain ⟨q, h1, _⟩ := hl.some' g r hr; rw [hg] at h1; cases h1
  · intro g es hg; exact h.maps g es (by rw [← hl.ms]; exact hg)
  · intro g g' es es' b b' h1 h2; exact h.mapart g g' es es' b b' (by rw [← hl.ms]; exact h1) (by rw [← hl.ms]; exact h2)
  · intro g hg; exact h.mfresh g (by rw [← hl.ms]; exact hg)
  · intro g r' e hg he
    obtain ⟨r, h1, h2, _⟩ := hl.back hg
    exact h.ages g r e h1 (by rw [← h2]; exact he)
end Go.Abs
namespace Go.Proofs.YtjnagmdbkkccpaaGreatDoor
open Go Go.Abs Go.RowKit Go.Lib
set_option linter.unusedVariables false
set_option linter.unusedSimpArgs false
end Go.Proofs.YtjnagmdbkkccpaaGreatDoor
