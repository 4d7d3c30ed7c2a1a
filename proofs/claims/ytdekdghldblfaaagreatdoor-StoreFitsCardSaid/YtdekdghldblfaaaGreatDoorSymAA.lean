
import Derived.Test.YtdekdghldblfaaaGreatDoorSymS
import Derived.Test.YtdekdghldblfaaaGreatDoorSymFit
import Derived.Test.YtdekdghldblfaaaGreatDoorStB
import Derived.Test.YtdekdghldblfaaaGreatDoorSymVV
import Derived.Test.YtdekdghldblfaaaGreatDoorSymB
namespace Go.Proofs.YtdekdghldblfaaaGreatDoor
open Go Go.Abs Go.RowKit
set_option linter.unusedVariables false
set_option linter.unusedSimpArgs false
attribute [local congr] on_congr br_congr onf_congr
attribute [local congr] Comes_congr
def newL (old : List Cl) (c : Cl) (first : Bool) : List Cl:=if first = true then c :: old else old ++ [c]
def addSt (s : St) (p : Pr) (hd bd : Tm) (l : Int) (first : Bool) : St:=
  { s with la:=s.la + 1
           mc:=(putG (p.nm,p.ar) (newL (clsOf s p.nm p.ar) ⟨s.la + 1,l,hd,bd⟩ first) s.mc s.m).1
           m:=(putG (p.nm,p.ar) (newL (clsOf s p.nm p.ar) ⟨s.la + 1,l,hd,bd⟩ first) s.mc s.m).2
           nc:=(putG l (cntOf s l + 1) s.nc s.n).1
           n:=(putG l (cntOf s l + 1) s.nc s.n).2 }
noncomputable def addP (s : St) (t : Tm) (l : Int) (first : Bool) : Int × Int × St:=
 if (clauseP t).2.2 ≠ 0 then (0,(clauseP t).2.2,s) else
 if (sofP s.ps (clauseP (plainT t)).1).2 ≠ 0 then (0,(sofP s.ps (clauseP (plainT t)).1).2,s) else
 if leqB l (sofP s.ps (clauseP (plainT t)).1).1.ce = false then (0,9,s) else
 if s.q ≤ cntOf s l then (0,10,s) else
 (s.la + 1,0,addSt s (sofP s.ps (clauseP (plainT t)).1).1 (clauseP (plainT t)).1 (clauseP (plainT t)).2.1 l first)
def putSt (H : AH) (g : Nat) (s : St) : AH:=⟨H.next,H.gs.set g ⟨0,0,stoC s⟩,(H.ms.set s.g1 (s.mc,entG kM clsA s.m)).set s.g2 (s.nc,entG kN vN s.n)⟩
def FullSt (s : St) : Prop:=∀ e ∈ s.m,e.2.2 ≠ []
def addR (args : List AV) (H : AH) (y : AV) (H' : AH) : Prop:=∃ g s t l first,args = [.ptr g 0 0,.agg (tmC t),.int .u64 l,.bool first] ∧ StAt H g s ∧ OkSt s ∧ FullSt s ∧ s.la < 1000000 ∧ Fine 1000 t ∧ (0 ≤ l ∧ l < 4) ∧
 y = .tup [.int .i64 (addP s t l first).1,.int .i64 (addP s t l first).2.1] ∧ H' = if (addP s t l first).2.1 = 0 then putSt H g (addP s t l first).2.2 else H
theorem addR_one : OneR addR:=by
 intro a H y H' y2 H2 h k
 obtain ⟨g,s,t,l,f,rfl,h1,-,-,-,-,-,rfl,rfl⟩:=h
 obtain ⟨g',s',t',l',f',e,k1,-,-,-,-,-,rfl,rfl⟩:=k
 simp only [List.cons.injEq,AV.ptr.injEq,AV.int.injEq,AV.agg.injEq,AV.bool.injEq,true_and,and_true] at e
 obtain ⟨rfl,e2,rfl,rfl⟩:=e
 cases h1.inj k1
 cases tmC_inj e2
 exact ⟨rfl,rfl⟩
theorem ins_slc {H : AH} {ga n gx : Nat} {cs xs : List AV} {i : Nat} (hg : H.gs.get ga = some ⟨0,0,cs⟩) (hl : cs.length = n * 10) (hx : H.gs.get gx = some ⟨0,0,xs⟩) (hxl : xs.length = 10) (hne : gx ≠ ga) (hi : i = n ∨ (i = 0 ∧ 0 < n)) (hn : n + 1 ≤ 1000000000) :
  insertH 10 128 [.slc ga 0 0 n 10,.int .i64 (i : Int),.slc gx 0 0 1 10] H = some (.slc ga 1 0 (n + 1) 10,⟨H.next,H.gs.set ga ⟨1,0,if i = n then cs ++ xs else xs ++ cs⟩,H.ms⟩):=by
 have hb : Nat.beq gx ga = false:=by
  cases h : Nat.beq gx ga with
  | false=>rfl
  | true=>exact absurd (Nat.eq_of_beq_eq_true h) hne
 have hlc : listCells H 10 (.slc gx 0 0 1 10) = some (1,xs):=by
  rw [lc_slc,hx,on_some]
  simp only [Nat.one_mul,Nat.zero_add,hxl,Nat.le_refl,and_self,if_true,List.drop_zero]
  rw [show List.take 10 xs = xs by rw [← hxl]; exact List.take_length]
 show (bif Nat.beq 1 0 || Nat.beq gx ga then none else bif Nat.beq i n then iapp 10 128 (.slc ga 0 0 n 10) (.slc gx 0 0 1 10) H else _) = _
 rw [hb]
 show (bif Nat.beq i n then iapp 10 128 (.slc ga 0 0 n 10) (.slc gx 0 0 1 10) H else _) = _
 by_cases h : i = n
 ·subst h
  rw [show Nat.beq i i = true from Nat.beq_refl i,cond_true,if_pos rfl,app_slc,hlc,on_some]
  simp only [hg,on_some]
  rw [if_neg (by omega),if_pos ⟨trivial,trivial,Nat.zero_le _,by omega,by omega,by omega⟩]
  simp only [List.drop_zero]
  rw [show List.take (i * 10) cs = cs by rw [← hl]; exact List.take_length]
 ·obtain ⟨rfl,hn0⟩ : i = 0 ∧ 0 < n:=by omega
  have hz : Nat.beq 0 n = false:=by
   cases h' : Nat.beq 0 n with
   | false=>rfl
   | true=>exact absurd (Nat.eq_of_beq_eq_true h') h
  rw [hz,cond_false,if_neg h,hlc]
  simp only [hg]
  have hc : (Nat.beq 0 0 && Nat.beq 10 10 && Nat.beq 0 0 && Nat.beq cs.length (n * 10) && Nat.blt 0 n && Nat.blt 0 1 && Nat.ble ((n + 1) * 128) 140737488355328 && Nat.ble (n + 1) 9223372036854775807) = true:=by
   have e1 : Nat.beq cs.length (n * 10) = true:=by rw [hl]; exact Nat.beq_refl _
   have e2 : Nat.blt 0 n = true:=Nat.ble_eq_true_of_le hn0
   have e3 : Nat.ble ((n + 1) * 128) 140737488355328 = true:=Nat.ble_eq_true_of_le (by omega)
   have e4 : Nat.ble (n + 1) 9223372036854775807 = true:=Nat.ble_eq_true_of_le (by omega)
   rw [e1,e2,e3,e4]; rfl
  rw [hc]
  simp
theorem ins_nil {H : AH} {gx : Nat} {xs : List AV} (hx : H.gs.get gx = some ⟨0,0,xs⟩) (hxl : xs.length = 10) (hf : H.gs.get H.next = none) :
  insertH 10 128 [.nils,.int .i64 0,.slc gx 0 0 1 10] H = some (.slc H.next 0 0 1 10,⟨H.next + 1,H.gs.set H.next ⟨0,0,xs⟩,H.ms⟩):=by
 have hlc : listCells H 10 (.slc gx 0 0 1 10) = some (1,xs):=by
  rw [lc_slc,hx,on_some]
  simp only [Nat.one_mul,Nat.zero_add,hxl,Nat.le_refl,and_self,if_true,List.drop_zero]
  rw [show List.take 10 xs = xs by rw [← hxl]; exact List.take_length]
 show iapp 10 128 .nils (.slc gx 0 0 1 10) H = _
 rw [app_nils,hlc,on_some]
 simp only [hf]
 rw [if_neg (by omega),if_pos ⟨by omega,by omega,trivial⟩]
 rfl
noncomputable abbrev ysAd : List (FuncId × YF):=[(40,yCloneC)]
noncomputable abbrev lsAd : List (FuncId × (List AV → AH → Option (AV × AH))):=[(34,pureF clauseS),(35,pureF plainS),(36,pureF sofS),(38,pureF namesS),(37,pureF fitS),(15,pureF leqS),(39,insertH 10 128)]
theorem lsAd_ok : ∀ e ∈ lsAd,HookOne Tryz.prog e.1 e.2:=by
 intro e he
 simp only [lsAd,List.mem_cons,List.not_mem_nil,or_false] at he
 rcases he with rfl | rfl | rfl | rfl | rfl | rfl | rfl
 ·exact clause_one
 ·exact plain_one
 ·exact sof_one
 ·exact names_one
 ·exact fit_one
 ·exact leq_one
 ·exact insert_one
theorem ysAd_ok : ∀ e ∈ ysAd,cFun Tryz.prog (fun _=>true) e.1 = some e.2.er:=by
 intro e he
 simp only [ysAd,List.mem_singleton] at he
 subst he
 exact yCloneC_ok
theorem cl_nil (nx : Nat) (gs : Tr Grp) (ms : Tr MapA) : icall ysAd lsAd 0 2 40 [.nils] ⟨nx,gs,ms⟩ = some (.nils,⟨nx,gs,ms⟩):=by
 refine icall_text rfl rfl rfl ?_
 have e : ibin .eql 39 (some (.slice 42)) true .nils .nils = some (.bool true):=rfl
 simp (maxSteps:=1000000) (disch:=omega) only [yCloneC,xinit_1,↓axP,axQ,↓if_true,↓if_false,ite_true,ite_false,reduceIte,ne_eq,eq_self,Nat.reduceAdd,Nat.reduceSub,Nat.reduceMul,Nat.reduceLeDiff,Nat.reduceEqDiff,Nat.reduceBEq,reduceCtorEq,Int.reduceToNat,Int.reduceLT,Int.reduceLE,Int.reduceEq,Int.reduceAdd,Int.reduceSub,Int.reduceNeg,capnY,appzY,tmC_len,tmC_0,tmC_1,tmC_2,tmC_3,tmC_take,tmC_drop,tmC_one,tmC_ne,e]
theorem cl_vals (nx : Nat) (gs : Tr Grp) (ms : Tr MapA) (l : List Cl) (hl : l ≠ []) (hn : l.length ≤ 1000000000) (h0 : gs.get nx = none) : icall ysAd lsAd 0 2 40 [.vals 10 (l.map clC)] ⟨nx,gs,ms⟩ = some (.slc nx 0 0 l.length 10,⟨nx + 1,gs.set nx ⟨0,0,(l.map clC).flatten⟩,ms⟩):=by
 refine icall_text rfl rfl rfl ?_
 obtain ⟨c,l',rfl⟩:=List.exists_cons_of_ne_nil hl
 have e : ∀ t ts,ibin .eql 39 (some (.slice 42)) true (.vals 10 (t :: ts)) .nils = some (.bool false):=fun t ts=>(rfl)
 have q0 : ((l'.map clC).length + 1 = 0) = False:=by simp
 have q1 : ((l'.map clC).length + 1) * 128 ≤ 140737488355328 ∧ (l'.map clC).length + 1 ≤ 9223372036854775807:=by simp at hn ⊢; omega
 simp only [yCloneC,xinit_1,↓axP,axQ,↓if_true,↓if_false,ite_true,ite_false,reduceIte,ne_eq,eq_self,Nat.reduceAdd,Nat.reduceSub,Nat.reduceMul,Nat.reduceLeDiff,Nat.reduceEqDiff,Nat.reduceBEq,reduceCtorEq,Int.reduceToNat,Int.reduceLT,Int.reduceLE,Int.reduceEq,Int.reduceAdd,Int.reduceSub,Int.reduceNeg,capnY,appzY,tmC_len,tmC_0,tmC_1,tmC_2,tmC_3,tmC_take,tmC_drop,tmC_one,tmC_ne,e,List.map_cons,List.length_cons,q0,q1,h0]
 simp
end Go.Proofs.YtdekdghldblfaaaGreatDoor
namespace Go.Proofs.YtdekdghldblfaaaGreatDoor
open Go Go.Abs Go.RowKit
set_option linter.unusedVariables false
set_option linter.unusedSimpArgs false
theorem fine_z0 : Fine 1000 zT:=.mk _ _ _ _ (by omega) (by omega) (by unfold maxLen; simp) (by simp) (fun x hx=>by cases hx)
theorem clk_ok {m : Nat} (hm : 66 ≤ m) {t : Tm} (hf : Fine 1000 t) (ht : t.height ≤ m) : ((clauseP t).1.height ≤ m ∧ Fine 1000 (clauseP t).1) ∧ ((clauseP t).2.1.height ≤ m ∧ Fine 1000 (clauseP t).2.1):=by
 have hz : zT.height ≤ m ∧ Fine 1000 zT:=⟨by simp [zT,Tm.height,Tm.heights]; omega,fine_z0⟩
 have key : ∀ a b : Tm,(a.height ≤ m ∧ Fine 1000 a) → (b.height ≤ m ∧ Fine 1000 b) → ((clauseW t a b).1.height ≤ m ∧ Fine 1000 (clauseW t a b).1) ∧ ((clauseW t a b).2.1.height ≤ m ∧ Fine 1000 (clauseW t a b).2.1):=by
  intro a b ha hb
  have h : clauseW t a b = (a,b,0) ∨ ∃ e,clauseW t a b = (zT,zT,e):=by
   simp only [clauseW]
   generalize (if a.kind = 0 then (6 : Int) else if a.kind = 1 then 5 else if ctlP a = true then 8 else (ofP b).2) = e
   by_cases he : e = 0
   ·exact .inl (if_pos he)
   ·exact .inr ⟨e,if_neg he⟩
  rcases h with h | ⟨e,h⟩ <;> rw [h]
  ·exact ⟨ha,hb⟩
  ·exact ⟨hz,hz⟩
 unfold clauseP
 split
 ·split
  ·rename_i hc
   obtain ⟨a,b,hab⟩:=args_two (isP_len (m:=2) hc)
   have h1:=hf.args.2.1
   have h2 : ∀ x ∈ t.args,x.height ≤ m:=fun x hx=>by have:=height_mem hx; rw [height_eq] at ht; omega
   rw [hab] at h1 h2 ⊢
   exact key a b ⟨h2 a (by simp),h1 a (by simp)⟩ ⟨h2 b (by simp),h1 b (by simp)⟩
  ·exact key t trueT ⟨ht,hf⟩ ⟨by simp [trueT,Tm.height,Tm.heights]; omega,fine_true⟩
 ·exact ⟨hz,hz⟩
theorem heights_map {f : Tm → Tm} : ∀ l : List Tm,(∀ x ∈ l,(f x).height ≤ x.height) → Tm.heights (l.map f) ≤ Tm.heights l
 | [],_=>Nat.le_refl _
 | x :: l,h=>by
  have h1:=h x (List.mem_cons_self ..)
  have h2:=heights_map l fun y hy=>h y (List.mem_cons_of_mem _ hy)
  simp only [List.map_cons,Tm.heights]
  omega
theorem repl_ok {r : Int → Option Tm} (h : ∀ n u,r n = some u → u.height ≤ 1 ∧ Fine 1000 u) {t : Tm} (hf : Fine 1000 t) : (replF r t).height ≤ t.height ∧ Fine 1000 (replF r t):=by
 induction hf with
 | mk k n s l hk hn hs hl hx ih=>
  unfold replF
  by_cases h0 : k = 0
  ·rw [if_pos h0]
   cases hr : r n with
   | none=>exact ⟨Nat.le_refl _,.mk k n s l hk hn hs hl hx⟩
   | some u=>
    obtain ⟨h1,h2⟩:=h n u hr
    refine ⟨?_,h2⟩
    show u.height ≤ Tm.heights l + 1
    omega
  ·rw [if_neg h0,replL_map]
   refine ⟨?_,.mk k n s _ hk hn hs (by rw [List.length_map]; exact hl) fun x hx'=>?_⟩
   ·show Tm.heights (l.map (replF r)) + 1 ≤ Tm.heights l + 1
    have:=heights_map l fun x hx=>(ih x hx).1
    omega
   ·rw [List.mem_map] at hx'
    obtain ⟨y,hy,rfl⟩:=hx'
    exact (ih y hy).2
theorem own_ok : ∀ (l : List Int) (k : Nat),k + l.length ≤ 1000000 → ∀ n u,rho (ownE k l) n = some u → u.height ≤ 1 ∧ Fine 1000 u
 | [],k,hk,n,u,h=>by simp [ownE,rho] at h
 | a :: l,k,hk,n,u,h=>by
  unfold rho ownE at h
  rw [List.find?_cons] at h
  split at h
  ·simp only [Option.map_some,Option.some.injEq] at h
   subst h
   exact ⟨by simp [varT,Tm.height,Tm.heights],.mk _ _ _ _ (by omega) (by simp at hk; omega) (by simp) (by simp) (fun x hx=>by cases hx)⟩
  ·exact own_ok l (k + 1) (by simp at hk; omega) n u h
theorem vars_len {t : Tm} (hg : t.good = true) : (varsF (preF t)).length ≤ 2000:=by
 have h1:=varsF_len (preF t)
 rw [pre_len] at h1
 have:=good_sizes hg
 omega
theorem plain_ok {t : Tm} (hg : t.good = true) (hf : Fine 1000 t) : (plainT t).height ≤ 64 ∧ Fine 1000 (plainT t):=by
 have h1:=repl_ok (own_ok (varsF (preF t)) 0 (by have:=vars_len hg; omega)) hf
 have h2:=(RC_good hf hg).1
 exact ⟨Nat.le_trans h1.1 h2,h1.2⟩
theorem clause_good {t : Tm} (h : (clauseP t).2.2 = 0) : t.good = true:=by
 cases hg : t.good with
 | true=>rfl
 | false=>simp [clauseP,hg] at h
theorem kept_ok {t : Tm} (hf : Fine 1000 t) (h : (clauseP t).2.2 = 0) : Fine 1000 (plainT t) ∧ ((clauseP (plainT t)).1.height ≤ 70 ∧ Fine 1000 (clauseP (plainT t)).1) ∧ ((clauseP (plainT t)).2.1.height ≤ 70 ∧ Fine 1000 (clauseP (plainT t)).2.1):=by
 have hp:=plain_ok (clause_good h) hf
 exact ⟨hp.2,clk_ok (by omega) hp.2 (by omega)⟩
end Go.Proofs.YtdekdghldblfaaaGreatDoor
namespace Go.Proofs.YtdekdghldblfaaaGreatDoor
open Go Go.Abs Go.RowKit
set_option linter.unusedVariables false
set_option linter.unusedSimpArgs false
attribute [local congr] on_congr br_congr onf_congr
attribute [local congr] Comes_congr
theorem nk1 (N k : Nat) : (N = N + k) = (k = 0):=by simp
theorem nk2 (N k : Nat) : (N + k = N) = (k = 0):=by simp
theorem nk3 (N a b : Nat) : (N + a = N + b) = (a = b):=by simp
theorem same_pure {N : Nat} {H : AH} {nx : Nat} {gs : Tr Grp} {ms : Tr MapA} {x : AV} (hN : ∀ n,N ≤ n → H.gs.get n = none ∧ H.ms.get n = none) (hc : ClosedH H) (hx : pureA x = true) (hg : ∀ g,g < N → gs.get g = H.gs.get g) (hm : ms = H.ms) : Go.Abs.Comes (some (x,⟨nx,gs,ms⟩)) H x H:=by
 refine Comes.some (Canon.pure hc (fun g r h=>?_) (fun g r h=>?_) hx)
 ·rcases Nat.lt_or_ge g N with q | q
  ·show gs.get g = _
   rw [hg g q]; exact h
  ·rw [(hN g q).1] at h; cases h
 ·show ms.get g = _
  rw [hm]; exact h
theorem add_ins_nil {nx gx : Nat} {gs : Tr Grp} {ms : Tr MapA} (xs : List AV) (hx : gs.get gx = some ⟨0,0,xs⟩) (hxl : xs.length = 10) (hf : gs.get nx = none) :
  icall ysAd lsAd 0 2 39 [.nils,.int .i64 0,.slc gx 0 0 1 10] ⟨nx,gs,ms⟩ = some (.slc nx 0 0 1 10,⟨nx + 1,gs.set nx ⟨0,0,xs⟩,ms⟩):=by
 rw [icall_hook (k:=insertH 10 128) rfl]
 exact ins_nil (H:=⟨nx,gs,ms⟩) hx hxl hf
theorem add_ins {nx ga n gx : Nat} {gs : Tr Grp} {ms : Tr MapA} (cs xs : List AV) (i : Nat) (hg : gs.get ga = some ⟨0,0,cs⟩) (hl : cs.length = n * 10) (hx : gs.get gx = some ⟨0,0,xs⟩) (hxl : xs.length = 10) (hne : gx ≠ ga) (hi : i = n ∨ (i = 0 ∧ 0 < n)) (hn : n + 1 ≤ 1000000000) :
  icall ysAd lsAd 0 2 39 [.slc ga 0 0 n 10,.int .i64 (i : Int),.slc gx 0 0 1 10] ⟨nx,gs,ms⟩ = some (.slc ga 1 0 (n + 1) 10,⟨nx,gs.set ga ⟨1,0,if i = n then cs ++ xs else xs ++ cs⟩,ms⟩):=by
 rw [icall_hook (k:=insertH 10 128) rfl]
 exact ins_slc (H:=⟨nx,gs,ms⟩) hg hl hx hxl hne hi hn
theorem add_ins0 {nx ga n gx : Nat} {gs : Tr Grp} {ms : Tr MapA} (cs xs : List AV) (hg : gs.get ga = some ⟨0,0,cs⟩) (hl : cs.length = n * 10) (hx : gs.get gx = some ⟨0,0,xs⟩) (hxl : xs.length = 10) (hne : gx ≠ ga) (hp : 0 < n) (hn : n + 1 ≤ 1000000000) :
  icall ysAd lsAd 0 2 39 [.slc ga 0 0 n 10,.int .i64 0,.slc gx 0 0 1 10] ⟨nx,gs,ms⟩ = some (.slc ga 1 0 (n + 1) 10,⟨nx,gs.set ga ⟨1,0,xs ++ cs⟩,ms⟩):=by
 have:=add_ins (nx:=nx) (ms:=ms) cs xs 0 hg hl hx hxl hne (.inr ⟨rfl,hp⟩) hn
 rw [if_neg (by omega)] at this
 exact this
theorem add_insN {nx ga n gx : Nat} {gs : Tr Grp} {ms : Tr MapA} (cs xs : List AV) (hg : gs.get ga = some ⟨0,0,cs⟩) (hl : cs.length = n * 10) (hx : gs.get gx = some ⟨0,0,xs⟩) (hxl : xs.length = 10) (hne : gx ≠ ga) (hn : n + 1 ≤ 1000000000) :
  icall ysAd lsAd 0 2 39 [.slc ga 0 0 n 10,.int .i64 (n : Int),.slc gx 0 0 1 10] ⟨nx,gs,ms⟩ = some (.slc ga 1 0 (n + 1) 10,⟨nx,gs.set ga ⟨1,0,cs ++ xs⟩,ms⟩):=by
 have:=add_ins (nx:=nx) (ms:=ms) cs xs n hg hl hx hxl hne (.inl rfl) hn
 rw [if_pos rfl] at this
 exact this
theorem add_fin {N g nx0 nx1 ga ea : Nat} {s : St} {p : Pr} {hd bd : Tm} {l : Int} {first : Bool} {gs gs1 : Tr Grp} {ms : Tr MapA} {es : List (Nat × AV × AV)} {new : List Cl} (hnew : newL (clsOf s p.nm p.ar) ⟨s.la + 1,l,hd,bd⟩ first = new) (h1 : StAt ⟨nx0,gs,ms⟩ g s)
  (hN : ∀ n,N ≤ n → gs.get n = none ∧ ms.get n = none) (hcl : ClosedH ⟨nx0,gs,ms⟩)
  (hg1 : gs1.get g = some ⟨0,0,[sigV s.ns s.ps,.int .i64 s.q,.int .i64 (s.la + 1),.mapp s.g1,.mapp s.g2]⟩) (hgo : ∀ g',g' < N → g' ≠ g → gs1.get g' = gs.get g') (hga : N ≤ ga)
  (hown : gs1.get ga = some ⟨ea,0,(new.map clC).flatten⟩)
  (hes : mset (kM (p.nm,p.ar)) (.slc ga ea 0 new.length 10) s.mc (entG kM clsA s.m) = some ((putG (p.nm,p.ar) new s.mc s.m).1,es)) :
  Go.Abs.Comes (some (.tup [.int .i64 (s.la + 1),.int .i64 0],⟨nx1,gs1,(ms.set s.g2 ((putG l (cntOf s l + 1) s.nc s.n).1,entG kN vN (putG l (cntOf s l + 1) s.nc s.n).2)).set s.g1 ((putG (p.nm,p.ar) new s.mc s.m).1,es)⟩))
   ⟨nx0,gs,ms⟩ (.tup [.int .i64 (s.la + 1),.int .i64 0]) (putSt ⟨nx0,gs,ms⟩ g (addSt s p hd bd l first)):=by
 subst hnew
 obtain ⟨hne,h2,h3,h4⟩:=h1
 simp only at h2 h3 h4
 have lt : ∀ g' r,gs.get g' = some r → g' < N:=fun g' r h=>by
  rcases Nat.lt_or_ge g' N with q | q
  ·exact q
  ·rw [(hN g' q).1] at h; cases h
 have hgN:=lt g _ h2
 have hdm : ∀ g',(putSt ⟨nx0,gs,ms⟩ g (addSt s p hd bd l first)).ms.get g' ≠ none ↔ ms.get g' ≠ none:=by
  intro g'
  show ((ms.set s.g1 _).set s.g2 _).get g' ≠ none ↔ _
  by_cases e2 : g' = s.g2
  ·subst e2; rw [Tr.get_set_same,h4]; simp
  ·rw [Tr.get_set_ne _ _ e2]
   by_cases e1 : g' = s.g1
   ·subst e1; rw [Tr.get_set_same,h3]; simp
   ·rw [Tr.get_set_ne _ _ e1]
 have hdd : ∀ g',(putSt ⟨nx0,gs,ms⟩ g (addSt s p hd bd l first)).gs.get g' ≠ none ↔ gs.get g' ≠ none:=by
  intro g'
  show (gs.set g _).get g' ≠ none ↔ _
  by_cases e : g' = g
  ·subst e; rw [Tr.get_set_same,h2]; simp
  ·rw [Tr.get_set_ne _ _ e]
 have hrefl:=fun x hx=>Canon.refl (H:=⟨nx0,gs,ms⟩) (H1:=⟨nx1,gs1,(ms.set s.g2 ((putG l (cntOf s l + 1) s.nc s.n).1,entG kN vN (putG l (cntOf s l + 1) s.nc s.n).2)).set s.g1 ((putG (p.nm,p.ar) (newL (clsOf s p.nm p.ar) ⟨s.la + 1,l,hd,bd⟩ first) s.mc s.m).1,es)⟩) (H2:=putSt ⟨nx0,gs,ms⟩ g (addSt s p hd bd l first)) hdm (x:=x) hx
 refine Comes.some (Canon.upd hcl hdd hdm (fun g' r2 h=>?_) (fun g' es2 h=>?_) (.pure rfl))
 ·have h : (gs.set g ⟨0,0,stoC (addSt s p hd bd l first)⟩).get g' = some r2:=h
  by_cases e : g' = g
  ·subst e
   rw [Tr.get_set_same] at h
   cases h
   refine ⟨hg1,fun x hx=>?_⟩
   have hx : x ∈ [sigV s.ns s.ps,.int .i64 s.q,.int .i64 (s.la + 1),.mapp s.g1,.mapp s.g2]:=hx
   simp only [List.mem_cons,List.not_mem_nil,or_false] at hx
   rcases hx with rfl | rfl | rfl | rfl | rfl
   ·exact hcl.cell g' _ 0 _ h2 rfl
   ·simp only [refA]
   ·simp only [refA]
   ·simp only [refA,h3]; simp
   ·simp only [refA,h4]; simp
  ·rw [Tr.get_set_ne _ _ e] at h
   refine ⟨by show gs1.get g' = _; rw [hgo g' (lt g' _ h) e]; exact h,fun x hx=>?_⟩
   obtain ⟨i,hi,rfl⟩:=List.getElem_of_mem hx
   exact hcl.cell g' r2 i _ h (List.getElem?_eq_getElem hi)
 ·have h : ((ms.set s.g1 ((putG (p.nm,p.ar) (newL (clsOf s p.nm p.ar) ⟨s.la + 1,l,hd,bd⟩ first) s.mc s.m).1,entG kM clsA (putG (p.nm,p.ar) (newL (clsOf s p.nm p.ar) ⟨s.la + 1,l,hd,bd⟩ first) s.mc s.m).2)).set s.g2 ((putG l (cntOf s l + 1) s.nc s.n).1,entG kN vN (putG l (cntOf s l + 1) s.nc s.n).2)).get g' = some es2:=h
  by_cases e2 : g' = s.g2
  ·subst e2
   rw [Tr.get_set_same] at h
   cases h
   refine ⟨_,by show ((ms.set s.g2 _).set s.g1 _).get s.g2 = _; rw [Tr.get_set_ne _ _ (Ne.symm hne),Tr.get_set_same],rfl,FzE.refl fun e he=>?_⟩
   simp only [entG,List.mem_map] at he
   obtain ⟨d,-,rfl⟩:=he
   exact ⟨.pure rfl,.pure rfl⟩
  ·rw [Tr.get_set_ne _ _ e2] at h
   by_cases e1 : g' = s.g1
   ·subst e1
    rw [Tr.get_set_same] at h
    cases h
    refine ⟨_,Tr.get_set_same _ _ _,rfl,?_⟩
    obtain ⟨es',k1,k2⟩:=set_G (vE:=clsA) (R:=FzR ⟨nx1,gs1,(ms.set s.g2 ((putG l (cntOf s l + 1) s.nc s.n).1,entG kN vN (putG l (cntOf s l + 1) s.nc s.n).2)).set s.g1 ((putG (p.nm,p.ar) (newL (clsOf s p.nm p.ar) ⟨s.la + 1,l,hd,bd⟩ first) s.mc s.m).1,es)⟩ (kpR ⟨nx0,gs,ms⟩ ⟨nx1,gs1,(ms.set s.g2 ((putG l (cntOf s l + 1) s.nc s.n).1,entG kN vN (putG l (cntOf s l + 1) s.nc s.n).2)).set s.g1 ((putG (p.nm,p.ar) (newL (clsOf s p.nm p.ar) ⟨s.la + 1,l,hd,bd⟩ first) s.mc s.m).1,es)⟩ (putSt ⟨nx0,gs,ms⟩ g (addSt s p hd bd l first)) id) (kmR (putSt ⟨nx0,gs,ms⟩ g (addSt s p hd bd l first)) id) (deadR (putSt ⟨nx0,gs,ms⟩ g (addSt s p hd bd l first)) id))
     kM_cmp (p.nm,p.ar) (newL (clsOf s p.nm p.ar) ⟨s.la + 1,l,hd,bd⟩ first) (.slc ga ea 0 (newL (clsOf s p.nm p.ar) ⟨s.la + 1,l,hd,bd⟩ first).length 10) (by
      refine .slc (r:=⟨ea,0,((newL (clsOf s p.nm p.ar) ⟨s.la + 1,l,hd,bd⟩ first).map clC).flatten⟩) (fun g' hg' hgg=>?_) hown rfl (by simp) (fun row hr=>by simp only [List.mem_map] at hr; obtain ⟨c,-,rfl⟩:=hr; exact clC_len c) ?_ fun j x y hx hy=>?_
      ·have hgg : g' = ga:=hgg
       subst hgg
       exact (hdd g').1 hg' (hN g' hga).1
      ·show 0 + _ ≤ (List.flatten _).length
       rw [flatten_len' (z:=10) (fun row hr=>by simp only [List.mem_map] at hr; obtain ⟨c,-,rfl⟩:=hr; exact clC_len c),List.length_map]
       omega
      ·simp only [Nat.zero_add] at hx
       rw [hy] at hx
       cases hx
       exact .pure ((pureL_all _).1 (pure_flat (pure_cls _)) _ (List.mem_of_getElem? hy))) (.pure rfl) s.mc s.m (fun e he=>⟨hrefl _ (hcl.ent s.g1 _ h3 e he).1,hrefl _ (hcl.ent s.g1 _ h3 e he).2⟩)
    rw [hes] at k1
    simp only [Option.some.injEq,Prod.mk.injEq,true_and] at k1
    subst k1
    exact k2
   ·rw [Tr.get_set_ne _ _ e1] at h
    refine ⟨es2,by show ((ms.set s.g2 _).set s.g1 _).get g' = _; rw [Tr.get_set_ne _ _ e1,Tr.get_set_ne _ _ e2]; exact h,rfl,FzE.refl fun e he=>?_⟩
    have:=hcl.ent g' _ h e he
    exact ⟨hrefl _ this.1,hrefl _ this.2⟩
set_option maxHeartbeats 4000000 in
theorem add_calls (g : Nat) (s : St) (t : Tm) (l : Int) (first : Bool) (H : AH) (h1 : StAt H g s) (hok : OkSt s) (hfu : FullSt s) (hla : s.la < 1000000) (hf : Fine 1000 t) (hl4 : 0 ≤ l ∧ l < 4) :
  ACalls Tryz.prog 12 [.ptr g 0 0,.agg (tmC t),.int .u64 l,.bool first] H fun y H'=>y = .tup [.int .i64 (addP s t l first).1,.int .i64 (addP s t l first).2.1] ∧ H' = if (addP s t l first).2.1 = 0 then putSt H g (addP s t l first).2.2 else H:=by
 have hio:=icall_ok (P:=Tryz.prog) mixed (fun f=>draws f rfl) ysAd_ok lsAd_ok 0 2
 refine ACalls.onCall hio.1 hio.2 mixed (draws _ rfl) yAdd_ok rfl 0 fun N hN hcl=>?_
 obtain ⟨nx0,gs,ms⟩:=H
 have h1':=h1
 obtain ⟨hne,h2,h3,h4⟩:=h1
 simp only at h2 h3 h4 hN
 have hgN : g < N:=by
  rcases Nat.lt_or_ge g N with q | q
  ·exact q
  ·rw [(hN g q).1] at h2; cases h2
 have hE : ∀ k,gs.get (N + k) = none:=fun k=>(hN (N + k) (by omega)).1
 have hE0 : gs.get N = none:=(hN N (Nat.le_refl _)).1
 have q1 : ∀ k,(g = N + k) = False:=fun k=>eq_false (by omega)
 have q2 : ∀ k,(N + k = g) = False:=fun k=>eq_false (by omega)
 have q3 : (g = N) = False:=eq_false (by omega)
 have q4 : (N = g) = False:=eq_false (by omega)
 have h2' : gs.get g = some ⟨0,0,[sigV s.ns s.ps,.int .i64 s.q,.int .i64 s.la,.mapp s.g1,.mapp s.g2]⟩:=h2
 have c1 : ∀ nx gs ms,icall ysAd lsAd 0 2 34 [.agg (tmC t)] ⟨nx,gs,ms⟩ = some (.tup [.agg (tmC (clauseP t).1),.agg (tmC (clauseP t).2.1),.int .i64 (clauseP t).2.2],⟨nx,gs,ms⟩):=fun nx gs ms=>by
  rw [icall_hook (k:=pureF clauseS) rfl]
  simp (maxSteps:=1000000) (disch:=omega) only [↓axP,axQ,↓if_true,↓if_false,ite_true,ite_false,reduceIte,ne_eq,eq_self,Nat.reduceAdd,Nat.reduceSub,Nat.reduceMul,Nat.reduceLeDiff,Nat.reduceEqDiff,Nat.reduceBEq,reduceCtorEq,Int.reduceToNat,Int.reduceLT,Int.reduceLE,Int.reduceEq,Int.reduceAdd,Int.reduceSub,Int.reduceNeg,capnY,appzY,tmC_len,tmC_0,tmC_1,tmC_2,tmC_3,tmC_take,tmC_drop,tmC_one,tmC_ne,clauseS_eq hf]
 by_cases k1 : (clauseP t).2.2 = 0
 ·have hg:=clause_good k1
  obtain ⟨hfp,hk1,hk2⟩:=kept_ok hf k1
  have c2 : ∀ nx gs ms,icall ysAd lsAd 0 2 35 [.agg (tmC t)] ⟨nx,gs,ms⟩ = some (.tup [.agg (tmC (plainT t)),.int .i64 0],⟨nx,gs,ms⟩):=fun nx gs ms=>by
   rw [icall_hook (k:=pureF plainS) rfl]
   simp (maxSteps:=1000000) (disch:=omega) only [↓axP,axQ,↓if_true,↓if_false,ite_true,ite_false,reduceIte,ne_eq,eq_self,Nat.reduceAdd,Nat.reduceSub,Nat.reduceMul,Nat.reduceLeDiff,Nat.reduceEqDiff,Nat.reduceBEq,reduceCtorEq,Int.reduceToNat,Int.reduceLT,Int.reduceLE,Int.reduceEq,Int.reduceAdd,Int.reduceSub,Int.reduceNeg,capnY,appzY,tmC_len,tmC_0,tmC_1,tmC_2,tmC_3,tmC_take,tmC_drop,tmC_one,tmC_ne,plainS_eq ⟨hg,hf⟩]
  have c3 : ∀ nx gs ms,icall ysAd lsAd 0 2 34 [.agg (tmC (plainT t))] ⟨nx,gs,ms⟩ = some (.tup [.agg (tmC (clauseP (plainT t)).1),.agg (tmC (clauseP (plainT t)).2.1),.int .i64 (clauseP (plainT t)).2.2],⟨nx,gs,ms⟩):=fun nx gs ms=>by
   rw [icall_hook (k:=pureF clauseS) rfl]
   simp (maxSteps:=1000000) (disch:=omega) only [↓axP,axQ,↓if_true,↓if_false,ite_true,ite_false,reduceIte,ne_eq,eq_self,Nat.reduceAdd,Nat.reduceSub,Nat.reduceMul,Nat.reduceLeDiff,Nat.reduceEqDiff,Nat.reduceBEq,reduceCtorEq,Int.reduceToNat,Int.reduceLT,Int.reduceLE,Int.reduceEq,Int.reduceAdd,Int.reduceSub,Int.reduceNeg,capnY,appzY,tmC_len,tmC_0,tmC_1,tmC_2,tmC_3,tmC_take,tmC_drop,tmC_one,tmC_ne,clauseS_eq hfp]
  have hps:=hok.ps
  let p:=(sofP s.ps (clauseP (plainT t)).1).1
  let e:=(sofP s.ps (clauseP (plainT t)).1).2
  have c4 : ∀ nx gs ms,icall ysAd lsAd 0 2 36 [sigV s.ns s.ps,.agg (tmC (clauseP (plainT t)).1)] ⟨nx,gs,ms⟩ = some (.tup [.agg [.str p.nm,.int .i64 p.ar,.int .u64 p.ce,.bool p.dy],.int .i64 e],⟨nx,gs,ms⟩):=fun nx gs ms=>by
   rw [icall_hook (k:=pureF sofS) rfl]
   have:=sofS_eq s.ns (ps:=s.ps) (t:=(clauseP (plainT t)).1) ⟨by omega,hk1.2⟩
   unfold sigV at this ⊢
   simp (maxSteps:=1000000) (disch:=omega) only [↓axP,axQ,↓if_true,↓if_false,ite_true,ite_false,reduceIte,ne_eq,eq_self,Nat.reduceAdd,Nat.reduceSub,Nat.reduceMul,Nat.reduceLeDiff,Nat.reduceEqDiff,Nat.reduceBEq,reduceCtorEq,Int.reduceToNat,Int.reduceLT,Int.reduceLE,Int.reduceEq,Int.reduceAdd,Int.reduceSub,Int.reduceNeg,capnY,appzY,tmC_len,tmC_0,tmC_1,tmC_2,tmC_3,tmC_take,tmC_drop,tmC_one,tmC_ne,this]
   rfl
  by_cases k2 : e = 0
  ·have c5 : ∀ nx gs ms,icall ysAd lsAd 0 2 38 [sigV s.ns s.ps] ⟨nx,gs,ms⟩ = some (.vals 1 [[.str [97]],[.str [98]]],⟨nx,gs,ms⟩):=fun nx gs ms=>by
    rw [icall_hook (k:=pureF namesS) rfl]
    have:=namesS_eq s.ps (ns:=s.ns) (by rw [hok.ns]; simp)
    rw [hok.ns] at this ⊢
    unfold sigV at this ⊢
    simp only [List.map_cons,List.map_nil] at this ⊢
    simp (maxSteps:=1000000) (disch:=omega) only [↓axP,axQ,↓if_true,↓if_false,ite_true,ite_false,reduceIte,ne_eq,eq_self,Nat.reduceAdd,Nat.reduceSub,Nat.reduceMul,Nat.reduceLeDiff,Nat.reduceEqDiff,Nat.reduceBEq,reduceCtorEq,Int.reduceToNat,Int.reduceLT,Int.reduceLE,Int.reduceEq,Int.reduceAdd,Int.reduceSub,Int.reduceNeg,capnY,appzY,tmC_len,tmC_0,tmC_1,tmC_2,tmC_3,tmC_take,tmC_drop,tmC_one,tmC_ne,this]
   have c6 : ∀ nx gs ms,icall ysAd lsAd 0 2 37 [.vals 1 [[.str [97]],[.str [98]]],.int .u64 l] ⟨nx,gs,ms⟩ = some (.bool true,⟨nx,gs,ms⟩):=fun nx gs ms=>by
    rw [icall_hook (k:=pureF fitS) rfl]
    simp (maxSteps:=1000000) (disch:=omega) only [↓axP,axQ,↓if_true,↓if_false,ite_true,ite_false,reduceIte,ne_eq,eq_self,Nat.reduceAdd,Nat.reduceSub,Nat.reduceMul,Nat.reduceLeDiff,Nat.reduceEqDiff,Nat.reduceBEq,reduceCtorEq,Int.reduceToNat,Int.reduceLT,Int.reduceLE,Int.reduceEq,Int.reduceAdd,Int.reduceSub,Int.reduceNeg,capnY,appzY,tmC_len,tmC_0,tmC_1,tmC_2,tmC_3,tmC_take,tmC_drop,tmC_one,tmC_ne,fit_eq hl4]
   have c7 : ∀ nx gs ms,icall ysAd lsAd 0 2 15 [.int .u64 l,.int .u64 p.ce] ⟨nx,gs,ms⟩ = some (.bool (leqB l p.ce),⟨nx,gs,ms⟩):=fun nx gs ms=>by
    rw [icall_hook (k:=pureF leqS) rfl]
    simp (maxSteps:=1000000) (disch:=omega) only [↓axP,axQ,↓if_true,↓if_false,ite_true,ite_false,reduceIte,ne_eq,eq_self,Nat.reduceAdd,Nat.reduceSub,Nat.reduceMul,Nat.reduceLeDiff,Nat.reduceEqDiff,Nat.reduceBEq,reduceCtorEq,Int.reduceToNat,Int.reduceLT,Int.reduceLE,Int.reduceEq,Int.reduceAdd,Int.reduceSub,Int.reduceNeg,capnY,appzY,tmC_len,tmC_0,tmC_1,tmC_2,tmC_3,tmC_take,tmC_drop,tmC_one,tmC_ne,leqS_eq]
   have hgn:=fun nx gs=>get_N (s:=s) (nx:=nx) (gs:=gs) h4 l
   have hcnt:=hok.cnt l
   unfold sigV at c4 c5 h2'
   rw [k2] at c4
   cases hlq : leqB l p.ce with
   | false=>
    rw [hlq] at c7
    have hr : addP s t l first = (0,9,s):=by
     unfold addP
     rw [if_neg (by simpa using k1),if_neg (by simpa using k2),if_pos hlq]
    rw [hr,if_neg (by simp)]
    simp (maxSteps:=1000000) (disch:=omega) only [yAdd,xinit_4,↓axP,axQ,↓if_true,↓if_false,ite_true,ite_false,reduceIte,ne_eq,eq_self,Nat.reduceAdd,Nat.reduceSub,Nat.reduceMul,Nat.reduceLeDiff,Nat.reduceEqDiff,Nat.reduceBEq,reduceCtorEq,Int.reduceToNat,Int.reduceLT,Int.reduceLE,Int.reduceEq,Int.reduceAdd,Int.reduceSub,Int.reduceNeg,capnY,appzY,tmC_len,tmC_0,tmC_1,tmC_2,tmC_3,tmC_take,tmC_drop,tmC_one,tmC_ne,hE,hE0,q1,q2,q3,q4,nk1,nk2,nk3,h2',c1,c2,c3,c4,c5,c6,c7,k1,Nat.add_assoc]
    refine same_pure (H:=⟨nx0,gs,ms⟩) hN hcl (by rfl) (fun g hg=>?_) rfl
    simp [Tr.get_set,show g ≠ N by omega,show ∀ k,g ≠ N + k by omega]
   | true=>
    rw [hlq] at c7
    by_cases hq : s.q ≤ cntOf s l
    ·have hr : addP s t l first = (0,10,s):=by
      unfold addP
      rw [if_neg (by simpa using k1),if_neg (by simpa using k2),if_neg (by simpa using hlq),if_pos hq]
     rw [hr,if_neg (by simp)]
     simp (maxSteps:=1000000) (disch:=omega) only [yAdd,xinit_4,↓axP,axQ,↓if_true,↓if_false,ite_true,ite_false,reduceIte,ne_eq,eq_self,Nat.reduceAdd,Nat.reduceSub,Nat.reduceMul,Nat.reduceLeDiff,Nat.reduceEqDiff,Nat.reduceBEq,reduceCtorEq,Int.reduceToNat,Int.reduceLT,Int.reduceLE,Int.reduceEq,Int.reduceAdd,Int.reduceSub,Int.reduceNeg,capnY,appzY,tmC_len,tmC_0,tmC_1,tmC_2,tmC_3,tmC_take,tmC_drop,tmC_one,tmC_ne,hE,hE0,q1,q2,q3,q4,nk1,nk2,nk3,h2',c1,c2,c3,c4,c5,c6,c7,hgn,hq,k1,Nat.add_assoc]
     refine same_pure (H:=⟨nx0,gs,ms⟩) hN hcl (by rfl) (fun g hg=>?_) rfl
     simp [Tr.get_set,show g ≠ N by omega,show ∀ k,g ≠ N + k by omega]
    ·have hr : addP s t l first = (s.la + 1,0,addSt s p (clauseP (plainT t)).1 (clauseP (plainT t)).2.1 l first):=by
      unfold addP
      rw [if_neg (by simpa using k1),if_neg (by simpa using k2),if_neg (by simpa using hlq),if_neg hq]
     rw [hr,if_pos rfl]
     have q5 : (s.g1 = s.g2) = False:=eq_false hne
     have q6 : (s.g2 = s.g1) = False:=eq_false (Ne.symm hne)
     have hqf : (s.q ≤ cntOf s l) = False:=eq_false hq
     have hw1 : IntKind.i64.wrap (s.la + 1) = s.la + 1:=by have:=hok.la; rw [wrap_i64] <;> omega
     have hw2 : IntKind.i64.wrap (cntOf s l + 1) = cntOf s l + 1:=by have:=hok.la; rw [wrap_i64] <;> omega
     have hsn : mset (.int .u64 l) (.int .i64 (cntOf s l + 1)) s.nc (entG kN vN s.n) = some ((putG l (cntOf s l + 1) s.nc s.n).1,entG kN vN (putG l (cntOf s l + 1) s.nc s.n).2):=set_E (vE:=vN) kN_cmp l (cntOf s l + 1) s.nc s.n
     have hgm:=fun nx gs=>get_M (s:=s) (nx:=nx) (gs:=gs) (ms:=ms.set s.g2 ((putG l (cntOf s l + 1) s.nc s.n).1,entG kN vN (putG l (cntOf s l + 1) s.nc s.n).2)) (by rw [Tr.get_set_ne _ _ hne]; exact h3) p.nm p.ar
     cases hlk : lookG (p.nm,p.ar) s.m with
     | none=>
      rw [hlk] at hgm
      simp only at hgm
      have hold : clsOf s p.nm p.ar = []:=by simp [clsOf,hlk]
      obtain ⟨es,hes,-⟩:=set_G (vE:=clsA) (R:=fun _ _=>True) kM_cmp (p.nm,p.ar) [(⟨s.la + 1,l,(clauseP (plainT t)).1,(clauseP (plainT t)).2.1⟩ : Cl)] (.slc (N + 62) 0 0 1 10) trivial trivial s.mc s.m (fun _ _=>⟨trivial,trivial⟩)
      have hes' : mset (.agg [.str p.nm,.int .i64 p.ar]) (.slc (N + 62) 0 0 1 10) s.mc (entG kM clsA s.m) = some ((putG (p.nm,p.ar) [(⟨s.la + 1,l,(clauseP (plainT t)).1,(clauseP (plainT t)).2.1⟩ : Cl)] s.mc s.m).1,es):=hes
      cases first with
      | true=>
       simp (maxSteps:=1000000) (disch:=omega) only [yAdd,xinit_4,↓axP,axQ,↓if_true,↓if_false,ite_true,ite_false,reduceIte,ne_eq,eq_self,Nat.reduceAdd,Nat.reduceSub,Nat.reduceMul,Nat.reduceLeDiff,Nat.reduceEqDiff,Nat.reduceBEq,reduceCtorEq,Int.reduceToNat,Int.reduceLT,Int.reduceLE,Int.reduceEq,Int.reduceAdd,Int.reduceSub,Int.reduceNeg,capnY,appzY,tmC_len,tmC_0,tmC_1,tmC_2,tmC_3,tmC_take,tmC_drop,tmC_one,tmC_ne,hE,hE0,q1,q2,q3,q4,q5,q6,nk1,nk2,nk3,h2',h3,h4,c1,c2,c3,c4,c5,c6,c7,hgn,hqf,hw1,hw2,hsn,hgm,cl_nil,k1,Nat.add_assoc]
       rw [add_ins_nil (clC ⟨s.la + 1,l,(clauseP (plainT t)).1,(clauseP (plainT t)).2.1⟩) (by rw [Tr.get_set_same]; rfl) (clC_len _) (by simp [Tr.get_set,hE,hE0,q1,q2])]
       simp (maxSteps:=1000000) (disch:=omega) only [↓axP,axQ,↓if_true,↓if_false,ite_true,ite_false,reduceIte,ne_eq,eq_self,Nat.reduceAdd,Nat.reduceSub,Nat.reduceMul,Nat.reduceLeDiff,Nat.reduceEqDiff,Nat.reduceBEq,reduceCtorEq,Int.reduceToNat,Int.reduceLT,Int.reduceLE,Int.reduceEq,Int.reduceAdd,Int.reduceSub,Int.reduceNeg,capnY,appzY,tmC_len,tmC_0,tmC_1,tmC_2,tmC_3,tmC_take,tmC_drop,tmC_one,tmC_ne,hE,hE0,q1,q2,q3,q4,q5,q6,nk1,nk2,nk3,h2',h3,h4,hes',mkey_p,Nat.add_assoc]
       refine add_fin (N:=N) (ga:=N + 62) (ea:=0) (first:=true) (by rw [hold]; rfl) h1' hN hcl ?_ (fun g' hg' hgg=>?_) (by omega) ?_ hes
       ·simp [Tr.get_set,q1,q3,sigV]
       ·simp [Tr.get_set,show g' ≠ N by omega,show ∀ k,g' ≠ N + k by omega,hgg]
       ·rw [Tr.get_set_same]; simp
      | false=>
       simp (maxSteps:=1000000) (disch:=omega) only [yAdd,xinit_4,↓axP,axQ,↓if_true,↓if_false,ite_true,ite_false,reduceIte,ne_eq,eq_self,Nat.reduceAdd,Nat.reduceSub,Nat.reduceMul,Nat.reduceLeDiff,Nat.reduceEqDiff,Nat.reduceBEq,reduceCtorEq,Int.reduceToNat,Int.reduceLT,Int.reduceLE,Int.reduceEq,Int.reduceAdd,Int.reduceSub,Int.reduceNeg,capnY,appzY,tmC_len,tmC_0,tmC_1,tmC_2,tmC_3,tmC_take,tmC_drop,tmC_one,tmC_ne,hE,hE0,q1,q2,q3,q4,q5,q6,nk1,nk2,nk3,h2',h3,h4,c1,c2,c3,c4,c5,c6,c7,hgn,hqf,hw1,hw2,hsn,hgm,cl_nil,k1,Nat.add_assoc]
       rw [add_ins_nil (clC ⟨s.la + 1,l,(clauseP (plainT t)).1,(clauseP (plainT t)).2.1⟩) (by rw [Tr.get_set_same]; rfl) (clC_len _) (by simp [Tr.get_set,hE,hE0,q1,q2])]
       simp (maxSteps:=1000000) (disch:=omega) only [↓axP,axQ,↓if_true,↓if_false,ite_true,ite_false,reduceIte,ne_eq,eq_self,Nat.reduceAdd,Nat.reduceSub,Nat.reduceMul,Nat.reduceLeDiff,Nat.reduceEqDiff,Nat.reduceBEq,reduceCtorEq,Int.reduceToNat,Int.reduceLT,Int.reduceLE,Int.reduceEq,Int.reduceAdd,Int.reduceSub,Int.reduceNeg,capnY,appzY,tmC_len,tmC_0,tmC_1,tmC_2,tmC_3,tmC_take,tmC_drop,tmC_one,tmC_ne,hE,hE0,q1,q2,q3,q4,q5,q6,nk1,nk2,nk3,h2',h3,h4,hes',mkey_p,Nat.add_assoc]
       refine add_fin (N:=N) (ga:=N + 62) (ea:=0) (first:=false) (by rw [hold]; rfl) h1' hN hcl ?_ (fun g' hg' hgg=>?_) (by omega) ?_ hes
       ·simp [Tr.get_set,q1,q3,sigV]
       ·simp [Tr.get_set,show g' ≠ N by omega,show ∀ k,g' ≠ N + k by omega,hgg]
       ·rw [Tr.get_set_same]; simp
     | some v=>
      rw [hlk] at hgm
      simp only at hgm
      unfold clsA at hgm
      have hold : clsOf s p.nm p.ar = v:=by simp [clsOf,hlk]
      have hv0 : v ≠ []:=by
       obtain ⟨e,he1,he2,he3⟩:=look_mem hlk
       subst he3; exact hfu e he1
      have hv1 : (v.length : Int) ≤ s.la:=by have:=(hok.cls p.nm p.ar).1; rwa [hold] at this
      have hvp : 0 < v.length:=Nat.pos_of_ne_zero (by simpa using hv0)
      have hfl : (v.map clC).flatten.length = v.length * 10:=by rw [flatten_len' (z:=10) (fun row hr=>by simp only [List.mem_map] at hr; obtain ⟨c,-,rfl⟩:=hr; exact clC_len c),List.length_map]
      have hml : (v.map clC).length = v.length:=by simp
      cases first with
      | true=>
       have hnew : newL (clsOf s p.nm p.ar) ⟨s.la + 1,l,(clauseP (plainT t)).1,(clauseP (plainT t)).2.1⟩ true = ⟨s.la + 1,l,(clauseP (plainT t)).1,(clauseP (plainT t)).2.1⟩ :: v:=by rw [hold]; rfl
       obtain ⟨es,hes,-⟩:=set_G (vE:=clsA) (R:=fun _ _=>True) kM_cmp (p.nm,p.ar) ((⟨s.la + 1,l,(clauseP (plainT t)).1,(clauseP (plainT t)).2.1⟩ : Cl) :: v) (.slc (N + 62) 1 0 (v.length + 1) 10) trivial trivial s.mc s.m (fun _ _=>⟨trivial,trivial⟩)
       have hes' : mset (.agg [.str p.nm,.int .i64 p.ar]) (.slc (N + 62) 1 0 (v.length + 1) 10) s.mc (entG kM clsA s.m) = some ((putG (p.nm,p.ar) ((⟨s.la + 1,l,(clauseP (plainT t)).1,(clauseP (plainT t)).2.1⟩ : Cl) :: v) s.mc s.m).1,es):=hes
       simp (maxSteps:=1000000) (disch:=omega) only [yAdd,xinit_4,↓axP,axQ,↓if_true,↓if_false,ite_true,ite_false,reduceIte,ne_eq,eq_self,Nat.reduceAdd,Nat.reduceSub,Nat.reduceMul,Nat.reduceLeDiff,Nat.reduceEqDiff,Nat.reduceBEq,reduceCtorEq,Int.reduceToNat,Int.reduceLT,Int.reduceLE,Int.reduceEq,Int.reduceAdd,Int.reduceSub,Int.reduceNeg,capnY,appzY,tmC_len,tmC_0,tmC_1,tmC_2,tmC_3,tmC_take,tmC_drop,tmC_one,tmC_ne,hE,hE0,q1,q2,q3,q4,q5,q6,nk1,nk2,nk3,h2',h3,h4,c1,c2,c3,c4,c5,c6,c7,hgn,hqf,hw1,hw2,hsn,hgm,cl_nil,k1,Nat.add_assoc,hml]
       rw [cl_vals _ _ _ v hv0 (by omega) (by simp [Tr.get_set,hE,hE0,q1,q2])]
       simp (maxSteps:=1000000) (disch:=omega) only [↓axP,axQ,↓if_true,↓if_false,ite_true,ite_false,reduceIte,ne_eq,eq_self,Nat.reduceAdd,Nat.reduceSub,Nat.reduceMul,Nat.reduceLeDiff,Nat.reduceEqDiff,Nat.reduceBEq,reduceCtorEq,Int.reduceToNat,Int.reduceLT,Int.reduceLE,Int.reduceEq,Int.reduceAdd,Int.reduceSub,Int.reduceNeg,capnY,appzY,tmC_len,tmC_0,tmC_1,tmC_2,tmC_3,tmC_take,tmC_drop,tmC_one,tmC_ne,hE,hE0,q1,q2,q3,q4,q5,q6,nk1,nk2,nk3,h2',h3,h4,hes',mkey_p,Nat.add_assoc,hml]
       have hesF : mset (kM (p.nm,p.ar)) (.slc (N + 62) 1 0 ((⟨s.la + 1,l,(clauseP (plainT t)).1,(clauseP (plainT t)).2.1⟩ : Cl) :: v).length 10) s.mc (entG kM clsA s.m) = some ((putG (p.nm,p.ar) ((⟨s.la + 1,l,(clauseP (plainT t)).1,(clauseP (plainT t)).2.1⟩ : Cl) :: v) s.mc s.m).1,es):=hes
       rw [add_ins0 ((v.map clC).flatten) (clC ⟨s.la + 1,l,(clauseP (plainT t)).1,(clauseP (plainT t)).2.1⟩) (by simp [Tr.get_set,nk3]) hfl (by simp [Tr.get_set,nk3]; rfl) (clC_len _) (by omega) hvp (by omega)]
       simp (maxSteps:=1000000) (disch:=omega) only [↓axP,axQ,↓if_true,↓if_false,ite_true,ite_false,reduceIte,ne_eq,eq_self,Nat.reduceAdd,Nat.reduceSub,Nat.reduceMul,Nat.reduceLeDiff,Nat.reduceEqDiff,Nat.reduceBEq,reduceCtorEq,Int.reduceToNat,Int.reduceLT,Int.reduceLE,Int.reduceEq,Int.reduceAdd,Int.reduceSub,Int.reduceNeg,capnY,appzY,tmC_len,tmC_0,tmC_1,tmC_2,tmC_3,tmC_take,tmC_drop,tmC_one,tmC_ne,hE,hE0,q1,q2,q3,q4,q5,q6,nk1,nk2,nk3,h2',h3,h4,hes',mkey_p,Nat.add_assoc,hml]
       refine add_fin (N:=N) (ga:=N + 62) (ea:=1) (first:=true) hnew h1' hN hcl ?_ (fun g' hg' hgg=>?_) (by omega) ?_ hesF
       ·simp [Tr.get_set,q1,q3,sigV]
       ·simp [Tr.get_set,show g' ≠ N by omega,show ∀ k,g' ≠ N + k by omega,hgg]
       ·rw [Tr.get_set_same]; simp
      | false=>
       have hnew : newL (clsOf s p.nm p.ar) ⟨s.la + 1,l,(clauseP (plainT t)).1,(clauseP (plainT t)).2.1⟩ false = v ++ [⟨s.la + 1,l,(clauseP (plainT t)).1,(clauseP (plainT t)).2.1⟩]:=by rw [hold]; rfl
       obtain ⟨es,hes,-⟩:=set_G (vE:=clsA) (R:=fun _ _=>True) kM_cmp (p.nm,p.ar) (v ++ [(⟨s.la + 1,l,(clauseP (plainT t)).1,(clauseP (plainT t)).2.1⟩ : Cl)]) (.slc (N + 62) 1 0 (v.length + 1) 10) trivial trivial s.mc s.m (fun _ _=>⟨trivial,trivial⟩)
       have hes' : mset (.agg [.str p.nm,.int .i64 p.ar]) (.slc (N + 62) 1 0 (v.length + 1) 10) s.mc (entG kM clsA s.m) = some ((putG (p.nm,p.ar) (v ++ [(⟨s.la + 1,l,(clauseP (plainT t)).1,(clauseP (plainT t)).2.1⟩ : Cl)]) s.mc s.m).1,es):=hes
       have hesF : mset (kM (p.nm,p.ar)) (.slc (N + 62) 1 0 (v ++ [(⟨s.la + 1,l,(clauseP (plainT t)).1,(clauseP (plainT t)).2.1⟩ : Cl)]).length 10) s.mc (entG kM clsA s.m) = some ((putG (p.nm,p.ar) (v ++ [(⟨s.la + 1,l,(clauseP (plainT t)).1,(clauseP (plainT t)).2.1⟩ : Cl)]) s.mc s.m).1,es):=by rw [List.length_append]; exact hes
       simp (maxSteps:=1000000) (disch:=omega) only [yAdd,xinit_4,↓axP,axQ,↓if_true,↓if_false,ite_true,ite_false,reduceIte,ne_eq,eq_self,Nat.reduceAdd,Nat.reduceSub,Nat.reduceMul,Nat.reduceLeDiff,Nat.reduceEqDiff,Nat.reduceBEq,reduceCtorEq,Int.reduceToNat,Int.reduceLT,Int.reduceLE,Int.reduceEq,Int.reduceAdd,Int.reduceSub,Int.reduceNeg,capnY,appzY,tmC_len,tmC_0,tmC_1,tmC_2,tmC_3,tmC_take,tmC_drop,tmC_one,tmC_ne,hE,hE0,q1,q2,q3,q4,q5,q6,nk1,nk2,nk3,h2',h3,h4,c1,c2,c3,c4,c5,c6,c7,hgn,hqf,hw1,hw2,hsn,hgm,cl_nil,k1,Nat.add_assoc,hml]
       rw [cl_vals _ _ _ v hv0 (by omega) (by simp [Tr.get_set,hE,hE0,q1,q2])]
       simp (maxSteps:=1000000) (disch:=omega) only [↓axP,axQ,↓if_true,↓if_false,ite_true,ite_false,reduceIte,ne_eq,eq_self,Nat.reduceAdd,Nat.reduceSub,Nat.reduceMul,Nat.reduceLeDiff,Nat.reduceEqDiff,Nat.reduceBEq,reduceCtorEq,Int.reduceToNat,Int.reduceLT,Int.reduceLE,Int.reduceEq,Int.reduceAdd,Int.reduceSub,Int.reduceNeg,capnY,appzY,tmC_len,tmC_0,tmC_1,tmC_2,tmC_3,tmC_take,tmC_drop,tmC_one,tmC_ne,hE,hE0,q1,q2,q3,q4,q5,q6,nk1,nk2,nk3,h2',h3,h4,hes',mkey_p,Nat.add_assoc,hml]
       rw [add_insN ((v.map clC).flatten) (clC ⟨s.la + 1,l,(clauseP (plainT t)).1,(clauseP (plainT t)).2.1⟩) (by simp [Tr.get_set,nk3]) hfl (by simp [Tr.get_set,nk3]; rfl) (clC_len _) (by omega) (by omega)]
       simp (maxSteps:=1000000) (disch:=omega) only [↓axP,axQ,↓if_true,↓if_false,ite_true,ite_false,reduceIte,ne_eq,eq_self,Nat.reduceAdd,Nat.reduceSub,Nat.reduceMul,Nat.reduceLeDiff,Nat.reduceEqDiff,Nat.reduceBEq,reduceCtorEq,Int.reduceToNat,Int.reduceLT,Int.reduceLE,Int.reduceEq,Int.reduceAdd,Int.reduceSub,Int.reduceNeg,capnY,appzY,tmC_len,tmC_0,tmC_1,tmC_2,tmC_3,tmC_take,tmC_drop,tmC_one,tmC_ne,hE,hE0,q1,q2,q3,q4,q5,q6,nk1,nk2,nk3,h2',h3,h4,hes',mkey_p,Nat.add_assoc,hml]
       refine add_fin (N:=N) (ga:=N + 62) (ea:=1) (first:=false) hnew h1' hN hcl ?_ (fun g' hg' hgg=>?_) (by omega) ?_ hesF
       ·simp [Tr.get_set,q1,q3,sigV]
       ·simp [Tr.get_set,show g' ≠ N by omega,show ∀ k,g' ≠ N + k by omega,hgg]
       ·rw [Tr.get_set_same]; simp
  ·have hr : addP s t l first = (0,e,s):=by
    unfold addP
    rw [if_neg (by simpa using k1),if_pos k2]
   rw [hr,if_neg k2]
   unfold sigV at c4 h2'
   have k2' : (e = 0) = False:=eq_false k2
   simp (maxSteps:=1000000) (disch:=omega) only [yAdd,xinit_4,↓axP,axQ,↓if_true,↓if_false,ite_true,ite_false,reduceIte,ne_eq,eq_self,Nat.reduceAdd,Nat.reduceSub,Nat.reduceMul,Nat.reduceLeDiff,Nat.reduceEqDiff,Nat.reduceBEq,reduceCtorEq,Int.reduceToNat,Int.reduceLT,Int.reduceLE,Int.reduceEq,Int.reduceAdd,Int.reduceSub,Int.reduceNeg,capnY,appzY,tmC_len,tmC_0,tmC_1,tmC_2,tmC_3,tmC_take,tmC_drop,tmC_one,tmC_ne,hE,hE0,q1,q2,q3,q4,nk1,nk2,nk3,h2',c1,c2,c3,c4,k1,k2',Nat.add_assoc]
   refine same_pure (H:=⟨nx0,gs,ms⟩) hN hcl (by rfl) (fun g hg=>?_) rfl
   simp [Tr.get_set,show g ≠ N by omega,show ∀ k,g ≠ N + k by omega]
 ·have hr : addP s t l first = (0,(clauseP t).2.2,s):=by
   unfold addP
   rw [if_pos k1]
  rw [hr,if_neg k1]
  have k1' : ((clauseP t).2.2 = 0) = False:=eq_false k1
  simp (maxSteps:=1000000) (disch:=omega) only [yAdd,xinit_4,↓axP,axQ,↓if_true,↓if_false,ite_true,ite_false,reduceIte,ne_eq,eq_self,Nat.reduceAdd,Nat.reduceSub,Nat.reduceMul,Nat.reduceLeDiff,Nat.reduceEqDiff,Nat.reduceBEq,reduceCtorEq,Int.reduceToNat,Int.reduceLT,Int.reduceLE,Int.reduceEq,Int.reduceAdd,Int.reduceSub,Int.reduceNeg,capnY,appzY,tmC_len,tmC_0,tmC_1,tmC_2,tmC_3,tmC_take,tmC_drop,tmC_one,tmC_ne,hE,hE0,q1,q2,q3,q4,nk1,nk2,nk3,h2',c1,k1',Nat.add_assoc]
  refine same_pure (H:=⟨nx0,gs,ms⟩) hN hcl (by rfl) (fun g hg=>?_) rfl
  simp [Tr.get_set,show g ≠ N by omega,show ∀ k,g ≠ N + k by omega]
end Go.Proofs.YtdekdghldblfaaaGreatDoor
namespace Go.Proofs.YtdekdghldblfaaaGreatDoor
open Go Go.Abs Go.RowKit
set_option linter.unusedVariables false
set_option linter.unusedSimpArgs false
theorem addP_cases (s : St) (t : Tm) (l : Int) (first : Bool) : ((addP s t l first).2.1 ≠ 0 ∧ (addP s t l first).2.2 = s ∧ (addP s t l first).1 = 0) ∨
  ((clauseP t).2.2 = 0 ∧ (sofP s.ps (clauseP (plainT t)).1).2 = 0 ∧ leqB l (sofP s.ps (clauseP (plainT t)).1).1.ce = true ∧ cntOf s l < s.q ∧ addP s t l first = (s.la + 1,0,addSt s (sofP s.ps (clauseP (plainT t)).1).1 (clauseP (plainT t)).1 (clauseP (plainT t)).2.1 l first)):=by
 unfold addP
 by_cases k1 : (clauseP t).2.2 = 0
 ·rw [if_neg (by simpa using k1)]
  by_cases k2 : (sofP s.ps (clauseP (plainT t)).1).2 = 0
  ·rw [if_neg (by simpa using k2)]
   cases k3 : leqB l (sofP s.ps (clauseP (plainT t)).1).1.ce with
   | false=>left; rw [if_pos rfl]; exact ⟨by simp,rfl,rfl⟩
   | true=>
    rw [if_neg (by simp)]
    by_cases k4 : s.q ≤ cntOf s l
    ·left; rw [if_pos k4]; exact ⟨by simp,rfl,rfl⟩
    ·right; rw [if_neg k4]; exact ⟨k1,k2,rfl,by omega,rfl⟩
  ·left; rw [if_pos k2]; exact ⟨k2,rfl,rfl⟩
 ·left; rw [if_pos k1]; exact ⟨k1,rfl,rfl⟩
theorem put_ext {X : Nat → Option Grp} {H H2 : AH} {g : Nat} {s : St} (he : Ext X H H2) (ha : Apart X (putSt H g s)) : Ext X (putSt H g s) (putSt H2 g s):=by
 refine ⟨he.next,fun g'=>?_,fun g'=>?_⟩
 ·show (H2.gs.set g _).get g' = match X g' with | some r=>some r | none=>(H.gs.set g _).get g'
  by_cases e : g' = g
  ·subst e
   rw [Tr.get_set_same,Tr.get_set_same]
   cases hx : X g' with
   | none=>rfl
   | some r=>
    have:=ha g' r hx
    have h2 : (H.gs.set g' ⟨0,0,stoC s⟩).get g' = none:=this
    rw [Tr.get_set_same] at h2; cases h2
  ·rw [Tr.get_set_ne _ _ e,Tr.get_set_ne _ _ e]; exact he.gs g'
 ·show ((H2.ms.set s.g1 _).set s.g2 _).get g' = ((H.ms.set s.g1 _).set s.g2 _).get g'
  by_cases e2 : g' = s.g2
  ·subst e2; rw [Tr.get_set_same,Tr.get_set_same]
  ·rw [Tr.get_set_ne _ _ e2,Tr.get_set_ne _ _ e2]
   by_cases e1 : g' = s.g1
   ·subst e1; rw [Tr.get_set_same,Tr.get_set_same]
   ·rw [Tr.get_set_ne _ _ e1,Tr.get_set_ne _ _ e1]; exact he.ms g'
theorem put_grows (H : AH) (g : Nat) (s : St) : Grows H (putSt H g s):=by
 intro g' h
 have h : (H.gs.set g _).get g' = none:=h
 by_cases e : g' = g
 ·subst e; rw [Tr.get_set_same] at h; cases h
 ·rw [Tr.get_set_ne _ _ e] at h; exact h
theorem add_one : HookOne Tryz.prog 12 (relH addR):=by
 refine HookOne.ofRel (by decide +kernel) addR_one (fun args H y H' h=>?_) fun args H y H' h=>?_
 ·obtain ⟨g,s,t,l,first,rfl,h1,h2,h3,h4,h5,h6,rfl,rfl⟩:=h
  exact add_calls g s t l first H h1 h2 h3 h4 h5 h6
 ·obtain ⟨g,s,t,l,first,rfl,h1,h2,h3,h4,h5,h6,rfl,rfl⟩:=h
  have hgr : Grows H (if (addP s t l first).2.1 = 0 then putSt H g (addP s t l first).2.2 else H):=by
   split
   ·exact put_grows _ _ _
   ·exact Grows.refl _
  refine ⟨hgr,fun X H2 he ha=>⟨_,⟨g,s,t,l,first,rfl,h1.ext he (ha.back hgr),h2,h3,h4,h5,h6,rfl,rfl⟩,?_⟩⟩
  split at ha
  ·rename_i hc
   rw [if_pos hc,if_pos hc]
   exact put_ext he ha
  ·rename_i hc
   rw [if_neg hc,if_neg hc]
   exact he
theorem put_at {H : AH} {g : Nat} {s : St} (h : StAt H g s) (p : Pr) (hd bd : Tm) (l : Int) (first : Bool) : StAt (putSt H g (addSt s p hd bd l first)) g (addSt s p hd bd l first):=by
 refine ⟨h.ne,Tr.get_set_same _ _ _,?_,Tr.get_set_same _ _ _⟩
 show ((H.ms.set s.g1 _).set s.g2 _).get s.g1 = _
 rw [Tr.get_set_ne _ _ h.ne,Tr.get_set_same]
theorem new_len (old : List Cl) (c : Cl) (first : Bool) : (newL old c first).length = old.length + 1:=by
 unfold newL; split <;> simp
theorem new_mem {old : List Cl} {c : Cl} {first : Bool} {x : Cl} (h : x ∈ newL old c first) : x = c ∨ x ∈ old:=by
 unfold newL at h
 split at h
 ·simpa using h
 ·simp at h; exact h.symm
theorem add_okSt {s : St} (h : OkSt s) (hla : s.la < 1000000) (p : Pr) {hd bd : Tm} (hh : OkT hd) (hb : OkT bd) (l : Int) (first : Bool) : OkSt (addSt s p hd bd l first):=by
 have hl:=h.la
 refine ⟨h.ns,h.ps,⟨by show 0 ≤ s.la + 1; omega,by show s.la + 1 ≤ 1000000; omega⟩,fun e he=>?_,fun e he=>?_⟩
 ·show (e.2.2.length : Int) ≤ s.la + 1 ∧ _
  rcases set_mem he with he | ⟨-,he⟩
  ·have:=h.m e he
   exact ⟨by omega,this.2⟩
  ·rw [he,new_len]
   have:=h.cls p.nm p.ar
   refine ⟨by have:=this.1; omega,fun c hc=>?_⟩
   rcases new_mem hc with rfl | hc
   ·exact ⟨hh,hb⟩
   ·exact this.2 c hc
 ·show 0 ≤ e.2.2 ∧ e.2.2 ≤ s.la + 1
  rcases set_mem he with he | ⟨-,he⟩
  ·have:=h.n e he
   omega
  ·rw [he]
   have:=h.cnt l
   omega
theorem add_full {s : St} (h : FullSt s) (p : Pr) (hd bd : Tm) (l : Int) (first : Bool) : FullSt (addSt s p hd bd l first):=by
 intro e he
 rcases set_mem he with he | ⟨-,he⟩
 ·exact h e he
 ·rw [he]
  intro h0
  have:=new_len (clsOf s p.nm p.ar) ⟨s.la + 1,l,hd,bd⟩ first
  rw [h0] at this
  simp at this
structure Good (H : AH) (g : Nat) (s : St) (k : Nat) : Prop where
 at' : StAt H g s
 ok : OkSt s
 full : FullSt s
 la : s.la ≤ k
theorem Good.add {H : AH} {g k : Nat} {s : St} (h : Good H g s k) (hk : k < 1000000) {t : Tm} (hf : Fine 1000 t) (l : Int) (first : Bool) : Good (if (addP s t l first).2.1 = 0 then putSt H g (addP s t l first).2.2 else H) g (addP s t l first).2.2 (k + 1):=by
 have hla:=h.la
 rcases addP_cases s t l first with ⟨h1,h2,-⟩ | ⟨h1,h2,h3,h4,h5⟩
 ·rw [if_neg h1,h2]
  exact ⟨h.at',h.ok,h.full,by omega⟩
 ·rw [h5]
  simp only [if_true]
  obtain ⟨hfp,hk1,hk2⟩:=kept_ok hf h1
  exact ⟨put_at h.at' _ _ _ _ _,add_okSt h.ok (by omega) _ hk1 hk2 _ _,add_full h.full _ _ _ _ _,by show s.la + 1 ≤ _; omega⟩
theorem Good.eq {H : AH} {g k : Nat} {s : St} (h : Good H g s k) (hk : k < 1000000) {t : Tm} (hf : Fine 1000 t) {l : Int} (hl : 0 ≤ l ∧ l < 4) (first : Bool) : relH addR [.ptr g 0 0,.agg (tmC t),.int .u64 l,.bool first] H = some (.tup [.int .i64 (addP s t l first).1,.int .i64 (addP s t l first).2.1],if (addP s t l first).2.1 = 0 then putSt H g (addP s t l first).2.2 else H):=
 relH_eq addR_one ⟨g,s,t,l,first,rfl,h.at',h.ok,h.full,by have:=h.la; omega,hf,hl,rfl,rfl⟩
end Go.Proofs.YtdekdghldblfaaaGreatDoor
