import Derived.Test.YtdekdghldblfaaaGreatDoorDrawsA
import Derived.Test.YtdekdghldblfaaaGreatDoorAbsV
import Derived.Test.YtdekdghldblfaaaGreatDoorYStB
import Derived.Test.YtdekdghldblfaaaGreatDoorBaseG
import Derived.WalkSmall
import Derived.Test.YtdekdghldblfaaaGreatDoorSymS
import Derived.Test.YtdekdghldblfaaaGreatDoorStB
import Derived.Test.YtdekdghldblfaaaGreatDoorSymVV
import Derived.Test.YtdekdghldblfaaaGreatDoorSymB
set_option linter.unusedVariables false
set_option linter.unusedSimpArgs false
namespace Go.Proofs.YtdekdghldblfaaaGreatDoor
section
open Go Go.Abs Go.RowKit Go.ChangeShapes Go.WideShapes Go.ChangeAt
theorem qt5:∃i,(Tryz.prog).info? 42=some i:=Option.isSome_iff_exists.1 (by decide +kernel)
set_option maxRecDepth 100000 in
set_option maxHeartbeats 1000000 in
theorem q1j(a:Option Addr)(c:Nat)(w:World) :
  Calls Tryz.prog 40 #[.slice a 0 c] w fun e w'=>∃a',e=.returned (.slice a' 0 0)∧Below w.heap.size w w':=by
 obtain⟨inf,hi⟩:=qt5
 have heq:(binOp .eql 39 (.slice a 0 c) (.slice none 0 0)).run Tryz.prog w=.ok (.bool a.isNone) w:=Lib.run_eql_slice_nil w 39 _ a 0 c 0 0 Tryz.underlying39
 have hap:∀(x:Option Addr) ty (w:World),(Builtin.append_ #[39,39] ty #[.slice x 0 0,.slice a 0 c]).run Tryz.prog w=.ok (.slice x 0 0) w:=fun x ty w=>qgg Tryz.underlying39 hi x a 0 0 c (Nat.le_refl _) w
 cases a
 all_goals
  simp only[Option.isNone] at heq
  go_enter Tryz.func40,Tryz.ntmps40
  go_wp2
  go_ret
  first
   |exact⟨_,rfl,Below.refl _ _⟩
   |exact⟨_,rfl,Below.alloc (Below.refl _ _) (Nat.le_refl _) _⟩
noncomputable def clTx:qar:=icall [(40,qh1)] [] 0 2
theorem q7v:qcp Tryz.prog clTx∧qaw clTx:=qey (P:=Tryz.prog) mixed (fun f=>draws f rfl) (fun e he=>by simp only[List.mem_singleton] at he;subst he;exact qob) (fun e he=>by cases he) 0 2
noncomputable def qgw(args:List AV)(H:AH):Option (AV×AH):=
 match args with
 |[.vals z []]=>some (.zslc,H)
 |[x]=>clTx 40 [x] H
 |_=>none
theorem q1k:HookOne Tryz.prog 40 qgw:=by
 refine⟨by decide +kernel,fun args H x H' h=>?_,fun args H x H' h=>?_⟩
 ·unfold qgw at h
  split at h
  ·rename_i z
   cases h
   intro K G vs w hr hv
   obtain⟨u,hu,h1⟩:=hv.one
   simp only[VR] at h1
   obtain⟨a,c,rfl,-,-⟩:=h1
   obtain rfl:vs=#[.slice a 0 c]:=by cases vs;simpa using hu
   refine (q1j a c w).mono fun e w' ⟨a',he,hw⟩=>?_
   exact⟨_,_,G,H,he,Gh.le.refl _,hr.stay hw,by simp only[VR];exact⟨a',rfl⟩,rfl,rfl⟩
  ·exact (q7v.1 _ _ _ _ _ h).2
  ·cases h
 ·unfold qgw at h
  split at h
  ·cases h;exact FrameR.same fun R H2 _ _=>rfl
  ·rename_i y hy
   have:=q7v.2 _ _ _ _ _ h
   refine⟨this.1,fun R H2 he ha=>?_⟩
   obtain⟨H2',k1,k2⟩:=this.2 R H2 he ha
   refine⟨H2',?_,k2⟩
   unfold qgw
   split
   ·rename_i heq;cases heq;exact absurd rfl (hy _)
   ·rename_i heq;cases heq;exact k1
   ·rename_i hn;exact absurd rfl (hn _)
  ·cases h
end
section
open Go Go.Abs Go.RowKit
attribute [local congr] qai qaj qag
attribute [local congr] qal
def qe9(old:List Cl)(c:Cl)(first:Bool):List Cl:=if first=true then c::old else old++[c]
def qd2(s:St)(p:Pr)(hd bd:Tm)(l:Int)(first:Bool):St:=
  { s with la:=s.la + 1
           mc:=(qbc (p.nm,p.ar) (qe9 (qbb s p.nm p.ar) ⟨s.la+1,l,hd,bd⟩ first) s.mc s.m).1
           m:=(qbc (p.nm,p.ar) (qe9 (qbb s p.nm p.ar) ⟨s.la+1,l,hd,bd⟩ first) s.mc s.m).2
           nc:=(qbc l (qav s l+1) s.nc s.n).1
           n:=(qbc l (qav s l + 1) s.nc s.n).2 }
noncomputable def qc6(s:St)(t:Tm)(l:Int)(first:Bool):Int×Int×St:=
 if (qac t).2.2≠0 then (0,(qac t).2.2,s) else
 if (qd6 s.ps (qac (qah t)).1).2≠0 then (0,(qd6 s.ps (qac (qah t)).1).2,s) else
 if qhi l (qd6 s.ps (qac (qah t)).1).1.ce=false then (0,9,s) else
 if s.q≤qav s l then (0,10,s) else
 (s.la+1,0,qd2 s (qd6 s.ps (qac (qah t)).1).1 (qac (qah t)).1 (qac (qah t)).2.1 l first)
def qcu(H:AH)(g:Nat)(s:St):AH:=⟨H.next,H.gs.set g ⟨0,0,qj0 s⟩,(H.ms.set s.g1 (s.mc,qcb kM qcf s.m)).set s.g2 (s.nc,qcb kN vN s.n)⟩
def q8m(s:St):Prop:=∀e∈s.m,e.2.2≠[]
def addR(args:List AV)(H:AH)(y:AV)(H':AH):Prop:=∃g s t l first,args=[.ptr g 0 0,.agg (tmC t),.int .u64 l,.bool first]∧StAt H g s∧OkSt s∧s.la<1000000∧Fine 1000 t∧(0≤l∧l<4) ∧
 y=.tup [.int .i64 (qc6 s t l first).1,.int .i64 (qc6 s t l first).2.1]∧H'=if (qc6 s t l first).2.1=0 then qcu H g (qc6 s t l first).2.2 else H
theorem qrw:OneR addR:=by
 intro a H y H' y2 H2 h k
 obtain⟨g,s,t,l,f,rfl,h1,-,-,-,-,rfl,rfl⟩:=h
 obtain⟨g',s',t',l',f',e,k1,-,-,-,-,rfl,rfl⟩:=k
 simp only[List.cons.injEq,AV.ptr.injEq,AV.int.injEq,AV.agg.injEq,AV.bool.injEq,true_and,and_true] at e
 obtain⟨rfl,e2,rfl,rfl⟩:=e
 cases h1.inj k1
 cases qjy e2
 exact⟨rfl,rfl⟩
theorem ins_slc{H:AH}{ga n gx:Nat}{cs xs:List AV}{i:Nat}(hg:H.gs.get ga=some ⟨0,0,cs⟩)(hl:cs.length=n*10)(hx:H.gs.get gx=some ⟨0,0,xs⟩)(hxl:xs.length=10)(hne:gx≠ga)(hi:i=n∨(i=0∧0<n))(hn:n+1≤1000000000) :
  qdg 10 128 [.slc ga 0 0 n 10,.int .i64 (i:Int),.slc gx 0 0 1 10] H=some (.slc ga 1 0 (n+1) 10,⟨H.next,H.gs.set ga ⟨1,0,if i=n then cs++xs else xs++cs⟩,H.ms⟩):=by
 have hb:Nat.beq gx ga=false:=by
  cases h:Nat.beq gx ga with
  |false=>rfl
  |true=>exact absurd (Nat.eq_of_beq_eq_true h) hne
 have hlc:qan H 10 (.slc gx 0 0 1 10)=some (1,xs):=by
  rw[qot,hx,qa8]
  simp only[Nat.one_mul,Nat.zero_add,hxl,Nat.le_refl,and_self,if_true,List.drop_zero]
  rw[show List.take 10 xs=xs by rw[←hxl];exact List.take_length]
 show (bif Nat.beq 1 0||Nat.beq gx ga then none else bif Nat.beq i n then iapp 10 128 (.slc ga 0 0 n 10) (.slc gx 0 0 1 10) H else _)=_
 rw[hb]
 show (bif Nat.beq i n then iapp 10 128 (.slc ga 0 0 n 10) (.slc gx 0 0 1 10) H else _)=_
 by_cases h:i=n
 ·subst h
  rw[show Nat.beq i i=true from Nat.beq_refl i,cond_true,if_pos rfl,qn0,hlc,qa8]
  simp only[hg,qa8]
  rw[if_neg (by omega),if_pos ⟨trivial,trivial,Nat.zero_le _,by omega,by omega,by omega⟩]
  simp only[List.drop_zero]
  rw[show List.take (i*10) cs=cs by rw[←hl];exact List.take_length]
 ·obtain⟨rfl,hn0⟩:i=0∧0<n:=by omega
  have hz:Nat.beq 0 n=false:=by
   cases h':Nat.beq 0 n with
   |false=>rfl
   |true=>exact absurd (Nat.eq_of_beq_eq_true h') h
  rw[hz,cond_false,if_neg h,hlc]
  simp only[hg]
  have hc:(Nat.beq 0 0&&Nat.beq 10 10&&Nat.beq 0 0&&Nat.beq cs.length (n*10)&&Nat.blt 0 n&&Nat.blt 0 1&&Nat.ble ((n+1)*128) 140737488355328&&Nat.ble (n+1) 9223372036854775807)=true:=by
   have e1:Nat.beq cs.length (n*10)=true:=by rw[hl];exact Nat.beq_refl _
   have e2:Nat.blt 0 n=true:=Nat.ble_eq_true_of_le hn0
   have e3:Nat.ble ((n+1)*128) 140737488355328=true:=Nat.ble_eq_true_of_le (by omega)
   have e4:Nat.ble (n+1) 9223372036854775807=true:=Nat.ble_eq_true_of_le (by omega)
   rw[e1,e2,e3,e4];rfl
  rw[hc]
  simp
theorem ins_nil{H:AH}{gx:Nat}{xs:List AV}(hx:H.gs.get gx=some ⟨0,0,xs⟩)(hxl:xs.length=10)(hf:H.gs.get H.next=none) :
  qdg 10 128 [.nils,.int .i64 0,.slc gx 0 0 1 10] H=some (.slc H.next 0 0 1 10,⟨H.next+1,H.gs.set H.next ⟨0,0,xs⟩,H.ms⟩):=by
 have hlc:qan H 10 (.slc gx 0 0 1 10)=some (1,xs):=by
  rw[qot,hx,qa8]
  simp only[Nat.one_mul,Nat.zero_add,hxl,Nat.le_refl,and_self,if_true,List.drop_zero]
  rw[show List.take 10 xs=xs by rw[←hxl];exact List.take_length]
 show iapp 10 128 .nils (.slc gx 0 0 1 10) H=_
 rw[qlz,hlc,qa8]
 simp only[hf]
 rw[if_neg (by omega),if_pos ⟨by omega,by omega,trivial⟩]
 rfl
noncomputable abbrev qry:List (FuncId×YF):=[(40,qh1)]
noncomputable abbrev qtf:List (FuncId×(List AV→AH→Option (AV×AH))):=[(34,qae qfw),(35,qae qs4),(36,qae sofS),(38,qae qor),(37,qae fitS),(15,qae leqS),(39,qdg 10 128),(40,qgw)]
theorem lsAd_ok:∀e∈qtf,HookOne Tryz.prog e.1 e.2:=by
 intro e he
 simp only[qtf,List.mem_cons,List.not_mem_nil,or_false] at he
 rcases he with rfl|rfl|rfl|rfl|rfl|rfl|rfl|rfl
 ·exact q1l
 ·exact q4s
 ·exact sof_one
 ·exact q48
 ·exact fit_one
 ·exact q5p
 ·exact q00
 ·exact q1k
theorem q1w:∀e∈qry,qbp Tryz.prog (fun _=>true) e.1=some e.2.er:=by
 intro e he
 simp only[qry,List.mem_singleton] at he
 subst he
 exact qob
theorem qzq(nx:Nat)(gs:Tr Grp)(ms:Tr qbm):icall qry qtf 0 2 40 [.nils] ⟨nx,gs,ms⟩=some (.nils,⟨nx,gs,ms⟩):=by
 rw[qay (k:=qgw) rfl]
 show clTx _ _ _=_
 refine qbn rfl rfl rfl ?_
 have e:ibin .eql 39 (some (.slice 42)) true .nils .nils=some (.bool true):=rfl
 simp (maxSteps:=1000000) (disch:=omega) only[qh1,qaf,↓axP,axQ,seval,qaa,qab,tX,e]
theorem cl_emp(nx:Nat)(gs:Tr Grp)(ms:Tr qbm):icall qry qtf 0 2 40 [.vals 10 []] ⟨nx,gs,ms⟩=some (.zslc,⟨nx,gs,ms⟩):=by
 rw[qay (k:=qgw) rfl];rfl
theorem q7u(nx:Nat)(gs:Tr Grp)(ms:Tr qbm)(l:List Cl)(hl:l≠[])(hn:l.length≤1000000000)(h0:gs.get nx=none):icall qry qtf 0 2 40 [.vals 10 (l.map clC)] ⟨nx,gs,ms⟩=some (.slc nx 0 0 l.length 10,⟨nx+1,gs.set nx ⟨0,0,(l.map clC).flatten⟩,ms⟩):=by
 rw[qay (k:=qgw) rfl]
 obtain⟨c,l',rfl⟩:=List.exists_cons_of_ne_nil hl
 show clTx _ _ _=_
 refine qbn rfl rfl rfl ?_
 have e:∀t ts,ibin .eql 39 (some (.slice 42)) true (.vals 10 (t::ts)) .nils=some (.bool false):=fun t ts=>(rfl)
 have q0:((l'.map clC).length+1=0)=False:=by simp
 have q1:((l'.map clC).length+1)*128≤140737488355328∧(l'.map clC).length+1≤9223372036854775807:=by simp at hn ⊢;omega
 simp only[qh1,qaf,↓axP,axQ,seval,qaa,qab,tX,e,List.map_cons,List.length_cons,q0,q1,h0]
 simp
theorem ins_zslc{H:AH}{gx:Nat}{xs:List AV}(hx:H.gs.get gx=some ⟨0,0,xs⟩)(hxl:xs.length=10)(hf:H.gs.get H.next=none) :
  qdg 10 128 [.zslc,.int .i64 0,.slc gx 0 0 1 10] H=some (.slc H.next 0 0 1 10,⟨H.next+1,H.gs.set H.next ⟨0,0,xs⟩,H.ms⟩):=by
 have hlc:qan H 10 (.slc gx 0 0 1 10)=some (1,xs):=by
  rw[qot,hx,qa8]
  simp only[Nat.one_mul,Nat.zero_add,hxl,Nat.le_refl,and_self,if_true,List.drop_zero]
  rw[show List.take 10 xs=xs by rw[←hxl];exact List.take_length]
 show iapp 10 128 .zslc (.slc gx 0 0 1 10) H=_
 rw[qzv,hlc,qa8]
 simp only[hf]
 rw[if_neg (by omega),if_pos ⟨by omega,by omega,trivial⟩]
 rfl
end
section
open Go Go.Abs Go.RowKit
theorem fine_z0:Fine 1000 zT:=.mk _ _ _ _ (by omega) (by omega) (by unfold maxLen;simp) (by simp) (fun x hx=>by cases hx)
theorem clk_ok{m:Nat}(hm:66≤m){t:Tm}(hf:Fine 1000 t)(ht:t.height≤m):((qac t).1.height≤m∧Fine 1000 (qac t).1)∧((qac t).2.1.height≤m∧Fine 1000 (qac t).2.1):=by
 have hz:zT.height≤m∧Fine 1000 zT:=⟨by simp[zT,Tm.height,Tm.heights];omega,fine_z0⟩
 have key:∀a b:Tm,(a.height≤m∧Fine 1000 a)→(b.height≤m∧Fine 1000 b)→((qbd t a b).1.height≤m∧Fine 1000 (qbd t a b).1)∧((qbd t a b).2.1.height≤m∧Fine 1000 (qbd t a b).2.1):=by
  intro a b ha hb
  have h:qbd t a b=(a,b,0)∨∃e,qbd t a b=(zT,zT,e):=by
   simp only[qbd]
   generalize (if a.kind=0 then (6:Int) else if a.kind=1 then 5 else if qjn a=true then 8 else (ofP b).2)=e
   by_cases he:e=0
   ·exact .inl (if_pos he)
   ·exact .inr ⟨e,if_neg he⟩
  rcases h with h|⟨e,h⟩<;>rw[h]
  ·exact⟨ha,hb⟩
  ·exact⟨hz,hz⟩
 unfold qac
 split
 ·split
  ·rename_i hc
   obtain⟨a,b,hab⟩:=qbu (qb9 (m:=2) hc)
   have h1:=hf.args.2.1
   have h2:∀x∈t.args,x.height≤m:=fun x hx=>by have:=qfh hx;rw[qbk] at ht;omega
   rw[hab] at h1 h2 ⊢
   exact key a b ⟨h2 a (by simp),h1 a (by simp)⟩ ⟨h2 b (by simp),h1 b (by simp)⟩
  ·exact key t qbl ⟨ht,hf⟩ ⟨by simp[qbl,Tm.height,Tm.heights];omega,qjc⟩
 ·exact⟨hz,hz⟩
theorem qnj{f:Tm→Tm}:∀l:List Tm,(∀x∈l,(f x).height≤x.height)→Tm.heights (l.map f)≤Tm.heights l
 |[],_=>Nat.le_refl _
 |x::l,h=>by
  have h1:=h x (List.mem_cons_self ..)
  have h2:=qnj l fun y hy=>h y (List.mem_cons_of_mem _ hy)
  simp only[List.map_cons,Tm.heights]
  omega
theorem repl_ok{r:Int→Option Tm}(h:∀n u,r n=some u→u.height≤1∧Fine 1000 u){t:Tm}(hf:Fine 1000 t):(qa1 r t).height≤t.height∧Fine 1000 (qa1 r t):=by
 induction hf with
 |mk k n s l hk hn hs hl hx ih=>
  unfold qa1
  by_cases h0:k=0
  ·rw[if_pos h0]
   cases hr:r n with
   |none=>exact⟨Nat.le_refl _,.mk k n s l hk hn hs hl hx⟩
   |some u=>
    obtain⟨h1,h2⟩:=h n u hr
    refine⟨?_,h2⟩
    show u.height≤Tm.heights l+1
    omega
  ·rw[if_neg h0,qiv]
   refine⟨?_,.mk k n s _ hk hn hs (by rw[List.length_map];exact hl) fun x hx'=>?_⟩
   ·show Tm.heights (l.map (qa1 r))+1≤Tm.heights l+1
    have:=qnj l fun x hx=>(ih x hx).1
    omega
   ·rw[List.mem_map] at hx'
    obtain⟨y,hy,rfl⟩:=hx'
    exact (ih y hy).2
theorem own_ok:∀(l:List Int) (k:Nat),k+l.length≤1000000→∀n u,rho (qev k l) n=some u→u.height≤1∧Fine 1000 u
 |[],k,hk,n,u,h=>by simp[qev,rho] at h
 |a::l,k,hk,n,u,h=>by
  unfold rho qev at h
  rw[List.find?_cons] at h
  split at h
  ·simp only[Option.map_some,Option.some.injEq] at h
   subst h
   exact⟨by simp[q0c,Tm.height,Tm.heights],.mk _ _ _ _ (by omega) (by simp at hk;omega) (by simp) (by simp) (fun x hx=>by cases hx)⟩
  ·exact own_ok l (k+1) (by simp at hk;omega) n u h
theorem qlh{t:Tm}(hg:t.good=true):(qax (qc8 t)).length≤2000:=by
 have h1:=qmm (qc8 t)
 rw[qvp] at h1
 have:=qkg hg
 omega
theorem plain_ok{t:Tm}(hg:t.good=true)(hf:Fine 1000 t):(qah t).height≤64∧Fine 1000 (qah t):=by
 have h1:=repl_ok (own_ok (qax (qc8 t)) 0 (by have:=qlh hg;omega)) hf
 have h2:=(qrx hf hg).1
 exact⟨Nat.le_trans h1.1 h2,h1.2⟩
theorem qcl{t:Tm}(h:(qac t).2.2=0):t.good=true:=by
 cases hg:t.good with
 |true=>rfl
 |false=>simp[qac,hg] at h
theorem qqr{t:Tm}(hf:Fine 1000 t)(h:(qac t).2.2=0):Fine 1000 (qah t)∧((qac (qah t)).1.height≤70∧Fine 1000 (qac (qah t)).1)∧((qac (qah t)).2.1.height≤70∧Fine 1000 (qac (qah t)).2.1):=by
 have hp:=plain_ok (qcl h) hf
 exact⟨hp.2,clk_ok (by omega) hp.2 (by omega)⟩
end
section
open Go Go.Abs Go.RowKit
attribute [local congr] qai qaj qag
attribute [local congr] qal
theorem nk1(N k:Nat):(N=N+k)=(k=0):=by simp
theorem nk2(N k:Nat):(N+k=N)=(k=0):=by simp
theorem nk3(N a b:Nat):(N+a=N+b)=(a=b):=by simp
theorem qdv{N:Nat}{H:AH}{nx:Nat}{gs:Tr Grp}{ms:Tr qbm}{x:AV}(hN:∀n,N≤n→H.gs.get n=none∧H.ms.get n=none)(hc:ClosedH H)(hx:qba x=true)(hg:∀g,g<N→gs.get g=H.gs.get g)(hm:ms=H.ms):Go.Abs.Comes (some (x,⟨nx,gs,ms⟩)) H x H:=by
 refine Comes.some (Canon.pure hc (fun g r h=>?_) (fun g r h=>?_) hx)
 ·rcases Nat.lt_or_ge g N with q|q
  ·show gs.get g=_
   rw[hg g q];exact h
  ·rw[(hN g q).1] at h;cases h
 ·show ms.get g=_
  rw[hm];exact h
theorem qn3{nx gx:Nat}{gs:Tr Grp}{ms:Tr qbm}(xs:List AV)(hx:gs.get gx=some ⟨0,0,xs⟩)(hxl:xs.length=10)(hf:gs.get nx=none) :
  icall qry qtf 0 2 39 [.nils,.int .i64 0,.slc gx 0 0 1 10] ⟨nx,gs,ms⟩=some (.slc nx 0 0 1 10,⟨nx+1,gs.set nx ⟨0,0,xs⟩,ms⟩):=by
 rw[qay (k:=qdg 10 128) rfl]
 exact ins_nil (H:=⟨nx,gs,ms⟩) hx hxl hf
theorem quh{nx gx:Nat}{gs:Tr Grp}{ms:Tr qbm}(xs:List AV)(hx:gs.get gx=some ⟨0,0,xs⟩)(hxl:xs.length=10)(hf:gs.get nx=none) :
  icall qry qtf 0 2 39 [.zslc,.int .i64 0,.slc gx 0 0 1 10] ⟨nx,gs,ms⟩=some (.slc nx 0 0 1 10,⟨nx+1,gs.set nx ⟨0,0,xs⟩,ms⟩):=by
 rw[qay (k:=qdg 10 128) rfl]
 exact ins_zslc (H:=⟨nx,gs,ms⟩) hx hxl hf
theorem q8d{nx ga n gx:Nat}{gs:Tr Grp}{ms:Tr qbm}(cs xs:List AV)(i:Nat)(hg:gs.get ga=some ⟨0,0,cs⟩)(hl:cs.length=n*10)(hx:gs.get gx=some ⟨0,0,xs⟩)(hxl:xs.length=10)(hne:gx≠ga)(hi:i=n∨(i=0∧0<n))(hn:n+1≤1000000000) :
  icall qry qtf 0 2 39 [.slc ga 0 0 n 10,.int .i64 (i:Int),.slc gx 0 0 1 10] ⟨nx,gs,ms⟩=some (.slc ga 1 0 (n+1) 10,⟨nx,gs.set ga ⟨1,0,if i=n then cs++xs else xs++cs⟩,ms⟩):=by
 rw[qay (k:=qdg 10 128) rfl]
 exact ins_slc (H:=⟨nx,gs,ms⟩) hg hl hx hxl hne hi hn
theorem add_ins0{nx ga n gx:Nat}{gs:Tr Grp}{ms:Tr qbm}(cs xs:List AV)(hg:gs.get ga=some ⟨0,0,cs⟩)(hl:cs.length=n*10)(hx:gs.get gx=some ⟨0,0,xs⟩)(hxl:xs.length=10)(hne:gx≠ga)(hp:0<n)(hn:n+1≤1000000000) :
  icall qry qtf 0 2 39 [.slc ga 0 0 n 10,.int .i64 0,.slc gx 0 0 1 10] ⟨nx,gs,ms⟩=some (.slc ga 1 0 (n+1) 10,⟨nx,gs.set ga ⟨1,0,xs++cs⟩,ms⟩):=by
 have:=q8d (nx:=nx) (ms:=ms) cs xs 0 hg hl hx hxl hne (.inr ⟨rfl,hp⟩) hn
 rw[if_neg (by omega)] at this
 exact this
theorem add_insN{nx ga n gx:Nat}{gs:Tr Grp}{ms:Tr qbm}(cs xs:List AV)(hg:gs.get ga=some ⟨0,0,cs⟩)(hl:cs.length=n*10)(hx:gs.get gx=some ⟨0,0,xs⟩)(hxl:xs.length=10)(hne:gx≠ga)(hn:n+1≤1000000000) :
  icall qry qtf 0 2 39 [.slc ga 0 0 n 10,.int .i64 (n:Int),.slc gx 0 0 1 10] ⟨nx,gs,ms⟩=some (.slc ga 1 0 (n+1) 10,⟨nx,gs.set ga ⟨1,0,cs++xs⟩,ms⟩):=by
 have:=q8d (nx:=nx) (ms:=ms) cs xs n hg hl hx hxl hne (.inl rfl) hn
 rw[if_pos rfl] at this
 exact this
theorem qkn{N g nx0 nx1 ga ea:Nat}{s:St}{p:Pr}{hd bd:Tm}{l:Int}{first:Bool}{gs gs1:Tr Grp}{ms:Tr qbm}{es:List (Nat×AV×AV)}{new:List Cl}(hnew:qe9 (qbb s p.nm p.ar) ⟨s.la+1,l,hd,bd⟩ first=new)(h1:StAt ⟨nx0,gs,ms⟩ g s)
  (hN:∀n,N≤n→gs.get n=none∧ms.get n=none) (hcl:ClosedH ⟨nx0,gs,ms⟩)
  (hg1:gs1.get g=some ⟨0,0,[qcd s.ns s.ps,.int .i64 s.q,.int .i64 (s.la+1),.mapp s.g1,.mapp s.g2]⟩) (hgo:∀g',g'<N→g'≠g→gs1.get g'=gs.get g') (hga:N≤ga)
  (hown:gs1.get ga=some ⟨ea,0,(new.map clC).flatten⟩)
  (hes:mset (kM (p.nm,p.ar)) (.slc ga ea 0 new.length 10) s.mc (qcb kM qcf s.m)=some ((qbc (p.nm,p.ar) new s.mc s.m).1,es)) :
  Go.Abs.Comes (some (.tup [.int .i64 (s.la+1),.int .i64 0],⟨nx1,gs1,(ms.set s.g2 ((qbc l (qav s l+1) s.nc s.n).1,qcb kN vN (qbc l (qav s l+1) s.nc s.n).2)).set s.g1 ((qbc (p.nm,p.ar) new s.mc s.m).1,es)⟩))
   ⟨nx0,gs,ms⟩ (.tup [.int .i64 (s.la+1),.int .i64 0]) (qcu ⟨nx0,gs,ms⟩ g (qd2 s p hd bd l first)):=by
 subst hnew
 obtain⟨hne,h2,h3,h4⟩:=h1
 simp only at h2 h3 h4
 have lt:∀g' r,gs.get g'=some r→g'<N:=fun g' r h=>by
  rcases Nat.lt_or_ge g' N with q|q
  ·exact q
  ·rw[(hN g' q).1] at h;cases h
 have hgN:=lt g _ h2
 have hdm:∀g',(qcu ⟨nx0,gs,ms⟩ g (qd2 s p hd bd l first)).ms.get g'≠none↔ms.get g'≠none:=by
  intro g'
  show ((ms.set s.g1 _).set s.g2 _).get g'≠none↔_
  by_cases e2:g'=s.g2
  ·subst e2;rw[Tr.get_set_same,h4];simp
  ·rw[Tr.get_set_ne _ _ e2]
   by_cases e1:g'=s.g1
   ·subst e1;rw[Tr.get_set_same,h3];simp
   ·rw[Tr.get_set_ne _ _ e1]
 have hdd:∀g',(qcu ⟨nx0,gs,ms⟩ g (qd2 s p hd bd l first)).gs.get g'≠none↔gs.get g'≠none:=by
  intro g'
  show (gs.set g _).get g'≠none↔_
  by_cases e:g'=g
  ·subst e;rw[Tr.get_set_same,h2];simp
  ·rw[Tr.get_set_ne _ _ e]
 have hrefl:=fun x hx=>Canon.refl (H:=⟨nx0,gs,ms⟩) (H1:=⟨nx1,gs1,(ms.set s.g2 ((qbc l (qav s l+1) s.nc s.n).1,qcb kN vN (qbc l (qav s l+1) s.nc s.n).2)).set s.g1 ((qbc (p.nm,p.ar) (qe9 (qbb s p.nm p.ar) ⟨s.la+1,l,hd,bd⟩ first) s.mc s.m).1,es)⟩) (H2:=qcu ⟨nx0,gs,ms⟩ g (qd2 s p hd bd l first)) hdm (x:=x) hx
 refine Comes.some (Canon.upd hcl hdd hdm (fun g' r2 h=>?_) (fun g' es2 h=>?_) (.pure rfl))
 ·have h:(gs.set g ⟨0,0,qj0 (qd2 s p hd bd l first)⟩).get g'=some r2:=h
  by_cases e:g'=g
  ·subst e
   rw[Tr.get_set_same] at h
   cases h
   refine⟨hg1,fun x hx=>?_⟩
   have hx:x∈[qcd s.ns s.ps,.int .i64 s.q,.int .i64 (s.la+1),.mapp s.g1,.mapp s.g2]:=hx
   simp only[List.mem_cons,List.not_mem_nil,or_false] at hx
   rcases hx with rfl|rfl|rfl|rfl|rfl
   ·exact hcl.cell g' _ 0 _ h2 rfl
   ·simp only[qd7]
   ·simp only[qd7]
   ·simp only[qd7,h3];simp
   ·simp only[qd7,h4];simp
  ·rw[Tr.get_set_ne _ _ e] at h
   refine⟨by show gs1.get g'=_;rw[hgo g' (lt g' _ h) e];exact h,fun x hx=>?_⟩
   obtain⟨i,hi,rfl⟩:=List.getElem_of_mem hx
   exact hcl.cell g' r2 i _ h (List.getElem?_eq_getElem hi)
 ·have h:((ms.set s.g1 ((qbc (p.nm,p.ar) (qe9 (qbb s p.nm p.ar) ⟨s.la+1,l,hd,bd⟩ first) s.mc s.m).1,qcb kM qcf (qbc (p.nm,p.ar) (qe9 (qbb s p.nm p.ar) ⟨s.la+1,l,hd,bd⟩ first) s.mc s.m).2)).set s.g2 ((qbc l (qav s l+1) s.nc s.n).1,qcb kN vN (qbc l (qav s l+1) s.nc s.n).2)).get g'=some es2:=h
  by_cases e2:g'=s.g2
  ·subst e2
   rw[Tr.get_set_same] at h
   cases h
   refine⟨_,by show ((ms.set s.g2 _).set s.g1 _).get s.g2=_;rw[Tr.get_set_ne _ _ (Ne.symm hne),Tr.get_set_same],rfl,FzE.refl fun e he=>?_⟩
   simp only[qcb,List.mem_map] at he
   obtain⟨d,-,rfl⟩:=he
   exact⟨.pure rfl,.pure rfl⟩
  ·rw[Tr.get_set_ne _ _ e2] at h
   by_cases e1:g'=s.g1
   ·subst e1
    rw[Tr.get_set_same] at h
    cases h
    refine⟨_,Tr.get_set_same _ _ _,rfl,?_⟩
    obtain⟨es',k1,k2⟩:=qp9 (vE:=qcf) (R:=FzR ⟨nx1,gs1,(ms.set s.g2 ((qbc l (qav s l+1) s.nc s.n).1,qcb kN vN (qbc l (qav s l+1) s.nc s.n).2)).set s.g1 ((qbc (p.nm,p.ar) (qe9 (qbb s p.nm p.ar) ⟨s.la+1,l,hd,bd⟩ first) s.mc s.m).1,es)⟩ (kpR ⟨nx0,gs,ms⟩ ⟨nx1,gs1,(ms.set s.g2 ((qbc l (qav s l+1) s.nc s.n).1,qcb kN vN (qbc l (qav s l+1) s.nc s.n).2)).set s.g1 ((qbc (p.nm,p.ar) (qe9 (qbb s p.nm p.ar) ⟨s.la+1,l,hd,bd⟩ first) s.mc s.m).1,es)⟩ (qcu ⟨nx0,gs,ms⟩ g (qd2 s p hd bd l first)) id) (kmR (qcu ⟨nx0,gs,ms⟩ g (qd2 s p hd bd l first)) id) (qes (qcu ⟨nx0,gs,ms⟩ g (qd2 s p hd bd l first)) id))
     qkr (p.nm,p.ar) (qe9 (qbb s p.nm p.ar) ⟨s.la + 1,l,hd,bd⟩ first) (.slc ga ea 0 (qe9 (qbb s p.nm p.ar) ⟨s.la + 1,l,hd,bd⟩ first).length 10) (by
      refine .slc (r:=⟨ea,0,((qe9 (qbb s p.nm p.ar) ⟨s.la+1,l,hd,bd⟩ first).map clC).flatten⟩) (fun g' hg' hgg=>?_) hown rfl (by simp) (fun row hr=>by simp only[List.mem_map] at hr;obtain⟨c,-,rfl⟩:=hr;exact qbh c) ?_ fun j x y hx hy=>?_
      ·have hgg:g'=ga:=hgg
       subst hgg
       exact (hdd g').1 hg' (hN g' hga).1
      ·show 0+_≤(List.flatten _).length
       rw[qat (z:=10) (fun row hr=>by simp only[List.mem_map] at hr;obtain⟨c,-,rfl⟩:=hr;exact qbh c),List.length_map]
       omega
      ·simp only[Nat.zero_add] at hx
       rw[hy] at hx
       cases hx
       exact .pure ((qa6 _).1 (qcx (qfq _)) _ (List.mem_of_getElem? hy))) (.pure rfl) s.mc s.m (fun e he=>⟨hrefl _ (hcl.ent s.g1 _ h3 e he).1,hrefl _ (hcl.ent s.g1 _ h3 e he).2⟩)
    rw[hes] at k1
    simp only[Option.some.injEq,Prod.mk.injEq,true_and] at k1
    subst k1
    exact k2
   ·rw[Tr.get_set_ne _ _ e1] at h
    refine⟨es2,by show ((ms.set s.g2 _).set s.g1 _).get g'=_;rw[Tr.get_set_ne _ _ e1,Tr.get_set_ne _ _ e2];exact h,rfl,FzE.refl fun e he=>?_⟩
    have:=hcl.ent g' _ h e he
    exact⟨hrefl _ this.1,hrefl _ this.2⟩
set_option maxHeartbeats 4000000 in
theorem q8e(g:Nat)(s:St)(t:Tm)(l:Int)(first:Bool)(H:AH)(h1:StAt H g s)(hok:OkSt s)(hla:s.la<1000000)(hf:Fine 1000 t)(hl4:0≤l∧l<4) :
  ACalls Tryz.prog 12 [.ptr g 0 0,.agg (tmC t),.int .u64 l,.bool first] H fun y H'=>y=.tup [.int .i64 (qc6 s t l first).1,.int .i64 (qc6 s t l first).2.1]∧H'=if (qc6 s t l first).2.1=0 then qcu H g (qc6 s t l first).2.2 else H:=by
 have hio:=qey (P:=Tryz.prog) mixed (fun f=>draws f rfl) q1w lsAd_ok 0 2
 refine ACalls.onCall hio.1 hio.2 mixed (draws _ rfl) yAdd_ok rfl 0 fun N hN hcl=>?_
 obtain⟨nx0,gs,ms⟩:=H
 have h1':=h1
 obtain⟨hne,h2,h3,h4⟩:=h1
 simp only at h2 h3 h4 hN
 have hgN:g<N:=by
  rcases Nat.lt_or_ge g N with q|q
  ·exact q
  ·rw[(hN g q).1] at h2;cases h2
 have hE:∀k,gs.get (N+k)=none:=fun k=>(hN (N+k) (by omega)).1
 have hE0:gs.get N=none:=(hN N (Nat.le_refl _)).1
 have q1:∀k,(g=N+k)=False:=fun k=>eq_false (by omega)
 have q2:∀k,(N+k=g)=False:=fun k=>eq_false (by omega)
 have q3:(g=N)=False:=eq_false (by omega)
 have q4:(N=g)=False:=eq_false (by omega)
 have h2':gs.get g=some ⟨0,0,[qcd s.ns s.ps,.int .i64 s.q,.int .i64 s.la,.mapp s.g1,.mapp s.g2]⟩:=h2
 have c1:∀nx gs ms,icall qry qtf 0 2 34 [.agg (tmC t)] ⟨nx,gs,ms⟩=some (.tup [.agg (tmC (qac t).1),.agg (tmC (qac t).2.1),.int .i64 (qac t).2.2],⟨nx,gs,ms⟩):=fun nx gs ms=>by
  rw[qay (k:=qae qfw) rfl]
  simp (maxSteps:=1000000) (disch:=omega) only[↓axP,axQ,seval,qaa,qab,tX,qhl hf]
 by_cases k1:(qac t).2.2=0
 ·have hg:=qcl k1
  obtain⟨hfp,hk1,hk2⟩:=qqr hf k1
  have c2:∀nx gs ms,icall qry qtf 0 2 35 [.agg (tmC t)] ⟨nx,gs,ms⟩=some (.tup [.agg (tmC (qah t)),.int .i64 0],⟨nx,gs,ms⟩):=fun nx gs ms=>by
   rw[qay (k:=qae qs4) rfl]
   simp (maxSteps:=1000000) (disch:=omega) only[↓axP,axQ,seval,qaa,qab,tX,q4t ⟨hg,hf⟩]
  have c3:∀nx gs ms,icall qry qtf 0 2 34 [.agg (tmC (qah t))] ⟨nx,gs,ms⟩=some (.tup [.agg (tmC (qac (qah t)).1),.agg (tmC (qac (qah t)).2.1),.int .i64 (qac (qah t)).2.2],⟨nx,gs,ms⟩):=fun nx gs ms=>by
   rw[qay (k:=qae qfw) rfl]
   simp (maxSteps:=1000000) (disch:=omega) only[↓axP,axQ,seval,qaa,qab,tX,qhl hfp]
  have hps:=hok.ps
  let p:=(qd6 s.ps (qac (qah t)).1).1
  let e:=(qd6 s.ps (qac (qah t)).1).2
  have c4:∀nx gs ms,icall qry qtf 0 2 36 [qcd s.ns s.ps,.agg (tmC (qac (qah t)).1)] ⟨nx,gs,ms⟩=some (.tup [.agg [.str p.nm,.int .i64 p.ar,.int .u64 p.ce,.bool p.dy],.int .i64 e],⟨nx,gs,ms⟩):=fun nx gs ms=>by
   rw[qay (k:=qae sofS) rfl]
   have:=sofS_eq s.ns (ps:=s.ps) (t:=(qac (qah t)).1) ⟨by omega,hk1.2⟩
   unfold qcd at this ⊢
   simp (maxSteps:=1000000) (disch:=omega) only[↓axP,axQ,seval,qaa,qab,tX,this]
   rfl
  by_cases k2:e=0
  ·have c5:∀nx gs ms,icall qry qtf 0 2 38 [qcd s.ns s.ps] ⟨nx,gs,ms⟩=some (.vals 1 [[.str [97]],[.str [98]]],⟨nx,gs,ms⟩):=fun nx gs ms=>by
    rw[qay (k:=qae qor) rfl]
    have:=q49 s.ps (ns:=s.ns) (by rw[hok.ns];simp)
    rw[hok.ns] at this ⊢
    unfold qcd at this ⊢
    simp only[List.map_cons,List.map_nil] at this ⊢
    simp (maxSteps:=1000000) (disch:=omega) only[↓axP,axQ,seval,qaa,qab,tX,this]
   have c6:∀nx gs ms,icall qry qtf 0 2 37 [.vals 1 [[.str [97]],[.str [98]]],.int .u64 l] ⟨nx,gs,ms⟩=some (.bool true,⟨nx,gs,ms⟩):=fun nx gs ms=>by
    rw[qay (k:=qae fitS) rfl]
    simp (maxSteps:=1000000) (disch:=omega) only[↓axP,axQ,seval,qaa,qab,tX,fit_eq hl4]
   have c7:∀nx gs ms,icall qry qtf 0 2 15 [.int .u64 l,.int .u64 p.ce] ⟨nx,gs,ms⟩=some (.bool (qhi l p.ce),⟨nx,gs,ms⟩):=fun nx gs ms=>by
    rw[qay (k:=qae leqS) rfl]
    simp (maxSteps:=1000000) (disch:=omega) only[↓axP,axQ,seval,qaa,qab,tX,qv1]
   have hgn:=fun nx gs=>get_N (s:=s) (nx:=nx) (gs:=gs) h4 l
   have hcnt:=hok.cnt l
   unfold qcd at c4 c5 h2'
   rw[k2] at c4
   cases hlq:qhi l p.ce with
   |false=>
    rw[hlq] at c7
    have hr:qc6 s t l first=(0,9,s):=by
     unfold qc6
     rw[if_neg (by simpa using k1),if_neg (by simpa using k2),if_pos hlq]
    rw[hr,if_neg (by simp)]
    simp (maxSteps:=1000000) (disch:=omega) only[q3a,qb1,↓axP,axQ,seval,qaa,qab,tX,hE,hE0,q1,q2,q3,q4,nk1,nk2,nk3,h2',c1,c2,c3,c4,c5,c6,c7,k1,Nat.add_assoc]
    refine qdv (H:=⟨nx0,gs,ms⟩) hN hcl (by rfl) (fun g hg=>?_) rfl
    simp[Tr.get_set,show g≠N by omega,show ∀k,g≠N+k by omega]
   |true=>
    rw[hlq] at c7
    by_cases hq:s.q≤qav s l
    ·have hr:qc6 s t l first=(0,10,s):=by
      unfold qc6
      rw[if_neg (by simpa using k1),if_neg (by simpa using k2),if_neg (by simpa using hlq),if_pos hq]
     rw[hr,if_neg (by simp)]
     simp (maxSteps:=1000000) (disch:=omega) only[q3a,qb1,↓axP,axQ,seval,qaa,qab,tX,hE,hE0,q1,q2,q3,q4,nk1,nk2,nk3,h2',c1,c2,c3,c4,c5,c6,c7,hgn,hq,k1,Nat.add_assoc]
     refine qdv (H:=⟨nx0,gs,ms⟩) hN hcl (by rfl) (fun g hg=>?_) rfl
     simp[Tr.get_set,show g≠N by omega,show ∀k,g≠N+k by omega]
    ·have hr:qc6 s t l first=(s.la+1,0,qd2 s p (qac (qah t)).1 (qac (qah t)).2.1 l first):=by
      unfold qc6
      rw[if_neg (by simpa using k1),if_neg (by simpa using k2),if_neg (by simpa using hlq),if_neg hq]
     rw[hr,if_pos rfl]
     have q5:(s.g1=s.g2)=False:=eq_false hne
     have q6:(s.g2=s.g1)=False:=eq_false (Ne.symm hne)
     have hqf:(s.q≤qav s l)=False:=eq_false hq
     have hw1:IntKind.i64.wrap (s.la+1)=s.la+1:=by have:=hok.la;rw[wrap_i64]<;>omega
     have hw2:IntKind.i64.wrap (qav s l+1)=qav s l+1:=by have:=hok.la;rw[wrap_i64]<;>omega
     have hsn:mset (.int .u64 l) (.int .i64 (qav s l+1)) s.nc (qcb kN vN s.n)=some ((qbc l (qav s l+1) s.nc s.n).1,qcb kN vN (qbc l (qav s l+1) s.nc s.n).2):=set_E (vE:=vN) q5t l (qav s l+1) s.nc s.n
     have hgm:=fun nx gs=>get_M (s:=s) (nx:=nx) (gs:=gs) (ms:=ms.set s.g2 ((qbc l (qav s l+1) s.nc s.n).1,qcb kN vN (qbc l (qav s l+1) s.nc s.n).2)) (by rw[Tr.get_set_ne _ _ hne];exact h3) p.nm p.ar
     cases hlk:qbz (p.nm,p.ar) s.m with
     |none=>
      rw[hlk] at hgm
      simp only at hgm
      have hold:qbb s p.nm p.ar=[]:=by simp[qbb,hlk]
      obtain⟨es,hes,-⟩:=qp9 (vE:=qcf) (R:=fun _ _=>True) qkr (p.nm,p.ar) [(⟨s.la+1,l,(qac (qah t)).1,(qac (qah t)).2.1⟩:Cl)] (.slc (N+62) 0 0 1 10) trivial trivial s.mc s.m (fun _ _=>⟨trivial,trivial⟩)
      have hes':mset (.agg [.str p.nm,.int .i64 p.ar]) (.slc (N+62) 0 0 1 10) s.mc (qcb kM qcf s.m)=some ((qbc (p.nm,p.ar) [(⟨s.la+1,l,(qac (qah t)).1,(qac (qah t)).2.1⟩:Cl)] s.mc s.m).1,es):=hes
      cases first with
      |true=>
       simp (maxSteps:=1000000) (disch:=omega) only[q3a,qb1,↓axP,axQ,seval,qaa,qab,tX,hE,hE0,q1,q2,q3,q4,q5,q6,nk1,nk2,nk3,h2',h3,h4,c1,c2,c3,c4,c5,c6,c7,hgn,hqf,hw1,hw2,hsn,hgm,qzq,k1,Nat.add_assoc]
       rw[qn3 (clC ⟨s.la+1,l,(qac (qah t)).1,(qac (qah t)).2.1⟩) (by rw[Tr.get_set_same];rfl) (qbh _) (by simp[Tr.get_set,hE,hE0,q1,q2])]
       simp (maxSteps:=1000000) (disch:=omega) only[↓axP,axQ,seval,qaa,qab,tX,hE,hE0,q1,q2,q3,q4,q5,q6,nk1,nk2,nk3,h2',h3,h4,hes',qf1,Nat.add_assoc]
       refine qkn (N:=N) (ga:=N+62) (ea:=0) (first:=true) (by rw[hold];rfl) h1' hN hcl ?_ (fun g' hg' hgg=>?_) (by omega) ?_ hes
       ·simp[Tr.get_set,q1,q3,qcd]
       ·simp[Tr.get_set,show g'≠N by omega,show ∀k,g'≠N+k by omega,hgg]
       ·rw[Tr.get_set_same];simp
      |false=>
       simp (maxSteps:=1000000) (disch:=omega) only[q3a,qb1,↓axP,axQ,seval,qaa,qab,tX,hE,hE0,q1,q2,q3,q4,q5,q6,nk1,nk2,nk3,h2',h3,h4,c1,c2,c3,c4,c5,c6,c7,hgn,hqf,hw1,hw2,hsn,hgm,qzq,k1,Nat.add_assoc]
       rw[qn3 (clC ⟨s.la+1,l,(qac (qah t)).1,(qac (qah t)).2.1⟩) (by rw[Tr.get_set_same];rfl) (qbh _) (by simp[Tr.get_set,hE,hE0,q1,q2])]
       simp (maxSteps:=1000000) (disch:=omega) only[↓axP,axQ,seval,qaa,qab,tX,hE,hE0,q1,q2,q3,q4,q5,q6,nk1,nk2,nk3,h2',h3,h4,hes',qf1,Nat.add_assoc]
       refine qkn (N:=N) (ga:=N+62) (ea:=0) (first:=false) (by rw[hold];rfl) h1' hN hcl ?_ (fun g' hg' hgg=>?_) (by omega) ?_ hes
       ·simp[Tr.get_set,q1,q3,qcd]
       ·simp[Tr.get_set,show g'≠N by omega,show ∀k,g'≠N+k by omega,hgg]
       ·rw[Tr.get_set_same];simp
     |some v=>
      rw[hlk] at hgm
      simp only at hgm
      unfold qcf at hgm
      have hold:qbb s p.nm p.ar=v:=by simp[qbb,hlk]
      by_cases hv0:v=[]
      ·subst hv0
       rw[List.map_nil] at hgm
       obtain⟨es,hes,-⟩:=qp9 (vE:=qcf) (R:=fun _ _=>True) qkr (p.nm,p.ar) [(⟨s.la+1,l,(qac (qah t)).1,(qac (qah t)).2.1⟩:Cl)] (.slc (N+62) 0 0 1 10) trivial trivial s.mc s.m (fun _ _=>⟨trivial,trivial⟩)
       have hes':mset (.agg [.str p.nm,.int .i64 p.ar]) (.slc (N+62) 0 0 1 10) s.mc (qcb kM qcf s.m)=some ((qbc (p.nm,p.ar) [(⟨s.la+1,l,(qac (qah t)).1,(qac (qah t)).2.1⟩:Cl)] s.mc s.m).1,es):=hes
       cases first with
       |true=>
        simp (maxSteps:=1000000) (disch:=omega) only[q3a,qb1,↓axP,axQ,seval,qaa,qab,tX,hE,hE0,q1,q2,q3,q4,q5,q6,nk1,nk2,nk3,h2',h3,h4,c1,c2,c3,c4,c5,c6,c7,hgn,hqf,hw1,hw2,hsn,hgm,cl_emp,k1,Nat.add_assoc]
        rw[quh (clC ⟨s.la+1,l,(qac (qah t)).1,(qac (qah t)).2.1⟩) (by rw[Tr.get_set_same];rfl) (qbh _) (by simp[Tr.get_set,hE,hE0,q1,q2])]
        simp (maxSteps:=1000000) (disch:=omega) only[↓axP,axQ,seval,qaa,qab,tX,hE,hE0,q1,q2,q3,q4,q5,q6,nk1,nk2,nk3,h2',h3,h4,hes',qf1,Nat.add_assoc]
        refine qkn (N:=N) (ga:=N+62) (ea:=0) (first:=true) (by rw[hold];rfl) h1' hN hcl ?_ (fun g' hg' hgg=>?_) (by omega) ?_ hes
        ·simp[Tr.get_set,q1,q3,qcd]
        ·simp[Tr.get_set,show g'≠N by omega,show ∀k,g'≠N+k by omega,hgg]
        ·rw[Tr.get_set_same];simp
       |false=>
        simp (maxSteps:=1000000) (disch:=omega) only[q3a,qb1,↓axP,axQ,seval,qaa,qab,tX,hE,hE0,q1,q2,q3,q4,q5,q6,nk1,nk2,nk3,h2',h3,h4,c1,c2,c3,c4,c5,c6,c7,hgn,hqf,hw1,hw2,hsn,hgm,cl_emp,k1,Nat.add_assoc]
        rw[quh (clC ⟨s.la+1,l,(qac (qah t)).1,(qac (qah t)).2.1⟩) (by rw[Tr.get_set_same];rfl) (qbh _) (by simp[Tr.get_set,hE,hE0,q1,q2])]
        simp (maxSteps:=1000000) (disch:=omega) only[↓axP,axQ,seval,qaa,qab,tX,hE,hE0,q1,q2,q3,q4,q5,q6,nk1,nk2,nk3,h2',h3,h4,hes',qf1,Nat.add_assoc]
        refine qkn (N:=N) (ga:=N+62) (ea:=0) (first:=false) (by rw[hold];rfl) h1' hN hcl ?_ (fun g' hg' hgg=>?_) (by omega) ?_ hes
        ·simp[Tr.get_set,q1,q3,qcd]
        ·simp[Tr.get_set,show g'≠N by omega,show ∀k,g'≠N+k by omega,hgg]
        ·rw[Tr.get_set_same];simp
      ·replace hv0:v≠[]:=hv0
       have hv1:(v.length:Int)≤s.la:=by have:=(hok.cls p.nm p.ar).1;rwa [hold] at this
       have hvp:0<v.length:=Nat.pos_of_ne_zero (by simpa using hv0)
       have hfl:(v.map clC).flatten.length=v.length*10:=by rw[qat (z:=10) (fun row hr=>by simp only[List.mem_map] at hr;obtain⟨c,-,rfl⟩:=hr;exact qbh c),List.length_map]
       have hml:(v.map clC).length=v.length:=by simp
       cases first with
       |true=>
        have hnew:qe9 (qbb s p.nm p.ar) ⟨s.la+1,l,(qac (qah t)).1,(qac (qah t)).2.1⟩ true=⟨s.la+1,l,(qac (qah t)).1,(qac (qah t)).2.1⟩::v:=by rw[hold];rfl
        obtain⟨es,hes,-⟩:=qp9 (vE:=qcf) (R:=fun _ _=>True) qkr (p.nm,p.ar) ((⟨s.la+1,l,(qac (qah t)).1,(qac (qah t)).2.1⟩:Cl)::v) (.slc (N+62) 1 0 (v.length+1) 10) trivial trivial s.mc s.m (fun _ _=>⟨trivial,trivial⟩)
        have hes':mset (.agg [.str p.nm,.int .i64 p.ar]) (.slc (N+62) 1 0 (v.length+1) 10) s.mc (qcb kM qcf s.m)=some ((qbc (p.nm,p.ar) ((⟨s.la+1,l,(qac (qah t)).1,(qac (qah t)).2.1⟩:Cl)::v) s.mc s.m).1,es):=hes
        simp (maxSteps:=1000000) (disch:=omega) only[q3a,qb1,↓axP,axQ,seval,qaa,qab,tX,hE,hE0,q1,q2,q3,q4,q5,q6,nk1,nk2,nk3,h2',h3,h4,c1,c2,c3,c4,c5,c6,c7,hgn,hqf,hw1,hw2,hsn,hgm,qzq,k1,Nat.add_assoc,hml]
        rw[q7u _ _ _ v hv0 (by omega) (by simp[Tr.get_set,hE,hE0,q1,q2])]
        simp (maxSteps:=1000000) (disch:=omega) only[↓axP,axQ,seval,qaa,qab,tX,hE,hE0,q1,q2,q3,q4,q5,q6,nk1,nk2,nk3,h2',h3,h4,hes',qf1,Nat.add_assoc,hml]
        have hesF:mset (kM (p.nm,p.ar)) (.slc (N+62) 1 0 ((⟨s.la+1,l,(qac (qah t)).1,(qac (qah t)).2.1⟩:Cl)::v).length 10) s.mc (qcb kM qcf s.m)=some ((qbc (p.nm,p.ar) ((⟨s.la+1,l,(qac (qah t)).1,(qac (qah t)).2.1⟩:Cl)::v) s.mc s.m).1,es):=hes
        rw[add_ins0 ((v.map clC).flatten) (clC ⟨s.la+1,l,(qac (qah t)).1,(qac (qah t)).2.1⟩) (by simp[Tr.get_set,nk3]) hfl (by simp[Tr.get_set,nk3];rfl) (qbh _) (by omega) hvp (by omega)]
        simp (maxSteps:=1000000) (disch:=omega) only[↓axP,axQ,seval,qaa,qab,tX,hE,hE0,q1,q2,q3,q4,q5,q6,nk1,nk2,nk3,h2',h3,h4,hes',qf1,Nat.add_assoc,hml]
        refine qkn (N:=N) (ga:=N+62) (ea:=1) (first:=true) hnew h1' hN hcl ?_ (fun g' hg' hgg=>?_) (by omega) ?_ hesF
        ·simp[Tr.get_set,q1,q3,qcd]
        ·simp[Tr.get_set,show g'≠N by omega,show ∀k,g'≠N+k by omega,hgg]
        ·rw[Tr.get_set_same];simp
       |false=>
        have hnew:qe9 (qbb s p.nm p.ar) ⟨s.la+1,l,(qac (qah t)).1,(qac (qah t)).2.1⟩ false=v++[⟨s.la+1,l,(qac (qah t)).1,(qac (qah t)).2.1⟩]:=by rw[hold];rfl
        obtain⟨es,hes,-⟩:=qp9 (vE:=qcf) (R:=fun _ _=>True) qkr (p.nm,p.ar) (v++[(⟨s.la+1,l,(qac (qah t)).1,(qac (qah t)).2.1⟩:Cl)]) (.slc (N+62) 1 0 (v.length+1) 10) trivial trivial s.mc s.m (fun _ _=>⟨trivial,trivial⟩)
        have hes':mset (.agg [.str p.nm,.int .i64 p.ar]) (.slc (N+62) 1 0 (v.length+1) 10) s.mc (qcb kM qcf s.m)=some ((qbc (p.nm,p.ar) (v++[(⟨s.la+1,l,(qac (qah t)).1,(qac (qah t)).2.1⟩:Cl)]) s.mc s.m).1,es):=hes
        have hesF:mset (kM (p.nm,p.ar)) (.slc (N+62) 1 0 (v++[(⟨s.la+1,l,(qac (qah t)).1,(qac (qah t)).2.1⟩:Cl)]).length 10) s.mc (qcb kM qcf s.m)=some ((qbc (p.nm,p.ar) (v++[(⟨s.la+1,l,(qac (qah t)).1,(qac (qah t)).2.1⟩:Cl)]) s.mc s.m).1,es):=by rw[List.length_append];exact hes
        simp (maxSteps:=1000000) (disch:=omega) only[q3a,qb1,↓axP,axQ,seval,qaa,qab,tX,hE,hE0,q1,q2,q3,q4,q5,q6,nk1,nk2,nk3,h2',h3,h4,c1,c2,c3,c4,c5,c6,c7,hgn,hqf,hw1,hw2,hsn,hgm,qzq,k1,Nat.add_assoc,hml]
        rw[q7u _ _ _ v hv0 (by omega) (by simp[Tr.get_set,hE,hE0,q1,q2])]
        simp (maxSteps:=1000000) (disch:=omega) only[↓axP,axQ,seval,qaa,qab,tX,hE,hE0,q1,q2,q3,q4,q5,q6,nk1,nk2,nk3,h2',h3,h4,hes',qf1,Nat.add_assoc,hml]
        rw[add_insN ((v.map clC).flatten) (clC ⟨s.la+1,l,(qac (qah t)).1,(qac (qah t)).2.1⟩) (by simp[Tr.get_set,nk3]) hfl (by simp[Tr.get_set,nk3];rfl) (qbh _) (by omega) (by omega)]
        simp (maxSteps:=1000000) (disch:=omega) only[↓axP,axQ,seval,qaa,qab,tX,hE,hE0,q1,q2,q3,q4,q5,q6,nk1,nk2,nk3,h2',h3,h4,hes',qf1,Nat.add_assoc,hml]
        refine qkn (N:=N) (ga:=N+62) (ea:=1) (first:=false) hnew h1' hN hcl ?_ (fun g' hg' hgg=>?_) (by omega) ?_ hesF
        ·simp[Tr.get_set,q1,q3,qcd]
        ·simp[Tr.get_set,show g'≠N by omega,show ∀k,g'≠N+k by omega,hgg]
        ·rw[Tr.get_set_same];simp
  ·have hr:qc6 s t l first=(0,e,s):=by
    unfold qc6
    rw[if_neg (by simpa using k1),if_pos k2]
   rw[hr,if_neg k2]
   unfold qcd at c4 h2'
   have k2':(e=0)=False:=eq_false k2
   simp (maxSteps:=1000000) (disch:=omega) only[q3a,qb1,↓axP,axQ,seval,qaa,qab,tX,hE,hE0,q1,q2,q3,q4,nk1,nk2,nk3,h2',c1,c2,c3,c4,k1,k2',Nat.add_assoc]
   refine qdv (H:=⟨nx0,gs,ms⟩) hN hcl (by rfl) (fun g hg=>?_) rfl
   simp[Tr.get_set,show g≠N by omega,show ∀k,g≠N+k by omega]
 ·have hr:qc6 s t l first=(0,(qac t).2.2,s):=by
   unfold qc6
   rw[if_pos k1]
  rw[hr,if_neg k1]
  have k1':((qac t).2.2=0)=False:=eq_false k1
  simp (maxSteps:=1000000) (disch:=omega) only[q3a,qb1,↓axP,axQ,seval,qaa,qab,tX,hE,hE0,q1,q2,q3,q4,nk1,nk2,nk3,h2',c1,k1',Nat.add_assoc]
  refine qdv (H:=⟨nx0,gs,ms⟩) hN hcl (by rfl) (fun g hg=>?_) rfl
  simp[Tr.get_set,show g≠N by omega,show ∀k,g≠N+k by omega]
end
section
open Go Go.Abs Go.RowKit
theorem qc5(s:St)(t:Tm)(l:Int)(first:Bool):((qc6 s t l first).2.1≠0∧(qc6 s t l first).2.2=s∧(qc6 s t l first).1=0) ∨
  ((qac t).2.2=0∧(qd6 s.ps (qac (qah t)).1).2=0∧qhi l (qd6 s.ps (qac (qah t)).1).1.ce=true∧qav s l<s.q∧qc6 s t l first=(s.la+1,0,qd2 s (qd6 s.ps (qac (qah t)).1).1 (qac (qah t)).1 (qac (qah t)).2.1 l first)):=by
 unfold qc6
 by_cases k1:(qac t).2.2=0
 ·rw[if_neg (by simpa using k1)]
  by_cases k2:(qd6 s.ps (qac (qah t)).1).2=0
  ·rw[if_neg (by simpa using k2)]
   cases k3:qhi l (qd6 s.ps (qac (qah t)).1).1.ce with
   |false=>left;rw[if_pos rfl];exact⟨by simp,rfl,rfl⟩
   |true=>
    rw[if_neg (by simp)]
    by_cases k4:s.q≤qav s l
    ·left;rw[if_pos k4];exact⟨by simp,rfl,rfl⟩
    ·right;rw[if_neg k4];exact⟨k1,k2,rfl,by omega,rfl⟩
  ·left;rw[if_pos k2];exact⟨k2,rfl,rfl⟩
 ·left;rw[if_pos k1];exact⟨k1,rfl,rfl⟩
theorem q4k{X:Nat→Option Grp}{H H2:AH}{g:Nat}{s:St}(he:Ext X H H2)(ha:Apart X (qcu H g s)):Ext X (qcu H g s) (qcu H2 g s):=by
 refine⟨he.next,fun g'=>?_,fun g'=>?_⟩
 ·show (H2.gs.set g _).get g'=match X g' with|some r=>some r|none=>(H.gs.set g _).get g'
  by_cases e:g'=g
  ·subst e
   rw[Tr.get_set_same,Tr.get_set_same]
   cases hx:X g' with
   |none=>rfl
   |some r=>
    have:=ha g' r hx
    have h2:(H.gs.set g' ⟨0,0,qj0 s⟩).get g'=none:=this
    rw[Tr.get_set_same] at h2;cases h2
  ·rw[Tr.get_set_ne _ _ e,Tr.get_set_ne _ _ e];exact he.gs g'
 ·show ((H2.ms.set s.g1 _).set s.g2 _).get g'=((H.ms.set s.g1 _).set s.g2 _).get g'
  by_cases e2:g'=s.g2
  ·subst e2;rw[Tr.get_set_same,Tr.get_set_same]
  ·rw[Tr.get_set_ne _ _ e2,Tr.get_set_ne _ _ e2]
   by_cases e1:g'=s.g1
   ·subst e1;rw[Tr.get_set_same,Tr.get_set_same]
   ·rw[Tr.get_set_ne _ _ e1,Tr.get_set_ne _ _ e1];exact he.ms g'
theorem qsy(H:AH)(g:Nat)(s:St):Grows H (qcu H g s):=by
 intro g' h
 have h:(H.gs.set g _).get g'=none:=h
 by_cases e:g'=g
 ·subst e;rw[Tr.get_set_same] at h;cases h
 ·rw[Tr.get_set_ne _ _ e] at h;exact h
theorem q8c:HookOne Tryz.prog 12 (qeh addR):=by
 refine HookOne.ofRel (by decide +kernel) qrw (fun args H y H' h=>?_) fun args H y H' h=>?_
 ·obtain⟨g,s,t,l,first,rfl,h1,h2,h4,h5,h6,rfl,rfl⟩:=h
  exact q8e g s t l first H h1 h2 h4 h5 h6
 ·obtain⟨g,s,t,l,first,rfl,h1,h2,h4,h5,h6,rfl,rfl⟩:=h
  have hgr:Grows H (if (qc6 s t l first).2.1=0 then qcu H g (qc6 s t l first).2.2 else H):=by
   split
   ·exact qsy _ _ _
   ·exact Grows.refl _
  refine⟨hgr,fun X H2 he ha=>⟨_,⟨g,s,t,l,first,rfl,h1.ext he (ha.back hgr),h2,h4,h5,h6,rfl,rfl⟩,?_⟩⟩
  split at ha
  ·rename_i hc
   rw[if_pos hc,if_pos hc]
   exact q4k he ha
  ·rename_i hc
   rw[if_neg hc,if_neg hc]
   exact he
theorem put_at{H:AH}{g:Nat}{s:St}(h:StAt H g s)(p:Pr)(hd bd:Tm)(l:Int)(first:Bool):StAt (qcu H g (qd2 s p hd bd l first)) g (qd2 s p hd bd l first):=by
 refine⟨h.ne,Tr.get_set_same _ _ _,?_,Tr.get_set_same _ _ _⟩
 show ((H.ms.set s.g1 _).set s.g2 _).get s.g1=_
 rw[Tr.get_set_ne _ _ h.ne,Tr.get_set_same]
theorem qql(old:List Cl)(c:Cl)(first:Bool):(qe9 old c first).length=old.length+1:=by
 unfold qe9;split<;>simp
theorem qj6{old:List Cl}{c:Cl}{first:Bool}{x:Cl}(h:x∈qe9 old c first):x=c∨x∈old:=by
 unfold qe9 at h
 split at h
 ·simpa using h
 ·simp at h;exact h.symm
theorem qzx{s:St}(h:OkSt s)(hla:s.la<1000000)(p:Pr){hd bd:Tm}(hh:OkT hd)(hb:OkT bd)(l:Int)(first:Bool):OkSt (qd2 s p hd bd l first):=by
 have hl:=h.la
 refine⟨h.ns,h.ps,⟨by show 0≤s.la+1;omega,by show s.la+1≤1000000;omega⟩,fun e he=>?_,fun e he=>?_⟩
 ·show (e.2.2.length:Int)≤s.la+1∧_
  rcases qc1 he with he|⟨-,he⟩
  ·have:=h.m e he
   exact⟨by omega,this.2⟩
  ·rw[he,qql]
   have:=h.cls p.nm p.ar
   refine⟨by have:=this.1;omega,fun c hc=>?_⟩
   rcases qj6 hc with rfl|hc
   ·exact⟨hh,hb⟩
   ·exact this.2 c hc
 ·show 0≤e.2.2∧e.2.2≤s.la+1
  rcases qc1 he with he|⟨-,he⟩
  ·have:=h.n e he
   omega
  ·rw[he]
   have:=h.cnt l
   omega
theorem add_full{s:St}(h:q8m s)(p:Pr)(hd bd:Tm)(l:Int)(first:Bool):q8m (qd2 s p hd bd l first):=by
 intro e he
 rcases qc1 he with he|⟨-,he⟩
 ·exact h e he
 ·rw[he]
  intro h0
  have:=qql (qbb s p.nm p.ar) ⟨s.la+1,l,hd,bd⟩ first
  rw[h0] at this
  simp at this
structure Good(H:AH)(g:Nat)(s:St)(k:Nat):Prop where
 at':StAt H g s
 ok:OkSt s
 full:q8m s
 la:s.la≤k
theorem Good.add{H:AH}{g k:Nat}{s:St}(h:Good H g s k)(hk:k<1000000){t:Tm}(hf:Fine 1000 t)(l:Int)(first:Bool):Good (if (qc6 s t l first).2.1=0 then qcu H g (qc6 s t l first).2.2 else H) g (qc6 s t l first).2.2 (k+1):=by
 have hla:=h.la
 rcases qc5 s t l first with⟨h1,h2,-⟩|⟨h1,h2,h3,h4,h5⟩
 ·rw[if_neg h1,h2]
  exact⟨h.at',h.ok,h.full,by omega⟩
 ·rw[h5]
  simp only[if_true]
  obtain⟨hfp,hk1,hk2⟩:=qqr hf h1
  exact⟨put_at h.at' _ _ _ _ _,qzx h.ok (by omega) _ hk1 hk2 _ _,add_full h.full _ _ _ _ _,by show s.la+1≤_;omega⟩
theorem Good.eq{H:AH}{g k:Nat}{s:St}(h:Good H g s k)(hk:k<1000000){t:Tm}(hf:Fine 1000 t){l:Int}(hl:0≤l∧l<4)(first:Bool):qeh addR [.ptr g 0 0,.agg (tmC t),.int .u64 l,.bool first] H=some (.tup [.int .i64 (qc6 s t l first).1,.int .i64 (qc6 s t l first).2.1],if (qc6 s t l first).2.1=0 then qcu H g (qc6 s t l first).2.2 else H):=
 qfp qrw ⟨g,s,t,l,first,rfl,h.at',h.ok,by have:=h.la;omega,hf,hl,rfl,rfl⟩
end
end Go.Proofs.YtdekdghldblfaaaGreatDoor
