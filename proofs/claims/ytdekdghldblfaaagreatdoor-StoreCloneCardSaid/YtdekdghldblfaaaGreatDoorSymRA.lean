import Derived.Test.YtdekdghldblfaaaGreatDoorYRg
import Derived.Test.YtdekdghldblfaaaGreatDoorSymB
import Derived.Test.YtdekdghldblfaaaGreatDoorSymDA
import Derived.Test.YtdekdghldblfaaaGreatDoorYDs
import Derived.Test.YtdekdghldblfaaaGreatDoorSymMM
set_option linter.unusedVariables false
set_option linter.unusedSimpArgs false
namespace Go.Proofs.YtdekdghldblfaaaGreatDoor
section
open Go Go.Abs Go.RowKit
attribute [local congr] qai qaj qag
theorem qj9(f:Nat){S:Nat→List AV→Option AV}(hf:∀{n:Nat},HookOne Tryz.prog f (qae (S n))→HookOne Tryz.prog f (qae (S (n+1))))(h0:∀args,S 0 args=none)(hd:qa3 Tryz.prog f=true):∀n,HookOne Tryz.prog f (qae (S n))
 |0=>HookOne.ofPureF hd fun args y h H=>by rw[h0] at h;cases h
 |n+1=>hf (qj9 f (S:=S) hf h0 hd n)
theorem qm3{p:Prop}(h:¬p){α:Type}(x:Option α):only p x=none:=by unfold only;rw[if_neg h]
theorem qnz{n:Nat}{t:Tm}(h:t.height≤n+1)(hf:Fine 1000 t):∀x∈t.args,x.height≤n∧Fine 1000 x:=fun x hx=>by
 have:=qfh hx
 rw[qbk] at h
 exact⟨by omega,hf.args.2.1 _ hx⟩
noncomputable def lvS(n:Nat)(q:Tm→Prop)(f:Tm→AV):List AV→Option AV
 |[x]=>(ofT x).bind fun t=>only ((t.height≤n∧Fine 1000 t)∧q t) (some (f t))
 |_=>none
theorem lvS_eq{n:Nat}{q:Tm→Prop}{f:Tm→AV}{t:Tm}(h:t.height≤n∧Fine 1000 t)(hq:q t):lvS n q f [.agg (tmC t)]=some (f t):=by
 show (ofT (tmA t)).bind _=_
 rw[qcc];exact qa0 (by exact⟨h,hq⟩) _
theorem lvS_0(q:Tm→Prop)(f:Tm→AV)(args:List AV):lvS 0 q f args=none:=by
 unfold lvS
 split
 ·rename_i x
  cases ofT x with
  |none=>rfl
  |some a=>exact qm3 (fun h=>by have:=h.1.1;have:=qbo a;omega) _
 ·rfl
noncomputable def qte(n:Nat)(f:Tm→Int→Int):List AV→Option AV
 |[x,.int .i64 m]=>(ofT x).bind fun t=>only ((t.height≤n∧Fine 1000 t)∧0≤m∧m≤2000) (some (.int .i64 (f t m)))
 |_=>none
theorem qqq{n:Nat}{f:Tm→Int→Int}{t:Tm}{m:Int}(h:t.height≤n∧Fine 1000 t)(hm:0≤m∧m≤2000):qte n f [.agg (tmC t),.int .i64 m]=some (.int .i64 (f t m)):=by
 show (ofT (tmA t)).bind _=_
 rw[qcc];exact qa0 (by exact⟨h,hm⟩) _
theorem lv2S_0(f:Tm→Int→Int)(args:List AV):qte 0 f args=none:=by
 unfold qte
 split
 ·rename_i x m
  cases ofT x with
  |none=>rfl
  |some a=>exact qm3 (fun h=>by have:=h.1.1;have:=qbo a;omega) _
 ·rfl
def qok(t:Tm)(m:Int):Int:=min (t.size:Int) (m+1)
theorem rsz_loop{n:Nat}(F0:Nat)(t:Tm)(hl:t.args.length≤1000)(m:Int)(hm:0≤m∧m≤2000):∀(l2 l1:List Tm) (c:Int) (F:Nat),t.args=l1++l2→(∀x∈l2,x.height≤n∧Fine 1000 x)→c=min (1+(Tm.sizes l1:Int)) (m+1)→l2.length<F →
  iter (ycode (tcall [(123,qae (qte n qok))]) F0 qux) F (mk [(1,.int .i64 m),(2,.ptr 0 0 0),(5,.int .i64 c),(6,.int .i64 l1.length)]) ⟨1,Tr.nil.set 0 ⟨0,0,tmC t⟩,.nil⟩=some (.exit 0,mk [(5,.int .i64 (qok t m))],⟨1,Tr.nil.set 0 ⟨0,0,tmC t⟩,.nil⟩):=by
 intro l2
 induction l2 with
 |nil=>
  intro l1 c F h1 h2 h3 h4
  obtain⟨k,rfl⟩:=qam (f:=fun _ _=>none) (n:=F) (by omega)
  rw[List.append_nil] at h1
  have hlt:((l1.length:Int)<(t.args.length:Int))=False:=by rw[h1];simp
  have hc:c=qok t m:=by rw[h3,qok,qdd,h1];omega
  rw[qad]
  simp (maxSteps:=1000000) (disch:=omega) only[ql5,qij,↓axP,axQ,seval,qaa,qab,tX,hlt,List.length_map,hc]
 |cons x l2 ih=>
  intro l1 c F h1 h2 h3 h4
  obtain⟨k,rfl⟩:=qam (f:=fun _ _=>none) (n:=F) (by omega)
  have hR:l1.length+1≤1000:=by rw[h1] at hl;simp at hl;omega
  have hlt:((l1.length:Int)<(t.args.length:Int))=True:=eq_true (by rw[h1];simp;omega)
  have hget:(t.args.map tmC)[l1.length]? = some (tmC x):=by rw[h1];simp
  have hi:(0:Int)≤(l1.length:Int):=by omega
  have hts:t.size=Tm.sizes l1+(x.size+Tm.sizes l2)+1:=by rw[qdd,h1,qa4];simp[Tm.sizes]
  by_cases hcm:c≤m
  ·have hcm':(c≤m)=True:=eq_true hcm
   have hc1:c=1+(Tm.sizes l1:Int):=by omega
   have hr:=qqq (f:=qok) (m:=m-c) (h2 x (List.mem_cons_self ..)) (by omega)
   have w1:IntKind.i64.wrap (m-c)=m-c:=by rw[wrap_i64]<;>omega
   have hrz:qok x (m-c)=min (x.size:Int) (m-c+1):=rfl
   have hxp:=qp7 x
   have w2:IntKind.i64.wrap (c+qok x (m-c))=c+qok x (m-c):=by rw[wrap_i64]<;>omega
   have w3:IntKind.i64.wrap ((l1.length:Int)+1)=(l1.length:Int)+1:=by rw[wrap_i64]<;>omega
   have IH:=ih (l1++[x]) (c+qok x (m-c)) k (by simp[h1]) (fun y hy=>h2 y (List.mem_cons_of_mem _ hy)) (by rw[qa4,hrz];simp only[Tm.sizes];omega) (by simp at h4;omega)
   have hls:(l1++[x]).length=l1.length+1:=by simp
   rw[hls] at IH
   simp only[Int.natCast_add,Int.natCast_one] at IH
   rw[qad]
   simp (maxSteps:=1000000) (disch:=omega) only[ql5,qij,↓axP,axQ,seval,qaa,qab,tX,hlt,hi,hget,hcm',Int.toNat_natCast,List.length_map,hr,w1,w2,w3,IH]
  ·have hcm':(c≤m)=False:=eq_false hcm
   have hc:c=qok t m:=by unfold qok;omega
   rw[qad]
   simp (maxSteps:=1000000) (disch:=omega) only[ql5,qij,↓axP,axQ,seval,qaa,qab,tX,hlt,hcm',List.length_map]
   rw[hc]
theorem rsz_step{n:Nat}(hs:HookOne Tryz.prog 123 (qae (qte n qok))):HookOne Tryz.prog 123 (qae (qte (n+1) qok)):=by
 refine HookOne.ofPureF (by decide +kernel) fun args y h H=>?_
 have hl:∀e∈[(123,qae (qte n qok))],HookOne Tryz.prog e.1 e.2:=by
  intro e he;simp at he;subst he;exact hs
 unfold qte at h;split at h
 ·rename_i x m
  rw[Option.bind_eq_some_iff] at h
  obtain⟨t,h1,h2⟩:=h
  obtain⟨⟨hc,hm⟩,h3⟩:=qau h2
  cases h3
  obtain rfl:=qbr h1
  refine ACalls.ofRun hl mixed (draws _ rfl) q2j rfl (by simp[qa2,qas,qba]) (t.args.length+1) ?_ H
  have k1:=rsz_loop (n:=n) (t.args.length+1) t hc.2.args.1 m hm t.args [] 1 (t.args.length+1) rfl (qnz hc.1 hc.2) (by simp only[Tm.sizes];omega) (Nat.lt_succ_self _)
  unfold tmA
  simp (maxSteps:=1000000) (disch:=omega) only[↓axP,axQ,seval,qaa,qab] at k1
  simp (maxSteps:=1000000) (disch:=omega) only[yRSize,qak,↓axP,axQ,seval,qaa,qab,tX,k1]
  exact Ans.some (.pure rfl)
 ·cases h
theorem rsz_any:∀n,HookOne Tryz.prog 123 (qae (qte n qok)):=qj9 _ (fun h=>rsz_step h) (lv2S_0 _) (by decide +kernel)
def qln(t:Tm)(m:Int):Int:=min (t.height:Int) (m+1)
theorem rdp_loop{n:Nat}(F0:Nat)(t:Tm)(hl:t.args.length≤1000)(m:Int)(hm:1≤m∧m≤2000):∀(l2 l1:List Tm) (c:Int) (F:Nat),t.args=l1++l2→(∀x∈l2,x.height≤n∧Fine 1000 x)→c=min (Tm.heights l1:Int) m→l2.length<F →
  iter (ycode (tcall [(124,qae (qte n qln))]) F0 qpt) F (mk [(1,.int .i64 m),(2,.ptr 0 0 0),(5,.int .i64 c),(6,.int .i64 l1.length)]) ⟨1,Tr.nil.set 0 ⟨0,0,tmC t⟩,.nil⟩=some (.exit 0,mk [(5,.int .i64 (qln t m-1))],⟨1,Tr.nil.set 0 ⟨0,0,tmC t⟩,.nil⟩):=by
 intro l2
 induction l2 with
 |nil=>
  intro l1 c F h1 h2 h3 h4
  obtain⟨k,rfl⟩:=qam (f:=fun _ _=>none) (n:=F) (by omega)
  rw[List.append_nil] at h1
  have hlt:((l1.length:Int)<(t.args.length:Int))=False:=by rw[h1];simp
  have hc:c=qln t m-1:=by rw[h3,qln,qbk,h1];omega
  rw[qad]
  simp (maxSteps:=1000000) (disch:=omega) only[qjv,qf6,↓axP,axQ,seval,qaa,qab,tX,hlt,List.length_map]
  rw[hc]
 |cons x l2 ih=>
  intro l1 c F h1 h2 h3 h4
  obtain⟨k,rfl⟩:=qam (f:=fun _ _=>none) (n:=F) (by omega)
  have hR:l1.length+1≤1000:=by rw[h1] at hl;simp at hl;omega
  have hlt:((l1.length:Int)<(t.args.length:Int))=True:=eq_true (by rw[h1];simp;omega)
  have hget:(t.args.map tmC)[l1.length]? = some (tmC x):=by rw[h1];simp
  have hi:(0:Int)≤(l1.length:Int):=by omega
  have hr:=qqq (f:=qln) (m:=m-1) (h2 x (List.mem_cons_self ..)) (by omega)
  have hrz:qln x (m-1)=min (x.height:Int) (m-1+1):=rfl
  have w1:IntKind.i64.wrap (m-1)=m-1:=by rw[wrap_i64]<;>omega
  have w3:IntKind.i64.wrap ((l1.length:Int)+1)=(l1.length:Int)+1:=by rw[wrap_i64]<;>omega
  have hhs:Tm.heights (l1++[x])=max (Tm.heights l1) x.height:=by rw[qe7];simp[Tm.heights]
  have hls:(l1++[x]).length=l1.length+1:=by simp
  by_cases hgt:c<qln x (m-1)
  ·have hgt':(c<qln x (m-1))=True:=eq_true hgt
   have IH:=ih (l1++[x]) (qln x (m-1)) k (by simp[h1]) (fun y hy=>h2 y (List.mem_cons_of_mem _ hy)) (by rw[hhs];omega) (by simp at h4;omega)
   rw[hls] at IH
   simp only[Int.natCast_add,Int.natCast_one] at IH
   rw[qad]
   simp (maxSteps:=1000000) (disch:=omega) only[qjv,qf6,↓axP,axQ,seval,qaa,qab,tX,hlt,hi,hget,hgt',Int.toNat_natCast,List.length_map,hr,w1,w3,IH]
  ·have hgt':(c<qln x (m-1))=False:=eq_false hgt
   have IH:=ih (l1++[x]) c k (by simp[h1]) (fun y hy=>h2 y (List.mem_cons_of_mem _ hy)) (by rw[hhs];omega) (by simp at h4;omega)
   rw[hls] at IH
   simp only[Int.natCast_add,Int.natCast_one] at IH
   rw[qad]
   simp (maxSteps:=1000000) (disch:=omega) only[qjv,qf6,↓axP,axQ,seval,qaa,qab,tX,hlt,hi,hget,hgt',Int.toNat_natCast,List.length_map,hr,w1,w3,IH]
theorem rdp_step{n:Nat}(hs:HookOne Tryz.prog 124 (qae (qte n qln))):HookOne Tryz.prog 124 (qae (qte (n+1) qln)):=by
 refine HookOne.ofPureF (by decide +kernel) fun args y h H=>?_
 have hl:∀e∈[(124,qae (qte n qln))],HookOne Tryz.prog e.1 e.2:=by
  intro e he;simp at he;subst he;exact hs
 unfold qte at h;split at h
 ·rename_i x m
  rw[Option.bind_eq_some_iff] at h
  obtain⟨t,h1,h2⟩:=h
  obtain⟨⟨hc,hm⟩,h3⟩:=qau h2
  cases h3
  obtain rfl:=qbr h1
  refine ACalls.ofRun hl mixed (draws _ rfl) qz2 rfl (by simp[qa2,qas,qba]) (t.args.length+1) ?_ H
  unfold tmA
  have hp:=qbo t
  by_cases h0:m≤0
  ·have h0':(m≤0)=True:=eq_true h0
   have:qln t m=1:=by unfold qln;omega
   rw[this]
   simp (maxSteps:=1000000) (disch:=omega) only[qu4,qak,↓axP,axQ,seval,qaa,qab,tX,h0']
   exact Ans.some (.pure rfl)
  ·have h0':(m≤0)=False:=eq_false h0
   have k1:=rdp_loop (n:=n) (t.args.length+1) t hc.2.args.1 m (by omega) t.args [] 0 (t.args.length+1) rfl (qnz hc.1 hc.2) (by simp only[Tm.heights];omega) (Nat.lt_succ_self _)
   have hrz:qln t m=min (t.height:Int) (m+1):=rfl
   have hw:IntKind.i64.wrap (qln t m-1+1)=qln t m:=by rw[wrap_i64]<;>omega
   simp (maxSteps:=1000000) (disch:=omega) only[↓axP,axQ,seval,qaa,qab] at k1
   simp (maxSteps:=1000000) (disch:=omega) only[qu4,qak,↓axP,axQ,seval,qaa,qab,tX,h0',k1,hw]
   exact Ans.some (.pure rfl)
 ·cases h
theorem rdp_any:∀n,HookOne Tryz.prog 124 (qae (qte n qln)):=qj9 _ (fun h=>rdp_step h) (lv2S_0 _) (by decide +kernel)
end
section
open Go Go.Abs Go.RowKit
attribute [local congr] qai qaj qag
theorem rch_loop{n:Nat}(F0:Nat)(t:Tm)(hl:t.name.length≤64):∀(l2 l1:List UInt8) (F:Nat),t.name=l1++l2→l2.length<F →
  iter (ycode (tcall [(125,qae (lvS n (fun _=>True) fun t=>.bool t.allG))]) F0 qma) F (mk [(1,.ptr 0 0 0),(3,.int .i64 l1.length)]) ⟨1,Tr.nil.set 0 ⟨0,0,tmC t⟩,.nil⟩=if l2.all gch=true then some (.exit 1,mk [(1,.ptr 0 0 0)],⟨1,Tr.nil.set 0 ⟨0,0,tmC t⟩,.nil⟩) else some (.ret,mk [(2,.bool false)],⟨1,Tr.nil.set 0 ⟨0,0,tmC t⟩,.nil⟩):=by
 intro l2
 induction l2 with
 |nil=>
  intro l1 F h1 h4
  obtain⟨k,rfl⟩:=qam (f:=fun _ _=>none) (n:=F) (by omega)
  rw[List.append_nil] at h1
  have hlt:((l1.length:Int)<(t.name.length:Int))=False:=by rw[h1];simp
  rw[qad]
  simp (maxSteps:=1000000) (disch:=omega) only[qdl,qc3,↓axP,axQ,seval,qaa,qab,tX,hlt,List.all_nil]
 |cons c l2 ih=>
  intro l1 F h1 h4
  obtain⟨k,rfl⟩:=qam (f:=fun _ _=>none) (n:=F) (by omega)
  have hR:l1.length+1≤64:=by rw[h1] at hl;simp at hl;omega
  have hlt:((l1.length:Int)<(t.name.length:Int))=True:=eq_true (by rw[h1];simp;omega)
  have hget:t.name[l1.length]? = some c:=by rw[h1];simp
  have hi:(0:Int)≤(l1.length:Int):=by omega
  have w3:IntKind.i64.wrap ((l1.length:Int)+1)=(l1.length:Int)+1:=by rw[wrap_i64]<;>omega
  have IH:=ih (l1++[c]) k (by simp[h1]) (by simp at h4;omega)
  have hls:(l1++[c]).length=l1.length+1:=by simp
  rw[hls] at IH
  simp only[Int.natCast_add,Int.natCast_one] at IH
  rw[qad,List.all_cons,q6i]
  by_cases c1:(c.toNat:Int)=9
  ·simp (maxSteps:=1000000) (disch:=omega) only[qdl,qc3,↓axP,axQ,seval,qaa,qab,tX,hlt,hi,hget,Int.toNat_natCast,w3,c1,IH,bne_self_eq_false,Bool.false_and,Bool.and_false,Bool.not_false,Bool.true_and]
  ·have c1':((c.toNat:Int) != 9)=true:=by simpa[bne_iff_ne] using c1
   by_cases c2:(c.toNat:Int)=10
   ·simp (maxSteps:=1000000) (disch:=omega) only[qdl,qc3,↓axP,axQ,seval,qaa,qab,tX,hlt,hi,hget,Int.toNat_natCast,w3,c2,IH,bne_self_eq_false,Bool.false_and,Bool.and_false,Bool.not_false,Bool.true_and]
   ·have c2':((c.toNat:Int) != 10)=true:=by simpa[bne_iff_ne] using c2
    by_cases c3:(c.toNat:Int)<32
    ·simp (maxSteps:=1000000) (disch:=omega) only[qdl,qc3,↓axP,axQ,seval,qaa,qab,tX,hlt,hi,hget,Int.toNat_natCast,w3,c1,c2,c1',c2',c3,decide_true,Bool.true_or,Bool.and_true,Bool.not_true,Bool.false_and,Bool.false_eq_true]
    ·by_cases c4:(126:Int)<(c.toNat:Int)
     ·simp (maxSteps:=1000000) (disch:=omega) only[qdl,qc3,↓axP,axQ,seval,qaa,qab,tX,hlt,hi,hget,Int.toNat_natCast,w3,c1,c2,c1',c2',c3,c4,decide_true,decide_false,Bool.false_or,Bool.and_true,Bool.not_true,Bool.false_and,Bool.false_eq_true]
     ·simp (maxSteps:=1000000) (disch:=omega) only[qdl,qc3,↓axP,axQ,seval,qaa,qab,tX,hlt,hi,hget,Int.toNat_natCast,w3,c1,c2,c1',c2',c3,c4,decide_false,Bool.false_or,Bool.false_and,Bool.not_false,Bool.true_and,IH]
theorem rar_loop{n:Nat}(F0:Nat)(t:Tm)(hl:t.args.length≤1000):∀(l2 l1:List Tm) (F:Nat),t.args=l1++l2→(∀x∈l2,x.height≤n∧Fine 1000 x)→l2.length<F →
  iter (ycode (tcall [(125,qae (lvS n (fun _=>True) fun t=>.bool t.allG))]) F0 ql9) F (mk [(1,.ptr 0 0 0),(5,.int .i64 l1.length)]) ⟨1,Tr.nil.set 0 ⟨0,0,tmC t⟩,.nil⟩=if Tm.allsG l2=true then some (.exit 3,mk [],⟨1,Tr.nil.set 0 ⟨0,0,tmC t⟩,.nil⟩) else some (.ret,mk [(2,.bool false)],⟨1,Tr.nil.set 0 ⟨0,0,tmC t⟩,.nil⟩):=by
 intro l2
 induction l2 with
 |nil=>
  intro l1 F h1 h2 h4
  obtain⟨k,rfl⟩:=qam (f:=fun _ _=>none) (n:=F) (by omega)
  rw[List.append_nil] at h1
  have hlt:((l1.length:Int)<(t.args.length:Int))=False:=by rw[h1];simp
  rw[qad]
  simp (maxSteps:=1000000) (disch:=omega) only[qh0,qfa,↓axP,axQ,seval,qaa,qab,tX,hlt,List.length_map,Tm.allsG]
 |cons x l2 ih=>
  intro l1 F h1 h2 h4
  obtain⟨k,rfl⟩:=qam (f:=fun _ _=>none) (n:=F) (by omega)
  have hR:l1.length+1≤1000:=by rw[h1] at hl;simp at hl;omega
  have hlt:((l1.length:Int)<(t.args.length:Int))=True:=eq_true (by rw[h1];simp;omega)
  have hget:(t.args.map tmC)[l1.length]? = some (tmC x):=by rw[h1];simp
  have hi:(0:Int)≤(l1.length:Int):=by omega
  have w3:IntKind.i64.wrap ((l1.length:Int)+1)=(l1.length:Int)+1:=by rw[wrap_i64]<;>omega
  have hr:=lvS_eq (q:=fun _=>True) (f:=fun t=>.bool t.allG) (h2 x (List.mem_cons_self ..)) trivial
  have IH:=ih (l1++[x]) k (by simp[h1]) (fun y hy=>h2 y (List.mem_cons_of_mem _ hy)) (by simp at h4;omega)
  have hls:(l1++[x]).length=l1.length+1:=by simp
  rw[hls] at IH
  simp only[Int.natCast_add,Int.natCast_one] at IH
  rw[qad]
  cases hx:x.allG with
  |true=>
   rw[hx] at hr
   simp (maxSteps:=1000000) (disch:=omega) only[qh0,qfa,↓axP,axQ,seval,qaa,qab,tX,hlt,hi,hget,Int.toNat_natCast,List.length_map,hr,w3,IH,Tm.allsG,hx,Bool.true_and]
  |false=>
   rw[hx] at hr
   simp (maxSteps:=1000000) (disch:=omega) only[qh0,qfa,↓axP,axQ,seval,qaa,qab,tX,hlt,hi,hget,Int.toNat_natCast,List.length_map,hr,w3,Tm.allsG,hx,Bool.false_and,Bool.false_eq_true]
set_option maxHeartbeats 1000000 in
theorem rfo_step{n:Nat}(hs:HookOne Tryz.prog 125 (qae (lvS n (fun _=>True) fun t=>.bool t.allG))):HookOne Tryz.prog 125 (qae (lvS (n+1) (fun _=>True) fun t=>.bool t.allG)):=by
 refine HookOne.ofPureF (by decide +kernel) fun args y h H=>?_
 have hl:∀e∈[(125,qae (lvS n (fun _=>True) fun t=>.bool t.allG))],HookOne Tryz.prog e.1 e.2:=by
  intro e he;simp at he;subst he;exact hs
 unfold lvS at h;split at h
 ·rename_i x
  rw[Option.bind_eq_some_iff] at h
  obtain⟨t,h1,h2⟩:=h
  obtain⟨⟨hc,-⟩,h3⟩:=qau h2
  cases h3
  obtain rfl:=qbr h1
  refine ACalls.ofRun hl mixed (draws _ rfl) qu3 rfl (by simp[qa2,qas,qba]) (t.args.length+65) ?_ H
  show Ans _ (.bool t.allG)
  rw[qfz]
  unfold tmA qdh
  have hn0:∀s:List UInt8,(s==[])=s.isEmpty:=fun s=>by cases s<;>rfl
  by_cases k0:t.kind=0
  ·by_cases n0:0≤t.num
   ·by_cases n1:t.num≤2147483647
    ·have n1':(t.num<2147483648)=True:=eq_true (by omega)
     cases hs:t.name.isEmpty with
     |true=>
      have hs':(t.name==[])=true:=by rw[hn0,hs]
      by_cases ha:t.args.length=0
      ·have ha':t.args=[]:=List.eq_nil_of_length_eq_zero ha
       simp (maxSteps:=1000000) (disch:=omega) only[qbt,qaf,↓axP,axQ,seval,qaa,qab,tX,k0,n0,n1,n1',hs,hs',ha',List.map_nil,List.length_nil,Tm.allsG]
       exact Ans.some (.pure rfl)
      ·have ha':((t.args.length:Int)=0)=False:=eq_false (by omega)
       simp (maxSteps:=1000000) (disch:=omega) only[qbt,qaf,↓axP,axQ,seval,qaa,qab,tX,k0,n0,n1,n1',hs,hs',ha,ha',List.length_map]
       exact Ans.some (.pure rfl)
     |false=>
      have hs':(t.name==[])=false:=by rw[hn0,hs]
      simp (maxSteps:=1000000) (disch:=omega) only[qbt,qaf,↓axP,axQ,seval,qaa,qab,tX,k0,n0,n1,n1',hs,hs']
      exact Ans.some (.pure rfl)
    ·have n1':(t.num<2147483648)=False:=eq_false (by omega)
     simp (maxSteps:=1000000) (disch:=omega) only[qbt,qaf,↓axP,axQ,seval,qaa,qab,tX,k0,n0,n1,n1']
     exact Ans.some (.pure rfl)
   ·simp (maxSteps:=1000000) (disch:=omega) only[qbt,qaf,↓axP,axQ,seval,qaa,qab,tX,k0,n0]
    exact Ans.some (.pure rfl)
  ·by_cases k1:t.kind=1
   ·cases hs:t.name.isEmpty with
    |true=>
     have hs':(t.name==[])=true:=by rw[hn0,hs]
     by_cases ha:t.args.length=0
     ·have ha':t.args=[]:=List.eq_nil_of_length_eq_zero ha
      simp (maxSteps:=1000000) (disch:=omega) only[qbt,qaf,↓axP,axQ,seval,qaa,qab,tX,k0,k1,hs,hs',ha',List.map_nil,List.length_nil,Tm.allsG]
      exact Ans.some (.pure rfl)
     ·have ha':((t.args.length:Int)=0)=False:=eq_false (by omega)
      simp (maxSteps:=1000000) (disch:=omega) only[qbt,qaf,↓axP,axQ,seval,qaa,qab,tX,k0,k1,hs,hs',ha,ha',List.length_map]
      exact Ans.some (.pure rfl)
    |false=>
     have hs':(t.name==[])=false:=by rw[hn0,hs]
     simp (maxSteps:=1000000) (disch:=omega) only[qbt,qaf,↓axP,axQ,seval,qaa,qab,tX,k0,k1,hs,hs']
     exact Ans.some (.pure rfl)
   ·by_cases k2:t.kind=2
    ·have z0:((2:Int)=0)=False:=by simp
     have z1:((2:Int)=1)=False:=by simp
     unfold gname
     by_cases n0:t.num=0
     ·by_cases hs:t.name.length≤64
      ·have hs':((64:Int)<(t.name.length:Int))=False:=eq_false (by omega)
       by_cases ha:t.args.length≤8
       ·have ha':((8:Int)<(t.args.length:Int))=False:=eq_false (by omega)
        have k3:=rch_loop (n:=n) (t.args.length+65) t hs t.name [] (t.args.length+65) rfl (by omega)
        have k4:=rar_loop (n:=n) (t.args.length+65) t hc.2.args.1 t.args [] (t.args.length+65) rfl (qnz hc.1 hc.2) (by omega)
        simp (maxSteps:=1000000) (disch:=omega) only[↓axP,axQ,seval,qaa,qab] at k3 k4
        cases hc1:t.name.all gch with
        |false=>
         rw[hc1] at k3
         simp only[Bool.false_eq_true,if_false] at k3
         simp (maxSteps:=1000000) (disch:=omega) only[qbt,qaf,↓axP,axQ,seval,qaa,qab,tX,z0,z1,k2,n0,hs,hs',ha,ha',List.length_map,k3]
         exact Ans.some (.pure rfl)
        |true=>
         rw[hc1] at k3
         simp only[if_true] at k3
         cases hc2:Tm.allsG t.args with
         |false=>
          rw[hc2] at k4
          simp only[Bool.false_eq_true,if_false] at k4
          simp (maxSteps:=1000000) (disch:=omega) only[qbt,qaf,↓axP,axQ,seval,qaa,qab,tX,z0,z1,k2,n0,hs,hs',ha,ha',List.length_map,k3,k4]
          exact Ans.some (.pure rfl)
         |true=>
          rw[hc2] at k4
          simp only[if_true] at k4
          simp (maxSteps:=1000000) (disch:=omega) only[qbt,qaf,↓axP,axQ,seval,qaa,qab,tX,z0,z1,k2,n0,hs,hs',ha,ha',List.length_map,k3,k4]
          exact Ans.some (.pure rfl)
       ·have ha':((8:Int)<(t.args.length:Int))=True:=eq_true (by omega)
        simp (maxSteps:=1000000) (disch:=omega) only[qbt,qaf,↓axP,axQ,seval,qaa,qab,tX,z0,z1,k2,n0,hs,hs',ha,ha',List.length_map]
        exact Ans.some (.pure rfl)
      ·have hs':((64:Int)<(t.name.length:Int))=True:=eq_true (by omega)
       simp (maxSteps:=1000000) (disch:=omega) only[qbt,qaf,↓axP,axQ,seval,qaa,qab,tX,z0,z1,k2,n0,hs,hs']
       exact Ans.some (.pure rfl)
     ·simp (maxSteps:=1000000) (disch:=omega) only[qbt,qaf,↓axP,axQ,seval,qaa,qab,tX,z0,z1,k2,n0]
      exact Ans.some (.pure rfl)
    ·simp (maxSteps:=1000000) (disch:=omega) only[qbt,qaf,↓axP,axQ,seval,qaa,qab,tX,k0,k1,k2]
     exact Ans.some (.pure rfl)
 ·cases h
theorem rfo_any:∀n,HookOne Tryz.prog 125 (qae (lvS n (fun _=>True) fun t=>.bool t.allG)):=qj9 _ (fun h=>rfo_step h) (lvS_0 _ _) (by decide +kernel)
theorem qhd:HookOne Tryz.prog 80 (qae qfj):=by
 refine HookOne.ofPureF (by decide +kernel) fun args y h H=>?_
 unfold qfj at h
 split at h
 ·rename_i x
  rw[Option.bind_eq_some_iff] at h
  obtain⟨t,h1,h2⟩:=h
  obtain⟨hf,h3⟩:=qau h2
  cases h3
  obtain rfl:=qbr h1
  have hl:∀e∈[(123,qae (qte t.height qok)),(124,qae (qte t.height qln)),(125,qae (lvS t.height (fun _=>True) fun t=>.bool t.allG))],HookOne Tryz.prog e.1 e.2:=by
   intro e he
   simp only[List.mem_cons,List.not_mem_nil,or_false] at he
   rcases he with rfl|rfl|rfl
   ·exact rsz_any _
   ·exact rdp_any _
   ·exact rfo_any _
  refine ACalls.ofRun hl mixed (draws _ rfl) q2n rfl (by simp[qa2,qas,qba]) 0 ?_ H
  have r1:=qqq (f:=qok) (m:=2000) (t:=t) ⟨Nat.le_refl _,hf⟩ (by omega)
  have r2:=qqq (f:=qln) (m:=64) (t:=t) ⟨Nat.le_refl _,hf⟩ (by omega)
  have r3:=lvS_eq (q:=fun _=>True) (f:=fun t=>.bool t.allG) (t:=t) ⟨Nat.le_refl _,hf⟩ trivial
  have z1:qok t 2000=min (t.size:Int) 2001:=rfl
  have z2:qln t 64=min (t.height:Int) 65:=rfl
  unfold tmA Tm.good
  by_cases g1:t.size≤2000
  ·have g1':(qok t 2000≤2000)=True:=eq_true (by omega)
   by_cases g2:t.height≤64
   ·have g2':(qln t 64≤64)=True:=eq_true (by omega)
    simp (maxSteps:=1000000) (disch:=omega) only[qw9,qaf,↓axP,axQ,seval,qaa,qab,tX,r1,r2,r3,g1,g1',g2,g2',decide_true,Bool.true_and]
    exact Ans.some (.pure rfl)
   ·have g2':(qln t 64≤64)=False:=eq_false (by omega)
    simp (maxSteps:=1000000) (disch:=omega) only[qw9,qaf,↓axP,axQ,seval,qaa,qab,tX,r1,r2,r3,g1,g1',g2,g2',decide_true,decide_false,Bool.and_false,Bool.false_and]
    exact Ans.some (.pure rfl)
  ·have g1':(qok t 2000≤2000)=False:=eq_false (by omega)
   simp (maxSteps:=1000000) (disch:=omega) only[qw9,qaf,↓axP,axQ,seval,qaa,qab,tX,r1,r2,r3,g1,g1',decide_false,Bool.false_and]
   exact Ans.some (.pure rfl)
 ·cases h
end
section
open Go Go.Abs Go.RowKit
attribute [local congr] qai qaj qag
def qe2(a b:Int):Bool:=decide (orI a b=b)
noncomputable def q4e:List AV→Option AV
 |[.int .u64 a,.int .u64 b]=>some (.bool (qe2 a b))
 |_=>none
theorem qqb(a b:Int):q4e [.int .u64 a,.int .u64 b]=some (.bool (qe2 a b)):=rfl
theorem qx1:HookOne Tryz.prog 47 (qae q4e):=by
 refine HookOne.ofPureF (by decide +kernel) fun args y h H=>?_
 unfold q4e at h;split at h
 ·rename_i a b
  cases h
  refine ACalls.ofRun (l:=[]) (by simp) mixed (draws _ rfl) yRLeq_ok rfl (by rfl) 0 ?_ H
  simp (maxSteps:=1000000) (disch:=omega) only[yRLeq,qak,↓axP,axQ,seval,qaa,qab,tX,b_or]
  exact Ans.some (.pure rfl)
 ·cases h
theorem q33(F0:Nat)(nm:List UInt8)(hl:nm.length≤64)(p1 p5:AV)(H:AH):∀(l2 l1:List UInt8) (F:Nat),nm=l1++l2→l2.length<F →
  iter (ycode (tcall []) F0 q2l) F (mk [(0,.str nm),(1,p1),(5,p5),(6,.int .i64 l1.length)]) H=if l2.any (fun c=>decide (c=32))=true then some (.ret,mk [(4,.bool false)],H) else some (.exit 0,mk [(0,.str nm),(1,p1),(5,p5)],H):=by
 intro l2
 induction l2 with
 |nil=>
  intro l1 F h1 h4
  obtain⟨k,rfl⟩:=qam (f:=fun _ _=>none) (n:=F) (by omega)
  rw[List.append_nil] at h1
  have hlt:((l1.length:Int)<(nm.length:Int))=False:=by rw[h1];simp
  rw[qad]
  simp (maxSteps:=1000000) (disch:=omega) only[qpq,ql6,↓axP,axQ,seval,qaa,qab,tX,hlt,List.any_nil]
 |cons c l2 ih=>
  intro l1 F h1 h4
  obtain⟨k,rfl⟩:=qam (f:=fun _ _=>none) (n:=F) (by omega)
  have hR:l1.length+1≤64:=by rw[h1] at hl;simp at hl;omega
  have hlt:((l1.length:Int)<(nm.length:Int))=True:=eq_true (by rw[h1];simp;omega)
  have hget:nm[l1.length]? = some c:=by rw[h1];simp
  have hi:(0:Int)≤(l1.length:Int):=by omega
  have w3:IntKind.i64.wrap ((l1.length:Int)+1)=(l1.length:Int)+1:=by rw[wrap_i64]<;>omega
  have IH:=ih (l1++[c]) k (by simp[h1]) (by simp at h4;omega)
  have hls:(l1++[c]).length=l1.length+1:=by simp
  rw[hls] at IH
  simp only[Int.natCast_add,Int.natCast_one] at IH
  rw[qad,List.any_cons]
  have hc32:((c.toNat:Int)=32)=(c=32):=by
   apply propext
   constructor
   ·intro h;exact UInt8.toNat_inj.1 (by show c.toNat=32;omega)
   ·rintro rfl;rfl
  by_cases hc:c=32
  ·simp (maxSteps:=1000000) (disch:=omega) only[qpq,ql6,↓axP,axQ,seval,qaa,qab,tX,hlt,hi,hget,Int.toNat_natCast,w3,hc32,hc,IH,decide_true,Bool.true_or]
  ·simp (maxSteps:=1000000) (disch:=omega) only[qpq,ql6,↓axP,axQ,seval,qaa,qab,tX,hlt,hi,hget,Int.toNat_natCast,w3,hc32,hc,IH,decide_false,Bool.false_or]
theorem q32(F0:Nat)(nm s:List UInt8)(hl:nm.length≤64)(hs:s.length≤1000)(H:AH):∀(n i F:Nat),s.length<i+n→i≤s.length→n<F →
  iter (ycode (tcall []) F0 q2k) F (mk [(0,.str nm),(7,.str s),(8,.int .i64 i)]) H=if qqg s nm n i=true then some (.ret,mk [(4,.bool true)],H) else some (.exit 2,mk [],H):=by
 intro n
 induction n with
 |zero=>intro i F h1 h2;omega
 |succ n ih=>
  intro i F h1 h2 h4
  obtain⟨k,rfl⟩:=qam (f:=fun _ _=>none) (n:=F) (by omega)
  have w1:IntKind.i64.wrap ((i:Int)+(nm.length:Int))=(i:Int)+nm.length:=by rw[wrap_i64]<;>omega
  have w2:IntKind.i64.wrap ((i:Int)+(nm.length:Int)+2)=(i:Int)+nm.length+2:=by rw[wrap_i64]<;>omega
  rw[qad]
  unfold qqg
  by_cases hle:i+nm.length+2≤s.length
  ·have hle':((i:Int)+(nm.length:Int)+2≤(s.length:Int))=True:=eq_true (by omega)
   rw[if_pos hle]
   have w3:IntKind.i64.wrap ((i:Int)+1)=(i:Int)+1:=by rw[wrap_i64]<;>omega
   have w4:IntKind.i64.wrap ((i:Int)+1+(nm.length:Int))=(i:Int)+1+(nm.length:Int):=by rw[wrap_i64]<;>omega
   have hi:(0:Int)≤(i:Int):=by omega
   have hi1:(0:Int)≤(i:Int)+1:=by omega
   have hi2:(0:Int)≤(i:Int)+1+(nm.length:Int):=by omega
   have t1:((i:Int)+1).toNat=i+1:=by omega
   have t2:((i:Int)+1+(nm.length:Int)).toNat=i+1+nm.length:=by omega
   have g1:s[i]? = some (s[i]'(by omega)):=List.getElem?_eq_getElem (by omega)
   have g2:s[i+1+nm.length]? = some (s[i+1+nm.length]'(by omega)):=List.getElem?_eq_getElem (by omega)
   have IH:=ih (i+1) k (by omega) (by omega) (by omega)
   simp only[Int.natCast_add,Int.natCast_one] at IH
   rw[g1,g2,Option.getD_some,Option.getD_some]
   generalize s[i]'(by omega)=a at g1
   generalize s[i+1+nm.length]'(by omega)=b at g2
   have ha32:((a.toNat:Int)=32)=(a=32):=by
    apply propext
    constructor
    ·intro h;exact UInt8.toNat_inj.1 (by show a.toNat=32;omega)
    ·rintro rfl;rfl
   have hb32:((b.toNat:Int)=32)=(b=32):=by
    apply propext
    constructor
    ·intro h;exact UInt8.toNat_inj.1 (by show b.toNat=32;omega)
    ·rintro rfl;rfl
   have e1:i+1≤i+1+nm.length∧i+1+nm.length≤s.length:=by omega
   have e2:i+1+nm.length-(i+1)=nm.length:=by omega
   by_cases c1:a=32
   ·by_cases c2:List.take nm.length (List.drop (i+1) s)=nm
    ·have c2':(List.take nm.length (List.drop (i+1) s)==nm)=true:=by simpa using c2
     by_cases c3:b=32
     ·by_cases c4:nm=[]
      ·have c4':(nm==([]:List UInt8))=true:=by simp[c4]
       rw[show (if a=32∧List.take nm.length (List.drop (i+1) s)=nm∧b=32∧nm≠[] then true else qqg s nm n (i+1))=qqg s nm n (i+1) from if_neg (fun h=>h.2.2.2 c4)]
       simp (maxSteps:=1000000) (disch:=omega) only[qg7,qf5,↓axP,axQ,seval,qaa,qab,tX,w1,w2,w3,w4,hle',hi,hi1,hi2,g1,g2,Int.toNat_natCast,ha32,hb32,c1,c2',c3,c4',e1,e2,t1,t2,qfc,IH]
      ·have c4':(nm==([]:List UInt8))=false:=by simpa using c4
       rw[show (if a=32∧List.take nm.length (List.drop (i+1) s)=nm∧b=32∧nm≠[] then true else qqg s nm n (i+1))=true from if_pos ⟨c1,c2,c3,c4⟩]
       simp (maxSteps:=1000000) (disch:=omega) only[qg7,qf5,↓axP,axQ,seval,qaa,qab,tX,w1,w2,w3,w4,hle',hi,hi1,hi2,g1,g2,Int.toNat_natCast,ha32,hb32,c1,c2',c3,c4',e1,e2,t1,t2,qfc,IH]
     ·rw[show (if a=32∧List.take nm.length (List.drop (i+1) s)=nm∧b=32∧nm≠[] then true else qqg s nm n (i+1))=qqg s nm n (i+1) from if_neg (fun h=>c3 h.2.2.1)]
      simp (maxSteps:=1000000) (disch:=omega) only[qg7,qf5,↓axP,axQ,seval,qaa,qab,tX,w1,w2,w3,w4,hle',hi,hi1,hi2,g1,g2,Int.toNat_natCast,ha32,hb32,c1,c2',c3,e1,e2,t1,t2,qfc,IH]
    ·have c2':(List.take nm.length (List.drop (i+1) s)==nm)=false:=by simpa using c2
     rw[show (if a=32∧List.take nm.length (List.drop (i+1) s)=nm∧b=32∧nm≠[] then true else qqg s nm n (i+1))=qqg s nm n (i+1) from if_neg (fun h=>c2 h.2.1)]
     simp (maxSteps:=1000000) (disch:=omega) only[qg7,qf5,↓axP,axQ,seval,qaa,qab,tX,w1,w2,w3,w4,hle',hi,hi1,hi2,g1,g2,Int.toNat_natCast,ha32,hb32,c1,c2',e1,e2,t1,t2,qfc,IH]
   ·rw[show (if a=32∧List.take nm.length (List.drop (i+1) s)=nm∧b=32∧nm≠[] then true else qqg s nm n (i+1))=qqg s nm n (i+1) from if_neg (fun h=>c1 h.1)]
    simp (maxSteps:=1000000) (disch:=omega) only[qg7,qf5,↓axP,axQ,seval,qaa,qab,tX,w1,w2,w3,w4,hle',hi,hi1,hi2,g1,g2,Int.toNat_natCast,ha32,c1,e1,e2,t1,t2,qfc,IH]
  ·have hle':((i:Int)+(nm.length:Int)+2≤(s.length:Int))=False:=eq_false (by omega)
   rw[if_neg hle]
   simp (maxSteps:=1000000) (disch:=omega) only[qg7,qf5,↓axP,axQ,seval,qaa,qab,tX,w1,w2,hle']
noncomputable def rppS:List AV→Option AV
 |[.str nm,.int .i64 (.ofNat ar)]=>only (nm.length≤64∧ar≤8) (some (.bool (ppP nm ar)))
 |_=>none
theorem rppS_eq{nm:List UInt8}{ar:Nat}(h:nm.length≤64∧ar≤8):rppS [.str nm,.int .i64 (ar:Int)]=some (.bool (ppP nm ar)):=qa0 h _
set_option maxRecDepth 10000 in
set_option maxHeartbeats 2000000 in
theorem rpp_one:HookOne Tryz.prog 82 (qae rppS):=by
 refine HookOne.ofPureF (by decide +kernel) fun args y h H=>?_
 unfold rppS at h;split at h
 ·rename_i nm ar
  obtain⟨⟨hl,ha⟩,h3⟩:=qau h
  cases h3
  refine ACalls.ofRun (l:=[]) (by simp) mixed (draws _ rfl) yRPlP_ok rfl (by rfl) 1000 ?_ H
  have hcast:Int.ofNat ar=(ar:Int):=rfl
  rw[hcast]
  have hA:=fun p1 p5 H=>q33 1000 nm hl p1 p5 H nm [] 1000 rfl (by omega)
  simp (maxSteps:=1000000) (disch:=omega) only[↓axP,axQ,seval,qaa,qab] at hA
  have hB:=fun j (hj:(qn5 j).length≤900) H=>q32 1000 nm (qn5 j) hl (by omega) H ((qn5 j).length+1) 0 1000 (by omega) (by omega) (by omega)
  have h5:(5≤ar)∨ar=0∨ar=1∨ar=2∨ar=3∨ar=4:=by omega
  have hn0:((ar:Int)<0)=False:=eq_false (by omega)
  rcases h5 with h5|h5
  ·have h5':((5:Int)≤(ar:Int))=True:=eq_true (by omega)
   have:ppP nm ar=false:=by unfold ppP;rw[if_pos h5]
   rw[this]
   simp (maxSteps:=1000000) (disch:=omega) only[qr5,qak,↓axP,axQ,seval,qaa,qab,tX,hn0,h5']
   exact Ans.some (.pure rfl)
  ·have h5':((5:Int)≤(ar:Int))=False:=eq_false (by omega)
   have hP:ppP nm ar=if nm.any (fun c=>decide (c=32))=true then false else qqg (qn5 ar) nm ((qn5 ar).length+1) 0:=by unfold ppP;rw[if_neg (by omega)]
   rw[hP]
   cases hsp:nm.any (fun c=>decide (c=32)) with
   |true=>
    rw[hsp] at hA
    simp (maxSteps:=1000000) (disch:=omega) only[↓axP,axQ,seval,qaa,qab] at hA
    simp (maxSteps:=1000000) (disch:=omega) only[qr5,qak,↓axP,axQ,seval,qaa,qab,tX,hn0,h5',hA]
    exact Ans.some (.pure rfl)
   |false=>
    rw[hsp] at hA
    simp only[Bool.false_eq_true,if_false] at hA ⊢
    rcases h5 with rfl|rfl|rfl|rfl|rfl
    ·have hb:=hB 0 (by decide)
     cases hg:qqg (qn5 0) nm ((qn5 0).length+1) 0<;>rw[hg] at hb<;>simp only[qn5] at hb<;>simp (maxSteps:=1000000) (disch:=omega) only[↓axP,axQ,seval,qaa,qab] at hb<;>simp (maxSteps:=1000000) (disch:=omega) only[qr5,qak,↓axP,axQ,seval,qaa,qab,tX,hn0,h5',hA,hb]
     all_goals exact Ans.some (.pure rfl)
    ·have hb:=hB 1 (by decide)
     cases hg:qqg (qn5 1) nm ((qn5 1).length+1) 0<;>rw[hg] at hb<;>simp only[qn5] at hb<;>simp (maxSteps:=1000000) (disch:=omega) only[↓axP,axQ,seval,qaa,qab] at hb<;>simp (maxSteps:=1000000) (disch:=omega) only[qr5,qak,↓axP,axQ,seval,qaa,qab,tX,hn0,h5',hA,hb]
     all_goals exact Ans.some (.pure rfl)
    ·have hb:=hB 2 (by decide)
     cases hg:qqg (qn5 2) nm ((qn5 2).length+1) 0<;>rw[hg] at hb<;>simp only[qn5] at hb<;>simp (maxSteps:=1000000) (disch:=omega) only[↓axP,axQ,seval,qaa,qab] at hb<;>simp (maxSteps:=1000000) (disch:=omega) only[qr5,qak,↓axP,axQ,seval,qaa,qab,tX,hn0,h5',hA,hb]
     all_goals exact Ans.some (.pure rfl)
    ·have hb:=hB 3 (by decide)
     cases hg:qqg (qn5 3) nm ((qn5 3).length+1) 0<;>rw[hg] at hb<;>simp only[qn5] at hb<;>simp (maxSteps:=1000000) (disch:=omega) only[↓axP,axQ,seval,qaa,qab] at hb<;>simp (maxSteps:=1000000) (disch:=omega) only[qr5,qak,↓axP,axQ,seval,qaa,qab,tX,hn0,h5',hA,hb]
     all_goals exact Ans.some (.pure rfl)
    ·have hb:=hB 4 (by decide)
     cases hg:qqg (qn5 4) nm ((qn5 4).length+1) 0<;>rw[hg] at hb<;>simp only[qn5] at hb<;>simp (maxSteps:=1000000) (disch:=omega) only[↓axP,axQ,seval,qaa,qab] at hb<;>simp (maxSteps:=1000000) (disch:=omega) only[qr5,qak,↓axP,axQ,seval,qaa,qab,tX,hn0,h5',hA,hb]
     all_goals exact Ans.some (.pure rfl)
 ·cases h
end
section
open Go Go.Abs Go.RowKit
attribute [local congr] qai qaj qag
attribute [local congr] qal
def quk(nm:List UInt8)(ar:Int):Int:=if nm=[112]∧ar=1 then 0 else if nm=[113]∧ar=2 then 1 else if nm=[114]∧ar=0 then 2 else -1
theorem qrj(a b:List UInt8):(a==b)=decide (b=a):=by
 by_cases h:b=a
 ·subst h;simp
 ·have h':¬a=b:=fun e=>h e.symm
  simp[h,h']
noncomputable def qol:List AV→Option AV
 |[x,.str nm,.int .i64 ar]=>only (x=qcd [[97],[98]] qao) (some (.int .i64 (quk nm ar)))
 |_=>none
theorem qmw(nm:List UInt8)(ar:Int):qol [qcd [[97],[98]] qao,.str nm,.int .i64 ar]=some (.int .i64 (quk nm ar)):=qa0 rfl _
set_option maxHeartbeats 2000000 in
theorem qmv:HookOne Tryz.prog 52 (qae qol):=by
 refine HookOne.ofPureF (by decide +kernel) fun args y h H=>?_
 unfold qol at h;split at h
 ·rename_i x nm ar
  obtain⟨rfl,h3⟩:=qau h
  cases h3
  refine ACalls.ofRun (l:=[]) (by simp) mixed (draws _ rfl) q2r rfl (by simp[qa2,qdf,qba]) 10 ?_ H
  have hsv:qcd [[97],[98]] qao=.vptr [.vals 1 [[.str [97]],[.str [98]]],.vals 4 [[.str [112],.int .i64 1,.int .u64 3,.bool false],[.str [113],.int .i64 2,.int .u64 1,.bool true],[.str [114],.int .i64 0,.int .u64 0,.bool false]]] 0:=rfl
  rw[hsv]
  have w1:IntKind.i64.wrap (0+1)=1:=by decide
  have w2:IntKind.i64.wrap (1+1)=2:=by decide
  have w3:IntKind.i64.wrap (2+1)=3:=by decide
  have u1:=qrj [112] nm
  have u2:=qrj [113] nm
  have u3:=qrj [114] nm
  have v1:((1:Int)=ar)=(ar=1):=propext eq_comm
  have v2:((2:Int)=ar)=(ar=2):=propext eq_comm
  have v3:((0:Int)=ar)=(ar=0):=propext eq_comm
  unfold quk
  by_cases c1:nm=[112]
  ·subst c1
   have b2:(([113]:List UInt8)==[112])=false:=by decide
   have b3:(([114]:List UInt8)==[112])=false:=by decide
   have n2:(([112]:List UInt8)=[113])=False:=by simp
   have n3:(([112]:List UInt8)=[114])=False:=by simp
   by_cases d1:ar=1
   ·simp (maxSteps:=1000000) (disch:=omega) only[qko,qb7,↓axP,axQ,seval,qaa,qab,tX,qad,qem,qeb,w1,w2,w3,v1,v2,v3,b2,b3,n2,n3,d1,beq_self_eq_true,true_and,false_and]
    exact Ans.some (.pure rfl)
   ·simp (maxSteps:=1000000) (disch:=omega) only[qko,qb7,↓axP,axQ,seval,qaa,qab,tX,qad,qem,qeb,w1,w2,w3,v1,v2,v3,b2,b3,n2,n3,d1,beq_self_eq_true,true_and,false_and,decide_false]
    exact Ans.some (.pure rfl)
  ·by_cases c2:nm=[113]
   ·subst c2
    have b2:(([112]:List UInt8)==[113])=false:=by decide
    have b3:(([114]:List UInt8)==[113])=false:=by decide
    have n2:(([113]:List UInt8)=[112])=False:=by simp
    have n3:(([113]:List UInt8)=[114])=False:=by simp
    by_cases d1:ar=2
    ·simp (maxSteps:=1000000) (disch:=omega) only[qko,qb7,↓axP,axQ,seval,qaa,qab,tX,qad,qem,qeb,w1,w2,w3,v1,v2,v3,b2,b3,n2,n3,d1,beq_self_eq_true,true_and,false_and]
     exact Ans.some (.pure rfl)
    ·simp (maxSteps:=1000000) (disch:=omega) only[qko,qb7,↓axP,axQ,seval,qaa,qab,tX,qad,qem,qeb,w1,w2,w3,v1,v2,v3,b2,b3,n2,n3,d1,beq_self_eq_true,true_and,false_and,decide_false]
     exact Ans.some (.pure rfl)
   ·by_cases c3:nm=[114]
    ·subst c3
     have b2:(([112]:List UInt8)==[114])=false:=by decide
     have b3:(([113]:List UInt8)==[114])=false:=by decide
     have n2:(([114]:List UInt8)=[112])=False:=by simp
     have n3:(([114]:List UInt8)=[113])=False:=by simp
     by_cases d1:ar=0
     ·simp (maxSteps:=1000000) (disch:=omega) only[qko,qb7,↓axP,axQ,seval,qaa,qab,tX,qad,qem,qeb,w1,w2,w3,v1,v2,v3,b2,b3,n2,n3,d1,beq_self_eq_true,true_and,false_and]
      exact Ans.some (.pure rfl)
     ·simp (maxSteps:=1000000) (disch:=omega) only[qko,qb7,↓axP,axQ,seval,qaa,qab,tX,qad,qem,qeb,w1,w2,w3,v1,v2,v3,b2,b3,n2,n3,d1,beq_self_eq_true,true_and,false_and,decide_false]
      exact Ans.some (.pure rfl)
    ·simp (maxSteps:=1000000) (disch:=omega) only[qko,qb7,↓axP,axQ,seval,qaa,qab,tX,qad,qem,qeb,w1,w2,w3,u1,u2,u3,c1,c2,c3,decide_false,false_and]
     exact Ans.some (.pure rfl)
 ·cases h
theorem qq2(nm:List UInt8)(ar:Int):(qdj qao nm ar=none∧quk nm ar = -1)∨(qdj qao nm ar=some ⟨[112],1,3,false⟩∧quk nm ar=0)∨(qdj qao nm ar=some ⟨[113],2,1,true⟩∧quk nm ar=1)∨(qdj qao nm ar=some ⟨[114],0,0,false⟩∧quk nm ar=2):=by
 have u1:=qrj
 have v1:∀a b:Int,(a=b)=(b=a):=fun a b=>propext eq_comm
 unfold qdj quk qao
 by_cases c1:nm=[112]
 ·subst c1
  by_cases d1:ar=1
  ·subst d1;right;left;exact⟨rfl,rfl⟩
  ·left
   have d1':¬(1:Int)=ar:=fun e=>d1 e.symm
   simp[List.find?_cons,d1,d1']
 ·by_cases c2:nm=[113]
  ·subst c2
   by_cases d1:ar=2
   ·subst d1;right;right;left;exact⟨rfl,rfl⟩
   ·left
    have d1':¬(2:Int)=ar:=fun e=>d1 e.symm
    simp[List.find?_cons,d1,d1']
  ·by_cases c3:nm=[114]
   ·subst c3
    by_cases d1:ar=0
    ·subst d1;right;right;right;exact⟨rfl,rfl⟩
    ·left
     have d1':¬(0:Int)=ar:=fun e=>d1 e.symm
     simp[List.find?_cons,d1,d1']
   ·left
    simp[List.find?_cons,u1,c1,c2,c3]
noncomputable def rsofS:List AV→Option AV
 |[x,z]=>(ofT z).bind fun t=>only (x=qcd [[97],[98]] qao∧Fine 1000 t) (some (.tup [.agg (prC (qhb qao t).1),.int .i64 (qhb qao t).2]))
 |_=>none
theorem rsofS_eq{t:Tm}(h:Fine 1000 t):rsofS [qcd [[97],[98]] qao,.agg (tmC t)]=some (.tup [.agg (prC (qhb qao t).1),.int .i64 (qhb qao t).2]):=by
 show (ofT (tmA t)).bind _=_
 rw[qcc];exact qa0 ⟨rfl,h⟩ _
set_option maxHeartbeats 2000000 in
theorem rsof_one:HookOne Tryz.prog 45 (qae rsofS):=by
 refine HookOne.ofPureF (by decide +kernel) fun args y h H=>?_
 have hl:∀e∈[(80,qae qfj),(82,qae rppS),(52,qae qol)],HookOne Tryz.prog e.1 e.2:=by
  intro e he
  simp only[List.mem_cons,List.not_mem_nil,or_false] at he
  rcases he with rfl|rfl|rfl
  ·exact qhd
  ·exact rpp_one
  ·exact qmv
 unfold rsofS at h;split at h
 ·rename_i x z
  rw[Option.bind_eq_some_iff] at h
  obtain⟨t,h2,h3⟩:=h
  obtain⟨⟨rfl,hf⟩,h4⟩:=qau h3
  cases h4
  obtain rfl:=qbr h2
  refine ACalls.ofRun hl mixed (draws _ rfl) yRSOf_ok rfl (by simp[qa2,qdf,qas]) 0 ?_ H
  have hsv:qcd [[97],[98]] qao=.vptr [.vals 1 [[.str [97]],[.str [98]]],.vals 4 [[.str [112],.int .i64 1,.int .u64 3,.bool false],[.str [113],.int .i64 2,.int .u64 1,.bool true],[.str [114],.int .i64 0,.int .u64 0,.bool false]]] 0:=rfl
  unfold tmA
  cases hg:t.good with
  |false=>
   have:qhb qao t=(zPr,1):=by simp[qhb,hg]
   rw[this,hsv]
   simp (maxSteps:=1000000) (disch:=omega) only[qz1,qak,↓axP,axQ,seval,qaa,qab,tX,qap hf,hg]
   exact Ans.some (.ofTup (.cons (.pure rfl) (.cons (.pure rfl) (.nil _))))
  |true=>
   by_cases k0:t.kind=0
   ·have:qhb qao t=(zPr,6):=by simp[qhb,hg,k0]
    rw[this,hsv]
    simp (maxSteps:=1000000) (disch:=omega) only[qz1,qak,↓axP,axQ,seval,qaa,qab,tX,qap hf,hg,k0]
    exact Ans.some (.ofTup (.cons (.pure rfl) (.cons (.pure rfl) (.nil _))))
   ·by_cases k1:t.kind=1
    ·have:qhb qao t=(zPr,5):=by simp[qhb,hg,k1]
     rw[this,hsv]
     simp (maxSteps:=1000000) (disch:=omega) only[qz1,qak,↓axP,axQ,seval,qaa,qab,tX,qap hf,hg,k0,k1]
     exact Ans.some (.ofTup (.cons (.pure rfl) (.cons (.pure rfl) (.nil _))))
    ·have hp:=rppS_eq (nm:=t.name) (ar:=t.args.length) ⟨(qlr hg k0 k1).1,(qlr hg k0 k1).2⟩
     cases hb:ppP t.name t.args.length with
     |true=>
      have:qhb qao t=(zPr,8):=by simp[qhb,hg,k0,k1,hb]
      rw[hb] at hp
      rw[this,hsv]
      simp (maxSteps:=1000000) (disch:=omega) only[qz1,qak,↓axP,axQ,seval,qaa,qab,tX,qap hf,hg,k0,k1,List.length_map,hp]
      exact Ans.some (.ofTup (.cons (.pure rfl) (.cons (.pure rfl) (.nil _))))
     |false=>
      rw[hb] at hp
      have hfi:=qmw t.name t.args.length
      rw[hsv] at hfi ⊢
      have hs:qhb qao t=match qdj qao t.name t.args.length with|some p=>(p,0)|none=>(zPr,7):=by
       unfold qhb
       rw[if_pos hg,if_neg k0,if_neg k1,hb];rfl
      rcases qq2 t.name t.args.length with⟨e1,e2⟩|⟨e1,e2⟩|⟨e1,e2⟩|⟨e1,e2⟩
      all_goals
       rw[e2] at hfi
       rw[hs,e1]
       simp (maxSteps:=1000000) (disch:=omega) only[qz1,qak,↓axP,axQ,seval,qaa,qab,tX,qap hf,hg,k0,k1,List.length_map,hp,hfi]
       exact Ans.some (.ofTup (.cons (.pure rfl) (.cons (.pure rfl) (.nil _))))
 ·cases h
def q7i(args:List AV)(H:AH)(y:AV):Prop:=∃g gl q d l,args=[.ptr g 0 0,.int .u64 l]∧DsAt H g gl q d∧OkDs d∧y=.int .i64 (qt3 d l)
theorem qt0(a:List AV)(H:AH)(y y2:AV)(h:q7i a H y)(k:q7i a H y2):y=y2:=by
 obtain⟨g,gl,q,d,l,rfl,h1,h2,rfl⟩:=h
 obtain⟨g',gl',q',d',l',e,k1,k2,rfl⟩:=k
 simp only[List.cons.injEq,AV.ptr.injEq,AV.int.injEq,true_and,and_true] at e
 obtain⟨rfl,rfl⟩:=e
 obtain⟨-,-,rfl⟩:=h1.inj k1
 rfl
theorem q7m(l:Int)(c:Cl)(r:List Cl):qia l (c::r)=qia l r+if c.lab=l then 1 else 0:=by
 unfold qia
 by_cases h:c.lab=l<;>simp[h]
theorem qrb(l:Int)(r:List Cl):qia l r≤r.length:=List.length_filter_le _ _
theorem qq8(F0 g gl:Nat)(q:Int)(d:Ds)(l:Int)(i:Nat)(r:List Cl)(hr:r.length≤1000001)(hi3:i<3)(hci:(dsL d)[i]? = some (qcf r))(nx:Nat)(gs:Tr Grp)(ms:Tr qbm)(h0:gs.get g=some ⟨0,0,dsC d q gl⟩)(h1:gs.get gl=some ⟨0,0,dsL d⟩):∀(l2 l1:List Cl) (n:Int) (F:Nat),r=l1++l2→0≤n∧n+l2.length≤4000000→l2.length<F →
  iter (ycode (tcall []) F0 q2t) F (mk [(0,.ptr g 0 0),(1,.int .u64 l),(5,.int .i64 n),(6,.int .i64 i),(7,.int .i64 l1.length)]) ⟨nx,gs,ms⟩=some (.exit 2,mk [(0,.ptr g 0 0),(1,.int .u64 l),(5,.int .i64 (n+qia l l2)),(6,.int .i64 i)],⟨nx,gs,ms⟩):=by
 intro l2
 have hi0:(0:Int)≤(i:Int):=by omega
 have hi4:(i:Int)<3:=by omega
 have hml:(r.map clC).length=r.length:=by simp
 unfold qcf at hci
 unfold dsC at h0
 induction l2 with
 |nil=>
  intro l1 n F hs hn h4
  obtain⟨k,rfl⟩:=qam (f:=fun _ _=>none) (n:=F) (by omega)
  rw[List.append_nil] at hs
  have hlt:((l1.length:Int)<(r.length:Int))=False:=by rw[hs];simp
  rw[qad]
  have hn0:n+((qia l []:Nat):Int)=n:=by show n+0=n;omega
  rw[hn0]
  simp (maxSteps:=1000000) (disch:=omega) only[qpu,qmb,↓axP,axQ,seval,qaa,qab,tX,h0,h1,hi0,hi4,Nat.mul_one,hci,hml,hlt,Int.toNat_natCast]
 |cons c l2 ih=>
  intro l1 n F hs hn h4
  obtain⟨k,rfl⟩:=qam (f:=fun _ _=>none) (n:=F) (by omega)
  have hR:l1.length+1≤1000001:=by rw[hs] at hr;simp at hr;omega
  have hlt:((l1.length:Int)<(r.length:Int))=True:=eq_true (by rw[hs];simp;omega)
  have hget:(r.map clC)[l1.length]? = some (.int .i64 c.id::.int .u64 c.lab::(tmC c.hd++tmC c.bd)):=by rw[hs];simp[clC]
  have hl:(0:Int)≤(l1.length:Int):=by omega
  have w3:IntKind.i64.wrap ((l1.length:Int)+1)=(l1.length:Int)+1:=by rw[wrap_i64]<;>omega
  have w4:IntKind.i64.wrap (n+1)=n+1:=by simp only[List.length_cons] at hn;rw[wrap_i64]<;>omega
  have hls:(l1++[c]).length=l1.length+1:=by simp
  rw[qad,q7m]
  by_cases hc:c.lab=l
  ·have IH:=ih (l1++[c]) (n+1) k (by simp[hs]) (by simp only[List.length_cons] at hn;omega) (by simp at h4;omega)
   rw[hls] at IH
   simp only[Int.natCast_add,Int.natCast_one] at IH
   rw[show n+1+((qia l l2:Nat):Int)=n+(((qia l l2:Nat):Int)+1) by omega] at IH
   simp (maxSteps:=1000000) (disch:=omega) only[qpu,qmb,↓axP,axQ,seval,qaa,qab,tX,h0,h1,hi0,hi4,Nat.mul_one,hci,hml,hlt,hget,hl,w3,w4,hc,IH,Int.toNat_natCast]
  ·have IH:=ih (l1++[c]) n k (by simp[hs]) (by simp only[List.length_cons] at hn;omega) (by simp at h4;omega)
   rw[hls] at IH
   simp only[Int.natCast_add,Int.natCast_one] at IH
   simp (maxSteps:=1000000) (disch:=omega) only[qpu,qmb,↓axP,axQ,seval,qaa,qab,tX,h0,h1,hi0,hi4,Nat.mul_one,hci,hml,hlt,hget,hl,w3,w4,hc,IH,Int.toNat_natCast]
theorem dcnt_one:HookOne Tryz.prog 48 (qeh (qe3 q7i)):=by
 refine HookOne.ofReadR (by decide +kernel) qt0 (fun args H y h=>?_) fun args H y X H2 h he ha=>?_
 ·obtain⟨g,gl,q,d,l,rfl,h1,hok,rfl⟩:=h
  refine ACalls.onRun (l:=[]) (by simp) mixed (draws _ rfl) yRCnt_ok rfl 1000005 fun N hN hcl=>?_
  obtain⟨nx0,gs,ms⟩:=H
  obtain⟨-,h2,h3⟩:=h1
  simp only at h2 h3
  have hx:=hok.nx
  have b0:=hok.r0.1
  have b1:=hok.r1.1
  have b2:=hok.r2.1
  have L0:=fun nx=>qq8 1000005 g gl q d l 0 d.r0 (by omega) (by omega) rfl nx gs ms h2 h3 d.r0 [] 0 1000005 rfl (by omega) (by omega)
  have L1:=fun nx=>qq8 1000005 g gl q d l 1 d.r1 (by omega) (by omega) rfl nx gs ms h2 h3 d.r1 [] (0+qia l d.r0) 1000005 rfl (by have:=qrb l d.r0;omega) (by omega)
  have L2:=fun nx=>qq8 1000005 g gl q d l 2 d.r2 (by omega) (by omega) rfl nx gs ms h2 h3 d.r2 [] (0+qia l d.r0+qia l d.r1) 1000005 rfl (by have:=qrb l d.r0;have:=qrb l d.r1;omega) (by omega)
  have hsum:(0:Int)+qia l d.r0+qia l d.r1+qia l d.r2=(qt3 d l:Int):=by unfold qt3;omega
  rw[hsum] at L2
  have w1:IntKind.i64.wrap (0+1)=1:=by decide
  have w2:IntKind.i64.wrap (1+1)=2:=by decide
  have w3:IntKind.i64.wrap (2+1)=3:=by decide
  unfold dsC at h2
  generalize ((0:Int)+qia l d.r0)=a at L0 L1 L2
  generalize (a+qia l d.r1)=b at L1 L2
  simp (maxSteps:=1000000) (disch:=omega) only[↓axP,axQ,seval,qaa,qab] at L0
  simp (maxSteps:=1000000) (disch:=omega) only[↓axP,axQ,seval,qaa,qab] at L1
  simp (maxSteps:=1000000) (disch:=omega) only[↓axP,axQ,seval,qaa,qab] at L2
  simp (maxSteps:=1000000) (disch:=omega) only[yRCnt,qak,↓axP,axQ,seval,qaa,qab,tX,qad,yRCntb_r,qu5,h2,L0,L1,L2,w1,w2,w3]
  exact Comes.some (Canon.pure hcl (fun g r h=>h) (fun g r h=>h) rfl)
 ·obtain⟨g,gl,q,d,l,rfl,h1,hok,rfl⟩:=h
  exact⟨g,gl,q,d,l,rfl,h1.ext he ha,hok,rfl⟩
end
section
open Go Go.Abs Go.RowKit
def LFi4:List (List AV×AV):=[([qd8,.int .u64 0],.bool true),([qd8,.int .u64 1],.bool true),([qd8,.int .u64 2],.bool true),([qd8,.int .u64 3],.bool true)]
set_option maxRecDepth 100000 in
theorem kFi4:HookOne Tryz.prog 46 (qdy LFi4):=qeq (by decide +kernel) (qqu runI (by decide +kernel))
end
end Go.Proofs.YtdekdghldblfaaaGreatDoor
