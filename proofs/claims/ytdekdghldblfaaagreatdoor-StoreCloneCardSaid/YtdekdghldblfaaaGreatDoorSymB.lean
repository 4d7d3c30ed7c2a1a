import Derived.Test.YtdekdghldblfaaaGreatDoorSymA
import Derived.Test.YtdekdghldblfaaaGreatDoorYCl
import Derived.Test.YtdekdghldblfaaaGreatDoorYStA
import Derived.Test.YtdekdghldblfaaaGreatDoorYStB
import Derived.Test.YtdekdghldblfaaaGreatDoorHkA
set_option linter.unusedVariables false
set_option linter.unusedSimpArgs false
namespace Go.Proofs.YtdekdghldblfaaaGreatDoor
section
open Go Go.Abs Go.RowKit
attribute [local congr] qai qaj qag
def qjn(t:Tm):Bool:=isP t [58,45] 2||isP t [44] 2||isP t [59] 2||isP t [45,62] 2||isP t [92,43] 1||isP t [33] 0||isP t [116,114,117,101] 0||isP t [102,97,105,108] 0
noncomputable def ctlS:List AV→Option AV
 |[x]=>(ofT x).map fun t=>.bool (qjn t)
 |_=>none
theorem qki(t:Tm):ctlS [.agg (tmC t)]=some (.bool (qjn t)):=by
 show (ofT (tmA t)).map _=_
 rw[qcc];rfl
set_option maxHeartbeats 4000000 in
theorem ctl_one:HookOne Tryz.prog 85 (qae ctlS):=by
 refine HookOne.ofPureF (by decide +kernel) fun args y h H=>?_
 have hl:∀e∈[(84,qae isS)],HookOne Tryz.prog e.1 e.2:=by
  intro e he;simp at he;subst he;exact q5v
 unfold ctlS at h;split at h
 ·rename_i x
  rw[Option.map_eq_some_iff] at h
  obtain⟨t,h1,rfl⟩:=h
  obtain rfl:=qbr h1
  refine ACalls.ofRun hl mixed (draws _ rfl) yCtl_ok rfl (by simp[qa2,qas]) 5 ?_ H
  unfold tmA qjn
  cases c1:isP t [58,45] 2 with
  |true=>
   simp (maxSteps:=1000000) (disch:=omega) only[yCtl,qaf,↓axP,axQ,seval,qaa,qab,tX,qad,qme,qmf,qcj,c1]
   exact Ans.some (.pure rfl)
  |false=>cases c2:isP t [44] 2 with
   |true=>
    simp (maxSteps:=1000000) (disch:=omega) only[yCtl,qaf,↓axP,axQ,seval,qaa,qab,tX,qad,qme,qmf,qcj,c1,c2]
    exact Ans.some (.pure rfl)
   |false=>cases c3:isP t [59] 2 with
    |true=>
     simp (maxSteps:=1000000) (disch:=omega) only[yCtl,qaf,↓axP,axQ,seval,qaa,qab,tX,qad,qme,qmf,qcj,c1,c2,c3]
     exact Ans.some (.pure rfl)
    |false=>cases c4:isP t [45,62] 2 with
     |true=>
      simp (maxSteps:=1000000) (disch:=omega) only[yCtl,qaf,↓axP,axQ,seval,qaa,qab,tX,qad,qme,qmf,qcj,c1,c2,c3,c4]
      exact Ans.some (.pure rfl)
     |false=>
      cases c5:isP t [92,43] 1<;>cases c6:isP t [33] 0<;>cases c7:isP t [116,114,117,101] 0<;>cases c8:isP t [102,97,105,108] 0
      all_goals
       simp (maxSteps:=1000000) (disch:=omega) only[yCtl,qaf,↓axP,axQ,seval,qaa,qab,tX,qad,qme,qmf,qcj,c1,c2,c3,c4,c5,c6,c7,c8]
       exact Ans.some (.pure rfl)
 ·cases h
def ofP(t:Tm):List Gl×Int:=if t.good=true then qbe 64 t else ([],1)
noncomputable def bofS:List AV→Option AV
 |[x]=>(ofT x).bind fun t=>only (Fine 1000 t) (some (.tup [glV (ofP t).1,.int .i64 (ofP t).2]))
 |_=>none
theorem qwt{t:Tm}(h:Fine 1000 t):bofS [.agg (tmC t)]=some (.tup [glV (ofP t).1,.int .i64 (ofP t).2]):=by
 show (ofT (tmA t)).bind _=_
 rw[qcc];exact qa0 h _
theorem qap{t:Tm}(h:Fine 1000 t):qfj [.agg (tmC t)]=some (.bool t.good):=goodS_eq h
theorem qrx{t:Tm}(hf:Fine 1000 t)(hg:t.good=true):RC 64 t:=by
 unfold Tm.good at hg
 simp only[Bool.and_eq_true,decide_eq_true_eq] at hg
 exact⟨hg.1.2,hf,hg.1.1⟩
theorem qgr:HookOne Tryz.prog 42 (qae qfj):=HookOne.ofPureF (by decide +kernel) fun args y h H=>by
 have:=q6e.ok args H y H (by simp only[qs1,h])
 exact this
theorem bof_one:HookOne Tryz.prog 86 (qae bofS):=by
 refine HookOne.ofPureF (by decide +kernel) fun args y h H=>?_
 have hl:∀e∈[(42,qae qfj),(126,qae (q4c 64))],HookOne Tryz.prog e.1 e.2:=by
  intro e he
  simp only[List.mem_cons,List.not_mem_nil,or_false] at he
  rcases he with rfl|rfl
  ·exact qgr
  ·exact q4a 64
 unfold bofS at h;split at h
 ·rename_i x
  rw[Option.bind_eq_some_iff] at h
  obtain⟨t,h1,h2⟩:=h
  obtain⟨hf,h3⟩:=qau h2
  cases h3
  obtain rfl:=qbr h1
  refine ACalls.ofRun hl mixed (draws _ rfl) yOf_ok rfl (by simp[qa2,qas]) 0 ?_ H
  unfold tmA
  cases hg:t.good with
  |true=>
   simp (maxSteps:=1000000) (disch:=omega) only[yOf,qaf,↓axP,axQ,seval,qaa,qab,tX,qap hf,hg,q4b (qrx hf hg),ofP]
   exact Ans.some (.ofTup (.cons (.pure (qcr _)) (.cons (.pure rfl) (.nil _))))
  |false=>
   simp (maxSteps:=1000000) (disch:=omega) only[yOf,qaf,↓axP,axQ,seval,qaa,qab,tX,qap hf,hg,ofP,Bool.false_eq_true]
   exact Ans.some (.ofTup (.cons (.nils 6) (.cons (.pure rfl) (.nil _))))
 ·cases h
def qbl:Tm:=.mk 2 0 [116,114,117,101] []
def qbd(t head rest:Tm):Tm×Tm×Int:=
 let e:Int:=if head.kind=0 then 6 else if head.kind=1 then 5 else if qjn head then 8 else (ofP rest).2
 if e=0 then (head,rest,0) else (zT,zT,e)
def qac(t:Tm):Tm×Tm×Int:=
 if t.good=true then (if isP t [58,45] 2 then qbd t (t.args.getD 0 zT) (t.args.getD 1 zT) else qbd t t qbl) else (zT,zT,1)
noncomputable def qfw:List AV→Option AV
 |[x]=>(ofT x).bind fun t=>only (Fine 1000 t) (some (.tup [tmA (qac t).1,tmA (qac t).2.1,.int .i64 (qac t).2.2]))
 |_=>none
theorem qhl{t:Tm}(h:Fine 1000 t):qfw [.agg (tmC t)]=some (.tup [.agg (tmC (qac t).1),.agg (tmC (qac t).2.1),.int .i64 (qac t).2.2]):=by
 show (ofT (tmA t)).bind _=_
 rw[qcc];exact qa0 h _
theorem qjc:Fine 1000 qbl:=.mk _ _ _ _ (by omega) (by omega) (by unfold maxLen;simp) (by simp) (fun x hx=>by cases hx)
theorem qce (H : AH) : Fz H (.agg [.int .i64 0,.int .i64 0,.str [],.nils]) (tmA zT):=.ofAgg (by
 rw[qbq]
 exact .cons (.pure rfl) (.cons (.pure rfl) (.cons (.pure rfl) (.cons (.nils 4) (.nil _)))))
set_option maxHeartbeats 4000000 in
theorem q1l:HookOne Tryz.prog 34 (qae qfw):=by
 refine HookOne.ofPureF (by decide +kernel) fun args y h H=>?_
 have hl:∀e∈[(42,qae qfj),(83,qae qrk),(84,qae isS),(85,qae ctlS),(86,qae bofS)],HookOne Tryz.prog e.1 e.2:=by
  intro e he
  simp only[List.mem_cons,List.not_mem_nil,or_false] at he
  rcases he with rfl|rfl|rfl|rfl|rfl
  ·exact qgr
  ·exact qzt
  ·exact q5v
  ·exact ctl_one
  ·exact bof_one
 unfold qfw at h;split at h
 ·rename_i x
  rw[Option.bind_eq_some_iff] at h
  obtain⟨t,h1,h2⟩:=h
  obtain⟨hf,h3⟩:=qau h2
  cases h3
  obtain rfl:=qbr h1
  refine ACalls.ofRun hl mixed (draws _ rfl) qz8 rfl (by simp[qa2,qas]) 0 ?_ H
  have key:∀head rest:Tm,Fine 1000 rest→∀(e:Int),e=(if head.kind=0 then 6 else if head.kind=1 then 5 else if qjn head then 8 else (ofP rest).2)→True:=fun _ _ _ _ _=>trivial
  cases hg:t.good with
  |false=>
   have:qac t=(zT,zT,1):=by simp[qac,hg]
   rw[this]
   unfold tmA
   simp (maxSteps:=1000000) (disch:=omega) only[qd3,qaf,↓axP,axQ,seval,qaa,qab,tX,qap hf,hg]
   exact Ans.some (.ofTup (.cons (qce _) (.cons (qce _) (.cons (.pure rfl) (.nil _)))))
  |true=>
   cases c1:isP t [58,45] 2 with
   |true=>
    obtain⟨a,b,hab⟩:=qbu (qb9 (m:=2) c1)
    have fb:Fine 1000 b:=hf.args.2.1 b (by rw[hab];simp)
    have:qac t=qbd t a b:=by simp[qac,hg,c1,hab]
    rw[this]
    unfold tmA qbd
    by_cases k0:a.kind=0
    ·simp (maxSteps:=1000000) (disch:=omega) only[qd3,qaf,↓axP,axQ,seval,qaa,qab,tX,qap hf,hg,qcj,c1,hab,List.map_cons,List.map_nil,k0,qb4]
     exact Ans.some (.ofTup (.cons (qce _) (.cons (qce _) (.cons (.pure rfl) (.nil _)))))
    ·by_cases k1:a.kind=1
     ·have k0':((1:Int)=0)=False:=by simp
      simp (maxSteps:=1000000) (disch:=omega) only[qd3,qaf,↓axP,axQ,seval,qaa,qab,tX,qap hf,hg,qcj,c1,hab,List.map_cons,List.map_nil,k1,k0',qb4]
      exact Ans.some (.ofTup (.cons (qce _) (.cons (qce _) (.cons (.pure rfl) (.nil _)))))
     ·cases c2:qjn a with
      |true=>
       simp (maxSteps:=1000000) (disch:=omega) only[qd3,qaf,↓axP,axQ,seval,qaa,qab,tX,qap hf,hg,qcj,c1,hab,List.map_cons,List.map_nil,k0,k1,qb4,qki,c2]
       exact Ans.some (.ofTup (.cons (qce _) (.cons (qce _) (.cons (.pure rfl) (.nil _)))))
      |false=>
       by_cases hz:(ofP b).2=0
       ·simp (maxSteps:=1000000) (disch:=omega) only[qd3,qaf,↓axP,axQ,seval,qaa,qab,tX,qap hf,hg,qcj,c1,hab,List.map_cons,List.map_nil,k0,k1,qb4,qki,c2,qwt fb,hz,Bool.false_eq_true]
        exact Ans.some (.ofTup (.cons (.pure (qas _)) (.cons (.pure (qas _)) (.cons (.pure rfl) (.nil _)))))
       ·simp (maxSteps:=1000000) (disch:=omega) only[qd3,qaf,↓axP,axQ,seval,qaa,qab,tX,qap hf,hg,qcj,c1,hab,List.map_cons,List.map_nil,k0,k1,qb4,qki,c2,qwt fb,hz,Bool.false_eq_true]
        exact Ans.some (.ofTup (.cons (qce _) (.cons (qce _) (.cons (.pure rfl) (.nil _)))))
   |false=>
    have ft:=qjc
    have:qac t=qbd t t qbl:=by simp[qac,hg,c1]
    rw[this]
    have bt:=qwt ft
    have at':=qb4 [116,114,117,101]
    simp only[qbl] at bt
    unfold tmA qbd
    simp only[qbl]
    by_cases k0:t.kind=0
    ·simp (maxSteps:=1000000) (disch:=omega) only[qd3,qaf,↓axP,axQ,seval,qaa,qab,tX,qap hf,hg,qcj,c1,k0,at']
     exact Ans.some (.ofTup (.cons (qce _) (.cons (qce _) (.cons (.pure rfl) (.nil _)))))
    ·by_cases k1:t.kind=1
     ·have k0':((1:Int)=0)=False:=by simp
      simp (maxSteps:=1000000) (disch:=omega) only[qd3,qaf,↓axP,axQ,seval,qaa,qab,tX,qap hf,hg,qcj,c1,k1,k0',at']
      exact Ans.some (.ofTup (.cons (qce _) (.cons (qce _) (.cons (.pure rfl) (.nil _)))))
     ·cases c2:qjn t with
      |true=>
       simp (maxSteps:=1000000) (disch:=omega) only[qd3,qaf,↓axP,axQ,seval,qaa,qab,tX,qap hf,hg,qcj,c1,k0,k1,at',qki,c2]
       exact Ans.some (.ofTup (.cons (qce _) (.cons (qce _) (.cons (.pure rfl) (.nil _)))))
      |false=>
       by_cases hz:(ofP (Tm.mk 2 0 [116,114,117,101] [])).2=0
       ·simp (maxSteps:=1000000) (disch:=omega) only[qd3,qaf,↓axP,axQ,seval,qaa,qab,tX,qap hf,hg,qcj,c1,k0,k1,at',qki,c2,bt,hz,Bool.false_eq_true]
        exact Ans.some (.ofTup (.cons (.pure (qas _)) (.cons (.pure (qas _)) (.cons (.pure rfl) (.nil _)))))
       ·simp (maxSteps:=1000000) (disch:=omega) only[qd3,qaf,↓axP,axQ,seval,qaa,qab,tX,qap hf,hg,qcj,c1,k0,k1,at',qki,c2,bt,hz,Bool.false_eq_true]
        exact Ans.some (.ofTup (.cons (qce _) (.cons (qce _) (.cons (.pure rfl) (.nil _)))))
 ·cases h
end
section
open Go Go.Abs Go.RowKit
attribute [local congr] qai qaj qag
def qj4:List UInt8:=[32,116,114,117,101,47,48,32,102,97,105,108,47,48,32,33,47,48,32,44,47,50,32,59,47,50,32,45,62,47,50,32,92,43,47,49,32,99,97,108,108,47,49,32,99,97,116,99,104,47,51,32,116,104,114,111,119,47,49,32,102,105,110,100,97,108,108,47,51,32,61,47,50,32,92,61,47,50,32,61,61,47,50,32,92,61,61,47,50,32,64,60,47,50,32,64,62,47,50,32,64,61,60,47,50,32,64,62,61,47,50,32,118,97,114,47,49,32,110,111,110,118,97,114,47,49,32,97,116,111,109,47,49,32,105,110,116,101,103,101,114,47,49,32,97,116,111,109,105,99,47,49,32,99,111,109,112,111,117,110,100,47,49,32,105,115,47,50,32,61,58,61,47,50,32,61,92,61,47,50,32,60,47,50,32,62,47,50,32,61,60,47,50,32,62,61,47,50,32,102,117,110,99,116,111,114,47,51,32,97,114,103,47,51,32,61,46,46,47,50,32,99,111,112,121,95,116,101,114,109,47,50,32,97,116,111,109,95,108,101,110,103,116,104,47,50,32,97,116,111,109,95,99,104,97,114,115,47,50,32,110,117,109,98,101,114,95,99,104,97,114,115,47,50,32,115,111,114,116,47,50,32,109,115,111,114,116,47,50,32,107,101,121,115,111,114,116,47,50,32,108,101,110,103,116,104,47,50,32,97,115,115,101,114,116,122,47,49,32,97,115,115,101,114,116,97,47,49,32,114,101,116,114,97,99,116,47,49,32,108,97,98,101,108,47,49,32,116,111,95,108,97,98,101,108,101,100,47,52,32,117,110,108,97,98,101,108,47,50,32,58,45,47,50,32]
theorem q3s(s sub:List UInt8)(H:AH)(h:s.length<4294967281):qj1 [.str s,.str sub] H=some (.int .i64 (idxQ sub s 0),H):=by
 show (bif Nat.blt s.length 4294967281 then _ else _)=_
 rw[show Nat.blt s.length 4294967281=true from Nat.ble_eq_true_of_le h];rfl
theorem itoa_on(n:Nat)(H:AH)(h:n<100):q0x [.int .i64 (n:Int)] H=some (.str (qzl 9 n),H):=by
 show (bif Nat.blt n 100 then _ else _)=_
 rw[show Nat.blt n 100=true from Nat.ble_eq_true_of_le h];rfl
noncomputable def hasB(s sub:List UInt8):Bool:=decide (0≤idxQ sub s 0)
noncomputable def hasS:List AV→Option AV
 |[.str s,.str sub]=>if s.length<4294967281 then some (.bool (hasB s sub)) else none
 |_=>none
theorem q6a{s:List UInt8}(h:s.length<4294967281)(sub:List UInt8):hasS [.str s,.str sub]=some (.bool (hasB s sub)):=if_pos h
theorem has_one:HookOne Tryz.prog 116 (qae hasS):=by
 refine HookOne.ofPureF (by decide +kernel) fun args y h H=>?_
 have hl:∀e∈[(143,qj1)],HookOne Tryz.prog e.1 e.2:=by
  intro e he;simp at he;subst he;exact qoi
 unfold hasS at h;split at h
 ·rename_i s sub
  split at h
  ·rename_i hs
   cases h
   refine ACalls.ofRun hl mixed (draws _ rfl) qsb rfl (by rfl) 0 ?_ H
   simp (maxSteps:=1000000) (disch:=omega) only[qsc,qak,↓axP,axQ,seval,qaa,qab,tX,q3s s sub _ hs]
   exact Ans.some (.pure rfl)
  ·cases h
 ·cases h
noncomputable def qep(nm:List UInt8)(ar:Nat):Bool:=!hasB nm [32]&&hasB qj4 ([32]++nm++[47]++qzl 9 ar++[32])
noncomputable def qp6:List AV→Option AV
 |[.str nm,.int .i64 (.ofNat ar)]=>if nm.length≤64∧ar<100 then some (.bool (qep nm ar)) else none
 |_=>none
theorem q0k{nm:List UInt8}{ar:Nat}(h:nm.length≤64∧ar<100):qp6 [.str nm,.int .i64 (ar:Int)]=some (.bool (qep nm ar)):=if_pos h
theorem q7e:∀(f u:Nat),(qzl f u).length≤f+1
 |0,u=>by simp[qzl]
 |f+1,u=>by
  rw[qzl]
  cases Nat.blt u 10 with
  |true=>simp
  |false=>
   have:=q7e f (u/10)
   simp;omega
set_option maxRecDepth 10000 in
theorem q0j:HookOne Tryz.prog 74 (qae qp6):=by
 refine HookOne.ofPureF (by decide +kernel) fun args y h H=>?_
 have hl:∀e∈[(116,qae hasS),(117,q0x)],HookOne Tryz.prog e.1 e.2:=by
  intro e he
  simp only[List.mem_cons,List.not_mem_nil,or_false] at he
  rcases he with rfl|rfl
  ·exact has_one
  ·exact qyw
 unfold qp6 at h;split at h
 ·rename_i nm ar
  split at h
  ·rename_i hc
   cases h
   obtain⟨hn,ha⟩:=hc
   refine ACalls.ofRun hl mixed (draws _ rfl) qzz rfl (by rfl) 0 ?_ H
   have h1:=q6a (s:=nm) (by omega) [32]
   have h2:∀sub,hasS [.str qj4,.str sub]=some (.bool (hasB qj4 sub)):=fun sub=>q6a (by decide) sub
   have h3:=itoa_on ar
   have hd:=q7e 9 ar
   have h4:((0:Nat)<100)=True:=by simp
   have l1:(nm.length+1≤9223372036854775807)=True:=eq_true (by omega)
   have l1':(1+nm.length≤9223372036854775807)=True:=eq_true (by omega)
   have l2:(nm.length+1+1≤9223372036854775807)=True:=eq_true (by omega)
   have l3:(nm.length+1+1+(qzl 9 ar).length≤9223372036854775807)=True:=eq_true (by omega)
   have l5:(nm.length+1+(qzl 9 ar).length+1+1≤9223372036854775807)=True:=eq_true (by omega)
   have l6:(nm.length+1+(qzl 9 ar).length+1≤9223372036854775807)=True:=eq_true (by omega)
   have l4:(nm.length+1+1+(qzl 9 ar).length+1≤9223372036854775807)=True:=eq_true (by omega)
   have hcast:Int.ofNat ar=(ar:Int):=rfl
   rw[hcast]
   cases hb:hasB nm [32] with
   |true=>
    have hpb:qep nm ar=false:=by simp[qep,hb]
    rw[hb] at h1
    rw[hpb]
    simp (maxSteps:=1000000) (disch:=omega) only[qun,qak,↓axP,axQ,seval,qaa,qab,tX,h1]
    exact Ans.some (.pure rfl)
   |false=>
    have hpb:qep nm ar=hasB qj4 ([32]++nm++[47]++qzl 9 ar++[32]):=by simp[qep,hb]
    rw[hb] at h1
    rw[hpb]
    unfold qj4 at h2
    unfold qj4
    simp (maxSteps:=1000000) (disch:=omega) only[qun,qak,↓axP,axQ,seval,qaa,qab,tX,h1,h2,h3 _ ha,l1,l1',l2,l3,l4,l5,l6,List.length_append,List.length_cons,List.length_nil]
    exact Ans.some (.pure rfl)
  ·cases h
 ·cases h
structure Pr where
 nm:List UInt8
 ar:Int
 ce:Int
 dy:Bool
def prC(p:Pr):List AV:=[.str p.nm,.int .i64 p.ar,.int .u64 p.ce,.bool p.dy]
def zPr:Pr:=⟨[],0,0,false⟩
theorem prC_inj{p q:Pr}(h:prC p=prC q):p=q:=by
 obtain⟨a,b,c,d⟩:=p;obtain⟨a',b',c',d'⟩:=q
 simp[prC] at h
 obtain⟨rfl,rfl,rfl,rfl⟩:=h;rfl
def qcd(ns:List (List UInt8))(ps:List Pr):AV:=.vptr [.vals 1 (ns.map fun s=>[.str s]),.vals 4 (ps.map prC)] 0
theorem qna{α β:Type}{f:α→β}(hf:∀a b,f a=f b→a=b):∀{l l':List α},l.map f=l'.map f→l=l'
 |[],[],_=>rfl
 |[],_::_,h=>by simp at h
 |_::_,[],h=>by simp at h
 |a::l,b::l',h=>by
  simp only[List.map_cons,List.cons.injEq] at h
  rw[hf a b h.1,qna hf h.2]
theorem qxu{x y:List (List UInt8)×List Pr}(h:qcd x.1 x.2=qcd y.1 y.2):x=y:=by
 obtain⟨a,b⟩:=x;obtain⟨a',b'⟩:=y
 simp only[qcd,AV.vptr.injEq,List.cons.injEq,AV.vals.injEq,true_and,and_true] at h
 obtain⟨h1,h2⟩:=h
 have e1:=qna (fun a b h=>by simpa using h) h1
 have e2:=qna (fun a b h=>prC_inj h) h2
 rw[e1,e2]
noncomputable def q0p:AV→Option (List (List UInt8)×List Pr):=back fun x=>qcd x.1 x.2
theorem qlo(ns:List (List UInt8))(ps:List Pr):q0p (qcd ns ps)=some (ns,ps):=qkm (f:=fun x:List (List UInt8)×List Pr=>qcd x.1 x.2) (fun a b h=>qxu h) (ns,ps)
def qdj(ps:List Pr)(nm:List UInt8)(ar:Int):Option Pr:=ps.find? fun p=>p.nm==nm&&decide (p.ar=ar)
def foundA:Option Pr→AV
 |some p=>.tup [.agg (prC p),.bool true]
 |none=>.tup [.agg (prC zPr),.bool false]
noncomputable def qc2:List AV→Option AV
 |[x,.str nm,.int .i64 ar]=>(q0p x).bind fun s=>only (s.2.length≤1000000) (some (foundA (qdj s.2 nm ar)))
 |_=>none
theorem findS_eq(ns:List (List UInt8))(ps:List Pr)(nm:List UInt8)(ar:Int)(h:ps.length≤1000000):qc2 [qcd ns ps,.str nm,.int .i64 ar]=some (foundA (qdj ps nm ar)):=by
 simp[qc2,qlo,qa0 h]
set_option maxHeartbeats 1000000 in
theorem q6s(F0:Nat)(ps:List Pr)(nm:List UInt8)(ar:Int)(hl:ps.length≤1000000):∀(l2 l1:List Pr) (H:AH) (F:Nat),ps=l1++l2→H.wf→1≤H.next→H.gs.get 0=some ⟨0,0,prC zPr⟩→l2.length<F →
  ∃H',H'.gs.get 0=some ⟨0,0,prC ((qdj l2 nm ar).getD zPr)⟩∧iter (ycode (tcall []) F0 qup) F (mk [(1,.str nm),(2,.int .i64 ar),(6,.ptr 0 0 0),(13,.vals 4 (ps.map prC)),(14,.int .i64 ps.length),(15,.int .i64 l1.length)]) H
   = match qdj l2 nm ar with
    |some p=>some (.ret,mk [(6,.ptr 0 0 0),(7,.bool true)],H')
    |none=>some (.exit 0,mk [(6,.ptr 0 0 0)],H'):=by
 intro l2
 induction l2 with
 |nil=>
  intro l1 H F h1 h2 h3 h4 h5
  obtain⟨k,rfl⟩:=qam (f:=fun _ _=>none) (n:=F) (by omega)
  rw[List.append_nil] at h1
  subst h1
  have hlt:((ps.length:Int)<(ps.length:Int))=False:=by simp
  refine⟨H,h4,?_⟩
  rw[qad]
  simp (maxSteps:=1000000) (disch:=omega) only[qie,qg2,↓axP,axQ,seval,qaa,qab,tX,hlt,qdj,List.find?_nil]
 |cons p l2 ih=>
  intro l1 H F h1 h2 h3 h4 h5
  obtain⟨k,rfl⟩:=qam (f:=fun _ _=>none) (n:=F) (by omega)
  obtain⟨nx,gs,ms⟩:=H
  simp only at h3 h4
  have h4':gs.get 0=some ⟨0,0,[.str [],.int .i64 0,.int .u64 0,.bool false]⟩:=h4
  have hR:l1.length+1≤1000000:=by rw[h1] at hl;simp at hl;omega
  have hlt:((l1.length:Int)<(ps.length:Int))=True:=eq_true (by rw[h1];simp;omega)
  have hget:(ps.map prC)[l1.length]? = some [.str p.nm,.int .i64 p.ar,.int .u64 p.ce,.bool p.dy]:=by rw[h1];simp[prC]
  have hi:(0:Int)≤(l1.length:Int):=by omega
  have hw:IntKind.i64.wrap ((l1.length:Int)+1)=(l1.length:Int)+1:=by rw[wrap_i64]<;>omega
  have e0:=qmj h2
  have q1:(0=nx)=False:=eq_false (by omega)
  have wfA:AH.wf ⟨nx+1,gs.set nx ⟨0,0,[.str p.nm,.int .i64 p.ar,.int .u64 p.ce,.bool p.dy]⟩,ms⟩:=fun g hg=>by
   have:nx+1≤g:=hg
   show (gs.set nx _).get g=none
   rw[Tr.get_set_ne _ _ (by omega)];exact h2 g (by show nx≤g;omega)
  have g0:(gs.set nx ⟨0,0,[.str p.nm,.int .i64 p.ar,.int .u64 p.ce,.bool p.dy]⟩).get 0=some ⟨0,0,prC zPr⟩:=by rw[Tr.get_set_ne _ _ (by omega)];exact h4
  obtain⟨H',k1,k2⟩:=ih (l1++[p]) ⟨nx+1,gs.set nx ⟨0,0,[.str p.nm,.int .i64 p.ar,.int .u64 p.ce,.bool p.dy]⟩,ms⟩ k (by simp[h1]) wfA (by show 1≤nx+1;omega) g0 (by simp at h5;omega)
  have hs:(l1++[p]).length=l1.length+1:=by simp
  rw[hs] at k2
  by_cases hc1:p.nm=nm
  ·by_cases hc2:p.ar=ar
   ·have hf:qdj (p::l2) nm ar=some p:=by simp[qdj,hc1,hc2]
    rw[hf]
    refine⟨⟨nx+1,(gs.set nx ⟨0,0,[.str p.nm,.int .i64 p.ar,.int .u64 p.ce,.bool p.dy]⟩).set 0 ⟨0,0,[.str p.nm,.int .i64 p.ar,.int .u64 p.ce,.bool p.dy]⟩,ms⟩,by show ((gs.set nx _).set 0 _).get 0=_;rw[Tr.get_set_same];rfl,?_⟩
    rw[qad]
    subst hc1;subst hc2
    simp (maxSteps:=1000000) (disch:=omega) only[qie,qg2,↓axP,axQ,seval,qaa,qab,tX,hlt,hi,hget,Int.toNat_natCast,e0,q1,h4',beq_self_eq_true]
   ·have hf:qdj (p::l2) nm ar=qdj l2 nm ar:=by simp[qdj,hc2]
    rw[hf]
    refine⟨H',k1,?_⟩
    rw[←k2,qad]
    have hd:decide (p.ar=ar)=false:=decide_eq_false hc2
    subst hc1
    simp (maxSteps:=1000000) (disch:=omega) only[qie,qg2,↓axP,axQ,seval,qaa,qab,tX,hlt,hi,hget,hw,Int.toNat_natCast,e0,q1,h4',beq_self_eq_true,hd,hc2]
  ·have hf:qdj (p::l2) nm ar=qdj l2 nm ar:=by simp[qdj,hc1]
   rw[hf]
   refine⟨H',k1,?_⟩
   rw[←k2,qad]
   have hd:(p.nm==nm)=false:=by simpa using hc1
   simp (maxSteps:=1000000) (disch:=omega) only[qie,qg2,↓axP,axQ,seval,qaa,qab,tX,hlt,hi,hget,hw,Int.toNat_natCast,e0,q1,h4',hd]
theorem qhf(ps:List Pr):qd4 (ps.map prC)=true:=by
 rw[qeo]
 intro r hr
 simp only[List.mem_map] at hr
 obtain⟨p,-,rfl⟩:=hr
 rfl
theorem qhg(ns:List (List UInt8)):qd4 (ns.map fun s=>[AV.str s])=true:=by
 rw[qeo]
 intro r hr
 simp only[List.mem_map] at hr
 obtain⟨p,-,rfl⟩:=hr
 rfl
theorem qdf(ns:List (List UInt8))(ps:List Pr):qba (qcd ns ps)=true:=by
 simp[qcd,qba,qa2,qhf,qhg]
set_option maxHeartbeats 1000000 in
theorem find_one:HookOne Tryz.prog 78 (qae qc2):=by
 refine HookOne.ofPureF (by decide +kernel) fun args y h H=>?_
 unfold qc2 at h;split at h
 ·rename_i x nm ar
  rw[Option.bind_eq_some_iff] at h
  obtain⟨⟨ns,ps⟩,h1,h2⟩:=h
  obtain⟨hlen,h3⟩:=qau h2
  cases h3
  obtain rfl:=qdi h1
  simp only at hlen ⊢
  refine ACalls.ofRun (l:=[]) (by simp) mixed (draws _ rfl) q12 rfl (by simp[qa2,qdf,qba]) (ps.length+1) ?_ H
  obtain ⟨H',k1,k2⟩:=q6s (ps.length + 1) ps nm ar hlen ps [] ⟨1,Tr.nil.set 0 ⟨0,0,[.str [],.int .i64 0,.int .u64 0,.bool false]⟩,.nil⟩ (ps.length + 1) rfl (fun g hg=>by
   have:1≤g:=hg
   show (Tr.nil.set 0 _).get g=none
   rw [Tr.get_set_ne _ _ (by omega)]; exact Tr.get_nil g) (Nat.le_refl _) (Tr.get_set_same _ _ _) (by omega)
  unfold qcd
  cases hf:qdj ps nm ar with
  |some p=>
   rw[hf] at k1 k2
   obtain⟨nx,gs,ms⟩:=H'
   simp only at k1 k2
   have k1':gs.get 0=some ⟨0,0,[.str p.nm,.int .i64 p.ar,.int .u64 p.ce,.bool p.dy]⟩:=k1
   simp (maxSteps:=1000000) (disch:=omega) only[↓axP,axQ,seval,qaa,qab] at k2
   simp (maxSteps:=1000000) (disch:=omega) only[q13,qb7,↓axP,axQ,seval,qaa,qab,tX,List.length_map,k2,k1']
   exact Ans.some (.ofTup (.cons (.pure rfl) (.cons (.pure rfl) (.nil _))))
  |none=>
   rw[hf] at k1 k2
   obtain⟨nx,gs,ms⟩:=H'
   simp only at k1 k2
   have k1':gs.get 0=some ⟨0,0,[.str [],.int .i64 0,.int .u64 0,.bool false]⟩:=k1
   simp (maxSteps:=1000000) (disch:=omega) only[↓axP,axQ,seval,qaa,qab] at k2
   simp (maxSteps:=1000000) (disch:=omega) only[q13,qb7,↓axP,axQ,seval,qaa,qab,tX,List.length_map,k2,k1']
   exact Ans.some (.ofTup (.cons (.pure rfl) (.cons (.pure rfl) (.nil _))))
 ·cases h
theorem qnk{t:Tm}(hg:t.good=true):qdh t.kind t.num t.name t.args.length=true:=by
 unfold Tm.good at hg
 simp only[Bool.and_eq_true] at hg
 have:=hg.2
 rw[qfz,Bool.and_eq_true] at this
 exact this.1
theorem qlr{t:Tm}(hg:t.good=true)(h0:t.kind≠0)(h1:t.kind≠1):t.name.length≤64∧t.args.length≤8:=by
 have:=qnk hg
 unfold qdh at this
 rw[if_neg h0,if_neg h1] at this
 split at this
 ·simp only[gname,Bool.and_eq_true,decide_eq_true_eq] at this
  exact⟨this.1.2.2,this.2⟩
 ·cases this
noncomputable def qd6(ps:List Pr)(t:Tm):Pr×Int:=
 if t.good=true then
  if t.kind=0 then (zPr,6) else if t.kind=1 then (zPr,5) else if qep t.name t.args.length=true then (zPr,8) else
  match qdj ps t.name t.args.length with
  |some p=>(p,0)
  |none=>(zPr,7)
 else (zPr,1)
noncomputable def sofS:List AV→Option AV
 |[x,z]=>(q0p x).bind fun s=>(ofT z).bind fun t=>only (s.2.length≤1000000∧Fine 1000 t) (some (.tup [.agg (prC (qd6 s.2 t).1),.int .i64 (qd6 s.2 t).2]))
 |_=>none
theorem sofS_eq(ns:List (List UInt8)){ps:List Pr}{t:Tm}(h:ps.length≤1000000∧Fine 1000 t):sofS [qcd ns ps,.agg (tmC t)]=some (.tup [.agg (prC (qd6 ps t).1),.int .i64 (qd6 ps t).2]):=by
 show (q0p (qcd ns ps)).bind _=_
 rw[qlo,Option.bind_some]
 show (ofT (tmA t)).bind _=_
 rw[qcc];exact qa0 h _
set_option maxHeartbeats 2000000 in
theorem sof_one:HookOne Tryz.prog 36 (qae sofS):=by
 refine HookOne.ofPureF (by decide +kernel) fun args y h H=>?_
 have hl:∀e∈[(42,qae qfj),(74,qae qp6),(78,qae qc2)],HookOne Tryz.prog e.1 e.2:=by
  intro e he
  simp only[List.mem_cons,List.not_mem_nil,or_false] at he
  rcases he with rfl|rfl|rfl
  ·exact qgr
  ·exact q0j
  ·exact find_one
 unfold sofS at h;split at h
 ·rename_i x z
  rw[Option.bind_eq_some_iff] at h
  obtain⟨⟨ns,ps⟩,h1,h2⟩:=h
  rw[Option.bind_eq_some_iff] at h2
  obtain⟨t,h2,h3⟩:=h2
  obtain⟨⟨hlen,hf⟩,h4⟩:=qau h3
  cases h4
  obtain rfl:=qdi h1
  obtain rfl:=qbr h2
  simp only at hlen ⊢
  refine ACalls.ofRun hl mixed (draws _ rfl) ySOf_ok rfl (by simp[qa2,qdf,qas]) 0 ?_ H
  unfold tmA
  have hfz:∀(p:Pr),qba (.agg (prC p))=true:=fun p=>rfl
  cases hg:t.good with
  |false=>
   have:qd6 ps t=(zPr,1):=by simp[qd6,hg]
   rw[this]
   unfold qcd
   simp (maxSteps:=1000000) (disch:=omega) only[ySOf,qak,↓axP,axQ,seval,qaa,qab,tX,qap hf,hg]
   exact Ans.some (.ofTup (.cons (.pure rfl) (.cons (.pure rfl) (.nil _))))
  |true=>
   by_cases k0:t.kind=0
   ·have:qd6 ps t=(zPr,6):=by simp[qd6,hg,k0]
    rw[this]
    unfold qcd
    simp (maxSteps:=1000000) (disch:=omega) only[ySOf,qak,↓axP,axQ,seval,qaa,qab,tX,qap hf,hg,k0]
    exact Ans.some (.ofTup (.cons (.pure rfl) (.cons (.pure rfl) (.nil _))))
   ·by_cases k1:t.kind=1
    ·have:qd6 ps t=(zPr,5):=by simp[qd6,hg,k1]
     rw[this]
     unfold qcd
     simp (maxSteps:=1000000) (disch:=omega) only[ySOf,qak,↓axP,axQ,seval,qaa,qab,tX,qap hf,hg,k1]
     exact Ans.some (.ofTup (.cons (.pure rfl) (.cons (.pure rfl) (.nil _))))
    ·have hp:=q0k (nm:=t.name) (ar:=t.args.length) ⟨(qlr hg k0 k1).1,by have:=(qlr hg k0 k1).2;omega⟩
     cases hb:qep t.name t.args.length with
     |true=>
      have:qd6 ps t=(zPr,8):=by simp[qd6,hg,k0,k1,hb]
      rw[this]
      rw[hb] at hp
      unfold qcd
      simp (maxSteps:=1000000) (disch:=omega) only[ySOf,qak,↓axP,axQ,seval,qaa,qab,tX,qap hf,hg,k0,k1,List.length_map,hp]
      exact Ans.some (.ofTup (.cons (.pure rfl) (.cons (.pure rfl) (.nil _))))
     |false=>
      rw[hb] at hp
      have hfi:=findS_eq ns ps t.name t.args.length hlen
      cases hfo:qdj ps t.name t.args.length with
      |some p=>
       have:qd6 ps t=(p,0):=by simp[qd6,hg,k0,k1,hb,hfo]
       rw[this]
       rw[hfo] at hfi
       have hfi':qc2 [.vptr [.vals 1 (ns.map fun s=>[.str s]),.vals 4 (ps.map prC)] 0,.str t.name,.int .i64 t.args.length]=some (.tup [.agg [.str p.nm,.int .i64 p.ar,.int .u64 p.ce,.bool p.dy],.bool true]):=hfi
       unfold qcd
       simp (maxSteps:=1000000) (disch:=omega) only[ySOf,qak,↓axP,axQ,seval,qaa,qab,tX,qap hf,hg,k0,k1,List.length_map,hp,hfi']
       exact Ans.some (.ofTup (.cons (.pure rfl) (.cons (.pure rfl) (.nil _))))
      |none=>
       have:qd6 ps t=(zPr,7):=by simp[qd6,hg,k0,k1,hb,hfo]
       rw[this]
       rw[hfo] at hfi
       have hfi':qc2 [.vptr [.vals 1 (ns.map fun s=>[.str s]),.vals 4 (ps.map prC)] 0,.str t.name,.int .i64 t.args.length]=some (.tup [.agg [.str [],.int .i64 0,.int .u64 0,.bool false],.bool false]):=hfi
       unfold qcd
       simp (maxSteps:=1000000) (disch:=omega) only[ySOf,qak,↓axP,axQ,seval,qaa,qab,tX,qap hf,hg,k0,k1,List.length_map,hp,hfi']
       exact Ans.some (.ofTup (.cons (.pure rfl) (.cons (.pure rfl) (.nil _))))
 ·cases h
end
end Go.Proofs.YtdekdghldblfaaaGreatDoor
