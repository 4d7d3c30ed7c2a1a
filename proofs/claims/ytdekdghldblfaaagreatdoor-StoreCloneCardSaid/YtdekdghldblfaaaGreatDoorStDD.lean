import Derived.Test.YtdekdghldblfaaaGreatDoorStA
import Derived.Test.YtdekdghldblfaaaGreatDoorStB
import Derived.Maps.RangeRun
import Derived.WalkSmall
import Derived.Test.YtdekdghldblfaaaGreatDoorAbsL
import Derived.Deep.Cut
set_option linter.unusedVariables false
set_option linter.unusedSimpArgs false
namespace Go.Proofs.YtdekdghldblfaaaGreatDoor
section
open Go Go.Abs Go.RowKit Go.Lib
def RowC(w:World)(b o n:Nat)(ks:Nat→Int)(f:Nat→Nat→Value):Prop:=
 ∀j,j<n→w.cell? ⟨b,o+j*10,none⟩=some (.int .i64 (ks j))∧w.cell? ⟨b,o+j*10+1,none⟩=some (f j 1)∧w.cell? ⟨b,o+j*10+2,none⟩=some (f j 2)∧w.cell? ⟨b,o+j*10+3,none⟩=some (f j 3)∧w.cell? ⟨b,o+j*10+4,none⟩=some (f j 4) ∧
  w.cell? ⟨b,o+j*10+5,none⟩=some (f j 5)∧w.cell? ⟨b,o+j*10+6,none⟩=some (f j 6)∧w.cell? ⟨b,o+j*10+7,none⟩=some (f j 7)∧w.cell? ⟨b,o+j*10+8,none⟩=some (f j 8)∧w.cell? ⟨b,o+j*10+9,none⟩=some (f j 9)
theorem RowC.keep{w w':World}{b o n:Nat}{ks:Nat→Int}{f:Nat→Nat→Value}(h:RowC w b o n ks f)(hb:b<w.heap.size)(hw:Below w.heap.size w w'):RowC w' b o n ks f:=by
 have e:∀k,w'.cell? ⟨b,k,none⟩=w.cell? ⟨b,k,none⟩:=fun k=>World.cell?_of_block (hw.block b hb)
 intro j hj
 simp only[e]
 exact h j hj
def Found(ks:Nat→Int)(id:Int)(n:Nat)(r:Int):Prop:=(r = -1∧∀j,j<n→ks j≠id)∨∃j,j<n∧r=j∧ks j=id∧∀j',j'<j→ks j'≠id
set_option maxRecDepth 100000 in
set_option maxHeartbeats 2000000 in
theorem qv9(a:Option Addr)(b o n cap bx:Nat)(id:Int)(ks:Nat→Int)(f:Nat→Nat→Value)(w:World)(hbx:w.cell? ⟨bx,0,none⟩=some (.int .i64 id))(ha:n≠0→a=some ⟨b,o,none⟩∧b<w.heap.size)(hc:RowC w b o n ks f)(hn:n≤4611686018427387904) :
  Calls Tryz.prog 55 #[.slice a n cap,.func (.func 56) #[] #[.pointer (some ⟨bx,0,none⟩)]] w fun e w'=>∃r:Int,e=.returned (.int .i64 r)∧Below w.heap.size w w'∧Found ks id n r:=by
 have hlt:bx<w.heap.size:=qfx hbx
 go_enter Tryz.func55,Tryz.ntmps55
 go_wp2
 go_loopw [8] (fun i wr=>∃k:Nat,k≤n∧i=.int .i64 (k:Int)∧Below w.heap.size w wr∧∀j,j<k→ks j≠id) (fun i _=>n-(Go.RowKit.intOf i).toNat)
 case atStart=>exact⟨0,Nat.zero_le _,rfl,Below.refl _ _,fun j hj=>by omega⟩
 case round=>
  obtain⟨k,hk,rfl,hbl,hks⟩:=hrel
  have hkN:((k:Int)<(n:Int))=(k<n):=by simp
  by_cases hkn:k<n
  ·obtain⟨rfl,hbw⟩:=ha (by omega)
   obtain⟨q0,q1,q2,q3,q4,q5,q6,q7,q8,q9⟩:=(hc.keep hbw hbl) k hkn
   have hbx':wr.cell? ⟨bx,0,none⟩=some (.int .i64 (id)):=(World.cell?_of_block (hbl.block bx hlt)).trans hbx
   have hbw':bx<wr.heap.size:=qfx hbx'
   have hbx2:(wr.alloc (.cells #[.int .i64 (ks k),f k 1,f k 2,f k 3,f k 4,f k 5,f k 6,f k 7,f k 8,f k 9] 42)).cell? ⟨bx,0,none⟩=some (.int .i64 id):=by
    rw[World.cell?_alloc_past _ _ _ hbw'];exact hbx'
   have hlt':(k:Int)<(n:Int):=by omega
   have hge:¬((k:Int)<0):=by omega
   go_wp2
   ·rename_i hid
    have hid':ks k=id:=by simpa using hid
    go_ret
    exact⟨k,rfl,Below.alloc hbl hbl.size _,.inr ⟨k,hkn,rfl,hid',hks⟩⟩
   ·rename_i hid
    have hid':ks k≠id:=by simpa using hid
    refine⟨⟨k+1,hkn,by simp,Below.alloc hbl hbl.size _,fun j hj=>?_⟩,?_⟩
    ·rcases Nat.lt_or_ge j k with h|h
     ·exact hks j h
     ·obtain rfl:j=k:=by omega
      exact hid'
    ·simp only[Go.RowKit.intOf];omega
  ·have hlt':¬((k:Int)<(n:Int)):=by omega
   obtain rfl:k=n:=by omega
   go_wp2
   go_ret
   exact⟨-1,rfl,hbl,.inl ⟨rfl,hks⟩⟩
end
section
open Go Go.Abs Go.RowKit Go.Lib
open Go.ChangeMaps (setBlock)
theorem qmi{P:Program}{w:World}{ops:Array Oper}{rest:List Oper}{o:Oper}{a:Act}{Q:Exit→Act→World→Prop}(hg:o.guard=none)(it:Operand)(hop:o.op=Op.next it false)(r bm since c0:Nat)(seen:Array Nat)(es:Array MapEntry)(clock:Nat)
  (hit:a.eval it=.pointer (some ⟨r,0,none⟩)) (hr:w.heap[r]? = some (.mapIter (some bm) since seen c0)) (hb:w.heap[bm]? = some (.map es clock)) (hold:∀x∈es.toList,x.born<since) (hsc:since≤c0)
  (hDone:(leftOf es seen).size=0→wpList P ops Q rest (a.put o.dst (.tuple #[.bool false])) w)
  (hMore:∀(e:MapEntry) (wn:World),e∈es.toList→seen.contains e.born=false→wn.heap[r]? = some (.mapIter (some bm) since (seen.push e.born) clock)→(∀k,k≠r→wn.heap[k]? = w.heap[k]?)→wn.heap.size=w.heap.size→Below r w wn→wpList P ops Q rest (a.put o.dst (.tuple #[.bool true,e.key,e.val])) wn) :
  wpList P ops Q (o::rest) a w:=by
 refine wpList_plain hg fun K' hK'=>?_
 unfold Oper.wp
 rcases run_next_at (P:=P) w o.type r bm since c0 seen es clock hr hb hold hsc with⟨h0,hrun⟩|⟨e,he,w1,h1,hrun⟩
 ·simp[execOp,hop,hit,hrun,Result.andThen]
  exact hK' _ _ (hDone h0)
 ·simp[execOp,hop,hit,hrun,Result.andThen]
  refine hK' _ _ (hMore e _ ?_ ?_ ?_ ?_ ?_ ?_)
  ·simp[leftOf] at he;simpa using he.1
  ·simp[leftOf] at he;simpa using he.2
  ·have:w1.heap=w.heap:=by rcases h1 with rfl|rfl<;>rfl
   show (w1.heap.setIfInBounds r _)[r]? = _
   rw[this,Array.getElem?_setIfInBounds,if_pos rfl,if_pos (qcy hr)]
  ·intro k hk
   have:w1.heap=w.heap:=by rcases h1 with rfl|rfl<;>rfl
   show (w1.heap.setIfInBounds r _)[k]? = _
   rw[this,Array.getElem?_setIfInBounds,if_neg (Ne.symm hk)]
  ·have:w1.heap=w.heap:=by rcases h1 with rfl|rfl<;>rfl
   show (w1.heap.setIfInBounds r _).size=_
   rw[Array.size_setIfInBounds,this]
  ·have:w1.heap=w.heap:=by rcases h1 with rfl|rfl<;>rfl
   refine⟨by rcases h1 with rfl|rfl<;>rfl,by rcases h1 with rfl|rfl<;>rfl,by rcases h1 with rfl|rfl<;>rfl,?_,fun k hk=>?_⟩
   ·show w.heap.size≤(w1.heap.setIfInBounds r _).size
    rw[Array.size_setIfInBounds,this];exact Nat.le_refl _
   ·show (w1.heap.setIfInBounds r _)[k]? = _
    rw[this,Array.getElem?_setIfInBounds,if_neg (by omega)]
def EntC(w:World)(id:Int)(x:Value)(r:Int):Prop:=
 ∃(a:Option Addr) (b o n cap:Nat) (ks:Nat→Int) (f:Nat→Nat→Value),x=.slice a n cap∧(n≠0→a=some ⟨b,o,none⟩∧b<w.heap.size)∧RowC w b o n ks f∧n≤4611686018427387904∧Found ks id n r
theorem Found.uniq{ks:Nat→Int}{id:Int}{n:Nat}{r r':Int}(h:Found ks id n r)(h':Found ks id n r'):r=r':=by
 rcases h with⟨rfl,h⟩|⟨j,hj,rfl,h1,h2⟩<;>rcases h' with⟨rfl,h'⟩|⟨j',hj',rfl,h1',h2'⟩
 ·rfl
 ·exact absurd h1' (h j' hj')
 ·exact absurd h1 (h' j hj)
 ·rcases Nat.lt_trichotomy j j' with h|h|h
  ·exact absurd h1 (h2' j h)
  ·rw[h]
  ·exact absurd h1' (h2 j' h)
def q3j(fn:Func):Code:=match fn.body with
 |some (.seq _ (.seq (.seq _ (.block _ (.loop (.seq _ (.seq _ (.block _ (.seq _ (.seq _ (.seq _ (.cond _ c _)))))))))) _))=>c
 |_=>.skip
theorem qnc{w:World}{r since c:Nat}{m:Option Nat}{seen:Array Nat}(h:w.heap[r]? = some (.mapIter m since seen c)):w.iterSeen r=seen:=by
 unfold World.iterSeen;rw[h]
theorem q0q{es:List MapEntry}(h:(es.map (·.born)).Nodup){e e':MapEntry}(he:e∈es)(he':e'∈es)(hb:e.born=e'.born):e=e':=by
 have h1:=find_born e es h he
 have h2:=find_born e' es h he'
 rw[hb,h2] at h1
 exact (Option.some.inj h1).symm
set_option maxRecDepth 100000 in
set_option maxHeartbeats 4000000 in
theorem q67(pb po bm since:Nat)(id:Int)(es:Array MapEntry)(w:World)(Q:Ending→World→Prop)(hm:w.cell? ⟨pb,po+3,none⟩=some (.map (some bm)))(hbm:w.heap[bm]? = some (.map es since))(hold:∀x∈es.toList,x.born<since)(hnd:(es.toList.map (·.born)).Nodup)
  (rs:MapEntry→Int) (hent:∀e∈es.toList,EntC w id e.val (rs e)) (hkey:∀e∈es.toList,∃s n,e.key=.agg #[.string s,.int .i64 n])
  (hhit : ∀ (e : MapEntry) (s : ByteArray) (ar r : Int) (a : Act) (kb : Nat) (wn wc : World),e ∈ es.toList → e.key = .agg #[.string s,.int .i64 ar] → 0 ≤ r → rs e = r → kb = wn.heap.size → Below w.heap.size w wn → Below w.heap.size w (wn.alloc (.cells #[.string s,.int .i64 ar] 98)) →
   Below (wn.alloc (.cells #[.string s,.int .i64 ar] 98)).heap.size (wn.alloc (.cells #[.string s,.int .i64 ar] 98)) wc→wc.heap[kb]? = some (.cells #[.string s,.int .i64 ar] 98 (0,0))→wn.heap[w.heap.size]? = some (.cells #[.int .i64 id] 3 (0,0)) →
   a.defers=[]→a.tmps.size=45→a.tmps.getD 0 undef=.pointer (some ⟨pb,po,none⟩)→a.tmps.getD 5 undef=.pointer (some ⟨kb,0,none⟩)→a.tmps.getD 6 undef=e.val→a.tmps.getD 7 undef=.int .i64 r→a.tmps.getD 3 undef=.pointer (some ⟨w.heap.size,0,none⟩) →
   Code.wp Tryz.prog (q3j Tryz.f20) (fun e0 a0 w0=>e0 = .ret ∧ a0.defers = [] ∧ Q (.returned (a0.tmps.getD 4 undef)) w0) a wc)
  (hdone:(∀e∈es.toList,rs e = -1)→∀w',Below w.heap.size w w'→Q (.returned (.int .i64 13)) w') :
  Calls Tryz.prog 20 #[.pointer (some ⟨pb,po,none⟩),.int .i64 id] w Q:=by
 have hpb:pb<w.heap.size:=qfx hm
 have hbml:bm<w.heap.size:=qcy hbm
 have hm1:(w.alloc (.cells #[.int .i64 id] 3)).cell? ⟨pb,po+3,none⟩=some (.map (some bm)):=by rw[World.cell?_alloc_past _ _ _ hpb];exact hm
 have hbm1:(w.alloc (.cells #[.int .i64 id] 3)).heap[bm]? = some (.map es since):=by rw[heap_alloc_old _ _ hbml];exact hbm
 have hrg:=run_range_map (P:=Tryz.prog) (w.alloc (.cells #[.int .i64 id] 3)) 90 _ _ bm es since Tryz.underlying90 hbm1
 go_enter Tryz.func20,Tryz.ntmps20
 go_wp2
 obtain⟨w1,hw1⟩:∃w1,w1=w.alloc (.cells #[.int .i64 id] 3):=⟨_,rfl⟩
 have hs1:w1.heap.size=w.heap.size+1:=by rw[hw1];show (w.heap.push _).size=_;simp
 have hB1:Below w.heap.size w w1:=by rw[hw1];exact Below.alloc (Below.refl _ _) (Nat.le_refl _) _
 have hbx1:w1.cell? ⟨w.heap.size,0,none⟩=some (.int .i64 id):=by rw[hw1,World.cell?_alloc_at (w:=w) #[.int .i64 id] _ _ 0 rfl];rfl
 rw[←hw1] at hbm1
 go_loopw [] (fun wr=>∃(seen:Array Nat) (c0:Nat),wr.heap[w.heap.size+1]? = some (.mapIter (some bm) since seen c0)∧since≤c0∧Below (w.heap.size+1) w1 wr∧∀e∈es.toList,seen.contains e.born=true→rs e = -1) (fun wr=>(leftOf es (wr.iterSeen (w.heap.size+1))).size)
 case atStart=>
  refine⟨#[],since,?_,Nat.le_refl _,?_,fun e _ h=>by simp at h⟩
  ·show (((w.alloc (.cells #[.int .i64 id] 3)).heap).push _)[w.heap.size+1]? = _
   rw[←hw1,←hs1];simp
  ·rw[←hw1,←hs1];exact Below.alloc (Below.refl _ _) (Nat.le_refl _) _
 case round=>
  obtain⟨seen,c0,hit,hsc,hbl,hseen⟩:=hrel
  have hbmr:wr.heap[bm]? = some (.map es since):=(hbl.block bm (by omega)).trans hbm1
  go_wp2_with (at_next;refine qmi rfl (.tmp 12) rfl (w.heap.size+1) bm since c0 seen es since rfl hit hbmr hold hsc ?_ ?_)
  ·intro h0
   go_wp2
   refine hdone (fun e he=>?_) _ (hB1.trans (hbl.mono (by omega)))
   refine hseen e he ?_
   cases hc:seen.contains e.born with
   |true=>rfl
   |false=>
    have:e∈(leftOf es seen).toList:=by simp[leftOf] at hc ⊢;exact⟨by simpa using he,hc⟩
    rw[h0] at this
    simp at this
  ·intro e wn he hns hitn hoth hsz hbn
   replace he:e∈es.toList:=by simpa using he
   have hbmn:wn.heap[bm]? = some (.map es since):=by rw[hoth bm (by omega)];exact hbmr
   have hbl2:Below (w.heap.size+1) w1 wn:=hbl.trans hbn
   have hbl0:Below w.heap.size w wn:=hB1.trans (hbl2.mono (by omega))
   obtain⟨s,ar,hk⟩:=hkey e he
   have hen:=run_entry_at (P:=Tryz.prog) wn (w.heap.size+1) bm since seen es since e hitn hbmn he hnd
   obtain⟨a,b,o,n,cap,ks,f,hval,ha,hrow,hn,hfound⟩:=hent e he
   rw[hk,hval] at hen ⊢
   have hblA:Below w.heap.size w (wn.alloc (.cells #[.string s,.int .i64 ar] 98)):=Below.alloc hbl0 hbl0.size _
   have hw0n:w.heap.size<wn.heap.size:=by have:=qcy hitn;omega
   have hbx2:(wn.alloc (.cells #[.string s,.int .i64 ar] 98)).cell? ⟨w.heap.size,0,none⟩=some (.int .i64 id):=by
    rw[World.cell?_alloc_past _ _ _ hw0n]
    exact (World.cell?_of_block (a:=⟨w.heap.size,0,none⟩) (hbl2.block w.heap.size (Nat.lt_succ_self _))).trans hbx1
   have hcall:=qv9 a b o n cap w.heap.size id ks f (wn.alloc (.cells #[.string s,.int .i64 ar] 98)) hbx2 (fun h0=>⟨(ha h0).1,Nat.lt_of_lt_of_le (ha h0).2 hblA.size⟩) (by
     by_cases h0:n=0
     ·subst h0;intro j hj;omega
     ·exact hrow.keep (ha h0).2 hblA) hn
   go_upto_if 22 with (go_at_call 55;refine hcall.mono ?_;rintro _ wc ⟨r,rfl,hbc,hfc⟩)
   have hblc:Below w.heap.size w wc:=hblA.trans (hbc.mono hblA.size)
   have hkb:wc.heap[wr.heap.size]? = some (.cells #[.string s,.int .i64 ar] 98 (0,0)):=by
    rw[hbc.block _ (by show _<(wn.heap.push _).size;simp;omega),←hsz]
    show (wn.heap.push _)[wn.heap.size]? = _
    simp
   have hbxh:wn.heap[w.heap.size]? = some (.cells #[.int .i64 id] 3 (0,0)):=by
    rw[hbl2.block _ (Nat.lt_succ_self _),hw1]
    show (w.heap.push _)[w.heap.size]? = _
    simp
   have hrr:rs e=r:=hfound.uniq hfc
   by_cases h0:0≤r
   ·have hge:(decide (0≤r))=true:=by simp[h0]
    have hev:∀(A:Act),A.tmps[22]? = some (.bool (decide (0≤r)))→A.eval (.tmp 22)=.bool true:=fun A hA=>by simp[Act.eval,hA,hge]
    refine wp_cond (hev _ (by rfl)) ?_
    refine wp_mono (hhit e s ar r _ wr.heap.size wn wc he hk h0 hrr (by rw[←hsz]) hbl0 hblA hbc hkb hbxh rfl rfl rfl rfl hval.symm rfl rfl) fun e0 a0 w0 ⟨h1,h2,h3⟩=>?_
    subst h1
    exact bodyPost_ret (results_tmp rfl _ _ _) h2 h3
   ·have h0':r<0:=by omega
    go_wp2
    have hr1:r = -1:=by rcases hfc with⟨h,_⟩|⟨j,_,h,_⟩<;>omega
    have hitc:wc.heap[w.heap.size+1]? = some (.mapIter (some bm) since (seen.push e.born) since):=by
     have:=qcy hitn
     rw[hbc.block _ (by show _<(wn.heap.push _).size;simp;omega),heap_alloc_old _ _ this]
     exact hitn
    refine⟨⟨seen.push e.born,since,hitc,Nat.le_refl _,?_,fun e' he' hc=>?_⟩,?_⟩
    ·refine hbl2.trans ?_
     have hlt:=qcy hitn
     have hA:Below (w.heap.size+1) wn (wn.alloc (.cells #[.string s,.int .i64 ar] 98)):=Below.alloc (Below.refl _ _) (by omega) _
     exact hA.trans (hbc.mono (by have:=hA.size;omega))
    ·rw[contains_push] at hc
     by_cases hb:e'.born=e.born
     ·have:=q0q hnd he' he hb
      rw[this,hrr,hr1]
     ·have:(e'.born==e.born)=false:=by simpa using hb
      rw[this,Bool.or_false] at hc
      exact hseen e' he' hc
    ·rw[qnc hitc,qnc hit]
     exact left_shrinks es seen e (by simp only[leftOf,Array.toList_filter,List.mem_filter];exact⟨he,by simpa using hns⟩)
end
section
open Go Go.Abs Go.RowKit Go.Lib
theorem q1a:(Tryz.prog).follows .mixedOrders=true:=by kernel_rfl
noncomputable def q1b(p e k:Nat)(v:AV)(j:Nat):Tr AV:=(((Tr.nil.set 0 (.ptr p e 0)).set 5 (.ptr k 0 0)).set 6 v).set 7 (.int .i64 j)
noncomputable def q69:ICode:=qcg Tryz.prog 45 (q3j Tryz.f20)
theorem dropI_ok:okC q69:=qcz _ _ _
noncomputable def qnp(r:XR):Option (AV×AH):=match r with
 |some (.ret,T,H)=>match T.get 4 with
  |some x=>some (x,H)
  |none=>none
 |_=>none
noncomputable def qgv(call:qar)(args:List AV)(H:AH):Option (AV×AH):=
 match args with
 |[.ptr p e 0,.int .i64 id]=>match H.gs.get p with
  |some r=>match r.cells with
   |[_,_,_,.mapp gm,_]=>match H.ms.get gm with
    |some es=>bif Nat.beq r.e e&&mapB es then match qez 10 id H es.2 with
     |some []=>some (.int .i64 13,H)
     |some [((_,.agg [.str s,.int .i64 ar],v),j)]=>match H.gs.get H.next with
      |none=>match H.gs.get (H.next+1) with
       |none=>qnp (qew call 3 q69 (q1b p e (H.next+1) v j) ⟨H.next+2,(H.gs.set H.next ⟨0,0,[.int .i64 id]⟩).set (H.next+1) ⟨0,0,[.str s,.int .i64 ar]⟩,H.ms⟩)
       |some _=>none
      |some _=>none
     |_=>none else none
    |none=>none
   |_=>none
  |none=>none
 |_=>none
theorem qo3{r:XR}{x:AV}{H:AH}(h:qnp r=some (x,H)):∃T,r=some (.ret,T,H)∧T.get 4=some x:=by
 unfold qnp at h
 split at h
 ·rename_i T H'
  split at h
  ·rename_i y hy;cases h;exact⟨T,rfl,hy⟩
  ·cases h
 ·cases h
set_option maxRecDepth 10000 in
theorem qtt{call:qar}(hc:qaw call){args:List AV}{H H':AH}{x:AV}(h:qgv call args H=some (x,H')):FrameR x H H' (qgv call args):=by
 unfold qgv at h
 split at h<;>try (cases h;done)
 rename_i p e id
 split at h<;>try (cases h;done)
 rename_i r hr
 split at h<;>try (cases h;done)
 rename_i c0 c1 c2 gm c4 hcells
 split at h<;>try (cases h;done)
 rename_i es hes
 cases hb:(Nat.beq r.e e&&mapB es) with
 |false=>rw[hb] at h;cases h
 |true=>
  rw[hb] at h
  simp only[cond_true] at h
  split at h<;>try (cases h;done)
  ·rename_i hh
   cases h
   exact FrameR.same fun R H2 he ha=>by
    simp only[qgv,he.get ha hr,hcells,he.ms,hes,hb,cond_true,qhj he ha hh]
  ·rename_i s ar v j hh
   split at h<;>try (cases h;done)
   rename_i hf0
   split at h<;>try (cases h;done)
   rename_i hf1
   obtain⟨T,hx,hT⟩:=qo3 h
   rw[qf9] at hx
   obtain⟨HA,hHA⟩:∃HA,HA=(H.put H.next ⟨0,0,[.int .i64 id]⟩ (H.next+2)).put (H.next+1) ⟨0,0,[.str s,.int .i64 ar]⟩ (H.next+2):=⟨_,rfl⟩
   change xcode call 3 q69 (q1b p e (H.next+1) v j) ((H.put H.next ⟨0,0,[.int .i64 id]⟩ (H.next+2)).put (H.next+1) ⟨0,0,[.str s,.int .i64 ar]⟩ (H.next+2))=_ at hx
   rw[←hHA] at hx
   obtain⟨q1,q2⟩:=qh2 hc dropI_ok hx
   have g1:=Grows.put H H.next ⟨0,0,[.int .i64 id]⟩ (H.next+2)
   have g2:=Grows.put (H.put H.next ⟨0,0,[.int .i64 id]⟩ (H.next+2)) (H.next+1) ⟨0,0,[.str s,.int .i64 ar]⟩ (H.next+2)
   rw[←hHA] at g2
   refine⟨(g1.trans g2).trans q1,fun R H2 he ha=>?_⟩
   have ha2:=ha.back q1
   have ha2':=ha2
   rw[hHA] at ha2'
   have hR1:R (H.next+1)=none:=Apart.not (H:=H.put H.next ⟨0,0,[.int .i64 id]⟩ (H.next+2)) (g:=H.next+1) (r:=⟨0,0,[.str s,.int .i64 ar]⟩) (nx:=H.next+2) ha2'
   have ha1:=ha2.back g2
   have hR0:R H.next=none:=Apart.not (H:=H) (g:=H.next) (r:=⟨0,0,[.int .i64 id]⟩) (nx:=H.next+2) ha1
   have ha0:=ha1.back g1
   have e1:=Ext.put (g:=H.next) (r:=⟨0,0,[.int .i64 id]⟩) (nx:=H.next+2) he hR0
   have e2:=Ext.put (g:=H.next+1) (r:=⟨0,0,[.str s,.int .i64 ar]⟩) (nx:=H.next+2) e1 hR1
   rw[←hHA] at e2
   obtain⟨H2',k1,k2⟩:=q2 R _ e2 ha
   refine⟨H2',?_,k2⟩
   have hf0':H2.gs.get H2.next=none:=by rw[he.next,he.gs,hR0];exact hf0
   have hf1':H2.gs.get (H2.next+1)=none:=by rw[he.next,he.gs,hR1];exact hf1
   simp only[qgv,he.get ha0 hr,hcells,he.ms,hes,hb,cond_true,qhj he ha0 hh,hf0',hf1']
   have:qew call 3 q69 (q1b p e (H2.next+1) v j) ⟨H2.next+2,(H2.gs.set H2.next ⟨0,0,[.int .i64 id]⟩).set (H2.next+1) ⟨0,0,[.str s,.int .i64 ar]⟩,H2.ms⟩=some (.ret,T,H2'):=by
    rw[qf9,he.next]
    exact k1
   rw[this]
   simp only[qnp,hT]
end
section
open Go Go.Abs Go.RowKit Go.Lib
def oI:Option Nat→Int
 |some j=>j
 |none=>-1
def qth(H:AH)(id:Int)(t:Nat×AV×AV):Int:=match qan H 10 t.2.2 with
 |some (m,cs)=>match qk2 10 id m cs with
  |some (some j)=>j
  |_=>-1
 |none=>-1
theorem entC_of{K:Kx}{G:Gh}{H:AH}{w:World}{v:AV}{u:Value}{m:Nat}{cs:List AV}{id:Int}{o:Option Nat}(hr:HRel K G H w)(hv:VR G v u)(hl:qan H 10 v=some (m,cs))(hm:m≤4611686018427387904)(ho:qk2 10 id m cs=some o) :
  EntC w id u (oI o):=by
 obtain⟨a,c,rfl,hmc,hlen,hin⟩:=qgl hr hv hl
 obtain⟨ks,h1,h2⟩:=qxz ho
 have key:∀b o0,(∀j x,cs[j]? = some x→∃u,w.cell? ⟨b,o0+j,none⟩=some u∧VR G x u∧u.oneCell'=true)→RowC w b o0 m ks (fun j t=>(w.cell? ⟨b,o0+j*10+t,none⟩).getD undef):=by
  intro b o0 hc j hj
  have hget:∀t,t<10→w.cell? ⟨b,o0+j*10+t,none⟩=some ((w.cell? ⟨b,o0+j*10+t,none⟩).getD undef):=by
   intro t ht
   have hlt:j*10+t<cs.length:=by rw[hlen];omega
   obtain⟨u,k1,-,-⟩:=hc (j*10+t) _ (List.getElem?_eq_getElem hlt)
   rw[←Nat.add_assoc] at k1
   rw[k1];rfl
  refine⟨?_,hget 1 (by omega),hget 2 (by omega),hget 3 (by omega),hget 4 (by omega),hget 5 (by omega),hget 6 (by omega),hget 7 (by omega),hget 8 (by omega),hget 9 (by omega)⟩
  obtain⟨u,k1,k2,-⟩:=hc _ _ (h1 j hj)
  simp only[VR] at k2
  rw[k1,k2]
 have hf:Found ks id m (oI o):=by
  cases o with
  |none=>exact .inl ⟨rfl,h2⟩
  |some j=>exact .inr ⟨j,h2.1,rfl,h2.2.1,h2.2.2⟩
 rcases hin with h0|⟨b,o0,rfl,hin⟩
 ·subst h0
  exact⟨a,0,0,0,c,ks,fun _ _=>undef,rfl,fun h=>absurd rfl h,fun j hj=>by omega,hm,hf⟩
 ·by_cases h0:m=0
  ·subst h0
   exact⟨_,b,o0,0,c,ks,fun _ _=>undef,rfl,fun h=>absurd rfl h,fun j hj=>by omega,hm,hf⟩
  ·refine⟨_,b,o0,m,c,ks,_,rfl,fun _=>⟨rfl,?_⟩,key b o0 hin,hm,hf⟩
   have hlt:0<cs.length:=by rw[hlen];omega
   obtain⟨u,k1,-,-⟩:=hin 0 _ (List.getElem?_eq_getElem hlt)
   exact qfx k1
set_option maxRecDepth 10000 in
set_option maxHeartbeats 1000000 in
theorem drop_any{call:qar}(hc:qcp Tryz.prog call∧qaw call):HookOne Tryz.prog 20 (qgv call):=by
 refine⟨by decide +kernel,fun args H x H' h=>?_,fun args H x H' h=>qtt hc.2 h⟩
 intro K G vs w hr hv
 unfold qgv at h
 split at h<;>try (cases h;done)
 rename_i p e id
 split at h<;>try (cases h;done)
 rename_i r hgr
 split at h<;>try (cases h;done)
 rename_i c0 c1 c2 gm c4 hcells
 split at h<;>try (cases h;done)
 rename_i es hes
 cases hb:(Nat.beq r.e e&&mapB es) with
 |false=>rw[hb] at h;cases h
 |true=>
  rw[hb] at h
  simp only[cond_true] at h
  rw[Bool.and_eq_true] at hb
  obtain⟨hbe,hbm⟩:=hb
  obtain rfl:=Nat.eq_of_beq_eq_true hbe
  unfold mapB at hbm
  rw[Bool.and_eq_true] at hbm
  obtain⟨hall,honce⟩:=hbm
  have hnd:=qyi honce
  obtain⟨b,o,n,cs,t,q⟩:=hr.grp p r hgr
  have hvs:vs=#[.pointer (some ⟨b,o,none⟩),.int .i64 id]:=by
   obtain⟨u1,u2,hu,h1,h2⟩:=hv.two
   simp only[VR] at h1 h2
   obtain⟨b',o',n',hmu,rfl⟩:=h1
   rw[q.mu] at hmu
   cases hmu
   subst h2
   cases vs;simpa using hu
  subst hvs
  obtain⟨u3,k1,k2,-⟩:=q.cell 3 (.mapp gm) (by rw[hcells];rfl)
  simp only[VR] at k2
  obtain⟨bm,hmm,rfl⟩:=k2
  obtain⟨bm',l,c,qm⟩:=hr.maps gm es hes
  rw[qm.mm] at hmm
  obtain rfl:bm'=bm:=Option.some.inj hmm
  have hmcell:w.cell? ⟨b,o+3,none⟩=some (.map (some bm')):=by rw[qby q.heap];exact k1
  have hborn:=qm.ents.born
  have hndl:(l.toList.map (·.born)).Nodup:=by rw[hborn];exact hnd
  have hold:∀x∈l.toList,x.born<c:=by
   intro x hx
   obtain⟨t0,ht0,h0,-⟩:=qm.ents.mem x hx
   have:=List.all_eq_true.1 hall t0 ht0
   rw[Bool.and_eq_true] at this
   have:=Nat.le_of_ble_eq_true this.1
   rw[←h0,qm.clock];exact this
  have hkey:∀x∈l.toList,∃s n,x.key=.agg #[.string s,.int .i64 n]:=by
   intro x hx
   obtain⟨t0,ht0,-,h1,-⟩:=qm.ents.mem x hx
   have:=List.all_eq_true.1 hall t0 ht0
   rw[Bool.and_eq_true] at this
   have hk:=this.2
   unfold keyB at hk
   split at hk
   ·rename_i s i hks
    rw[hks] at h1
    simp only[VR,VRs] at h1
    obtain⟨us,h2,u1,us1,h3,rfl,u2,us2,rfl,rfl,rfl⟩:=h1
    exact⟨_,_,by rw[h2];cases us;simpa using h3⟩
   ·cases hk
  have hfind:∀t∈es.2,es.2.find? (fun x=>x.1==t.1)=some t:=fun t ht=>q6r hnd ht
  obtain⟨hits,hhits⟩:∃hits,qez 10 id H es.2=some hits:=by
   cases hh:qez 10 id H es.2 with
   |none=>rw[hh] at h;cases h
   |some l=>exact⟨l,rfl⟩
  obtain⟨q1,q2⟩:=qnh hhits
  have hix:∀t∈es.2,∃o,qth H id t=(oI o)∧(∀j,o=some j→(t,j)∈hits)∧∀u,VR G t.2.2 u→EntC w id u (qth H id t):=by
   intro t ht
   obtain⟨m,cs,o,p1,p2,p3,p4⟩:=q1 t ht
   have:qth H id t=(oI o):=by
    unfold qth;rw[p1];simp only;rw[p3];cases o<;>rfl
   exact⟨o,this,p4,fun u hu=>by rw[this];exact entC_of hr hu p1 p2 p3⟩
  let rs:MapEntry→Int:=fun x=>match es.2.find? (fun t=>t.1==x.born) with|some t=>qth H id t|none=>-1
  have hrs:∀x∈l.toList,∃t∈es.2,t.1=x.born∧VR G t.2.1 x.key∧VR G t.2.2 x.val∧rs x=qth H id t:=by
   intro x hx
   obtain⟨t,ht,h0,h1,h2⟩:=qm.ents.mem x hx
   refine⟨t,ht,h0,h1,h2,?_⟩
   show (match es.2.find? (fun t=>t.1==x.born) with|some t=>qth H id t|none=>-1)=_
   rw[←h0,hfind t ht]
  have hent:∀x∈l.toList,EntC w id x.val (rs x):=by
   intro x hx
   obtain⟨t,ht,h0,h1,h2,h3⟩:=hrs x hx
   obtain⟨o,-,-,h4⟩:=hix t ht
   rw[h3]
   exact h4 _ h2
  refine q67 b o bm' c id l w _ hmcell qm.heap hold hndl rs hent hkey ?_ ?_
  ·intro x s ar rr a kb wn wc hx hk hr0 hrr hkb hbn hbA hbc hkbc hbx hd hsz s0 s5 s6 s7 s3
   obtain⟨t0,ht0,h0,h1,h2,h3⟩:=hrs x hx
   obtain⟨oo,p1,p2,-⟩:=hix t0 ht0
   have hj:∃j:Nat,oo=some j∧rr=j:=by
    rw[h3,p1] at hrr
    cases oo with
    |none=>simp only[oI] at hrr;omega
    |some j=>exact⟨j,rfl,hrr.symm⟩
   obtain⟨j,rfl,rfl⟩:=hj
   have hmem:=p2 j rfl
   rw[hhits] at h
   split at h<;>try (cases h;done)
   ·rename_i hq;cases hq;cases hmem
   rename_i n0 s' ar' v j' hq
   cases hq
   have heq:=List.mem_singleton.1 hmem
   obtain⟨rfl,rfl⟩:=Prod.mk.inj heq
   simp only at h0 h1 h2
   split at h<;>try (cases h;done)
   rename_i hf0
   split at h<;>try (cases h;done)
   rename_i hf1
   obtain⟨T,hx2,hT⟩:=qo3 h
   rw[qf9] at hx2
   rw[hk] at h1
   have hkeys:s=⟨s'.toArray⟩∧ar=ar':=by
    simp only[VR,VRs] at h1
    obtain⟨us,e1,u1,us1,e2,rfl,u2,us2,rfl,rfl,rfl⟩:=h1
    cases us with
    |mk us=>simp at e1 e2;subst e2;simp at e1;exact e1
   obtain⟨rfl,rfl⟩:=hkeys
   subst hkb
   have hG1:=hr.newBlock (g:=H.next) (e:=0) (fz:=0) (nx:=H.next + 1) (xs:=[.int .i64 id]) hbn hbx (fun i y hy=>by
    cases i with
    |zero=>cases hy;exact⟨.int .i64 id,rfl,by simp only[VR],rfl⟩
    | succ i=>cases hy) (hr.fresh _ hf0 0) (fun e' _=>hr.fresh _ hf0 e')
   have hle1:=Gh.put_le (p:=(w.heap.size,0,1)) (hr.fresh _ hf0 0)
   have hfr1:∀e',(G.put H.next 0 (w.heap.size,0,1)).mu (H.next+1) e'=none:=fun e'=>by
    rw[Gh.put_ne _ _ (.inl (by omega))];exact hr.fresh _ hf1 e'
   have hbnc:Below wn.heap.size wn wc:=by
    have hA:Below wn.heap.size wn (wn.alloc (.cells #[.string ⟨s'.toArray⟩,.int .i64 ar] 98)):=Below.alloc (Below.refl _ _) (Nat.le_refl _) _
    exact hA.trans (hbc.mono hA.size)
   have hG2:=hG1.newBlock (g:=H.next + 1) (e:=0) (fz:=0) (nx:=H.next + 2) (xs:=[.str s',.int .i64 ar]) hbnc hkbc (fun i y hy=>by
    match i,hy with
    |0,hy=>cases hy;exact⟨.string ⟨s'.toArray⟩,rfl,by simp only[VR],rfl⟩
    | 1,hy=>cases hy; exact ⟨.int .i64 ar,rfl,by simp only [VR],rfl⟩) (hfr1 0) (fun e' _=>hfr1 e')
   have hle2:=Gh.put_le (p:=(wn.heap.size,0,2)) (hfr1 0)
   have hle:=hle1.trans hle2
   have hT0:TRel ((G.put H.next 0 (w.heap.size,0,1)).put (H.next+1) 0 (wn.heap.size,0,2)) 45 (q1b p r.e (H.next+1) v j) a:=by
    refine⟨hd,hsz,fun k y hy=>?_⟩
    unfold q1b at hy
    rw[Tr.get_set] at hy
    split at hy
    ·rename_i e;subst e;cases hy;rw[s7];simp only[VR]
    ·rw[Tr.get_set] at hy
     split at hy
     ·rename_i e;subst e;cases hy;rw[s6];exact VR.mono hle _ _ h2
     ·rw[Tr.get_set] at hy
      split at hy
      ·rename_i e;subst e;cases hy;rw[s5];simp only[VR];exact⟨_,0,2,Gh.put_same _ _ _ _,rfl⟩
      ·rw[Tr.get_set] at hy
       split at hy
       ·rename_i e;subst e;cases hy;rw[s0];simp only[VR];exact⟨b,o,n,hle.mu _ _ _ q.mu,rfl⟩
       ·rw[Tr.get_nil] at hy;cases hy
   have hAT:=qlg (nt:=45) hc.1 hc.2 q1a (q3j Tryz.f20) _ _ _ _ _ (by decide +kernel) hx2
   refine wp_mono (hAT K _ a wc hG2 hT0) fun e0 a0 w0 ⟨G3,T3,H3,m1,m2,m3,m4,m5,m6⟩=>?_
   subst m4;subst m5;subst m6
   exact⟨rfl,m3.defers,_,_,G3,H3,rfl,hle.trans m1,m2,m3.at' 4 _ hT,rfl,rfl⟩
  ·intro hno w' hbl
   rw[hhits] at h
   cases hits with
   |nil=>
    cases h
    exact⟨_,_,G,H,rfl,Gh.le.refl _,hr.stay hbl,by simp only[VR],rfl,rfl⟩
   |cons hh tl=>
    obtain⟨t0,j⟩:=hh
    obtain⟨ht0,m,cs1,p1,p2⟩:=q2 t0 j (List.mem_cons_self ..)
    obtain⟨x,hx,h0,h1,h2⟩:=qm.ents.mem' t0 ht0
    obtain⟨t1,ht1,h3,-,-,h4⟩:=hrs x hx
    have e1:=hfind t0 ht0
    have e2:=hfind t1 ht1
    rw[h3,←h0,e1] at e2
    cases e2
    rw[hno x hx] at h4
    unfold qth at h4
    rw[p1] at h4
    simp only at h4
    rw[p2] at h4
    simp only at h4
    omega
end
end Go.Proofs.YtdekdghldblfaaaGreatDoor
