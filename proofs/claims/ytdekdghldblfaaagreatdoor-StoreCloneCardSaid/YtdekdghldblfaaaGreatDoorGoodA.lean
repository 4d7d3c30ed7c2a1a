import Derived.Test.YtdekdghldblfaaaGreatDoorTermA
import Derived.Laws.IdiomStrings
import Derived.WalkSmall
import Derived.RangeFuncBox
import Derived.Maps.AppendAt
import Derived.Test.YtdekdghldblfaaaGreatDoorBaseG
import Derived.LoopTactic
import Derived.Deep.LoopGhost
import Derived.Deep.QuietTactic
import Derived.Lib.SmallJoins
import Derived.ChangeSlices
import Derived.ChangeSame
set_option linter.unusedVariables false
set_option linter.unusedSimpArgs false
namespace Go.Proofs.YtdekdghldblfaaaGreatDoor
section
open Go Go.ChangeShapes Go.WideShapes Go.ChangeAt Go.RowKit
mutual
def Tm.height:Tm→Nat
 |.mk _ _ _ l=>Tm.heights l+1
def Tm.heights:List Tm→Nat
 |[]=>0
 |x::l=>max x.height (Tm.heights l)
end
theorem qbk(t:Tm):t.height=Tm.heights t.args+1:=by cases t;simp[Tm.height,Tm.args]
theorem qe7(l m:List Tm):Tm.heights (l++m)=max (Tm.heights l) (Tm.heights m):=by
 induction l with
 |nil=>simp[Tm.heights]
 |cons x l ih=>simp[Tm.heights,ih,Nat.max_assoc]
theorem qkt{l:List Tm}{i:Nat}(h:i<l.length):Tm.heights (l.take (i+1))=max (Tm.heights (l.take i)) l[i].height:=by
 rw[List.take_succ_eq_append_getElem h,qe7]
 simp[Tm.heights]
theorem qgo(l:List Tm)(i:Nat):Tm.heights (l.take i)≤Tm.heights l:=by
 have:=qe7 (l.take i) (l.drop i)
 rw[List.take_append_drop] at this
 omega
theorem qfv{l:List Tm}{i:Nat}(h:i<l.length):l[i].height≤Tm.heights l:=by
 have h1:=qkt h
 have h2:=qgo l (i+1)
 omega
theorem cellat{w:World}{b:Addr}{m c:Nat}{v:Value}(h:w.cell? (b.add (m+(c+1)))=some v):w.cell? ⟨(b.add m).block,(b.add m).off+(c+1),none⟩=some v:=by
 have e:b.add (m+(c+1))=⟨(b.add m).block,(b.add m).off+(c+1),none⟩:=by
  unfold Addr.add
  rw[if_neg (by omega)]
  split
  ·rename_i h0;subst h0;simp
  ·simp;omega
 rw[←e];exact h
theorem Holds.arg{w:World}{X:Nat→Prop}{t:Tm}{k n:Int}{s:List UInt8}{a:Option Addr}{len c:Nat}(h:Holds w X t (tmV k n s (.slice a len c))){i:Nat}(hi:i<t.args.length) :
  ∃(b:Addr) (sl:Value),a=some b∧X b.block∧w.cell? (b.add (i*4))=some (.int .i64 t.args[i].kind)∧w.cell? (b.add (i*4+1))=some (.int .i64 t.args[i].num)∧w.cell? (b.add (i*4+2))=some (.string ⟨t.args[i].name.toArray⟩)∧w.cell? (b.add (i*4+3))=some sl ∧
   Holds w X t.args[i] (tmV t.args[i].kind t.args[i].num t.args[i].name sl):=by
 generalize hv:tmV k n s (.slice a len c)=v at h
 cases h with
 |leaf k' n' s' a' c'=>simp[Tm.args] at hi
 |node k' n' s' ts b cap L hx hn h c0 c1 c2 c3=>
  unfold tmV at hv
  simp at hv
  exact⟨b,L i,hv.2.2.2.1,hx,c0 i hi,c1 i hi,c2 i hi,c3 i hi,h i hi⟩
set_option maxHeartbeats 4000000 in
theorem q7h{X:Nat→Prop}:∀(N:Nat) (t:Tm),t.height≤N→∀(w:World) (v:Value),Holds w X t v→∀most:Int,1≤most→most≤1000 →
  Calls Tryz.prog 129 #[v,.int .i64 most] w fun e w'=>e=.returned (.int .i64 (min (t.height:Int) most))∧Below w.heap.size w w':=by
 intro N
 induction N with
 |zero=>intro t ht;cases t;simp[Tm.height] at ht
 |succ N ih=>
  intro t ht w v h most h1 h2
  obtain⟨sl,rfl⟩:=h.form
  obtain⟨a,c,rfl⟩:=h.args
  have hml:=h.len
  have HH:=Lib.hid h;clear h
  have kw2:∀i:Nat,i<t.args.length→IntKind.i64.wrap ((i:Int)+1)=(i:Int)+1:=fun i hi=>IntWalk.i64_in _ (by unfold maxLen at hml;omega)
  have KW:=Lib.hid kw2;clear kw2 hml
  simp only[tmV]
  have kw1:IntKind.i64.wrap (most-1)=most-1:=IntWalk.i64_in _ (by omega)
  go_enter Tryz.func129,Tryz.ntmps129
  go_wp2_with fail
  go_loopg [5,11] t.args.length (fun g x y wr=>∃i:Nat,g=t.args.length-i∧i≤t.args.length∧y=.int .i64 i∧x=.int .i64 (min (Tm.heights (t.args.take i):Int) (most-1))∧Hid (Below w.heap.size w wr))
  case atStart=>exact⟨0,rfl,by omega,rfl,by simp[Tm.heights];omega,Lib.hid (Below.alloc (Below.refl _ _) (Nat.le_refl _) _)⟩
  case round=>
   obtain⟨i,hg,hi,rfl,rfl,HB⟩:=hrel
   have G:=Lib.hid hg;clear hg
   have i0:(0:Int)≤(i:Int):=by omega
   by_cases hlt:i<t.args.length
   ·have hlt':(i:Int)<(t.args.length:Int):=by omega
    have kw3:=KW.out i hlt
    obtain⟨b,sl,rfl,-,c0,c1,c2,c3,hc⟩:=(HH.out.bel HB.out).arg hlt
    obtain⟨a2,cc2,rfl⟩:=hc.args
    have HC:=Lib.hid hc;clear hc
    replace c1:=cellat c1;replace c2:=cellat c2;replace c3:=cellat c3
    by_cases hbr:most-1≤min (Tm.heights (t.args.take i):Int) (most-1)
    ·go_wp2
     go_ret
     refine⟨congrArg (fun x=>Ending.returned (.int .i64 x)) ?_,Below.alloc HB.out (by have:=HB.out.size;omega) _⟩
     have e1:=qbk t
     have e2:=qgo t.args i
     omega
    ·have hbr':¬most-1≤min (Tm.heights (t.args.take i):Int) (most-1):=hbr
     go_wp2_with fail
     refine (ih t.args[i] (by have:=qfv hlt;have:=qbk t;omega) _ _ (HC.out.bel (Below.alloc (Below.refl _ _) (Nat.le_refl _) _)) (most-1) (by omega) (by omega)).mono ?_;rintro e w2 ⟨rfl,hb2⟩
     have HB2:=Lib.hid (bcall (Below.alloc HB.out (by have:=HB.out.size;omega) _) hb2)
     go_wp2
     go_roundg (t.args.length-(i+1))
     case measure=>have:=G.out;omega
     case rel=>
      refine⟨i+1,rfl,hlt,rfl,congrArg (Value.int .i64) ?_,HB2⟩
      have e1:=qkt hlt
      omega
   ·have hlt':¬(i:Int)<(t.args.length:Int):=by omega
    have hie:i=t.args.length:=by omega
    go_wp2
    go_ret
    refine⟨congrArg (fun x=>Ending.returned (.int .i64 x)) ?_,HB.out⟩
    have e1:=qbk t
    omega
end
section
open Go Go.ChangeShapes Go.WideShapes Go.ChangeAt Go.RowKit
def gch(c:UInt8):Bool:=!((decide (c.toNat<32)||decide (126<c.toNat))&&c.toNat != 9&&c.toNat != 10)
def gname(s:List UInt8):Bool:=s.all gch&&decide (s.length≤64)
theorem q6i(c:UInt8):gch c = !((decide ((c.toNat:Int)<32)||decide (126<(c.toNat:Int)))&&(c.toNat:Int) != 9&&(c.toNat:Int) != 10):=by
 have h1:decide ((c.toNat:Int)<32)=decide (c.toNat<32):=decide_eq_decide.2 (by omega)
 have h2:decide (126<(c.toNat:Int))=decide (126<c.toNat):=decide_eq_decide.2 (by omega)
 have h3:((c.toNat:Int) != 9)=(c.toNat != 9):=by rw[bne,bne];congr 1;exact Bool.eq_iff_iff.2 (by simp;omega)
 have h4:((c.toNat:Int) != 10)=(c.toNat != 10):=by rw[bne,bne];congr 1;exact Bool.eq_iff_iff.2 (by simp;omega)
 rw[h1,h2,h3,h4];rfl
theorem q6f{s:List UInt8}{i:Nat}(hi:i<s.length)(h:gch s[i]=false):gname s=false:=by
 unfold gname
 have:s.all gch=false:=by
  rw[List.all_eq_false]
  exact⟨s[i],List.getElem_mem hi,by simp[h]⟩
 rw[this];rfl
theorem qri(s:List UInt8)(cap k:Nat)(hk:k<s.length):(bytesRow ⟨s.toArray⟩ cap)[k]? = some (.int .u8 s[k].toNat):=by
 simp only[bytesRow]
 rw[Array.getElem?_append_left (by simpa using hk)]
 simp[hk]
set_option maxRecDepth 100000 in
set_option maxHeartbeats 4000000 in
theorem qgq(s:List UInt8)(hs:s.length≤maxLen)(w:World):Calls Tryz.prog 130 #[.string ⟨s.toArray⟩] w fun e w'=>e=.returned (.bool (gname s))∧Below w.heap.size w w':=by
  have hrun:=run_bytes_of_string (P:=Tryz.prog) w 9 257 5 ⟨s.toArray⟩ Tryz.underlying9 Tryz.underlying257 Tryz.underlying5
  generalize hcap:grownCap w (⟨s.toArray⟩:ByteArray).size 0 5=cap at hrun
  have hge:s.length≤cap:=by rw[←hcap];exact grownCap_ge w _ 0 _
  clear hcap
  have hsz:(⟨s.toArray⟩:ByteArray).size=s.length:=rfl
  obtain⟨W,hW⟩:∃W,w.drew.alloc (.cells (bytesRow ⟨s.toArray⟩ cap) 5 ((bytesRow ⟨s.toArray⟩ cap).size,(bytesRow ⟨s.toArray⟩ cap).size+1))=W:=⟨_,rfl⟩
  have hb:Below w.heap.size w W:=by rw[←hW];exact Below.alloc (Below.drew (Below.refl _ _)) (Nat.le_refl _) _
  have hcell:∀k (hk:k<s.length),W.cell? ⟨w.heap.size,k,none⟩=some (.int .u8 s[k].toNat):=by
    intro k hk
    have:W.heap[w.heap.size]? = some (.cells (bytesRow ⟨s.toArray⟩ cap) 5 ((bytesRow ⟨s.toArray⟩ cap).size,(bytesRow ⟨s.toArray⟩ cap).size+1)):=by rw[←hW];show (w.heap.push _)[w.heap.size]? = _;simp
    simp only[World.cell?,this]
    exact qri s cap k hk
  rw[hW,hsz] at hrun
  clear hW
  have HC:=Lib.hid hcell;clear hcell
  have HB:=Lib.hid hb;clear hb
  go_enter Tryz.func130,Tryz.ntmps130
  go_wp2_with fail
  go_loopg [8] s.length (fun g x wr=>∃i:Nat,g=s.length-i∧i≤s.length∧x=.int .i64 i∧wr=W∧(s.take i).all gch=true)
  case atStart=>exact⟨0,rfl,by omega,rfl,rfl,by simp⟩
  case round=>
    obtain⟨i,hg,hi,rfl,rfl,hall⟩:=hrel
    have G:=Lib.hid hg;clear hg
    have HA:=Lib.hid hall;clear hall
    by_cases hlt:i<s.length
    · have hlt':(i:Int)<(s.length:Int):=by omega
      have c0:=HC.out i hlt
      have i0:(0:Int)≤(i:Int):=by omega
      have kw:IntKind.i64.wrap ((i:Int)+1)=(i:Int)+1:=IntWalk.i64_in _ (by unfold maxLen at hs;omega)
      have hgc:gch s[i] = !((decide ((s[i].toNat:Int)<32)||decide (126<(s[i].toNat:Int)))&&(s[i].toNat:Int) != 9&&(s[i].toNat:Int) != 10):=q6i s[i]
      have hset:(s.take (i+1)).all gch=((s.take i).all gch&&gch s[i]):=by
        rw[List.take_succ_eq_append_getElem hlt,List.all_append];simp
      have HG:=Lib.hid hgc;have HS:=Lib.hid hset;clear hgc hset
      go_wp2
      all_goals first
        | (go_roundg (s.length - (i + 1))
           case measure=>have:=G.out;omega
           case rel=>exact ⟨i + 1,rfl,hlt,rfl,rfl,by rw [HS.out,HA.out,HG.out]; simp_all <;> omega⟩)
        | (go_ret
           exact ⟨by rw [q6f hlt (by rw [HG.out]; simp_all <;> omega)]; rfl,HB.out⟩)
    · have hlt':¬(i:Int)<(s.length:Int):=by omega
      have hie:i=s.length:=by omega
      go_wp2
      go_ret
      refine⟨congrArg (fun b=>Ending.returned (.bool b)) ?_,HB.out⟩
      have:=HA.out
      rw[hie,List.take_length] at this
      unfold gname
      rw[this]
      simp only[Bool.true_and]
      exact decide_eq_decide.2 (by omega)
def qdh(k n:Int)(s:List UInt8)(len:Nat):Bool:=
 if k=0 then decide (0≤n)&&decide (n≤2147483647)&&s.isEmpty&&decide (len=0)
 else if k=1 then s.isEmpty&&decide (len=0)
 else if k=2 then decide (n=0)&&gname s&&decide (len≤8)
 else false
set_option maxRecDepth 100000 in
set_option maxHeartbeats 4000000 in
theorem qwc(k n:Int)(s:List UInt8)(a:Option Addr)(len c:Nat)(hs:s.length≤maxLen)(w:World) :
  Calls Tryz.prog 95 #[tmV k n s (.slice a len c)] w fun e w'=>e=.returned (.bool (qdh k n s len))∧Below w.heap.size w w':=by
 simp only[tmV]
 by_cases h0:k=0
 ·subst h0
  by_cases h1:0≤n
  ·by_cases h2:n≤2147483647
   ·cases s with
    |nil=>
     by_cases h3:len=0
     ·subst h3
      go_enter Tryz.func95,Tryz.ntmps95
      go_wp2
      go_ret
      exact⟨by simp[qdh,h1,h2],(by repeat (first|exact Below.refl _ _|assumption|apply Below.drew|(refine Below.setCell ?_ (by first|(simp;done)|omega|(simp;omega)) _)|(refine Below.alloc ?_ (by first|(simp;done)|omega|(simp;omega)) _)))⟩
     ·have h3':((len:Int)==0)=false:=by simpa using h3
      go_enter Tryz.func95,Tryz.ntmps95
      go_wp2
      go_ret
      exact⟨by simp[qdh,h3],(by repeat (first|exact Below.refl _ _|assumption|apply Below.drew|(refine Below.setCell ?_ (by first|(simp;done)|omega|(simp;omega)) _)|(refine Below.alloc ?_ (by first|(simp;done)|omega|(simp;omega)) _)))⟩
    |cons x s=>
     go_enter Tryz.func95,Tryz.ntmps95
     go_wp2
     go_ret
     exact⟨by simp[qdh],(by repeat (first|exact Below.refl _ _|assumption|apply Below.drew|(refine Below.setCell ?_ (by first|(simp;done)|omega|(simp;omega)) _)|(refine Below.alloc ?_ (by first|(simp;done)|omega|(simp;omega)) _)))⟩
   ·go_enter Tryz.func95,Tryz.ntmps95
    go_wp2
    go_ret
    exact⟨by simp[qdh];intros;omega,(by repeat (first|exact Below.refl _ _|assumption|apply Below.drew|(refine Below.setCell ?_ (by first|(simp;done)|omega|(simp;omega)) _)|(refine Below.alloc ?_ (by first|(simp;done)|omega|(simp;omega)) _)))⟩
  ·go_enter Tryz.func95,Tryz.ntmps95
   go_wp2
   go_ret
   exact⟨by simp[qdh];intros;omega,(by repeat (first|exact Below.refl _ _|assumption|apply Below.drew|(refine Below.setCell ?_ (by first|(simp;done)|omega|(simp;omega)) _)|(refine Below.alloc ?_ (by first|(simp;done)|omega|(simp;omega)) _)))⟩
 by_cases h1:k=1
 ·subst h1
  cases s with
  |nil=>
   by_cases h3:len=0
   ·subst h3
    go_enter Tryz.func95,Tryz.ntmps95
    go_wp2
    go_ret
    exact⟨by simp[qdh],(by repeat (first|exact Below.refl _ _|assumption|apply Below.drew|(refine Below.setCell ?_ (by first|(simp;done)|omega|(simp;omega)) _)|(refine Below.alloc ?_ (by first|(simp;done)|omega|(simp;omega)) _)))⟩
   ·have h3':((len:Int)==0)=false:=by simpa using h3
    go_enter Tryz.func95,Tryz.ntmps95
    go_wp2
    go_ret
    exact⟨by simp[qdh,h3],(by repeat (first|exact Below.refl _ _|assumption|apply Below.drew|(refine Below.setCell ?_ (by first|(simp;done)|omega|(simp;omega)) _)|(refine Below.alloc ?_ (by first|(simp;done)|omega|(simp;omega)) _)))⟩
  |cons x s=>
   go_enter Tryz.func95,Tryz.ntmps95
   go_wp2
   go_ret
   exact⟨by simp[qdh],(by repeat (first|exact Below.refl _ _|assumption|apply Below.drew|(refine Below.setCell ?_ (by first|(simp;done)|omega|(simp;omega)) _)|(refine Below.alloc ?_ (by first|(simp;done)|omega|(simp;omega)) _)))⟩
 by_cases h2:k=2
 ·subst h2
  by_cases h3:n=0
  ·subst h3
   cases hg:gname s with
   |true=>
    by_cases h4:len≤8
    ·have h4':(len:Int)≤8:=by omega
     go_enter Tryz.func95,Tryz.ntmps95
     go_wp2_with fail
     refine (qgq s hs _).mono ?_;rintro e w1 ⟨rfl,hb⟩
     rw[hg]
     obtain⟨t0,t1,t2,t3,z0,z1,z2,z3,ltt⟩:=((Blk.new w #[.int .i64 2,.int .i64 0,.string ⟨s.toArray⟩,.slice a len c] 32).keep hb).fourT
     have hb':Below w.heap.size w w1:=bcall (Below.alloc (Below.refl _ _) (Nat.le_refl _) _) hb
     go_wp2
     go_ret
     exact⟨by simp[qdh,hg,h4]<;>omega,hb'⟩
    ·have h4':¬(len:Int)≤8:=by omega
     go_enter Tryz.func95,Tryz.ntmps95
     go_wp2_with fail
     refine (qgq s hs _).mono ?_;rintro e w1 ⟨rfl,hb⟩
     rw[hg]
     obtain⟨t0,t1,t2,t3,z0,z1,z2,z3,ltt⟩:=((Blk.new w #[.int .i64 2,.int .i64 0,.string ⟨s.toArray⟩,.slice a len c] 32).keep hb).fourT
     have hb':Below w.heap.size w w1:=bcall (Below.alloc (Below.refl _ _) (Nat.le_refl _) _) hb
     go_wp2
     go_ret
     exact⟨by simp[qdh,hg,h4]<;>omega,hb'⟩
   |false=>
    go_enter Tryz.func95,Tryz.ntmps95
    go_wp2_with fail
    refine (qgq s hs _).mono ?_;rintro e w1 ⟨rfl,hb⟩
    rw[hg]
    go_wp2
    go_ret
    exact⟨by simp[qdh,hg],bcall (Below.alloc (Below.refl _ _) (Nat.le_refl _) _) hb⟩
  ·have h3':(n==0)=false:=by simpa using h3
   go_enter Tryz.func95,Tryz.ntmps95
   go_wp2
   go_ret
   exact⟨by simp[qdh,h3],(by repeat (first|exact Below.refl _ _|assumption|apply Below.drew|(refine Below.setCell ?_ (by first|(simp;done)|omega|(simp;omega)) _)|(refine Below.alloc ?_ (by first|(simp;done)|omega|(simp;omega)) _)))⟩
 ·have h0':(k==0)=false:=by simpa using h0
  have h1':(k==1)=false:=by simpa using h1
  have h2':(k==2)=false:=by simpa using h2
  go_enter Tryz.func95,Tryz.ntmps95
  go_wp2
  go_ret
  exact⟨by simp[qdh,h0,h1,h2],(by repeat (first|exact Below.refl _ _|assumption|apply Below.drew|(refine Below.setCell ?_ (by first|(simp;done)|omega|(simp;omega)) _)|(refine Below.alloc ?_ (by first|(simp;done)|omega|(simp;omega)) _)))⟩
end
section
open Go Go.ChangeShapes Go.WideShapes Go.ChangeAt Go.RowKit
mutual
def Tm.size:Tm→Nat
 |.mk _ _ _ l=>Tm.sizes l+1
def Tm.sizes:List Tm→Nat
 |[]=>0
 |x::l=>x.size+Tm.sizes l
end
mutual
def Tm.allG:Tm→Bool
 |.mk k n s l=>qdh k n s l.length&&Tm.allsG l
def Tm.allsG:List Tm→Bool
 |[]=>true
 |x::l=>x.allG&&Tm.allsG l
end
inductive Fine(N:Nat):Tm→Prop
 |mk (k n:Int) (s:List UInt8) (l:List Tm) (hk : -9223372036854775808≤k∧k≤9223372036854775807) (hn : -9223372036854775808≤n∧n≤9223372036854775807) (hs:s.length≤maxLen) (hl:l.length≤N) (h:∀x∈l,Fine N x):Fine N (.mk k n s l)
theorem qdd(t:Tm):t.size=Tm.sizes t.args+1:=by cases t;simp[Tm.size,Tm.args]
theorem qfz(t:Tm):t.allG=(qdh t.kind t.num t.name t.args.length&&Tm.allsG t.args):=by cases t;simp[Tm.allG,Tm.args,Tm.kind,Tm.num,Tm.name]
theorem qa4(l m:List Tm):Tm.sizes (l++m)=Tm.sizes l+Tm.sizes m:=by
 induction l with
 |nil=>simp[Tm.sizes]
 |cons x l ih=>simp[Tm.sizes,ih,Nat.add_assoc]
theorem qg0(l m:List Tm):Tm.allsG (l++m)=(Tm.allsG l&&Tm.allsG m):=by
 induction l with
 |nil=>simp[Tm.allsG]
 |cons x l ih=>simp[Tm.allsG,ih,Bool.and_assoc]
theorem qed(l:List Tm):Tm.sizes l.reverse=Tm.sizes l:=by
 induction l with
 |nil=>rfl
 |cons x l ih=>rw[List.reverse_cons,qa4,ih];simp[Tm.sizes];omega
theorem qrq(l:List Tm):Tm.allsG l.reverse=Tm.allsG l:=by
 induction l with
 |nil=>rfl
 |cons x l ih=>rw[List.reverse_cons,qg0,ih];simp[Tm.allsG,Bool.and_comm]
theorem qis(l:List Tm):l.length≤Tm.sizes l:=by
 induction l with
 |nil=>simp
 |cons x l ih=>have:=qdd x;simp[Tm.sizes];omega
theorem Fine.args{N:Nat}{t:Tm}(h:Fine N t):t.args.length≤N∧(∀x∈t.args,Fine N x)∧t.name.length≤maxLen:=by
 cases h with
 |mk k n s l hk hn hs hl h=>exact⟨hl,h,hs⟩
def stV(p:Tm×Value):List Value:=[.int .i64 p.1.kind,.int .i64 p.1.num,.string ⟨p.1.name.toArray⟩,p.2]
def stC(S:List (Tm×Value)):List Value:=S.flatMap stV
theorem qp4(S:List (Tm×Value)):(stC S).length=S.length*4:=by
 induction S with
 |nil=>rfl
 |cons p S ih=>
  show (stV p++stC S).length=_
  rw[List.length_append,ih]
  simp[stV];omega
theorem qir(S:List (Tm×Value))(p:Tm×Value):stC (S++[p])=stC S++stV p:=by simp[stC]
theorem qgf(S:List (Tm×Value))(p:Tm×Value)(c:Nat):(stC (S++[p]))[S.length*4+c]? = (stV p)[c]?:=by
 rw[qir,List.getElem?_append_right (by rw[qp4];omega),qp4]
 congr 1;omega
def StH(w:World)(B N:Nat)(S:List (Tm×Value)):Prop:=∀p∈S,Holds w (·<B) p.1 (tmV p.1.kind p.1.num p.1.name p.2)∧Fine N p.1
end
section
open Go Go.ChangeShapes Go.WideShapes Go.ChangeAt Go.RowKit
theorem Holds.prs{w:World}{X:Nat→Prop}{t:Tm}{k n:Int}{s:List UInt8}{a:Option Addr}{len c:Nat}(h:Holds w X t (tmV k n s (.slice a len c))) :
  ∃prs:List (Tm×Value),prs.map (·.1)=t.args∧∀i (hi:i<prs.length),∃(b:Addr),a=some b∧X b.block∧w.cell? (b.add (i*4))=some (.int .i64 prs[i].1.kind)∧w.cell? (b.add (i*4+1))=some (.int .i64 prs[i].1.num)∧w.cell? (b.add (i*4+2))=some (.string ⟨prs[i].1.name.toArray⟩)∧w.cell? (b.add (i*4+3))=some prs[i].2 ∧
   Holds w X prs[i].1 (tmV prs[i].1.kind prs[i].1.num prs[i].1.name prs[i].2):=by
 have hex:∀i:Nat,∃sl:Value,(hi:i<t.args.length)→∃(b:Addr),a=some b∧X b.block∧w.cell? (b.add (i*4))=some (.int .i64 t.args[i].kind)∧w.cell? (b.add (i*4+1))=some (.int .i64 t.args[i].num)∧w.cell? (b.add (i*4+2))=some (.string ⟨t.args[i].name.toArray⟩)∧w.cell? (b.add (i*4+3))=some sl ∧
   Holds w X t.args[i] (tmV t.args[i].kind t.args[i].num t.args[i].name sl):=by
  intro i
  by_cases hi:i<t.args.length
  ·obtain⟨b,sl,h1⟩:=h.arg hi
   exact⟨sl,fun _=>⟨b,h1⟩⟩
  ·exact⟨.nilFunc,fun h=>absurd h hi⟩
 obtain⟨L,hL⟩:=Classical.axiomOfChoice hex
 refine⟨t.args.mapIdx fun i x=>(x,L i),by apply List.ext_getElem<;>simp,fun i hi=>?_⟩
 have hi':i<t.args.length:=by simpa using hi
 have e:(t.args.mapIdx fun i x=>(x,L i))[i]=(t.args[i],L i):=by simp
 rw[e]
 exact hL i hi'
theorem q40{w w':World}{base:Nat}{e:TypeId}{size:Nat}{v:Value}{n:Nat}{xs:List Value}(h:w.ownsRow base e size v n xs)(hb:Below w.heap.size w w'):w'.ownsRow base e size v n xs:=by
 obtain⟨h1,h2|⟨g,cap,cur,rfl,h3,h4,h5⟩⟩:=h
 ·exact⟨h1,.inl h2⟩
 ·exact⟨h1,.inr ⟨g,cap,cur,rfl,h3,(hb.block g (Array.getElem?_eq_some_iff.1 h4).1).trans h4,h5⟩⟩
theorem Blk.grown'{w w':World}{b:Nat}{cs:Array Value}{t:TypeId}{row:Option Nat}(h:Blk w b cs t)(hg:w.grownBy w' row)(hr:∀g,row=some g→b≠g):Blk w' b cs t:=by
 unfold Blk;rw[hg.block b h.lt (fun e=>hr b e.symm rfl)];exact h
theorem qzc(w:World)(x y z u:Value)(t:TypeId):∀j v,[x,y,z,u][j]? = some v→(w.alloc (.cells #[x,y,z,u] t)).cell? ((⟨w.heap.size,0,none⟩:Addr).add j)=some v:=by
 intro j v hj
 have e:(⟨w.heap.size,0,none⟩:Addr).add j=⟨w.heap.size,j,none⟩:=by cases j<;>simp[Addr.add]
 rw[e]
 exact (Blk.new w #[x,y,z,u] t).cell (by simpa using hj)
theorem q4z(w:World)(x y z u:Value)(t:TypeId)(base:Nat)(hb:base≤w.heap.size):(w.alloc (.cells #[x,y,z,u] t)).ownsRow base t 4 (.slice (some ⟨w.heap.size,0,none⟩) 1 1) 1 [x,y,z,u]:=
 ⟨rfl,.inr ⟨w.heap.size,1,_,rfl,hb,Blk.new w _ _,Nat.le_refl _,by unfold maxLen;omega,rfl,rfl⟩⟩
set_option maxRecDepth 100000 in
set_option maxHeartbeats 10000000 in
theorem q61{X:Nat→Prop}(N:Nat)(hN:N≤1000)(t:Tm)(hf:Fine N t)(hsz:t.size≤1000000)(w:World)(v:Value)(h:Holds w X t v) :
  Calls Tryz.prog 94 #[v,.func (.func 95) #[] #[]] w fun e w'=>e=.returned (.bool t.allG)∧Below w.heap.size w w':=by
 obtain⟨sl,rfl⟩:=h.form
 obtain⟨a,c,rfl⟩:=h.args
 have h0:Holds w (·<w.heap.size) t (tmV t.kind t.num t.name (.slice a t.args.length c)):=h.there.mono fun b hb=>hb.2
 have HH:=Lib.hid h0;clear h h0
 have HF:=Lib.hid hf;clear hf
 obtain⟨i0,hi0,hz0,hz1,hz2⟩:=info_parts qov
 simp only[tmV]
 go_enter Tryz.func94,Tryz.ntmps94
 go_wp2_with fail
 go_loopg [5] t.size (fun g v wr=>∃S:List (Tm×Value),g=Tm.sizes (S.map (·.1))∧g≤t.size∧wr.ownsRow (w.heap.size+1) 32 4 v S.length (stC S)∧Hid (StH wr w.heap.size N S)∧Hid (Below w.heap.size w wr)∧Hid (t.allG=Tm.allsG (S.map (·.1))))
 case atStart=>
  refine⟨[(t,.slice a t.args.length c)],by simp[Tm.sizes],Nat.le_refl _,?_,Lib.hid ?_,Lib.hid (Below.alloc (Below.alloc (Below.refl _ _) (Nat.le_refl _) _) (by simp) _),Lib.hid (by simp[Tm.allsG])⟩
  ·have:=q4z (w.alloc (.cells #[.int .i64 t.kind,.int .i64 t.num,.string ⟨t.name.toArray⟩,.slice a t.args.length c] 32)) (.int .i64 t.kind) (.int .i64 t.num) (.string ⟨t.name.toArray⟩) (.slice a t.args.length c) 32 (w.heap.size+1) (by simp)
   simpa[stC,stV] using this
  ·intro p hp
   simp only[List.mem_singleton] at hp
   subst hp
   exact⟨HH.out.keep fun b hb=>by rw[Below.heap_alloc _ _ _ (by simp;omega),Below.heap_alloc _ _ _ hb],HF.out⟩
 case round=>
  obtain⟨S,hg,hgt,hown,HS,HB,HA⟩:=hrel
  rename World=>wo
  have G:=Lib.hid hg;clear hg
  rcases List.eq_nil_or_concat S with rfl|⟨R,p,rfl⟩
  ·rcases hown.2 with⟨rfl,_⟩|⟨g,cap,cur,rfl,_⟩
   ·go_wp2
    go_ret
    exact⟨by rw[HA.out];rfl,HB.out⟩
   ·simp only[List.length_nil]
    go_wp2
    go_ret
    exact⟨by rw[HA.out];rfl,HB.out⟩
  ·simp only[List.concat_eq_append,List.length_append,List.length_cons,List.length_nil,Nat.zero_add] at hown HS HA G ⊢
   obtain⟨g,cap,rfl⟩:=ownsRow_succ hown
   have ct0:=(hown.cellAt (R.length*4) (by omega)).trans (qgf R p 0)
   have ct1:=(hown.cellAt (R.length*4+1) (by omega)).trans (qgf R p 1)
   have ct2:=(hown.cellAt (R.length*4+2) (by omega)).trans (qgf R p 2)
   have ct3:=(hown.cellAt (R.length*4+3) (by omega)).trans (qgf R p 3)
   obtain⟨hp,hpf⟩:=HS.out p (by simp)
   obtain⟨pt,psl⟩:=p
   obtain⟨pa,pc,hpe⟩:=hp.args
   dsimp only at hpe
   subst hpe
   simp only[stV,List.getElem?_cons_zero,List.getElem?_cons_succ] at ct0 ct1 ct2 ct3
   have hbase:=(hown.lt g rfl)
   have hlen:R.length<1000000:=by
    have h1:=qis ((R++[(pt,Value.slice pa pt.args.length pc)]).map (·.1))
    have h2:=G.out
    simp only[List.length_map,List.length_append,List.length_cons,List.length_nil] at h1
    omega
   have hcap:R.length+1≤cap:=by
    rcases hown.2 with⟨h,_⟩|⟨g',cap',cur,h,_,_,h3,_⟩
    ·cases h
    ·cases h;exact h3
   have hwr:IntKind.i64.wrap ((R.length:Int)+1-1)=(R.length:Int):=by rw[IntWalk.i64_in _ (by omega)];omega
   have hpos:0<(R.length:Int)+1:=by omega
   have hix1:(R.length:Int)<(R.length:Int)+1:=by omega
   have hix2:(R.length:Int)<((R.length+1:Nat):Int):=by omega
   have hix3:R.length<R.length+1:=by omega
   have hix0:(0:Int)≤(R.length:Int):=by omega
   have hix4:(R.length:Int)≤(cap:Int):=by omega
   have HO:=Lib.hid hown;have HP:=Lib.hid hp;have HPF:=Lib.hid hpf;clear hown hp hpf
   go_wp2_with fail
   refine (qwc pt.kind pt.num pt.name pa pt.args.length pc HPF.out.args.2.2 _).mono ?_;rintro e w1 ⟨rfl,hb1⟩
   have hb2:Below w.heap.size w w1:=(Below.alloc HB.out (HB.out.size) _).trans (hb1.mono (by have:=HB.out.size;simp;omega))
   have hpop:w1.ownsRow (w.heap.size+1) 32 4 (.slice (some ⟨g,0,none⟩) R.length cap) R.length (stC R):=by
    have h1:=q40 (HO.out.alloc _) hb1
    rw[qir] at h1
    exact ownsRow_pop (qp4 R) h1
   obtain⟨t0,t1,t2,t3,z0,z1,z2,z3,ltt⟩:=((Blk.new wo #[.int .i64 pt.kind,.int .i64 pt.num,.string ⟨pt.name.toArray⟩,.slice pa pt.args.length pc] 32).keep hb1).fourT
   have hbx:=((Blk.new wo #[.int .i64 pt.kind,.int .i64 pt.num,.string ⟨pt.name.toArray⟩,.slice pa pt.args.length pc] 32).keep hb1)
   have HPOP:=Lib.hid hpop;have HB2:=Lib.hid hb2;have HBX:=Lib.hid hbx;clear hpop hb2 hbx hb1
   have hall:Tm.allsG ((R++[(pt,Value.slice pa pt.args.length pc)]).map (·.1))=(Tm.allsG (R.map (·.1))&&(qdh pt.kind pt.num pt.name pt.args.length&&Tm.allsG pt.args)):=by
    rw[List.map_append,qg0,List.map_singleton]
    simp only[Tm.allsG,Bool.and_true]
    rw[qfz]
   have HAL:=Lib.hid hall;clear hall
   cases hgo:qdh pt.kind pt.num pt.name pt.args.length with
   |false=>
    go_wp2
    go_ret
    exact⟨by rw[HA.out,HAL.out,hgo];simp,HB2.out⟩
   |true=>
    have hm:=HPF.out.args.1
    have kw1:IntKind.i64.wrap ((pt.args.length:Int)-1)=(pt.args.length:Int)-1:=IntWalk.i64_in _ (by omega)
    obtain⟨prs,hpm,hprs⟩:=HP.out.prs
    have hpl:prs.length=pt.args.length:=by rw[←hpm];simp
    have HPR:=Lib.hid hprs;have HPM:=Lib.hid hpm;clear hprs hpm
    go_wp2_with fail
    go_loopg [5,7] pt.args.length (fun gi v x wr2=>gi ≤ pt.args.length ∧ x = .int .i64 ((gi : Int) - 1) ∧ wr2.ownsRow (w.heap.size + 1) 32 4 v (R ++ (prs.drop gi).reverse).length (stC (R ++ (prs.drop gi).reverse)) ∧ Hid (v.ownBlock ≠ some wo.heap.size) ∧ Hid (Below w.heap.size w wr2) ∧
     Hid (Blk wr2 wo.heap.size #[.int .i64 pt.kind,.int .i64 pt.num,.string ⟨pt.name.toArray⟩,.slice pa pt.args.length pc] 32))
    case atStart=>
     refine⟨Nat.le_refl _,rfl,?_,Lib.hid (fun e=>by simp[Value.ownBlock] at e;omega),HB2,HBX⟩
     rw[←hpl,List.drop_length]
     simpa using HPOP.out
    case round=>
     obtain⟨hgi,rfl,hown,HNE,HB3,HBX3⟩:=hrel
     cases gk with
     |zero=>
      have e0:(((0:Nat):Int)-1) = -1:=rfl
      rw[e0]
      rw[List.drop_zero] at hown
      have HOW:=Lib.hid hown;clear hown
      go_wp2
      go_roundg (Tm.sizes ((R++prs.reverse).map (·.1)))
      case measure=>
       have h1:=G.out
       simp only[List.map_append,qa4,List.map_reverse,qed,HPM.out,List.map_singleton,Tm.sizes,qdd pt] at h1 ⊢
       omega
      case rel=>
       refine⟨R++prs.reverse,rfl,?_,HOW.out,Lib.hid ?_,HB3,Lib.hid ?_⟩
       ·have h1:=G.out
        simp only[List.map_append,qa4,List.map_reverse,qed,HPM.out,List.map_singleton,Tm.sizes,qdd pt] at h1 ⊢
        omega
       ·have hk:∀b,b<w.heap.size→wr.heap[b]? = wo.heap[b]?:=fun b hb=>(HB3.out.block b hb).trans (HB.out.block b hb).symm
        intro q hq
        rcases List.mem_append.1 hq with hq|hq
        ·have:=HS.out q (List.mem_append_left _ hq)
         exact⟨this.1.keep hk,this.2⟩
        ·rw[List.mem_reverse] at hq
         obtain⟨j,hj,rfl⟩:=List.getElem_of_mem hq
         obtain⟨b,-,-,-,-,-,-,hh⟩:=HPR.out j hj
         refine⟨hh.keep hk,HPF.out.args.2.1 _ ?_⟩
         rw[←HPM.out]
         exact List.mem_map_of_mem (List.getElem_mem hj)
       ·rw[HA.out,HAL.out,hgo]
        simp only[List.map_append,qg0,List.map_reverse,qrq,HPM.out,Bool.true_and]
     |succ i=>
      have e1:(((i+1:Nat):Int)-1)=(i:Int):=by omega
      rw[e1]
      have hi:i<prs.length:=by omega
      obtain⟨b,rfl,hbl,c0,c1,c2,c3,hh⟩:=HPR.out i hi
      have hk:∀(o:Nat) (u:Value),wo.cell? (b.add o)=some u→wr.cell? (b.add o)=some u:=fun o u hu=>(World.cell?_of_block (by rw[qjl];exact (HB3.out.block _ hbl).trans (HB.out.block _ hbl).symm)).trans hu
      replace c0:=hk _ _ c0;replace c1:=hk _ _ c1;replace c2:=hk _ _ c2;replace c3:=hk _ _ c3
      obtain⟨a2,cc2,he2⟩:=hh.args
      rw[he2] at c3
      replace c1:=cellat c1;replace c2:=cellat c2;replace c3:=cellat c3
      have HH2:=Lib.hid hh;have HE2:=Lib.hid he2;clear hh he2
      obtain⟨x0,x1,x2,x3,y0,y1,y2,y3,ltx⟩:=HBX3.out.fourT
      have hdrop:R++(prs.drop i).reverse=(R++(prs.drop (i+1)).reverse)++[prs[i]]:=by
       rw[List.drop_eq_getElem_cons hi,List.reverse_cons,List.append_assoc]
      have hln:(R++(prs.drop (i+1)).reverse).length≤2000000:=by simp;omega
      have HD:=Lib.hid hdrop;clear hdrop
      have kw2:IntKind.i64.wrap ((i:Int)-1)=(i:Int)-1:=IntWalk.i64_in _ (by omega)
      have i0':(0:Int)≤(i:Int):=by omega
      have hlt1:(i:Int)<(pt.args.length:Int):=by omega
      have hsize3:=HB3.out.size
      go_wp2_with (at_builtin;refine wpList_append_own_at _ rfl _ _ 30 rfl (w.heap.size+1) 32 i0 _ 4 56 Tryz.underlying30 hi0 hz0 hz1 hz2 rfl (by decide) _ _ _ rfl (hown.alloc _) ⟨wr.heap.size,0,none⟩ 1 1 [.int .i64 prs[i].1.kind,.int .i64 prs[i].1.num,.string ⟨prs[i].1.name.toArray⟩,.slice a2 prs[i].1.args.length cc2] rfl rfl (qzc _ _ _ _ _ _) (by intro u hu;simp at hu;rcases hu with rfl|rfl|rfl|rfl<;>rfl) (by unfold maxLen;omega) (by omega) (by simp;omega) ?_;intro v' w3 hown' hgrow hnil hob)
      have hown2:w3.ownsRow (w.heap.size+1) 32 4 v' (R++(prs.drop i).reverse).length (stC (R++(prs.drop i).reverse)):=by
       rw[HD.out,qir,List.length_append]
       have e:stV prs[i]=[.int .i64 prs[i].1.kind,.int .i64 prs[i].1.num,.string ⟨prs[i].1.name.toArray⟩,.slice a2 prs[i].1.args.length cc2]:=by unfold stV;rw[HE2.out]
       rw[e]
       exact hown'
      have hrow:∀g',u5.ownBlock=some g'→w.heap.size+1≤g':=fun g' e=>(hown.lt g' e).1
      have hbel:Below w.heap.size w w3:=qky (Below.alloc HB3.out hsize3 _) hgrow (fun g' e=>Nat.le_of_succ_le (hrow g' e)) (by simp;omega)
      have hbx3:=(HBX3.out.alloc (.cells #[.int .i64 prs[i].1.kind,.int .i64 prs[i].1.num,.string ⟨prs[i].1.name.toArray⟩,.slice a2 prs[i].1.args.length cc2] 32)).grown' hgrow (fun g' e he=>HNE.out (by rw[←he] at e;exact e))
      have hne:v'.ownBlock≠some wo.heap.size:=by
       rcases hob with h|h
       ·rw[h];exact HNE.out
       ·rw[h];intro e;simp at e;omega
      have HA1:Aside ((w3.ownsRow (w.heap.size+1) 32 4 v' (R++(prs.drop i).reverse).length (stC (R++(prs.drop i).reverse)))∧Below w.heap.size w w3∧(Blk w3 wo.heap.size #[.int .i64 pt.kind,.int .i64 pt.num,.string ⟨pt.name.toArray⟩,.slice (some b) pt.args.length pc] 32)∧v'.ownBlock≠some wo.heap.size):=⟨hown2,hbel,hbx3,hne⟩
      clear hown2 hbel hbx3 hne hown' hgrow hnil hob
      go_wp2
      go_roundg i
      case measure=>omega
      case rel=>
       exact⟨by omega,rfl,HA1.out.1,HA1.out.2.2.2,HA1.out.2.1,HA1.out.2.2.1⟩
end
section
open Go Go.ChangeShapes Go.WideShapes Go.ChangeAt Go.RowKit
structure But(b:Nat)(w w':World):Prop where
 os:w'.os=w.os
 tape:w'.tape=w.tape
 output:w'.output=w.output
 size:w.heap.size≤w'.heap.size
 block:∀k,k<w.heap.size→k≠b→w'.heap[k]? = w.heap[k]?
theorem But.refl(b:Nat)(w:World):But b w w:=⟨rfl,rfl,rfl,Nat.le_refl _,fun _ _ _=>rfl⟩
theorem But.trans{b:Nat}{x y z:World}(h:But b x y)(k:But b y z):But b x z:=
 ⟨k.os.trans h.os,k.tape.trans h.tape,k.output.trans h.output,Nat.le_trans h.size k.size,fun i hi hb=>(k.block i (Nat.lt_of_lt_of_le hi h.size) hb).trans (h.block i hi hb)⟩
theorem But.of{b:Nat}{w w':World}(h:Below w.heap.size w w'):But b w w':=⟨h.os,h.tape,h.output,h.size,fun k hk _=>h.block k hk⟩
theorem But.below{b B:Nat}{a w w':World}(h:Below B a w)(k:But b w w')(hb:B≤b)(hB:B≤w.heap.size):Below B a w':=
 ⟨k.os.trans h.os,k.tape.trans h.tape,k.output.trans h.output,Nat.le_trans h.size k.size,fun i hi=>(k.block i (by omega) (by omega)).trans (h.block i hi)⟩
theorem But.set{b:Nat}{x w:World}(h:But b x w)(i:Nat)(v:Value):But b x (w.setCell ⟨b,i,none⟩ v):=
 h.trans ⟨rfl,rfl,rfl,by simp[World.setCell],fun k hk hb=>Below.heap_setCell _ _ _ _ hb⟩
theorem But.alloc{b:Nat}{x w:World}(h:But b x w)(o:Obj):But b x (w.alloc o):=h.trans (But.of (Below.alloc (Below.refl _ _) (Nat.le_refl _) o))
theorem Blk.but{b c:Nat}{w w':World}{cs:Array Value}{t:TypeId}(h:Blk w c cs t)(k:But b w w')(hb:c≠b):Blk w' c cs t:=by
 unfold Blk;rw[k.block c h.lt hb];exact h
end
section
open Go Go.ChangeShapes Go.WideShapes Go.ChangeAt Go.RowKit
theorem own_but{w w':World}{base b:Nat}{e:TypeId}{size:Nat}{v:Value}{n:Nat}{xs:List Value}(h:w.ownsRow base e size v n xs)(hb:But b w w')(hlt:b<base):w'.ownsRow base e size v n xs:=by
 obtain⟨h1,h2|⟨g,cap,cur,rfl,h3,h4,h5⟩⟩:=h
 ·exact⟨h1,.inl h2⟩
 ·exact⟨h1,.inr ⟨g,cap,cur,rfl,h3,(hb.block g (Array.getElem?_eq_some_iff.1 h4).1 (by omega)).trans h4,h5⟩⟩
set_option maxRecDepth 100000 in
set_option maxHeartbeats 4000000 in
theorem q3r(k n:Int)(s:List UInt8)(a:Option Addr)(len c:Nat)(B m:Nat)(hm:m≤1000000000)(w:World)(hB:Blk w B #[.int .i64 m] 3) :
  Calls Tryz.prog 128 #[tmV k n s (.slice a len c),.pointer (some ⟨B,0,none⟩)] w fun e w'=>e=.returned (.bool (decide (m+1≤2000)))∧Blk w' B #[.int .i64 (m+1:Nat)] 3∧But B w w':=by
 simp only[tmV]
 obtain⟨c0,f0,hbl⟩:=hB.one
 have kw:IntKind.i64.wrap ((m:Int)+1)=((m+1:Nat):Int):=by rw[IntWalk.i64_in _ (by omega)];omega
 have hne:B≠w.heap.size:=by omega
 go_enter Tryz.func128,Tryz.ntmps128
 go_wp2
 go_ret
 exact⟨by simp;try omega,(hB.store 0 _).alloc _,((But.refl _ _).set _ _).alloc _⟩
set_option maxRecDepth 100000 in
set_option maxHeartbeats 10000000 in
theorem q6z(B Bn N:Nat)(hN:N≤1000)(t:Tm)(hf:Fine N t)(w:World)(hBB:B≤Bn)(hBn:Blk w Bn #[.int .i64 (0:Nat)] 3)(v:Value)(h:Holds w (·<B) t v) :
  Calls Tryz.prog 94 #[v,.func (.func 128) #[] #[.pointer (some ⟨Bn,0,none⟩)]] w fun e w'=>(∃b,e=.returned (.bool b))∧Blk w' Bn #[.int .i64 (min t.size 2001:Nat)] 3∧Below B w w':=by
 obtain⟨sl,rfl⟩:=h.form
 obtain⟨a,c,rfl⟩:=h.args
 have HH:=Lib.hid h;clear h
 have hBnl:=hBn.lt
 have hBw:B≤w.heap.size:=by omega
 have HBN:=Lib.hid hBn;clear hBn
 have HF:=Lib.hid hf;clear hf
 obtain⟨i0,hi0,hz0,hz1,hz2⟩:=info_parts qov
 simp only[tmV]
 go_enter Tryz.func94,Tryz.ntmps94
 go_wp2_with fail
 go_loopg [5] t.size (fun g v wr=>∃(S:List (Tm×Value)) (m:Nat),g=Tm.sizes (S.map (·.1))∧Hid (m+g=t.size)∧m≤2000∧Hid (S.length≤1+1000*m)∧Blk wr Bn #[.int .i64 (m:Nat)] 3∧wr.ownsRow (w.heap.size+1) 32 4 v S.length (stC S)∧Hid (StH wr B N S)∧Hid (Below B w wr))
 case atStart=>
  refine⟨[(t,.slice a t.args.length c)],0,by simp[Tm.sizes],Lib.hid (by simp),by omega,Lib.hid (by simp),(HBN.out.alloc _).alloc _,?_,Lib.hid ?_,Lib.hid (Below.alloc (Below.alloc (Below.refl _ _) hBw _) (by simp;omega) _)⟩
  ·have:=q4z (w.alloc (.cells #[.int .i64 t.kind,.int .i64 t.num,.string ⟨t.name.toArray⟩,.slice a t.args.length c] 32)) (.int .i64 t.kind) (.int .i64 t.num) (.string ⟨t.name.toArray⟩) (.slice a t.args.length c) 32 (w.heap.size+1) (by simp)
   simpa[stC,stV] using this
  ·intro p hp
   simp only[List.mem_singleton] at hp
   subst hp
   exact⟨HH.out.keep fun b hb=>by rw[Below.heap_alloc _ _ _ (by simp;omega),Below.heap_alloc _ _ _ (by omega)],HF.out⟩
 case round=>
  obtain⟨S,m,hg,HM,hm2,HSL,hblk,hown,HS,HB⟩:=hrel
  rename World=>wo
  have G:=Lib.hid hg;clear hg
  rcases List.eq_nil_or_concat S with rfl|⟨R,p,rfl⟩
  ·rcases hown.2 with⟨rfl,_⟩|⟨g,cap,cur,rfl,_⟩
   ·go_wp2
    go_ret
    exact⟨⟨_,rfl⟩,by rw[show min t.size 2001=m by have h1:=HM.out;have h2:=G.out;simp[Tm.sizes] at h2;omega];exact hblk,HB.out⟩
   ·simp only[List.length_nil]
    go_wp2
    go_ret
    exact⟨⟨_,rfl⟩,by rw[show min t.size 2001=m by have h1:=HM.out;have h2:=G.out;simp[Tm.sizes] at h2;omega];exact hblk,HB.out⟩
  ·simp only[List.concat_eq_append,List.length_append,List.length_cons,List.length_nil,Nat.zero_add] at hown HS HSL G ⊢
   obtain⟨g,cap,rfl⟩:=ownsRow_succ hown
   have ct0:=(hown.cellAt (R.length*4) (by omega)).trans (qgf R p 0)
   have ct1:=(hown.cellAt (R.length*4+1) (by omega)).trans (qgf R p 1)
   have ct2:=(hown.cellAt (R.length*4+2) (by omega)).trans (qgf R p 2)
   have ct3:=(hown.cellAt (R.length*4+3) (by omega)).trans (qgf R p 3)
   obtain⟨hp,hpf⟩:=HS.out p (by simp)
   obtain⟨pt,psl⟩:=p
   obtain⟨pa,pc,hpe⟩:=hp.args
   dsimp only at hpe
   subst hpe
   simp only[stV,List.getElem?_cons_zero,List.getElem?_cons_succ] at ct0 ct1 ct2 ct3
   have hbase:=(hown.lt g rfl)
   have hlen:R.length<3000000:=by have:=HSL.out;omega
   have hcap:R.length+1≤cap:=by
    rcases hown.2 with⟨h,_⟩|⟨g',cap',cur,h,_,_,h3,_⟩
    ·cases h
    ·cases h;exact h3
   have hwr:IntKind.i64.wrap ((R.length:Int)+1-1)=(R.length:Int):=by rw[IntWalk.i64_in _ (by omega)];omega
   have hpos:0<(R.length:Int)+1:=by omega
   have hix1:(R.length:Int)<(R.length:Int)+1:=by omega
   have hix2:(R.length:Int)<((R.length+1:Nat):Int):=by omega
   have hix3:R.length<R.length+1:=by omega
   have hix0:(0:Int)≤(R.length:Int):=by omega
   have hix4:(R.length:Int)≤(cap:Int):=by omega
   have HO:=Lib.hid hown;have HP:=Lib.hid hp;have HPF:=Lib.hid hpf;clear hown hp hpf
   go_wp2_with fail
   refine (q3r pt.kind pt.num pt.name pa pt.args.length pc Bn m (by omega) _ (hblk.alloc _)).mono ?_;rintro e w1 ⟨rfl,hblk1,hbut⟩
   have hws:=HB.out.size
   have hb2:Below B w w1:=But.below (Below.alloc HB.out (by omega) _) hbut hBB (by simp;omega)
   have hpop:w1.ownsRow (w.heap.size+1) 32 4 (.slice (some ⟨g,0,none⟩) R.length cap) R.length (stC R):=by
    have h1:=own_but (HO.out.alloc _) hbut (by omega)
    rw[qir] at h1
    exact ownsRow_pop (qp4 R) h1
   obtain⟨t0,t1,t2,t3,z0,z1,z2,z3,ltt⟩:=((Blk.new wo #[.int .i64 pt.kind,.int .i64 pt.num,.string ⟨pt.name.toArray⟩,.slice pa pt.args.length pc] 32).but hbut (by omega)).fourT
   have hbx:=((Blk.new wo #[.int .i64 pt.kind,.int .i64 pt.num,.string ⟨pt.name.toArray⟩,.slice pa pt.args.length pc] 32).but hbut (by omega))
   have HPOP:=Lib.hid hpop;have HB2:=Lib.hid hb2;have HBX:=Lib.hid hbx;have HBUT:=Lib.hid hbut;clear hpop hb2 hbx hbut
   have hs0:=G.out
   simp only[List.map_append,qa4,List.map_singleton,Tm.sizes,qdd pt] at hs0
   have HS0:=Lib.hid hs0;clear hs0
   by_cases hgo:m+1≤2000
   case neg=>
    rw[decide_eq_false hgo]
    go_wp2
    go_ret
    exact⟨⟨_,rfl⟩,by rw[show min t.size 2001=m+1 by have h1:=HM.out;have h2:=HS0.out;omega];exact hblk1,HB2.out⟩
   case pos=>
    rw[decide_eq_true hgo]
    have hm:=HPF.out.args.1
    have kw1:IntKind.i64.wrap ((pt.args.length:Int)-1)=(pt.args.length:Int)-1:=IntWalk.i64_in _ (by omega)
    obtain⟨prs,hpm,hprs⟩:=HP.out.prs
    have hpl:prs.length=pt.args.length:=by rw[←hpm];simp
    have HPR:=Lib.hid hprs;have HPM:=Lib.hid hpm;clear hprs hpm
    go_wp2_with fail
    go_loopg [5,7] pt.args.length (fun gi v x wr2=>gi ≤ pt.args.length ∧ x = .int .i64 ((gi : Int) - 1) ∧ wr2.ownsRow (w.heap.size + 1) 32 4 v (R ++ (prs.drop gi).reverse).length (stC (R ++ (prs.drop gi).reverse)) ∧ Hid (v.ownBlock ≠ some wo.heap.size) ∧ Hid (Blk wr2 Bn #[.int .i64 (m + 1 : Nat)] 3) ∧ Hid (Below B w wr2) ∧
     Hid (Blk wr2 wo.heap.size #[.int .i64 pt.kind,.int .i64 pt.num,.string ⟨pt.name.toArray⟩,.slice pa pt.args.length pc] 32))
    case atStart=>
     refine⟨Nat.le_refl _,rfl,?_,Lib.hid (fun e=>by simp[Value.ownBlock] at e;omega),Lib.hid hblk1,HB2,HBX⟩
     rw[←hpl,List.drop_length]
     simpa using HPOP.out
    case round=>
     obtain⟨hgi,rfl,hown,HNE,HBN3,HB3,HBX3⟩:=hrel
     cases gk with
     |zero=>
      have e0:(((0:Nat):Int)-1) = -1:=rfl
      rw[e0]
      rw[List.drop_zero] at hown
      have HOW:=Lib.hid hown;clear hown
      go_wp2
      go_roundg (Tm.sizes ((R++prs.reverse).map (·.1)))
      case measure=>
       have h1:=G.out
       simp only[List.map_append,qa4,List.map_reverse,qed,HPM.out,List.map_singleton,Tm.sizes,qdd pt] at h1 ⊢
       omega
      case rel=>
       refine⟨R++prs.reverse,m+1,rfl,Lib.hid ?_,hgo,Lib.hid ?_,HBN3.out,HOW.out,Lib.hid ?_,HB3⟩
       ·have h1:=HS0.out
        have h2:=HM.out
        simp only[List.map_append,qa4,List.map_reverse,qed,HPM.out]
        omega
       ·have:=HSL.out
        simp only[List.length_append,List.length_reverse]
        omega
       ·have hk:∀b,b<B→wr.heap[b]? = wo.heap[b]?:=fun b hb=>(HB3.out.block b hb).trans (HB.out.block b hb).symm
        intro q hq
        rcases List.mem_append.1 hq with hq|hq
        ·have:=HS.out q (List.mem_append_left _ hq)
         exact⟨this.1.keep hk,this.2⟩
        ·rw[List.mem_reverse] at hq
         obtain⟨j,hj,rfl⟩:=List.getElem_of_mem hq
         obtain⟨b,-,-,-,-,-,-,hh⟩:=HPR.out j hj
         refine⟨hh.keep hk,HPF.out.args.2.1 _ ?_⟩
         rw[←HPM.out]
         exact List.mem_map_of_mem (List.getElem_mem hj)
     |succ i=>
      have e1:(((i+1:Nat):Int)-1)=(i:Int):=by omega
      rw[e1]
      have hi:i<prs.length:=by omega
      obtain⟨b,rfl,hbl,c0,c1,c2,c3,hh⟩:=HPR.out i hi
      have hk:∀(o:Nat) (u:Value),wo.cell? (b.add o)=some u→wr.cell? (b.add o)=some u:=fun o u hu=>(World.cell?_of_block (by rw[qjl];exact (HB3.out.block _ hbl).trans (HB.out.block _ hbl).symm)).trans hu
      replace c0:=hk _ _ c0;replace c1:=hk _ _ c1;replace c2:=hk _ _ c2;replace c3:=hk _ _ c3
      obtain⟨a2,cc2,he2⟩:=hh.args
      rw[he2] at c3
      replace c1:=cellat c1;replace c2:=cellat c2;replace c3:=cellat c3
      have HH2:=Lib.hid hh;have HE2:=Lib.hid he2;clear hh he2
      obtain⟨x0,x1,x2,x3,y0,y1,y2,y3,ltx⟩:=HBX3.out.fourT
      have hdrop:R++(prs.drop i).reverse=(R++(prs.drop (i+1)).reverse)++[prs[i]]:=by
       rw[List.drop_eq_getElem_cons hi,List.reverse_cons,List.append_assoc]
      have hln:(R++(prs.drop (i+1)).reverse).length≤4000000:=by simp;omega
      have HD:=Lib.hid hdrop;clear hdrop
      have kw2:IntKind.i64.wrap ((i:Int)-1)=(i:Int)-1:=IntWalk.i64_in _ (by omega)
      have i0':(0:Int)≤(i:Int):=by omega
      have hlt1:(i:Int)<(pt.args.length:Int):=by omega
      have hsize3:=HB3.out.size
      go_wp2_with (at_builtin;refine wpList_append_own_at _ rfl _ _ 30 rfl (w.heap.size+1) 32 i0 _ 4 56 Tryz.underlying30 hi0 hz0 hz1 hz2 rfl (by decide) _ _ _ rfl (hown.alloc _) ⟨wr.heap.size,0,none⟩ 1 1 [.int .i64 prs[i].1.kind,.int .i64 prs[i].1.num,.string ⟨prs[i].1.name.toArray⟩,.slice a2 prs[i].1.args.length cc2] rfl rfl (qzc _ _ _ _ _ _) (by intro u hu;simp at hu;rcases hu with rfl|rfl|rfl|rfl<;>rfl) (by unfold maxLen;omega) (by omega) (by simp;omega) ?_;intro v' w3 hown' hgrow hnil hob)
      have hown2:w3.ownsRow (w.heap.size+1) 32 4 v' (R++(prs.drop i).reverse).length (stC (R++(prs.drop i).reverse)):=by
       rw[HD.out,qir,List.length_append]
       have e:stV prs[i]=[.int .i64 prs[i].1.kind,.int .i64 prs[i].1.num,.string ⟨prs[i].1.name.toArray⟩,.slice a2 prs[i].1.args.length cc2]:=by unfold stV;rw[HE2.out]
       rw[e]
       exact hown'
      have hrow:∀g',u5.ownBlock=some g'→w.heap.size+1≤g':=fun g' e=>(hown.lt g' e).1
      have hbel:Below B w w3:=qky (Below.alloc HB3.out (by omega) _) hgrow (fun g' e=>by have:=hrow g' e;omega) (by simp;omega)
      have hbn3:=(HBN3.out.alloc (.cells #[.int .i64 prs[i].1.kind,.int .i64 prs[i].1.num,.string ⟨prs[i].1.name.toArray⟩,.slice a2 prs[i].1.args.length cc2] 32)).grown' hgrow (fun g' e he=>by have:=hrow g' e;omega)
      have hbx3:=(HBX3.out.alloc (.cells #[.int .i64 prs[i].1.kind,.int .i64 prs[i].1.num,.string ⟨prs[i].1.name.toArray⟩,.slice a2 prs[i].1.args.length cc2] 32)).grown' hgrow (fun g' e he=>HNE.out (by rw[←he] at e;exact e))
      have hne:v'.ownBlock≠some wo.heap.size:=by
       rcases hob with h|h
       ·rw[h];exact HNE.out
       ·rw[h];intro e;simp at e;omega
      have HA1:Aside ((w3.ownsRow (w.heap.size+1) 32 4 v' (R++(prs.drop i).reverse).length (stC (R++(prs.drop i).reverse)))∧Below B w w3∧(Blk w3 wo.heap.size #[.int .i64 pt.kind,.int .i64 pt.num,.string ⟨pt.name.toArray⟩,.slice (some b) pt.args.length pc] 32)∧v'.ownBlock≠some wo.heap.size∧Blk w3 Bn #[.int .i64 (m+1:Nat)] 3):=⟨hown2,hbel,hbx3,hne,hbn3⟩
      clear hown2 hbel hbx3 hne hbn3 hown' hgrow hnil hob
      go_wp2
      go_roundg i
      case measure=>omega
      case rel=>
       exact⟨by omega,rfl,HA1.out.1,Lib.hid HA1.out.2.2.2.1,Lib.hid HA1.out.2.2.2.2,Lib.hid HA1.out.2.1,Lib.hid HA1.out.2.2.1⟩
end
section
open Go Go.ChangeShapes Go.WideShapes Go.ChangeAt Go.RowKit
def Tm.good(t:Tm):Bool:=decide (t.size≤2000)&&decide (t.height≤64)&&t.allG
set_option maxHeartbeats 4000000 in
theorem qp8{X:Nat→Prop}(N:Nat)(hN:N≤1000)(t:Tm)(hf:Fine N t)(w:World)(v:Value)(h:Holds w X t v) :
  Calls Tryz.prog 92 #[v] w fun e w'=>e=.returned (.int .i64 (min t.size 2001:Nat))∧Below w.heap.size w w':=by
 obtain⟨sl,rfl⟩:=h.form
 obtain⟨a,c,rfl⟩:=h.args
 have h0:Holds w (·<w.heap.size) t (tmV t.kind t.num t.name (.slice a t.args.length c)):=h.there.mono fun b hb=>hb.2
 have HH:=Lib.hid h0;clear h h0
 have HF:=Lib.hid hf;clear hf
 simp only[tmV]
 go_enter Tryz.func92,Tryz.ntmps92
 go_wp2_with fail
 have hb:Blk ((w.alloc (.cells #[.int .i64 t.kind,.int .i64 t.num,.string ⟨t.name.toArray⟩,.slice a t.args.length c] 32)).alloc (.cells #[.int .i64 0] 3)) (w.heap.size+1) #[.int .i64 (0:Nat)] 3:=by
  have:=Blk.new (w.alloc (.cells #[.int .i64 t.kind,.int .i64 t.num,.string ⟨t.name.toArray⟩,.slice a t.args.length c] 32)) #[.int .i64 0] 3
  simpa using this
 refine (q6z w.heap.size (w.heap.size+1) N hN t HF.out _ (by omega) hb _ (HH.out.keep fun b hb=>by rw[Below.heap_alloc _ _ _ (by simp;omega),Below.heap_alloc _ _ _ hb])).mono ?_
 rintro e w1 ⟨⟨b,rfl⟩,hblk,hbel⟩
 obtain⟨c0,f0,hl⟩:=hblk.one
 go_wp2
 go_ret
 exact⟨rfl,(Below.alloc (Below.alloc (Below.refl _ _) (Nat.le_refl _) _) (by simp) _).trans hbel⟩
set_option maxHeartbeats 4000000 in
theorem qog{X:Nat→Prop}(t:Tm)(w:World)(v:Value)(h:Holds w X t v) :
  Calls Tryz.prog 93 #[v] w fun e w'=>e=.returned (.int .i64 (min (t.height:Int) 65))∧Below w.heap.size w w':=by
 obtain⟨sl,rfl⟩:=h.form
 obtain⟨a,c,rfl⟩:=h.args
 have HH:=Lib.hid h;clear h
 simp only[tmV]
 go_enter Tryz.func93,Tryz.ntmps93
 go_wp2_with fail
 refine (q7h t.height t (Nat.le_refl _) _ _ (HH.out.bel (Below.alloc (Below.refl _ _) (Nat.le_refl _) _)) 65 (by omega) (by omega)).mono ?_
 rintro e w1 ⟨rfl,hbel⟩
 go_wp2
 go_ret
 exact⟨rfl,bcall (Below.alloc (Below.refl _ _) (Nat.le_refl _) _) hbel⟩
set_option maxHeartbeats 4000000 in
theorem good_any{X:Nat→Prop}(N:Nat)(hN:N≤1000)(t:Tm)(hf:Fine N t)(w:World)(v:Value)(h:Holds w X t v) :
  Calls Tryz.prog 42 #[v] w fun e w'=>e=.returned (.bool t.good)∧Below w.heap.size w w':=by
 obtain⟨sl,rfl⟩:=h.form
 obtain⟨a,c,rfl⟩:=h.args
 have HH:=Lib.hid h;clear h
 have HF:=Lib.hid hf;clear hf
 have hn:=Blk.new w #[.int .i64 t.kind,.int .i64 t.num,.string ⟨t.name.toArray⟩,.slice a t.args.length c] 32
 have hb0:Below w.heap.size w (w.alloc (.cells #[.int .i64 t.kind,.int .i64 t.num,.string ⟨t.name.toArray⟩,.slice a t.args.length c] 32)):=Below.alloc (Below.refl _ _) (Nat.le_refl _) _
 by_cases h1:t.size≤2000
 ·have h1':((min t.size 2001:Nat):Int)≤2000:=by omega
  by_cases h2:t.height≤64
  ·have h2':min (t.height:Int) 65≤64:=by omega
   simp only[tmV]
   go_enter Tryz.func42,Tryz.ntmps42
   go_wp2_with fail
   refine (qp8 N hN t HF.out _ _ (HH.out.bel hb0)).mono ?_;rintro e w1 ⟨rfl,hb1⟩
   obtain⟨t0,t1,t2,t3,z0,z1,z2,z3,ltt⟩:=(hn.keep hb1).fourT
   have hb1':=bcall hb0 hb1
   go_wp2_with fail
   refine (qog t _ _ (HH.out.bel hb1')).mono ?_;rintro e w2 ⟨rfl,hb2⟩
   obtain⟨t0,t1,t2,t3,z0,z1,z2,z3,ltt⟩:=((hn.keep hb1).keep hb2).fourT
   have hb2':=bcall hb1' hb2
   go_wp2_with fail
   refine (q61 N hN t HF.out (by omega) _ _ (HH.out.bel hb2')).mono ?_;rintro e w3 ⟨rfl,hb3⟩
   go_wp2
   go_ret
   exact⟨by simp[Tm.good,h1,h2],bcall hb2' hb3⟩
  ·have h2':¬min (t.height:Int) 65≤64:=by omega
   simp only[tmV]
   go_enter Tryz.func42,Tryz.ntmps42
   go_wp2_with fail
   refine (qp8 N hN t HF.out _ _ (HH.out.bel hb0)).mono ?_;rintro e w1 ⟨rfl,hb1⟩
   obtain⟨t0,t1,t2,t3,z0,z1,z2,z3,ltt⟩:=(hn.keep hb1).fourT
   have hb1':=bcall hb0 hb1
   go_wp2_with fail
   refine (qog t _ _ (HH.out.bel hb1')).mono ?_;rintro e w2 ⟨rfl,hb2⟩
   go_wp2
   go_ret
   exact⟨by simp[Tm.good,h2],bcall hb1' hb2⟩
 ·have h1':¬((min t.size 2001:Nat):Int)≤2000:=by omega
  simp only[tmV]
  go_enter Tryz.func42,Tryz.ntmps42
  go_wp2_with fail
  refine (qp8 N hN t HF.out _ _ (HH.out.bel hb0)).mono ?_;rintro e w1 ⟨rfl,hb1⟩
  go_wp2
  go_ret
  exact⟨by simp[Tm.good,h1],bcall hb0 hb1⟩
end
section
open Go Go.ChangeShapes Go.WideShapes Go.ChangeAt Go.RowKit
theorem qnt:Tryz.prog.cellsOf 32=4:=by kernel_rfl
theorem qrf:Tryz.prog.cellsOf 3=1:=by kernel_rfl
theorem cellsI64:Tryz.prog.cellsOf 2=1:=by kernel_rfl
theorem qwr:Tryz.prog.cellsOf 9=1:=by kernel_rfl
theorem qpc:Tryz.prog.cellsOf 30=1:=by kernel_rfl
theorem qyt{α:Type}{l:List α}(h:l.length=4):∃a b c d,l=[a,b,c,d]:=by
 match l,h with
 |[a,b,c,d],_=>exact⟨a,b,c,d,rfl⟩
theorem qpf(s:ByteArray):s=⟨s.data.toList.toArray⟩:=by simp
end
section
open Go Go.ChangeShapes Go.WideShapes Go.ChangeAt Go.RowKit
theorem qxk{n:Int}(h:(Lit.int .i64 n).wf=true) : -9223372036854775808≤n∧n≤9223372036854775807:=by
 simp[Lit.wf] at h
 have e:IntKind.i64.min = -9223372036854775808:=by decide
 rw[e] at h
 exact h
theorem qym{s:ByteArray}(h:s.size≤maxLen):s.data.toList.length≤maxLen:=h
end
end Go.Proofs.YtdekdghldblfaaaGreatDoor
