import Derived.Test.YtdekdghldblfaaaGreatDoorAbsL
import Derived.Lib.ItoaNum
import Derived.Lib.ItoaMem
import Derived.Lib.Index
import Derived.Test.YtdekdghldblfaaaGreatDoorShelf
set_option linter.unusedVariables false
set_option linter.unusedSimpArgs false
namespace Go.Abs
open Go Go.RowKit
noncomputable section
def qzl:Nat→Nat→List UInt8
 |0,u=>[UInt8.ofNat (48+u)]
 |f+1,u=>bif Nat.blt u 10 then [UInt8.ofNat (48+u)] else qzl f (u/10)++[UInt8.ofNat (48+u%10)]
theorem q7f:∀(f u:Nat),u<10^f→qzl f u=Lib.decDigits u
 |0,u,h=>by
  have:u=0:=by simpa using h
  subst this
  rw[Lib.decDigits,dif_pos (by omega)];rfl
 |f+1,u,h=>by
  rw[qzl,Lib.decDigits]
  cases hb:Nat.blt u 10 with
  |true=>
   have:u<10:=Nat.le_of_ble_eq_true hb
   rw[dif_pos this];rfl
  |false=>
   have:¬u<10:=fun hh=>by rw[show Nat.blt u 10=true from Nat.ble_eq_true_of_le hh] at hb;cases hb
   rw[dif_neg this,q7f f (u/10) (by rw[Nat.pow_succ] at h;omega)];rfl
def preQ(a:List UInt8):List UInt8→Bool:=List.rec (motive:=fun _=>List UInt8→Bool) (fun _=>true) (fun x _ ih b=>List.rec (motive:=fun _=>Bool) false (fun y t _=>Bool.rec (motive:=fun _=>Bool) false (ih t) (Nat.beq x.toNat y.toNat)) b) a
theorem qvq:∀(a b:List UInt8),preQ a b=a.isPrefixOf b
 |[],b=>by simp[List.isPrefixOf];rfl
 |x::a,[]=>rfl
 |x::a,y::b=>by
  show Bool.rec (motive:=fun _=>Bool) false (preQ a b) (Nat.beq x.toNat y.toNat)=(x==y&&a.isPrefixOf b)
  rw[qvq a b]
  by_cases h:x=y
  ·subst h;simp
  ·have h2:Nat.beq x.toNat y.toNat=false:=by
    cases hb:Nat.beq x.toNat y.toNat with
    |false=>rfl
    |true=>exact absurd (UInt8.toNat_inj.1 (Nat.eq_of_beq_eq_true hb)) h
   rw[h2];simp[h]
def idxQ(sub:List UInt8)(l:List UInt8):Nat→Int:=
 List.rec (motive:=fun _=>Nat→Int) (fun i=>Bool.rec (motive:=fun _=>Int) (-1) (Int.ofNat i) (preQ sub [])) (fun b t ih i=>Bool.rec (motive:=fun _=>Int) (ih (Nat.succ i)) (Int.ofNat i) (preQ sub (b::t))) l
theorem q55(sub:List UInt8):∀(l:List UInt8) (i:Nat),idxQ sub l i=if Lib.index l sub = -1 then -1 else Lib.index l sub+i
 |[],i=>by
  show Bool.rec (motive:=fun _=>Int) (-1) (Int.ofNat i) (preQ sub [])=_
  rw[qvq]
  simp only[Lib.index]
  cases sub with
  |nil=>simp
  |cons x s=>simp
 |b::t,i=>by
  show Bool.rec (motive:=fun _=>Int) (idxQ sub t (i+1)) (Int.ofNat i) (preQ sub (b::t))=_
  rw[qvq,q55 sub t (i+1),show ∀(a b:Int) (c:Bool),Bool.rec (motive:=fun _=>Int) a b c=if c=true then b else a from fun a b c=>by cases c<;>rfl]
  simp only[Lib.index]
  have hge:=Lib.index_ge t sub
  by_cases hp:sub.isPrefixOf (b::t)=true
  ·simp[hp]
  ·simp only[hp,if_false]
   by_cases hm:Lib.index t sub = -1
   ·simp[hm]
   ·simp only[hm,if_false,beq_iff_eq,Bool.false_eq_true]
    rw[if_neg (by omega)]
    omega
theorem idxQ_0(sub l:List UInt8):idxQ sub l 0=Lib.index l sub:=by
 rw[q55]
 split
 ·rename_i h;exact h.symm
 ·omega
end
theorem ACalls.of_callsG{P:Program}{f:FuncId}{args:List AV}{H:AH}{x:AV}(h:∀(G:Gh) (vs:Array Value) (w:World),Glob w w.heap.size→VRs G args vs.toList→Calls P f vs w fun e w'=>∃u,e=.returned u∧(∀G:Gh,VR G x u)∧Below w.heap.size w w') :
  ACalls P f args H fun y H'=>y=x∧H'=H:=fun K G vs w hr hv=>
 (h G vs w hr.glob hv).mono fun e w' ⟨u,h1,h2,h3⟩=>⟨u,x,G,H,h1,Gh.le.refl _,hr.stay h3,h2 G,rfl,rfl⟩
end Go.Abs
namespace Go.Proofs.YtdekdghldblfaaaGreatDoor
section
open Go Go.Abs Go.RowKit
noncomputable section
def qj1(args:List AV)(H:AH):Option (AV×AH):=
 match args with
 |[.str s,.str sub]=>bif Nat.blt s.length 4294967281 then some (.int .i64 (idxQ sub s 0),H) else none
 |_=>none
theorem qoi:HookOne Tryz.prog 143 qj1:=by
 refine⟨by decide +kernel,fun args H x H' h=>?_,fun args H x H' h=>?_⟩
 ·unfold qj1 at h
  split at h
  ·rename_i s sub
   cases hb:Nat.blt s.length 4294967281 with
   |false=>rw[hb] at h;cases h
   |true=>
    rw[hb] at h
    cases h
    have hn:s.length<4294967281:=Nat.le_of_ble_eq_true hb
    refine ACalls.of_callsG fun G vs w hg hv=>?_
    obtain⟨u,v,hu,h1,h2⟩:=hv.two
    simp only[VR] at h1 h2
    subst h1;subst h2
    obtain rfl:vs=#[.string ⟨s.toArray⟩,.string ⟨sub.toArray⟩]:=by cases vs;simpa using hu
    obtain⟨_,m,hm⟩:=hg
    refine (Tryz.strings_Index ⟨s.toArray⟩ ⟨sub.toArray⟩ m w (by simpa[ByteArray.size] using hn) hm).mono fun e w' ⟨he,hw⟩=>?_
    subst hw
    exact⟨_,he,fun G=>by simp only[VR];rw[idxQ_0],Below.refl _ _⟩
  ·cases h
 ·unfold qj1 at h
  split at h
  ·rename_i s sub
   cases hb:Nat.blt s.length 4294967281 with
   |false=>rw[hb] at h;cases h
   |true=>
    rw[hb] at h
    cases h
    exact FrameR.same fun R H2 _ _=>by show (bif Nat.blt s.length 4294967281 then _ else _)=_;rw[hb];rfl
  ·cases h
def q0x(args:List AV)(H:AH):Option (AV×AH):=
 match args with
 |[.int .i64 (.ofNat n)]=>bif Nat.blt n 100 then some (.str (qzl 9 n),H) else none
 |_=>none
theorem qyw:HookOne Tryz.prog 117 q0x:=by
 refine⟨by decide +kernel,fun args H x H' h=>?_,fun args H x H' h=>?_⟩
 ·unfold q0x at h
  split at h
  ·rename_i n
   cases hb:Nat.blt n 100 with
   |false=>rw[hb] at h;cases h
   |true=>
    rw[hb] at h
    cases h
    have hn:n<100:=Nat.le_of_ble_eq_true hb
    refine ACalls.of_calls fun G vs w hv=>?_
    obtain⟨v,hu,h1⟩:=hv.one
    simp only[VR] at h1
    subst h1
    obtain rfl:vs=#[.int .i64 (.ofNat n)]:=by cases vs;simpa using hu
    refine (Tryz.strconv_Itoa_small n hn w).mono fun e w' ⟨he,hw⟩=>?_
    subst hw
    exact⟨_,he,fun G=>by simp only[VR];rw[q7f 9 n (by omega)],Below.refl _ _⟩
  ·cases h
 ·unfold q0x at h
  split at h
  ·rename_i n
   cases hb:Nat.blt n 100 with
   |false=>rw[hb] at h;cases h
   |true=>
    rw[hb] at h
    cases h
    exact FrameR.same fun R H2 _ _=>by show (bif Nat.blt n 100 then _ else _)=_;rw[hb];rfl
  ·cases h
end
end
section
open Go Go.Abs Go.RowKit
def qy2(args:List AV)(H:AH):Option (AV×AH):=
 match args with
 |[.str s,.int .u8 c]=>some (.int .i64 (Lib.indexByte s c.toNat.toUInt8),H)
 |_=>none
theorem q5z:HookOne Tryz.prog 179 qy2:=by
 refine⟨by decide +kernel,fun args H x H' h=>?_,fun args H x H' h=>?_⟩
 ·unfold qy2 at h
  split at h
  ·rename_i s c
   cases h
   refine ACalls.of_calls fun G vs w hv=>?_
   obtain⟨u,v,hu,h1,h2⟩:=hv.two
   simp only[VR] at h1 h2
   subst h1;subst h2
   obtain rfl:vs=#[.string ⟨s.toArray⟩,.int .u8 c]:=by cases vs;simpa using hu
   refine (Tryz.strings_IndexByte ⟨s.toArray⟩ c w).mono fun e w' ⟨he,hw⟩=>?_
   subst hw
   exact⟨_,he,fun G=>by simp[VR],Below.refl _ _⟩
  ·cases h
 ·unfold qy2 at h
  split at h
  ·cases h
   exact FrameR.same fun R H2 _ _=>rfl
  ·cases h
end
end Go.Proofs.YtdekdghldblfaaaGreatDoor
