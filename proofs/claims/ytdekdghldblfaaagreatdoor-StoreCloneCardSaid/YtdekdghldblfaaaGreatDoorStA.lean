import Derived.Test.YtdekdghldblfaaaGreatDoorAbsV
import Derived.Test.YtdekdghldblfaaaGreatDoorRows
import Derived.Shelf.RegionOpenPlain
import Derived.WalkKit
import Derived.Lib.Walk
import Derived.ArgAppend
import Derived.Laws.IdiomCopy
set_option linter.unusedVariables false
set_option linter.unusedSimpArgs false
namespace Go.Proofs.YtdekdghldblfaaaGreatDoor
section
open Go Go.Abs Go.RowKit Go.Lib
theorem qmr{P:Program}{ops:Array Oper}{o:Oper}{a:Act}{w:World}{K:Act→World→Prop}{Q:Exit→Act→World→Prop}{E:Prop}
  (hg:o.guard=none) (d x:Operand) (dT sT:TypeId) (hop:o.op=Op.call { callee:=Callee.builtin Builtin.append,args:=#[d,x],argTypes:=#[dT,sT] })
  (v u:Value) (hd:a.eval d=v) (hx:a.eval x=u) {v':Value} {w':World} (hr:(Builtin.append_ #[dT,sT] o.type #[v,u]).run P w=.ok v' w') (hK:K (a.put o.dst v') w') :
  if Region.wanted o (yielded ops a.tmps)=true then Oper.wp P o a w K Q else E:=by
 have hw:Region.wanted o (yielded ops a.tmps)=true:=by simp[Region.wanted,hg]
 rw[if_pos hw]
 unfold Oper.wp
 simp[execOp,hop,resolve,invoke,builtin,hd,hx,hr,Result.andThen]
 exact hK
def qul:AV:=.agg [.int .i64 0,.int .u64 0,.int .i64 0,.int .i64 0,.str [],.nils,.int .i64 0,.int .i64 0,.str [],.nils]
theorem qns:qea Tryz.prog 42=some qul:=by kernel_rfl
theorem qkw:(Tryz.prog).cellsOf 42=10:=by kernel_rfl
theorem qkx:(Tryz.prog).bytesOf 42=128:=by kernel_rfl
theorem qet:∃i z,(Tryz.prog).info? 42=some i∧i.size=10∧i.zero=some z∧z.cells.size=10∧(∀c∈z.cells.toList,c.oneCell'=true)∧i.bytes=128∧∀w,(zeroValue 42).run Tryz.prog w=.ok z w:=by
 obtain⟨zz,inf,hi,hzz,-,hvz⟩:=qds (G:=noG) qns default
 obtain⟨q1,q2,q3⟩:=qjb (by rfl) hvz
 have hs:inf.size=10:=by have:=qkw;simpa[Program.cellsOf,hi] using this
 have hb:inf.bytes=128:=by have:=qkx;simpa[Program.bytesOf,hi] using this
 refine⟨inf,zz,hi,hs,hzz,?_,q3,hb,fun w=>by simp[zeroValue,typeInfo,hi,hzz]⟩
 rw[←Array.length_toList,q1.len];rfl
theorem qn6(w:World)(ty:TypeId)(b o k c:Nat)(cs:Array Value)(t:TypeId)(hb:w.heap[b]? = some (.cells cs t (0,0)))(hin:o+k*10≤cs.size)(hk:k≠0) :
  ∃zs:List Value,zs.length=k*10∧(∀v∈zs,v.oneCell'=true)∧(Builtin.clear_ #[39] ty #[.slice (some ⟨b,o,none⟩) k c]).run Tryz.prog w=.ok (.tuple #[]) (w.setCells b o zs):=by
 obtain⟨i,z,hi,hs,hz,hzs,hz1,-,hzr⟩:=qet
 refine⟨(Builtin.zeroCells z.cells k).toList,?_,?_,?_⟩
 ·rw[qcv,qd0];simp[hzs]
 ·intro v hv
  rw[qcv,List.mem_flatten] at hv
  obtain⟨l,h1,h2⟩:=hv
  rw[List.mem_replicate] at h1
  rw[h1.2] at h2
  exact hz1 v h2
 ·have hl:(Builtin.zeroCells z.cells k).toList.length=k*10:=by rw[qcv,qd0];simp[hzs]
  have h1:∀v∈(Builtin.zeroCells z.cells k).toList,v.oneCell'=true:=by
   intro v hv
   rw[qcv,List.mem_flatten] at hv
   obtain⟨l,h1,h2⟩:=hv
   rw[List.mem_replicate] at h1
   rw[h1.2] at h2
   exact hz1 v h2
  have hst:=run_storeCells_cells (P:=Tryz.prog) b o (Builtin.zeroCells z.cells k).toList 0 w (fun j hj=>by
   rw [qby hb,Array.getElem?_eq_getElem (by omega)]; rfl) (fun j hj=>by simp [World.frozen?,hb]) h1
  simp only[Nat.add_zero] at hst
  obtain⟨k,rfl⟩:∃m,k=m+1:=⟨k-1,by omega⟩
  simp[Builtin.clear_,run_underlying Tryz.underlying39,hzr,hst]
end
section
open Go Go.Abs Go.RowKit Go.Lib
set_option maxHeartbeats 4000000 in
set_option maxRecDepth 100000 in
theorem qwk(b o n c i j:Nat)(cs:List Value)(cs0:Array Value)(t:TypeId)(w:World)(hb:w.heap[b]? = some (.cells cs0 t (0,0)))(hroom:o+c*10≤cs0.size)
  (hcs:∀k v,cs[k]? = some v→w.cell? ⟨b,o+k,none⟩=some v) (hl:cs.length=n*10) (h1:∀v∈cs,v.oneCell'=true) (hij:i<j) (hjn:j≤n) (hnc:n≤c) (h63:n≤9223372036854775807) :
  Calls Tryz.prog 57 #[.slice (some ⟨b,o,none⟩) n c,.int .i64 i,.int .i64 j] w fun e w'=>
   e=.returned (.slice (some ⟨b,o,none⟩) (n-(j-i)) c)∧∃(q:Nat) (zs:List Value),zs.length=(j-i)*10∧(∀v∈zs,v.oneCell'=true) ∧
    w'=((w.drewN q).setCells b (o+i*10) (cs.drop (j*10))).setCells b (o+(n-(j-i))*10) zs:=by
 have mixed:(Tryz.prog).follows .mixedOrders=true:=by kernel_rfl
 obtain⟨inf,z,hi,hs,hz,hzs,hz1,-,hzr⟩:=qet
 have hdl:(cs.drop (j*10)).length=(n-j)*10:=by rw[List.length_drop,hl,Nat.sub_mul]
 have hb1:¬((i:Int)=(j:Int)):=by omega
 have hap:∀(W:World) (ty:TypeId) (xc:Nat),W.heap=w.heap→∀(a:Addr) (m:Nat),m=n-j→(m≠0→a=⟨b,o+j*10,none⟩)→(Builtin.append_ #[39,39] ty #[.slice (some ⟨b,o,none⟩) i c,.slice (some a) m xc]).run Tryz.prog W=.ok (.slice (some ⟨b,o,none⟩) (n-(j-i)) c) (W.setCells b (o+i*10) (cs.drop (j*10))):=by
  intro W ty xc hW a m hm ha
  subst hm
  have hWc:∀x:Addr,W.cell? x=w.cell? x:=fun x=>World.cell?_of_block (w:=w) (by rw[hW])
  have hrun:=run_append_room_cells (P:=Tryz.prog) W 39 ty 42 inf Tryz.underlying39 hi b o i c a (n - j) xc (cs.drop (j * 10)) (by rw [hdl,hs]) (fun k u hk=>by
    have hlt:k<(n-j)*10:=by have:=(List.getElem?_eq_some_iff.1 hk).1;rwa [hdl] at this
    rw[ha (by intro h0;rw[h0] at hlt;omega),Addr.add_lit,hWc,Nat.add_assoc]
    rw[List.getElem?_drop] at hk
    exact hcs _ u hk) (fun v hv=>h1 v (List.mem_of_mem_drop hv)) (by omega)
   (fun k hk=>by rw[hWc,qby hb,Array.getElem?_eq_getElem (by rw[hdl] at hk;rw[hs];omega)];rfl) (fun k hk=>by simp[World.frozen?,hW,hb])
  rw[hs] at hrun
  rw[hrun]
  congr 2
  omega
 have hap':∀(W:World) (ty:TypeId) (xc:Nat),W.heap=w.heap→(Builtin.append_ #[39,39] ty #[.slice (some ⟨b,o,none⟩) i c,.slice (if c=j then some ⟨b,o,none⟩ else some ⟨b,o+j*10,none⟩) (n-j) xc]).run Tryz.prog W=.ok (.slice (some ⟨b,o,none⟩) (n-(j-i)) c) (W.setCells b (o+i*10) (cs.drop (j*10))):=by
  intro W ty xc hW
  by_cases hc:c=j
  ·rw[if_pos hc];exact hap W ty xc hW _ _ rfl (fun h0=>absurd h0 (by omega))
  ·rw[if_neg hc];exact hap W ty xc hW _ _ rfl (fun _=>rfl)
 obtain⟨cs1,hb1',hs1,-⟩:=qdz b t (0,0) (cs.drop (j*10)) (o+i*10) w.drew cs0 hb (by rw[hdl,Nat.sub_mul];have:i*10≤j*10:=Nat.mul_le_mul_right _ (by omega);have:n*10≤c*10:=Nat.mul_le_mul_right _ hnc;omega)
 obtain⟨zs,hzl,hz1',hcl⟩:=qn6 (w.drew.setCells b (o+i*10) (cs.drop (j*10))) 0 b (o+(n-(j-i))*10) (n-(n-(j-i))) (c-(n-(j-i))) cs1 t hb1' (by rw[hs1];omega) (by omega)
 rw[show n-(n-(j-i))=j-i by omega] at hzl
 have hic:i≤c:=by omega
 go_enter Tryz.func57,Tryz.ntmps57
 go_wp2
 go_region_law_o (refine qmr (P:=Tryz.prog) rfl (.tmp 22) (.tmp 25) 39 39 rfl _ _ rfl rfl (hap' _ _ _ rfl) ?_)
 go_wp2
 all_goals
  go_ret
  exact⟨rfl,1,zs,hzl,hz1',rfl⟩
end
section
open Go Go.Abs Go.RowKit Go.Lib
theorem q1c:HookOne Tryz.prog 57 (qkh 10):=by
 refine⟨by decide +kernel,fun args H x H' h=>?_,fun args H x H' h=>?_⟩
 ·unfold qkh at h
  split at h
  ·rename_i g e len z' i j
   split at h
   ·rename_i r hr
    cases hc:(Nat.beq r.e e&&Nat.beq z' 10&&Nat.beq r.fz 0&&Nat.beq r.cells.length (len*10)&&Nat.blt i j&&Nat.ble j len&&Nat.ble len 9223372036854775807) with
    |false=>rw[hc] at h;cases h
    |true=>
     rw[hc] at h
     cases h
     simp only[Bool.and_eq_true,Nat.beq_eq,Nat.blt_eq,Nat.ble_eq] at hc
     obtain⟨⟨⟨⟨⟨⟨rfl,rfl⟩,hfz⟩,hlen⟩,hij⟩,hjl⟩,h63⟩:=hc
     intro K G vs w hw hv
     obtain⟨b,o,n,cs0,t,q⟩:=hw.grp g r hr
     obtain⟨cap,hvs,hlc,hroom⟩:∃cap,vs=#[.slice (some ⟨b,o,none⟩) len cap,.int .i64 i,.int .i64 j]∧len≤cap∧o+cap*10≤n:=by
      simp only[VRs,VR] at hv
      obtain⟨u,us,hu,⟨b',o',n',cap,hmu,rfl,h1,h2⟩,u2,us2,rfl,rfl,u3,us3,rfl,rfl,rfl⟩:=hv
      rw[q.mu] at hmu
      cases hmu
      exact⟨cap,by cases vs;simpa using hu,h1,by simpa using h2⟩
     subst hvs
     obtain⟨us,hus,hin,ho⟩:=(q.cellsIn 0 (len*10)).list
     have hul:us.length=len*10:=by rw[hus.len,List.length_take,List.length_drop];omega
     have hcell:∀(k:Nat) (x:AV),r.cells[k]? = some x→∃u,us[k]? = some u∧cs0[o+k]? = some u∧VR G x u∧u.oneCell'=true:=by
      intro k x hx
      have hk:k<len*10:=by rw[←hlen];exact (List.getElem?_eq_some_iff.1 hx).1
      obtain⟨u,k1,k2,k3⟩:=q.cell k x hx
      refine⟨u,?_,k1,k2,k3⟩
      obtain⟨u',m1,m2⟩:=hus.get k x (by rw[List.getElem?_take,if_pos hk,List.drop_zero];exact hx)
      have:=hin k u' m1
      rw[Nat.add_zero,qby q.heap,k1] at this
      cases this
      exact m1
     refine (qwk b o len cap i j us cs0 t w q.heap (by rw[q.size];exact hroom) (by simpa using hin) hul ho hij hjl hlc h63).mono fun e0 w' ⟨he,d,zs,hzl,hz1,hw'⟩=>?_
     subst hw'
     have hij10:i*10≤j*10:=Nat.mul_le_mul_right _ (by omega)
     have hjl10:j*10≤len*10:=Nat.mul_le_mul_right _ hjl
     have hlc10:len*10≤cap*10:=Nat.mul_le_mul_right _ hlc
     have hsub:(len-(j-i))*10=i*10+(len*10-j*10):=by omega
     obtain⟨k1,k2⟩:=(hw.drawn (w.drawn+d)).sets (g:=g) (r:=r) ⟨q.mu,q.low,q.heap,q.size,q.cell,q.free⟩ hr (r':=⟨r.e+1,0,r.cells.take (i*10)++r.cells.drop (j*10)⟩) (p:=o+i*10) (vs:=us.drop (j*10)) (by rw[List.length_drop,hul];omega) (by omega) (o':=o)
      (G':=G.put g (r.e + 1) (b,o,n)) (.inr ⟨rfl,Nat.lt_succ_self _⟩) (by show o + r.fz ≤ o + 0; omega) (by
       intro k x hx
       have htl:(r.cells.take (i*10)).length=i*10:=by rw[List.length_take];omega
       by_cases hk:k<i*10
       ·rw[List.getElem?_append_left (by omega),List.getElem?_take,if_pos hk] at hx
        obtain⟨u,-,m2,m3,m4⟩:=hcell k x hx
        exact⟨u,m3,by rw[if_neg (by omega)];exact m2,m4⟩
       ·rw[List.getElem?_append_right (by omega),htl,List.getElem?_drop] at hx
        obtain⟨u,m1,m2,m3,m4⟩:=hcell _ x hx
        have hlt:=(List.getElem?_eq_some_iff.1 m1).1
        refine⟨u,m3,?_,m4⟩
        rw[if_pos (by rw[List.length_drop];omega),List.getElem?_drop,←m1]
        congr 1; omega)
     obtain⟨b',o',n',cs1,t1,q2⟩:=k2.grp g _ (Tr.get_set_same _ _ _)
     have hmu2:=q2.mu
     rw[Gh.put_same] at hmu2
     cases hmu2
     have hrl:(r.cells.take (i*10)++r.cells.drop (j*10)).length=(len-(j-i))*10:=by rw[List.length_append,List.length_take,List.length_drop];omega
     obtain⟨k3,k4⟩:=k2.sets q2 (Tr.get_set_same _ _ _) (r':=⟨r.e+1,0,r.cells.take (i*10)++r.cells.drop (j*10)⟩) (p:=o+(len-(j-i))*10) (vs:=zs) (by rw[hzl];omega) (by show o+0≤_;omega) (o':=o)
      (G':=G.put g (r.e + 1) (b,o,n)) (.inl ⟨rfl,rfl,rfl⟩) (Nat.le_refl _) (by
       intro k x hx
       have hk:k<(len-(j-i))*10:=by rw[←hrl];exact (List.getElem?_eq_some_iff.1 hx).1
       obtain⟨u,m1,m2,m3⟩:=q2.cell k x hx
       exact ⟨u,m2,by rw [if_neg (by omega)]; exact m1,m3⟩)
     refine⟨_,_,G.put g (r.e+1) (b,o,n),⟨H.next,H.gs.set g ⟨r.e+1,0,r.cells.take (i*10)++r.cells.drop (j*10)⟩,H.ms⟩,he,k1,k4.less ⟨?_,?_,fun _=>rfl⟩,?_,rfl,rfl⟩
     ·intro g' hg'
      have hg':((H.gs.set g _).set g _).get g'=none:=hg'
      show (H.gs.set g _).get g'=none
      rw[Tr.get_set] at hg' ⊢
      by_cases hq:g'=g
      ·rw[if_pos hq] at hg';cases hg'
      ·rw[if_neg hq] at hg' ⊢;rw[Tr.get_set_ne _ _ hq] at hg';exact hg'
     ·intro g' r2 hg'
      have hg':((H.gs.set g _).set g _).get g'=some r2:=hg'
      refine⟨r2,?_,rfl,rfl,fun _ _ h=>h⟩
      show (H.gs.set g _).get g'=some r2
      rw[Tr.get_set] at hg' ⊢
      by_cases hq:g'=g
      ·rw[if_pos hq] at hg' ⊢;exact hg'
      ·rw[if_neg hq] at hg' ⊢;rw[Tr.get_set_ne _ _ hq] at hg';exact hg'
     ·simp only[VR]
      exact⟨b,o,n,cap,Gh.put_same _ _ _ _,rfl,by omega,by simpa using hroom⟩
   ·cases h
  ·cases h
 ·unfold qkh at h
  split at h
  ·rename_i g e len z' i j
   split at h
   ·rename_i r hr
    cases hc:(Nat.beq r.e e&&Nat.beq z' 10&&Nat.beq r.fz 0&&Nat.beq r.cells.length (len*10)&&Nat.blt i j&&Nat.ble j len&&Nat.ble len 9223372036854775807) with
    |false=>rw[hc] at h;cases h
    |true=>
     rw[hc] at h
     cases h
     refine FrameR.set hr fun R H2 he ha=>?_
     simp only[qkh,he.get ha hr]
     rw[hc]
     rfl
   ·cases h
  ·cases h
end
end Go.Proofs.YtdekdghldblfaaaGreatDoor
