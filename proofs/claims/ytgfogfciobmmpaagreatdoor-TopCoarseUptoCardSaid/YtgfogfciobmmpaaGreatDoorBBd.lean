/- A part of the proof of a law of carouseltop: Dic6 Dic7 Dic8 Asks Goes StpP Inst0 Inst1 Inst2. -/
import Derived.Test.YtgfogfciobmmpaaGreatDoorBBb
import Derived.Test.YtgfogfciobmmpaaGreatDoorBBc
import Derived.Deep.CutRange
set_option linter.unusedSimpArgs false
set_option linter.unusedVariables false
set_option maxRecDepth 100000
set_option maxHeartbeats 8000000
namespace Go.Proofs.YtgfogfciobmmpaaGreatDoor
open Go.RowKit
section
variable {w0:World}{X:List Nat}{Cs:List aw}{w:World}{p:Nat}{d:eC}{tv nx:Value}
def ng(m:fW)(v:Int):ax×fW :=
 match m.todo with
 | x::l=>(x,{m with todo:=l})
 | []=>match m.ph with
  | .begin=>kP m.d
  | .len1=>iB m.d v 0
  | .state=>fw m.d v
  | .key=>oC m.d v
  | .val1=>iB m.d v 0
  | .fine=>iB m.d 0 0
  | .counts=>getD m.d 0 .count1
  | .count1=>mL m.d 0 (wrap64 (v-1)) .fine
  | .lost1=>o5 m.d v
  | .done x=>(x,m)
def zV(m:fW):Prop:=dO m.d/\(m.ph=.state\/m.ph=.key->m.d.seen<m.d.most)
theorem tZ{ph:iF}(hS:ah w0 X (ag p (dI d tv nx)::Cs) w)(ht:kS tv)(hok:zV ⟨d,[],ph⟩)(hp:∀ x,ph≠.done x)(v:Int) :
  Calls Tryz.prog ph.fn #[ptr p,.int .i64 v] w (cA w0 X Cs p (ng ⟨d,[],ph⟩ v)):=by
 obtain⟨h1,h2⟩:=hok
 cases ph with
 | begin=>exact t8 hS h1 ht v
 | len1=>exact wq hS h1 ht v
 | state=>exact tY hS h1 ht (h2 (.inl rfl)) v
 | key=>exact yz hS h1 ht (h2 (.inr rfl)) v
 | val1=>exact wk hS h1 ht v
 | fine=>exact wu hS h1 ht v
 | counts=>exact rR hS h1 ht v
 | count1=>exact rS hS h1 ht v
 | lost1=>exact t6 hS h1 ht v
 | done x=>exact absurd rfl (hp x)
theorem Dm(ph:iF)(hp:∀ x,ph≠.done x):∀ (a:Array Value) (W:World),(callFunc ph.fn a).run Tryz.prog W=.ok (.enter ph.fn a) W:=by
 intro a W
 cases ph with
 | begin=>kernel_rfl
 | len1=>kernel_rfl
 | state=>kernel_rfl
 | key=>kernel_rfl
 | val1=>kernel_rfl
 | fine=>kernel_rfl
 | counts=>kernel_rfl
 | count1=>kernel_rfl
 | lost1=>kernel_rfl
 | done x=>exact absurd rfl (hp x)
theorem t7{c:Nat}{x:ax}(hS:ah w0 X (ag c (sO x)::Cs) w)(u v:Value) :
  Calls Tryz.prog 224 #[u,v,ptr c] w (fun e w'=>e=.returned x.val/\ah w0 X (ag c (sO x)::Cs) w'):=by
 obtain⟨⟨c0,c1,c2,c3⟩,-⟩:=hS.ansBox
 have hlt:=af hS.h0
 have HS:=kH hS
 clear hS
 unfold ptr at *
 go_enter Tryz.func224,Tryz.ntmps224
 go_wp2
 exact ah.wNew x rfl HS.out rfl (by simp) rfl fun W' h=>⟨rfl,h⟩
theorem wo{m:fW}(hA:rB w0 X Cs p m w)(hok:zV m)(v:Int):Calls Tryz.prog 287 #[ptr p,.int .i64 v] w (cA w0 X Cs p (ng m v)):=by
 obtain⟨d,l,ph⟩:=m
 obtain⟨tv,nx,As,Bs,hT,hN,hS⟩:=hA
 dsimp only at hT hN hS
 obtain⟨hlt,⟨c0,c1,c2,c3,c4⟩,⟨c5,c6,c7,c8,c9⟩,⟨f5,f6,f7,f8,f9⟩⟩:=j9 hS
 rcases hT with⟨rfl,rfl,a,cap,rfl⟩|⟨g,k1,v1,k2,v2,k3,v3,k4,v4,rfl,hl⟩
 ·rcases hN with⟨x,c,rfl,rfl,rfl⟩|⟨hp,rfl,rfl⟩
  ·have HC:=kH (t7 (hS.new s0 |>.pull [_,_]) (ptr p) (.int .i64 v))
   have e:ng ⟨d,[],.done x⟩ v=(x,⟨d,[],.done x⟩):=rfl
   rw[e]
   clear hS hok e
   unfold ptr s0 at *
   go_enter Tryz.func287,Tryz.ntmps287
   go_wp2_with fail
   refine HC.out.mono ?_
   rintro e w1 ⟨rfl,S2⟩
   obtain⟨⟨a0,a1,a2,a3⟩,⟨g0,g1,g2,g3⟩⟩:=S2.sw.ansBox
   have HS2:=kH S2
   clear S2
   unfold ax.val
   go_wp2
   exact ah.wRet x rfl HS2.out.sw rfl rfl fun W' h3=>⟨rfl,.slice a 0 cap,_,[],_,.inl ⟨rfl,rfl,a,cap,rfl⟩,.inl ⟨x,c,rfl,rfl,rfl⟩,h3.sw⟩
  ·have HC:=kH (tZ (hS.new s0).sw ⟨a,cap,rfl⟩ hok hp v)
   have hcall:=Dm ph hp
   clear hS hok hp
   generalize ng ⟨d,[],ph⟩ v=r at *
   generalize ph.fn=n at *
   unfold ptr lR s0 at *
   go_enter Tryz.func287,Tryz.ntmps287
   go_wp2_with fail
   refine HC.out.mono ?_
   rintro e w1 ⟨rfl,hA⟩
   obtain⟨⟨a0,a1,a2,a3⟩,⟨g0,g1,g2,g3⟩⟩:=hA.box
   have HA:=kH hA
   clear hA
   unfold ax.val
   go_wp2
   exact cA.ret r rfl HA.out rfl rfl
 ·have S1:=hS.sw
  have r:=fun j=>S1.cell j
  have r4:=r 4
  have r5:=r 5
  have r6:=r 6
  have r7:=r 7
  have r8:=r 8
  have r9:=r 9
  have r10:=r 10
  have r11:=r 11
  have r12:=r 12
  have r13:=r 13
  have r14:=r 14
  have r15:=r 15
  have hltg:=af S1.h0
  simp only[Ax,gA,gZ,gS]at r4 r5 r6 r7 r8 r9 r10 r11 r12 r13 r14 r15
  have HS:=kH hS
  clear hS S1 r hok
  unfold ptr at *
  rcases hl with⟨rfl,rfl⟩|⟨rfl,rfl⟩|⟨rfl,rfl⟩
  ·have S2:=((HS.out.dset (d':=d) (tv':=.slice (some ⟨g,8,none⟩) 2 2) (nx':=nx) 8 (.slice (some ⟨g,8,none⟩) 2 2) (by simp[ju])).alloc (sO (bN k2 v2))).alloc (sO (bN k2 v2))
   have HS2:=kH S2
   clear S2
   unfold sO bN at HS2
   go_enter Tryz.func287,Tryz.ntmps287
   go_wp2_with fail
   exact bodyPost_ret (results_cell_row rfl _ _ _ _ _ _ _ rfl (kO (aj (by simp))) Tryz.underlying109 rfl ap) rfl ⟨rfl,.slice (some ⟨g,8,none⟩) 2 2,nx,_,Bs,.inr ⟨g,k1,v1,k2,v2,k3,v3,k4,v4,rfl,.inr (.inl ⟨rfl,rfl⟩)⟩,hN,HS2.out⟩
  ·have S2:=((HS.out.dset (d':=d) (tv':=.slice (some ⟨g,12,none⟩) 1 1) (nx':=nx) 8 (.slice (some ⟨g,12,none⟩) 1 1) (by simp[ju])).alloc (sO (bN k3 v3))).alloc (sO (bN k3 v3))
   have HS2:=kH S2
   clear S2
   unfold sO bN at HS2
   go_enter Tryz.func287,Tryz.ntmps287
   go_wp2_with fail
   exact bodyPost_ret (results_cell_row rfl _ _ _ _ _ _ _ rfl (kO (aj (by simp))) Tryz.underlying109 rfl ap) rfl ⟨rfl,.slice (some ⟨g,12,none⟩) 1 1,nx,_,Bs,.inr ⟨g,k1,v1,k2,v2,k3,v3,k4,v4,rfl,.inr (.inr ⟨rfl,rfl⟩)⟩,hN,HS2.out⟩
  ·have S2:=((HS.out.dset (d':=d) (tv':=.slice (some ⟨g,12,none⟩) 0 0) (nx':=nx) 8 (.slice (some ⟨g,12,none⟩) 0 0) (by simp[ju])).alloc (sO (bN k4 v4))).alloc (sO (bN k4 v4))
   have HS2:=kH S2
   clear S2
   unfold sO bN at HS2
   go_enter Tryz.func287,Tryz.ntmps287
   go_wp2_with fail
   exact bodyPost_ret (results_cell_row rfl _ _ _ _ _ _ _ rfl (kO (aj (by simp))) Tryz.underlying109 rfl ap) rfl ⟨rfl,.slice (some ⟨g,12,none⟩) 0 0,nx,[],Bs,.inl ⟨rfl,rfl,_,_,rfl⟩,hN,HS2.out.sw.drop⟩
end
section
variable {w0:World}{X:List Nat}{Cs:List aw}{w:World}{p:Nat}
theorem mm{d:eC}(h:dO d)(hl:d.seen<d.most):dO {d with seen:=d.seen+1,slot:=(d.slot+1)%d.most}:=by
 have h1:=h.seen
 have h2:=h.most
 exact⟨h.base,h.most,h.k,h.v,⟨Int.emod_nonneg _ (by omega),.inl (Int.emod_lt_of_pos _ (by omega))⟩,⟨by show 0<=d.seen+1;omega,by show d.seen+1<=d.most;omega⟩,h.free⟩
theorem vm{d:eC}(h:dO d):zV (ik d).2:=by
 unfold ik
 split
 ·exact⟨h,fun e=>by simp[getD]at e⟩
 ·exact⟨h,fun e=>by simp[iB]at e⟩
theorem oy{d:eC}(h:dO d):zV (gz d).2:=by
 unfold gz
 split
 ·exact vm h
 ·have:=h.seen
  exact⟨h,fun _=>by show d.seen<d.most;omega⟩
theorem sK(d:eC):(io d).seen=d.seen/\(io d).most=d.most:=by unfold io;split<;>exact⟨rfl,rfl⟩
theorem vl{m:fW}(h:zV m)(v:Int):zV (ng m v).2:=by
 obtain⟨d,l,ph⟩:=m
 obtain⟨hd,hl⟩:=h
 cases l with
 | cons x l=>exact⟨hd,hl⟩
 | nil =>
  cases ph with
  | begin =>
   show zV (kP d).2
   unfold kP
   split
   ·exact⟨hd,fun e=>by simp[getD]at e⟩
   ·exact oy hd
  | len1=>exact⟨hd,fun e=>by simp[ng,iB]at e⟩
  | state =>
   have hl:=hl (.inl rfl)
   show zV (fw d v).2
   unfold fw
   split
   ·exact⟨hd,fun _=>hl⟩
   ·split
    ·exact vm (lu hd hl)
    ·exact oy (mm (lu hd hl) (by have:=sK d;dsimp only at hl;omega))
  | key =>
   have hl:=hl (.inr rfl)
   show zV (oC d v).2
   unfold oC
   split
   ·split
    ·exact⟨hd,fun e=>by simp[getD]at e⟩
    ·split
     ·exact⟨hd,fun e=>by simp[mL]at e⟩
     ·exact⟨hd,fun e=>by simp[mL]at e⟩
   ·exact oy (mm hd hl)
  | val1=>exact⟨hd,fun e=>by simp[ng,iB]at e⟩
  | fine=>exact⟨hd,fun e=>by simp[ng,iB]at e⟩
  | counts=>exact⟨hd,fun e=>by simp[ng,getD]at e⟩
  | count1=>exact⟨hd,fun e=>by simp[ng,mL]at e⟩
  | lost1 =>
   show zV (o5 d v).2
   unfold o5
   split
   ·exact⟨hd,fun e=>by simp[iB]at e⟩
   ·exact⟨hd,fun e=>by simp at e⟩
  | done x=>exact⟨hd,hl⟩
def Di(w:World)(p:Nat)(m:fW)(F:List Nat):Prop :=
 zV m/\∃ tv nx As Bs,ui tv m.todo As/\yT nx m.ph Bs/\F=cu (ag p (dI m.d tv nx)::(As++Bs))/\F.Nodup/\∀ c∈ag p (dI m.d tv nx)::(As++Bs),c.holds w
def yK:iY where
 S:=fW
 ty:=188
 fn:=287
 rep:=Di
 out:=fun m v=>(ng m v).1
 step:=fun m v=>(ng m v).2
 keep:=fun {w w' p m F} h hk=>by
  obtain⟨h0,tv,nx,As,Bs,h1,h2,h3,h4,h5⟩:=h
  refine⟨h0,tv,nx,As,Bs,h1,h2,h3,h4,fun c hc=>c.loc _ _ (fun x hx=>hk x ?_) (h5 c hc)⟩
  rw[h3]
  exact List.mem_flatMap.2 ⟨c,hc,hx⟩
 mem:=fun {w p m F} h=>by
  obtain⟨h0,tv,nx,As,Bs,h1,h2,rfl,h4,h5⟩:=h
  refine⟨by simp[cu,ag],fun q hq=>?_⟩
  obtain⟨c,hc,hx⟩:=List.mem_flatMap.1 hq
  exact c.lt _ (h5 c hc) q hx
 next:=fun w p m F v h=>by
  obtain⟨h0,tv,nx,As,Bs,h1,h2,rfl,h4,h5⟩:=h
  have hS:=oi h5 h4
  refine(wo (Cs:=[]) ⟨tv,nx,As,Bs,h1,h2,by simpa using hS⟩ h0 v).mono ?_
  rintro e w' ⟨rfl,tv',nx',As',Bs',k1,k2,k3⟩
  rw[List.append_nil]at k3
  exact⟨rfl,k3.kept,_,⟨vl h0 v,tv',nx',As',Bs',k1,k2,rfl,k3.apart,k3.holds⟩,k3.src⟩
 meth:=fun v w=>by kernel_rfl
 call:=fun a w=>by kernel_rfl
def oZ(d:eC):iF->Nat
 | .begin=>2*d.most.toNat+6
 | .len1=>1
 | .state=>2*(d.most-d.seen).toNat+5
 | .key=>2*(d.most-d.seen).toNat+4
 | .val1=>1
 | .fine=>1
 | .counts=>3
 | .count1=>2
 | .lost1=>5
 | .done _=>1
def wantOk(hi:Int)(x:ax):Prop:=x.kind=3/\0<=x.cell/\x.cell<hi/\aI x.value
def okDV(hi:Int)(m:fW):Prop:=(∀ x∈m.todo,wantOk hi x)/\∀ x,m.ph=.done x->x.kind=6/\aI x.value/\aI x.code
def zG(m:fW):Nat:=m.todo.length+oZ m.d m.ph
structure fS(hi:Int)(k0:Nat)(b mo:Int)(r:ax×fW):Prop where
 one:(r.1.kind=6/\aI r.1.value/\aI r.1.code)\/((r.1.kind=2\/r.1.kind=3)/\0<=r.1.cell/\r.1.cell<hi/\aI r.1.value/\okDV hi r.2/\zG r.2<k0/\r.2.d.base=b/\r.2.d.most=mo)
theorem ns{hi:Int}{k0:Nat}{b mo:Int}{d:eC}{v c:Int}(hv:aI v)(hc:aI c):fS hi k0 b mo (iB d v c):=⟨.inl ⟨rfl,hv,hc⟩⟩
theorem lD{hi:Int}{k0:Nat}{b mo:Int}{d:eC}{c:Int}{ph:iF}(h0:0<=d.base+c)(h1:d.base+c<hi)(hp:∀ x,ph≠.done x)(hl:oZ d ph<k0)(hb:d.base=b)(hm:d.most=mo):fS hi k0 b mo (getD d c ph) :=
 ⟨.inr ⟨.inl rfl,h0,h1,aK,⟨fun x hx=>(nomatch hx),fun x hx=>absurd hx (hp x)⟩,by show 0+oZ d ph<k0;omega,hb,hm⟩⟩
theorem tW{hi:Int}{k0:Nat}{b mo:Int}{d:eC}{c v:Int}{ph:iF}(h0:0<=d.base+c)(h1:d.base+c<hi)(hv:aI v)(hp:∀ x,ph≠.done x)(hl:oZ d ph<k0)(hb:d.base=b)(hm:d.most=mo):fS hi k0 b mo (mL d c v ph) :=
 ⟨.inr ⟨.inr rfl,h0,h1,hv,⟨fun x hx=>(nomatch hx),fun x hx=>absurd hx (hp x)⟩,by show 0+oZ d ph<k0;omega,hb,hm⟩⟩
theorem we{k0:Nat}{b mo:Int}{d:eC}(h:dO d)(hk:5<k0)(hb:d.base=b)(hm:d.most=mo):fS (b+(3*mo+1)) k0 b mo (ik d):=by
 have h1:=h.base
 have h2:=h.most
 unfold ik
 split
 ·exact lD (by omega) (by omega) (by simp) (by show 5<k0;omega) hb hm
 ·exact ns aK qQ
theorem sN{k0:Nat}{b mo:Int}{d:eC}(h:dO d)(hk:2*(d.most-d.seen).toNat+5<k0)(hb:d.base=b)(hm:d.most=mo):fS (b+(3*mo+1)) k0 b mo (gz d):=by
 have h1:=h.base
 have h2:=h.most
 have h3:=h.slot
 have h4:=h.seen
 unfold gz
 split
 ·exact we h (by omega) hb hm
 ·exact lD (by omega) (by omega) (by simp) hk hb hm
theorem wg{k0:Nat}{b mo:Int}{d:eC}(h:dO d)(hl:d.seen<d.most)(hk:2*(d.most-d.seen).toNat+3<k0)(hb:d.base=b)(hm:d.most=mo):fS (b+(3*mo+1)) k0 b mo (kG d) :=
 sN (mm h hl) (by show 2*(d.most-(d.seen+1)).toNat+5<k0;omega) hb hm
theorem Dg{m:fW}(h:zV m)(hv:okDV (m.d.base+(3*m.d.most+1)) m)(v:Int)(hvv:aI v):fS (m.d.base+(3*m.d.most+1)) (zG m) m.d.base m.d.most (ng m v):=by
 obtain⟨d,l,ph⟩:=m
 obtain⟨hd,hl⟩:=h
 obtain⟨hv1,hv2⟩:=hv
 dsimp only at *
 have q1:=hd.base
 have q2:=hd.most
 have q3:=hd.slot
 have q4:=hd.seen
 have q5:=hd.free
 cases l with
 | cons x l =>
  obtain⟨e1,e2,e3,e4⟩:=hv1 x List.mem_cons_self
  exact⟨.inr ⟨.inr e1,e2,e3,e4,⟨fun y hy=>hv1 y (List.mem_cons_of_mem _ hy),hv2⟩,by show l.length+oZ d ph<(x::l).length+oZ d ph;simp,rfl,rfl⟩⟩
 | nil =>
  cases ph with
  | begin =>
   show fS _ _ _ _ (kP d)
   unfold kP
   split
   ·exact lD (by omega) (by omega) (by simp) (by show 1<0+(2*d.most.toNat+6);omega) rfl rfl
   ·exact sN hd (by show 2*(d.most-d.seen).toNat+5<0+(2*d.most.toNat+6);omega) rfl rfl
  | len1=>exact ns hvv aK
  | state =>
   have hl:=hl (.inl rfl)
   show fS _ (0+(2*(d.most-d.seen).toNat+5)) _ _ (fw d v)
   unfold fw
   have hf:=sK d
   have hfb:(io d).base=d.base:=by unfold io;split<;>rfl
   split
   ·exact lD (by omega) (by omega) (by simp) (by show 2*(d.most-d.seen).toNat+4<_;omega) rfl rfl
   ·split
    ·exact we (lu hd hl) (by omega) hfb hf.2
    ·exact wg (lu hd hl) (by omega) (by omega) hfb hf.2
  | key =>
   have hl:=hl (.inr rfl)
   show fS _ (0+(2*(d.most-d.seen).toNat+4)) _ _ (oC d v)
   unfold oC
   split
   ·split
    ·exact lD (by omega) (by omega) (by simp) (by show 1<_;omega) rfl rfl
    ·split
     ·exact tW (by omega) (by omega) hd.v (by simp) (by show 1<_;omega) rfl rfl
     ·exact tW (by omega) (by omega) zI (by simp) (by show 3<_;omega) rfl rfl
   ·exact wg hd hl (by omega) rfl rfl
  | val1=>exact ns hvv aK
  | fine=>exact ns aK aK
  | counts=>exact lD (d:=d) (by omega) (by omega) (by simp) (by show 2<0+3;omega) rfl rfl
  | count1=>exact tW (d:=d) (by omega) (by omega) (qP _) (by simp) (by show 1<0+2;omega) rfl rfl
  | lost1 =>
   show fS _ (0+5) _ _ (o5 d v)
   unfold o5
   split
   ·exact ns aK zI
   ·refine⟨.inr ⟨.inr rfl,by show 0<=1+3*d.free+d.base;omega,by show 1+3*d.free+d.base<_;omega,qQ,⟨fun x hx=>?_,fun x hx=>by simp at hx⟩,by show 3+1<5;omega,rfl,rfl⟩⟩
    simp only[List.mem_cons,List.not_mem_nil,or_false]at hx
    rcases hx with rfl|rfl|rfl
    ·exact⟨rfl,by show 0<=1+3*d.free+1+d.base;omega,by show 1+3*d.free+1+d.base<_;omega,hd.k⟩
    ·exact⟨rfl,by show 0<=1+3*d.free+2+d.base;omega,by show 1+3*d.free+2+d.base<_;omega,hd.v⟩
    ·exact⟨rfl,by show 0<=0+d.base;omega,by show 0+d.base<_;omega,qP _⟩
  | done x=>exact⟨.inl (hv2 x rfl)⟩
theorem pd:∀ (n:Nat) (m:fW),zG m<=n->zV m->okDV (m.d.base+(3*m.d.most+1)) m->jz yK (m.d.base+(3*m.d.most+1)) n m
 | 0,m,hl,_,_=>by
  exfalso
  unfold zG oZ at hl
  split at hl<;>omega
 | n+1,m,hl,hok,hv=>fun v hvv=>by
  rcases(Dg hok hv v hvv).one with h|⟨h1,h2,h3,h4,h5,h6,h7,h8⟩
  ·exact .inl h
  ·have h:=pd n (ng m v).2 (by omega) (vl hok v) (by rw[h7,h8];exact h5)
   rw[h7,h8]at h
   exact .inr ⟨h1,h2,h3,h4,h⟩
def iO(base most call:Int)(xs:List Int)(slot:Int):fW:=⟨⟨base,most,call,xs.getD 0 0,xs.getD 1 0,slot,0,-1⟩,[],.begin⟩
theorem qN{base most call slot:Int}{xs:List Int}(hb:0<=base/\base<=1024)(hm:0<=most/\most<=16)(hx:∀ x∈xs,aI x)(hs:0<=slot/\(slot<most\/slot=0)):zV (iO base most call xs slot):=by
 have hg:∀ j,aI (xs.getD j 0):=fun j=>by
  rw[List.getD_eq_getElem?_getD]
  cases h:xs[j]? with
  | none=>exact aK
  | some y=>exact hx y (List.mem_of_getElem? h)
 exact⟨⟨hb,hm,hg 0,hg 1,hs,⟨Int.le_refl _,hm.1⟩,.inl rfl⟩,fun e=>by simp[iO]at e⟩
theorem Dh{base most call slot:Int}{xs:List Int}(hb:0<=base/\base<=1024)(hm:0<=most/\most<=16)(hx:∀ x∈xs,aI x)(hs:0<=slot/\(slot<most\/slot=0)):jz yK (base+(3*most+1)) 40 (iO base most call xs slot) :=
 pd 40 _ (by show 0+(2*most.toNat+6)<=40;omega) (qN hb hm hx hs) ⟨fun x hx=>(nomatch hx),fun x hx=>by simp[iO]at hx⟩
end
section
variable {w:World}
theorem nz(k most:Int)(h:0<=most/\most<=16)(w:World):Calls Tryz.prog 154 #[.int .i64 k,.int .i64 most] w (fun e w'=>∃ s,(0<=s/\(s<most\/s=0))/\e=.returned (.int .i64 s)/\w=w'):=by
 go_enter Tryz.func154,Tryz.ntmps154
 go_wp2
 go_ret
 obtain⟨u,hu⟩:∃ u,IntKind.u64.wrap (IntKind.u64.wrap k*11400714819323198485)=u:=⟨_,rfl⟩
 have hu0:0<=u/\u<18446744073709551616:=by rw[<-hu,IntKind.wrap_u64];omega
 rw[hu]
 have ha:0<=u/4294967296/\u/4294967296<=4294967295:=by omega
 have hq1:0<=u/4294967296*most:=Int.mul_nonneg ha.1 h.1
 have hq2:u/4294967296*most<=4294967295*most:=Int.mul_le_mul_of_nonneg_right ha.2 h.1
 generalize u/4294967296*most=q at *
 have e1:IntKind.u64.wrap q=q:=by rw[IntKind.wrap_u64];omega
 rw[e1]
 have e2:wrap64 (q/4294967296)=q/4294967296:=by unfold wrap64;omega
 rw[e2]
 exact⟨q/4294967296,by omega,rfl,rfl⟩
theorem jO(c:Int)(w:World):Calls Tryz.prog 152 #[.int .i64 c] w (dm (.int .i64 (cY 3 c)) w):=by
 rcases(show c=3\/c=2\/c=4\/c=5\/(c≠3/\c≠2/\c≠4/\c≠5)from by omega)with rfl|rfl|rfl|rfl|⟨h1,h2,h3,h4⟩
 case' inr.inr.inr.inr =>
  rw[show cY 3 c = -1 by simp[cY,h1,h2,h3,h4]]
  have k1:(c == 3)=false:=by simpa using h1
  have k2:(c == 2)=false:=by simpa using h2
  have k3:(c == 4)=false:=by simpa using h3
  have k4:(c == 5)=false:=by simpa using h4
 all_goals
  go_enter Tryz.func152,Tryz.ntmps152
  go_wp2
  go_ret
  exact⟨rfl,rfl⟩
def D9(base most call:Int)(xs:List Int)(w:World)(e:Ending)(w':World):Prop :=
 ∃ p slot,(0<=slot/\(slot<most\/slot=0))/\e=.returned (.tuple #[.pointer (some ⟨p,0,none⟩),.int .i64 0])/\Below w.heap.size w w'/\∃ F,Di w' p (iO base most call xs slot) F/\∀ k∈F,w.heap.size<=k
theorem oH{base most call slot:Int}{xs:List Int}{w w':World}{p:Nat}(hb:0<=base/\base<=1024)(hm:0<=most/\most<=16)(hx:∀ x∈xs,aI x)(hs:0<=slot/\(slot<most\/slot=0))(hp:w.heap.size<=p)(hbl:Below w.heap.size w w')
  (hh:w'.heap[p]?=some (dI (iO base most call xs slot).d (.slice none 0 0) (lR iF.begin.fn))) :
  D9 base most call xs w (.returned (.tuple #[.pointer (some ⟨p,0,none⟩),.int .i64 0])) w' :=
 ⟨p,slot,hs,rfl,hbl,_,⟨qN hb hm hx hs,.slice none 0 0,lR iF.begin.fn,[],[],.inl ⟨rfl,rfl,_,_,rfl⟩,.inr ⟨by simp[iO],rfl,rfl⟩,rfl,by simp[cu,ag],fun c hc=>by
  rw[List.append_nil,List.mem_singleton]at hc
  rw[hc]
  exact hh⟩,fun k hk=>by
  simp[cu,ag]at hk
  omega⟩
theorem Dl(w:World)(B:Nat)(base most call:Int)(a:Value)(xs:List Int)(ha:kf w B a xs)(hB:B<=w.heap.size)(hyes:qf base most (cY 3 call) xs.length=true) :
  Calls Tryz.prog 104 #[.int .i64 base,.int .i64 most,.int .i64 call,a] w (D9 base most call xs w):=by
 obtain⟨hxl,hxr,a,ca,rfl,hca,ha⟩:=ha
 obtain⟨⟨hm0,hm16⟩,hb0,hb1,har⟩:=of_decide_eq_true hyes
 clear hyes
 have HX:=kH hxr
 have hcase:(call=3/\xs.length=2)\/((call=2\/call=4)/\xs.length=1)\/(call=5/\xs.length=0):=by
  simp only[cY,show((3:Int)=1)=False by simp,show((3:Int)=2)=False by simp,if_false,if_true]at har
  split at har
  ·left;omega
  ·split at har
   ·right;left;omega
   ·split at har
    ·right;left;omega
    ·split at har
     ·right;right;omega
     ·omega
 rcases hcase with⟨rfl,hl⟩|⟨hc,hl⟩|⟨rfl,hl⟩
 ·obtain⟨i,d,rfl⟩:=Cnt.list_two hl
  rcases ha with h|⟨b,off,rfl,hBb,hcell⟩
  ·cases h
  have c0:=hcell 0 (by simp)
  have c1:=hcell 1 (by simp)
  simp at c0 c1
  have hbs:b<w.heap.size:=by omega
  have hbne:b≠w.heap.size:=by omega
  have HF:=kH (fun W=>nz i most ⟨hm0,hm16⟩ W)
  clear hcell hl har hxr
  go_enter Tryz.func104,Tryz.ntmps104
  go_wp2_with(first|(go_at_call 152;refine(jO _ _).mono ?_;rintro e w' ⟨rfl,rfl⟩;simp only[show cY 3 3=2 from rfl])|(go_at_call 154;refine(HF.out _).mono ?_;rintro e w' ⟨s,hs,rfl,rfl⟩))
  go_ret2
  exact oH ⟨hb0,hb1⟩ ⟨hm0,hm16⟩ HX.out hs (Nat.le_refl _) (ai _ _) (aj rfl)
 ·obtain⟨i,rfl⟩:=Cnt.list_one hl
  rcases ha with h|⟨b,off,rfl,hBb,hcell⟩
  ·cases h
  have c0:=hcell 0 (by simp)
  simp at c0
  have hbs:b<w.heap.size:=by omega
  have hbne:b≠w.heap.size:=by omega
  have HF:=kH (fun W=>nz i most ⟨hm0,hm16⟩ W)
  clear hcell hl har hxr
  rcases hc with rfl|rfl
  all_goals
   go_enter Tryz.func104,Tryz.ntmps104
   go_wp2_with(first|(go_at_call 152;refine(jO _ _).mono ?_;rintro e w' ⟨rfl,rfl⟩;simp only[show cY 3 2=1 from rfl,show cY 3 4=1 from rfl])|(go_at_call 154;refine(HF.out _).mono ?_;rintro e w' ⟨s,hs,rfl,rfl⟩))
   go_ret2
   exact oH ⟨hb0,hb1⟩ ⟨hm0,hm16⟩ HX.out hs (Nat.le_refl _) (ai _ _) (aj rfl)
 ·obtain rfl:xs=[]:=List.eq_nil_of_length_eq_zero hl
  clear ha har hxr hl
  go_enter Tryz.func104,Tryz.ntmps104
  go_wp2_with(go_at_call 152;refine(jO _ _).mono ?_;rintro e w' ⟨rfl,rfl⟩;simp only[show cY 3 5=0 from rfl])
  go_ret2
  exact oH (slot:=0) ⟨hb0,hb1⟩ ⟨hm0,hm16⟩ HX.out ⟨by omega,.inr rfl⟩ (Nat.le_refl _) (ai _ _) (aj rfl)
end
section
variable {w0:World}{X:List Nat}{Cs:List aw}{w:World}{x:Nat}
def kq(kind most:Int):Int:=if kind=1 then most else if kind=2 then most+2 else if kind=3 then 3*most+1 else 2*most+3
def AskPost(w0:World)(X:List Nat)(Cs:List aw)(hi:Int)(e:Ending)(w':World):Prop :=
 ∃ (K:iY) (p:Nat) (m:K.S) (F:List Nat),e=.returned (.iface K.ty (ptr p))/\jz K hi 40 m/\ah w0 X (fV K p m F::Cs) w'
theorem ah.asked{w':World}{K:iY}{p:Nat}{m:K.S}{F:List Nat}(h:ah w0 X Cs w)(hb:Below w.heap.size w w')(hr:K.rep w' p m F)(hF:∀ k∈F,w.heap.size<=k):ah w0 X (fV K p m F::Cs) w' :=
 h.more (C3:=[fV K p m F]) ⟨aQ.of_below hb _,fun c hc=>by rw[List.mem_singleton.1 hc];exact hr,by simpa[cu,fV]using lj F,fun y hy=>by
  simp only[cu,fV,List.flatMap_cons,List.flatMap_nil,List.append_nil,gK]at hy
  exact .inr (hF y hy)⟩
theorem xJ{v:Value}{xs:List Int}(h:aD w 2 1 v xs.length (bz xs))(hx:∀ x∈xs,aI x)(hl:xs.length<=1000):kf w w.heap.size v xs:=by
 rcases h.parts with⟨rfl,h2,h3⟩|⟨g,cap,rfl,hnc,hcm,hg,hcell⟩
 ·have hxs:xs=[]:=List.eq_nil_of_length_eq_zero h2
  subst hxs
  exact AA w _
 ·refine⟨by omega,hx,_,cap,rfl,hnc,.inr ⟨g,0,rfl,hg,fun i hi=>?_⟩⟩
  rw[Nat.zero_add]
  exact hcell i _ (pJ hi)
theorem arity1(c:Int):Cnt.arityI c=cY 1 c:=by simp[Cnt.arityI,cY]
theorem arity2(c:Int):Que.arityI c=cY 2 c:=by
 simp only[Que.arityI,cY]
 split
 ·simp[*]
 ·by_cases h2:c=2
  ·simp[h2]
  ·by_cases h5:c=5<;>simp[*]
theorem arity4(c:Int):Chn.arityI c=cY 4 c:=by simp[Chn.arityI,cY]
theorem Bo{kind base most call:Int}{lv:Value}{xs:List Int}(hS:ah w0 X (cI lv xs::Cs) w)(hk:1<=kind/\kind<=4)(hb:0<=base/\base<=1024)(hm:0<=most/\most<=16)(ha:cY kind call=(xs.length:Int))(hl:xs.length<=1000)(hx:∀ y∈xs,aI y) :
  Calls Tryz.prog 70 #[ptr x,.agg #[.int .i64 kind,.int .i64 base,.int .i64 most],.int .i64 call,lv] w (AskPost w0 X (cI lv xs::Cs) (base+kq kind most)):=by
 have S1:=(hS.new (.cells #[.int .i64 kind,.int .i64 base,.int .i64 most] 103 (0,0))).drop
 have hrow:aD (w.alloc (.cells #[.int .i64 kind,.int .i64 base,.int .i64 most] 103 (0,0))) 2 1 lv xs.length (bz xs):=S1.h0
 have hr:=xJ hrow hx hl
 have hy:qf base most (cY kind call) xs.length=true:=decide_eq_true ⟨hm,hb.1,hb.2,ha⟩
 have HS:=kH S1
 have HX:=kH hx
 clear hS S1 hrow hx
 unfold ptr at *
 have hsz:∀ o,(w.alloc o).heap.size=w.heap.size+1:=fun o=>by simp
 rcases(show kind=1\/kind=2\/kind=3\/kind=4 from by omega)with rfl|rfl|rfl|rfl
 ·have HN:=kH (Cnt.New_yes _ _ base most call lv xs hr (Nat.le_refl _) (by rw[arity1];exact hy))
  clear hr hy ha
  go_enter Tryz.func70,Tryz.ntmps70
  go_wp2_with fail
  refine HN.out.mono ?_
  rintro e w' ⟨rfl,hbl,F,hrep,hF⟩
  rw[hsz]at hrep
  go_wp2
  go_ret
  exact⟨yL,w.heap.size+1,Cnt.initM base most call xs,F,rfl,gg (show base+most<=base+kq 1 most by simp[kq]) (by omega) (Dp hb.1),HS.out.asked hbl hrep hF⟩
 ·have HN:=kH (Que.New_yes _ _ base most call lv xs hr (Nat.le_refl _) (by rw[arity2];exact hy))
  clear hr hy ha
  go_enter Tryz.func70,Tryz.ntmps70
  go_wp2_with fail
  refine HN.out.mono ?_
  rintro e w' ⟨rfl,hbl,F,hrep,hF⟩
  rw[hsz]at hrep
  go_wp2
  go_ret
  exact⟨rj,w.heap.size+1,Que.initM base most call xs,F,rfl,gg (show base+(most+2)<=base+kq 2 most by simp[kq]) (by omega) (Cx hb.1 hm HX.out),HS.out.asked hbl hrep hF⟩
 ·have HN:=kH (Dl _ _ base most call lv xs hr (Nat.le_refl _) hy)
  clear hr hy ha
  go_enter Tryz.func70,Tryz.ntmps70
  go_wp2_with fail
  refine HN.out.mono ?_
  rintro e w' ⟨p,slot,hs,rfl,hbl,F,hrep,hF⟩
  go_wp2
  go_ret
  exact⟨yK,p,iO base most call xs slot,F,rfl,gg (show base+(3*most+1)<=base+kq 3 most by simp[kq]) (by omega) (Dh hb hm HX.out hs),HS.out.asked hbl hrep hF⟩
 ·have HN:=kH (Chn.New_yes _ _ base most call lv xs hr (Nat.le_refl _) (by rw[arity4];exact hy))
  clear hr hy ha
  go_enter Tryz.func70,Tryz.ntmps70
  go_wp2_with fail
  refine HN.out.mono ?_
  rintro e w' ⟨p,hp,rfl,hbl,F,hrep,hF⟩
  go_wp2
  go_ret
  exact⟨rk,p,Chn.initM base most call xs,F,rfl,gg (show base+(2*most+3)<=base+kq 4 most by simp[kq]) (by omega) (Du ⟨hb.1,hb.2,hm.1,hm.2⟩ HX.out),HS.out.asked hbl hrep hF⟩
end
section
variable {w0:World}{X:List Nat}{Cs:List aw}{w:World}{x p L:Nat}{k:cl}{f:PF}{st cs ts:List Int}{t:bZ}{F F2:List Nat}{old:List bM}{m:au}
def aZ(w0:World)(X:List Nat)(Cs:List aw)(x:Nat)(k:cl)(rv:Value)(hi:Int)(told:List bM)(nx:cM)(w':World):Prop :=
 match nx with
 | .on j=>∃ f st cs ts F,PfOk f st cs ts j/\f.rv=rv/\((f.ask=.nilIface/\ah w0 X (jC x k f st cs ts j.old j.tx F Cs) w') \/
   ∃ (K:iY) (pa:Nat) (am:K.S) (FA:List Nat),f.ask=.iface K.ty (ptr pa)/\jz K hi 40 am/\st.length<=30/\f.came=.heard/\ah w0 X (jC x k f st cs ts j.old j.tx F (fV K pa am FA::Cs)) w')
 | .over=>∃ f st cs ts t F old,f.over=true/\ts.length<=16/\old++t.told=told/\ah w0 X (jC x k f st cs ts old t F Cs) w'
def ce(w0:World)(X:List Nat)(Cs:List aw)(x p L:Nat)(k:cl)(rv:Value)(old:List bM)(t:bZ)(m:au)(hi:Int)(e:Ending)(w':World):Prop :=
 ∃ a new m' nx F2 L',L'<=L+50/\e=.returned a.val/\(∀ fin,gx k.c m ⟨t,true,fin,old⟩ a new m' nx)/\aZ w0 X (aG p m' L' F2::Cs) x k rv hi (old++(t.told++new)) nx w'
theorem aZ.blk{a:aw}{g:Nat}{o:Obj}{nx:cM}{w':World}{rv:Value}{hi:Int}{told:List bM}(h:aZ w0 X (a::ag g o::Cs) x k rv hi told nx w'):w'.heap[g]?=some o:=by
 cases nx with
 | on j =>
  obtain⟨f',st,cs,ts,F',h1,h2,⟨h3,hS⟩|⟨K,pa,am,FA,h3,h4,h5,h6,hS⟩⟩:=h
  ·exact(hS.pull [_,_,_,_,_,_,_,_]).h0
  ·exact(hS.pull [_,_,_,_,_,_,_,_,_]).h0
 | over =>
  obtain⟨f',st,cs,ts,t,F',old,h1,h2,h3,hS⟩:=h
  exact(hS.pull [_,_,_,_,_,_,_,_]).h0
theorem aZ.ret{a:aw}{g:Nat}{nx:cM}{W:World}{a0 b0 c0 d0:Value}{rv:Value}{hi:Int}{told:List bM}{fn:Func}{Q:Ending->World->Prop}{act:Act}{q:Tmp}(an:aM)(hres:fn.results=#[.cell q 35])
  (h:aZ w0 X (a::ag g (.cells #[a0,b0,c0,d0] 35 (0,0))::Cs) x k rv hi told nx W) (hg:act.tmps.getD q undef=.pointer (some ⟨g,0,none⟩)) (hd:act.defers=[])
  (hQ:∀ W',aZ w0 X (a::Cs) x k rv hi told nx W'->Q (.returned an.val) W') :
  bodyPost Tryz.prog fn Q .ret act ((((W.setCell ⟨g,0,none⟩ (.int .i64 an.kind)).setCell ⟨g,1,none⟩ (.int .i64 an.err)).setCell ⟨g,2,none⟩ (.int .i64 an.value)).setCell ⟨g,3,none⟩ (.bool an.access)):=by
 cases nx with
 | on j =>
  obtain⟨f',st,cs,ts,F',h1,h2,⟨h3,hS⟩|⟨K,pa,am,FA,h3,h4,h5,h6,hS⟩⟩:=h
  ·exact ah.ret an hres (hS.pull [_,_,_,_,_,_,_,_]) hg hd fun W' SF=>hQ W' ⟨f',st,cs,ts,F',h1,h2,.inl ⟨h3,SF⟩⟩
  ·exact ah.ret an hres (hS.pull [_,_,_,_,_,_,_,_,_]) hg hd fun W' SF=>hQ W' ⟨f',st,cs,ts,F',h1,h2,.inr ⟨K,pa,am,FA,h3,h4,h5,h6,SF⟩⟩
 | over =>
  obtain⟨f',st,cs,ts,t,F',old,h1,h2,h3,hS⟩:=h
  exact ah.ret an hres (hS.pull [_,_,_,_,_,_,_,_]) hg hd fun W' SF=>hQ W' ⟨f',st,cs,ts,t,F',old,h1,h2,h3,SF⟩
theorem aZ.sub{Cs':List aw}{rv:Value}{hi:Int}{told:List bM}{nx:cM}{w':World}(h:aZ w0 X Cs x k rv hi told nx w')(hs:∀ (Ps:List aw) (W:World),ah w0 X (Ps++Cs) W->ah w0 X (Ps++Cs') W):aZ w0 X Cs' x k rv hi told nx w':=by
 cases nx with
 | on j =>
  obtain⟨f',st,cs,ts,F',h1,h2,⟨h3,hS⟩|⟨K,pa,am,FA,h3,h4,h5,h6,hS⟩⟩:=h
  ·exact⟨f',st,cs,ts,F',h1,h2,.inl ⟨h3,hs [_,_,_,_,_,_,_] _ hS⟩⟩
  ·exact⟨f',st,cs,ts,F',h1,h2,.inr ⟨K,pa,am,FA,h3,h4,h5,h6,hs [_,_,_,_,_,_,_,_] _ hS⟩⟩
 | over =>
  obtain⟨f',st,cs,ts,t,F',old,h1,h2,h3,hS⟩:=h
  exact⟨f',st,cs,ts,t,F',old,h1,h2,h3,hs [_,_,_,_,_,_,_] _ hS⟩
structure GoSt(k:cl)(rv:Value)(m:au)(hi:Int)(t:bZ)(K:iY)(pa:Nat)(f:PF)(t1:bZ)(am:K.S)(q n:Nat):Prop where
 good:jz K hi n am
 quiet:iR m q t t1
 way:t1.way=.no
 phase:t1.phase=2
 tx:dM k.c t1 m
 told:t1.told.length=t.told.length+q
 begun:f.begun=true
 came:f.came≠.no
 ask:f.ask=.iface K.ty (ptr pa)
 word:aI f.word
 nth:0<=f.nth/\f.nth<=255
 over:f.over=false
 regs:f.rv=rv
def GoInv(w0:World)(X:List Nat)(Cs:List aw)(x p L:Nat)(k:cl)(rv:Value)(st cs ts:List Int)(old:List bM)(t:bZ)(m:au)(hi:Int)(K:iY)(pa b n:Nat)(wr:World):Prop :=
 ∃ f FA F F2 L1 t1 am q,q+n=40/\L1<=L+q/\GoSt k rv m hi t K pa f t1 am q n/\ah w0 X (jC x k f st cs ts old t1 F (fV K pa am FA::aG p m L1 F2::ag b aB::Cs)) wr
theorem mD{k:cl}{m:au}{old:List bM}{t t1:bZ}{q:Nat}{y:es}{c:eb}{nx:cM}(hc:co k.c)(hm:aY m)(hw:t.way=.no)(hp:t.phase≠0)(hok:dM k.c t m)(hq:iR m q t t1)(hqm:q<=most)
  (hf:cz m t1 y=true) (h1:y.kind≠1) (hv:aI y.value) (hfin:decide (y.kind=4)=c.fin) (hcm:iy k.c old (cB m t1 y).2.1 c.fin (cB m t1 y).1 nx) :
  ∃ new,(cB m t1 y).2.1.told=t.told++new/\∀ fin,gx k.c m ⟨t,true,fin,old⟩ (bL (cB m t1 y).1 c.fin) new (cB m t1 y).2.2 nx:=by
 obtain⟨new,k1,k2,k3,k4,k5,k6⟩:=eQ hc hm hq hok hw hp
 obtain⟨add,d1,d2,d3,d4⟩:=oR hc hm k4 k5 hf hv
 have e:(cB m t1 y).2.1.told=t.told++(new++add):=by rw[d2,k1,List.append_assoc]
 refine⟨new++add,e,fun fin=>?_⟩
 rw[<-hfin]at hcm ⊢
 exact .want rfl hw hq hqm hf h1 hv rfl e hcm
theorem mv{c:eb}{nx:cM}{rv:Value}{hi:Int}{w':World}(h:cU w0 X Cs x k f c old t nx w')(ha:f.ask=.nilIface)(hrv:f.rv=rv):aZ w0 X Cs x k rv hi (old++t.told) nx w':=by
 cases nx with
 | on j =>
  obtain⟨f',st,cs,ts,F',⟨h1,h2⟩,h3,hS⟩:=h
  exact⟨f',st,cs,ts,F',h1,h2.trans hrv,.inl ⟨h3.elim (fun h=>h.1.trans ha) id,hS⟩⟩
 | over =>
  obtain⟨f',st,cs,ts,F',h1,hS⟩:=h
  exact⟨f',st,cs,ts,t,F',old,h1.1,h1.2,rfl,hS⟩
theorem ah.dropN(Ps:List aw):∀ (As:List aw) {Bs:List aw} {W:World},ah w0 X (Ps++(As++Bs)) W->ah w0 X (Ps++Bs) W
 | [],_,_,h=>h
 | _::As,_,_,h=>ah.dropN Ps As (h.pull Ps).drop
theorem ah.drop1N(Ps:List aw){a:aw}(As:List aw){Bs:List aw}{W:World}(h:ah w0 X (Ps++a::(As++Bs)) W):ah w0 X (Ps++a::Bs) W:=by
 have h2:=ah.dropN (Ps++[a]) As (Bs:=Bs) (W:=W) (w0:=w0) (X:=X) (by rw[List.append_assoc];exact h)
 rw[List.append_assoc]at h2
 exact h2
theorem sv_len{W:World}{v v':Value}{xs ys:List Int}{a:Option Addr}{cap:Nat}(h:aD W 2 1 v' ys.length (bz ys))(hv:v=.slice a xs.length cap)(he:v'=v):ys.length=xs.length:=by
 obtain⟨b,c,hb,-⟩:=h.slice
 rw[he,hv]at hb
 injection hb with _ h2 _
 exact h2.symm
theorem sV{K:iY}{pa:Nat}{am:K.S}{FA:List Nat}{nx:cM}{rv:Value}{hi:Int}{w':World}{n:Nat}{a:Option Addr}{cap:Nat}(h:cU w0 X (fV K pa am FA::Cs) x k f .heard old t nx w')(ha:f.ask=.iface K.ty (ptr pa))(hrv:f.rv=rv)(hg:jz K hi n am)(hn:n<=40)(hsv:f.sv=.slice a st.length cap)(hst:st.length<=30):aZ w0 X Cs x k rv hi (old++t.told) nx w':=by
 cases nx with
 | on j =>
  obtain⟨f',st',cs',ts',F',⟨h1,h2⟩,h3,hS⟩:=h
  rcases h3 with⟨h3,h4,h5⟩|h3
  ·exact⟨f',st',cs',ts',F',h1,h2.trans hrv,.inr ⟨K,pa,am,FA,h3.trans ha,gg (Int.le_refl _) hn hg,by rw[sv_len (hS.h1:aD w' 2 1 f'.sv st'.length (bz st')) hsv (h5 (by simp))];exact hst,h4,hS⟩⟩
  ·exact⟨f',st',cs',ts',F',h1,h2.trans hrv,.inl ⟨h3,(hS.pull [_,_,_,_,_,_,_]).drop⟩⟩
 | over =>
  obtain⟨f',st',cs',ts',F',h1,hS⟩:=h
  exact⟨f',st',cs',ts',t,F',old,h1.1,h1.2,rfl,(hS.pull [_,_,_,_,_,_,_]).drop⟩
theorem sI{K:iY}{pa:Nat}{am:K.S}{FA:List Nat}{hi:Int}{rv:Value}(hS:ah w0 X (jC x k f st cs ts old t F (fV K pa am FA::aG p m L F2::Cs)) w)(hok:bX st cs ts)(hst:st.length<=30)(hg:GoSt k rv m hi t K pa f t am 0 40)(hkt:k.tries<=255)(hc:co k.c)
  (hhi:hi<=m.cells.length) (hn:t.told.length<=1073741000) (ho:old.length+t.told.length<=1073741000) (hL:L<=1073741000) (th:Int) :
  Calls Tryz.prog 44 #[ptr x,ptr p,.int .i64 th] w (ce w0 X Cs x p L k rv old t m hi):=by
 have S1:ah w0 X (jC x k f st cs ts old t F (fV K pa am FA::aG p m L F2::ag w.heap.size aB::Cs)) (w.alloc aB):=(hS.new aB).push [_,_,_,_,_,_,_,_,_]
 have HI:Hid (GoInv w0 X Cs x p L k rv st cs ts old t m hi K pa w.heap.size 40 (w.alloc aB)):=⟨f,FA,F,F2,L,t,am,0,rfl,Nat.le_refl _,hg,S1⟩
 have HOK:=kH hok
 have HG0:=kH hg
 have HC:=kH hc
 have HHI:=kH hhi
 clear hS S1 hok hg hc hhi
 unfold ptr aB at *
 go_enter Tryz.func44,Tryz.ntmps44
 go_wp2_with fail
 go_loopg[] 40 (fun nn wr=>GoInv w0 X Cs x p L k rv st cs ts old t m hi K pa w.heap.size nn wr)
 case atStart=>exact HI.out
 case round =>
  clear HI
  obtain⟨f,FA,F,F2,L1,t1,am,q,hq,hL1,hg,S⟩:=hrel
  obtain⟨n,rfl⟩:∃ n,gk=n+1:=by
   cases gk with
   | zero=>exact hg.good.elim
   | succ n=>exact⟨n,rfl⟩
  have c20:=S.cell 20
  have c21:=S.cell 21
  simp only[aH,gA,gZ,gS,hg.ask]at c20 c21
  have hlt:=af S.h0
  have hd:=K.meth
  have hd2:=K.call
  have HNX:=kH (fun i=>xb ((S.drewN i).pull [_,_,_,_,_,_,_]) f.word)
  have HG:=kH hg
  have HS:=kH S
  have HQ:=kH hq
  clear hg hq
  unfold ptr at *
  have HNX2:=kH (fun i=>xb (((S.new (fK ⟨0,0,0,0⟩)).drewN i).pull [_,_,_,_,_,_,_,_]) f.word)
  have hdw:∀ d:es,dE d=.agg #[.int .i64 d.kind,.int .i64 d.cell,.int .i64 d.value,.int .i64 d.code]:=fun _=>rfl
  have HDW:=kH hdw
  clear S hdw
  go_upto_region 2 with(fail)
  go_cut[8]from 13 to 71 (fun v8 wc=>∃ F1 bx,v8=.pointer (some ⟨bx,0,none⟩)/\ah w0 X (ag bx (fK (K.out am f.word).d)::fV K pa (K.step am f.word) F1::jC x k f st cs ts old t1 F (aG p m L1 F2::ag w.heap.size aB::Cs)) wc)
  case first =>
   --FIRST
   go_region_with(first|(refine(HNX.out _).mono ?_;rintro e1 w1 ⟨rfl,F1,S1⟩;rw[HDW.out];have HS1:=kH S1;clear S1)|(refine(HNX2.out _).mono ?_;rintro e1 w1 ⟨rfl,F1,S1⟩;rw[HDW.out];obtain⟨⟨a0,a1,a2,a3⟩,⟨g0,g1,g2,g3⟩⟩:=cw S1.sw.h0;have HS2:=kH S1;clear S1))
   all_goals
    go_wp2
    go_meet
    case rel =>
     first
      | exact⟨F1,_,rfl,HS1.out.new (fK (K.out am f.word).d)⟩
      | exact⟨F1,_,rfl,(((((HS2.out.sw.set 0 (.int .i64 (K.out am f.word).d.kind)).set 1 (.int .i64 (K.out am f.word).d.cell)).set 2 (.int .i64 (K.out am f.word).d.value)).set 3 (.int .i64 (K.out am f.word).d.code)).eqO (by simp))⟩
  case rest =>
   clear HNX HNX2 hd hd2
   obtain⟨F1,bx,rfl,S1⟩:=hcut
   have hmem:aY m:=(S1.turn [_,_,_,_,_,_,_,_] [_,_]).h1.ok
   have b0:=S1.cell 0
   have b1:=S1.cell 1
   have b2:=S1.cell 2
   have b3:=S1.cell 3
   simp only[gA,gZ,gS]at b0 b1 b2 b3
   have hltb:=af S1.h0
   obtain⟨Y,hY⟩:∃ Y,(K.out am f.word).d=Y:=⟨_,rfl⟩
   have hgood:=HG.out.good f.word HG.out.word
   change (((K.out am f.word).d.kind=6/\aI (K.out am f.word).d.value/\aI (K.out am f.word).d.code)\/(((K.out am f.word).d.kind=2\/(K.out am f.word).d.kind=3)/\0<=(K.out am f.word).d.cell/\(K.out am f.word).d.cell<hi/\aI (K.out am f.word).d.value/\jz K hi n (K.step am f.word)))at hgood
   rw[hY]at hgood b0 b1 b2 b3 S1
   have HMEM:=kH hmem
   clear hY hmem c20 c21 hlt
   have hltx:=af (S1.pull [_,_]).h0
   rcases hgood with⟨h6,hv,hcd⟩|⟨hk,hc0,hc1,hv,hgd⟩
   ·have h6':(Y.kind == 6)=true:=by simp[h6]
    have S2:=S1.turn [_,_] [_,_,_,_,_,_,_]
    have HP:=kH (oq S2 Y.value (by omega))
    have HV:=kH (And.intro hv hcd)
    have hst2:(st++[Y.value]).length<=1000:=by simp;omega
    clear S1 S2 h6 hv hcd
    go_wp2_with fail
    refine HP.out.mono ?_
    rintro e1 w1 ⟨rfl,sv1,S3⟩
    have HP2:=kH (oq S3 Y.code hst2)
    have e3:=(S3.pull [_,_,_,_,_,_,_]).cell 3
    simp only[gA,gZ,gS]at e3
    clear S3 HP b0 b1 b2 b3
    go_wp2_with fail
    refine HP2.out.mono ?_
    rintro e2 w2 ⟨rfl,sv2,S4⟩
    have d15:=S4.cell 15
    have d20:=S4.cell 20
    have f15:=S4.froz 15
    have f20:=S4.froz 20
    simp only[aH,gA,gZ,gS,HG.out.ask]at d15 d20
    have hlt2:=af S4.h0
    obtain⟨⟨a0,a1,a2,a3⟩,⟨g0,g1,g2,g3⟩⟩:=(S4.pull [_,_,_,_,_,_,_,_,_,_]).ansBox
    have HS4:=kH S4
    clear S4 HP2
    go_wp2
    have S5:=(HS4.out.pset (f':={f with sv:=sv2,ask:=.nilIface}) 20 .nilIface (by simp[aH])).pset (f':={f with sv:=sv2,ask:=.nilIface,at_:=wrap64 (f.at_+2)}) 15 (.int .i64 (wrap64 (f.at_+2))) (by simp[aH])
    obtain⟨new,k1,k2,k3,k4,k5,k6⟩:=eQ HC.out HMEM.out HG.out.quiet HG0.out.tx HG0.out.way (by rw[HG0.out.phase];decide)
    refine ah.ret ⟨2,0,0,false⟩ rfl (S5.pull [_,_,_,_,_,_,_,_,_,_]) rfl rfl fun W' SF=>⟨⟨2,0,0,false⟩,new,m,.on ⟨t1,true,f.came.fin,old⟩,F2,L1,by have:=HQ.out;omega,rfl,fun fin=>.quiet rfl HG0.out.way HG.out.quiet (by have:=HQ.out;unfold most;omega) k1,{f with sv:=sv2,ask:=.nilIface,at_:=wrap64 (f.at_+2)},_,cs,ts,F,
     ⟨⟨by simp;omega,HOK.out.csl,HOK.out.tsl,?_⟩,HG.out.begun,fun _=>⟨rfl,HG.out.came⟩,HG.out.word,HG.out.nth,fun _ h=>absurd HG.out.way h,HG.out.over,fun h=>nomatch h⟩,HG.out.regs,.inl ⟨rfl,ah.dropN [_,_,_,_,_,_,_] [_,_] SF⟩⟩
    intro v hvm
    simp only[List.append_assoc,List.mem_append,List.cons_append,List.nil_append,List.mem_cons,List.not_mem_nil,or_false]at hvm
    rcases hvm with h|rfl|rfl
    ·exact HOK.out.i64 v h
    ·exact HV.out.1
    ·exact HV.out.2
   ·have h6':(Y.kind == 6)=false:=by simp;omega
    have A:=S1.pull [_,_]
    have c19:=A.cell 19
    have f19:=A.froz 19
    simp only[aH,gA,gZ,gS]at c19
    have B:ah w0 X (ag x (bm k {f with came:=.heard})::_) (wc.setCell ⟨x,19,none⟩ (.func (.func 61) #[] #[])):=ah.pCame A .heard
    have hfit:cz m t1 Y=true:=js HG.out.tx HG.out.phase hk hc0 (by have:=HHI.out;omega)
    have HFA:=kH (nv HC.out HMEM.out HG.out.tx HG.out.way hfit hv)
    have HWQ:=kH (xk HC.out HMEM.out HG.out.tx HG.out.way hfit hv hk)
    have HQT:=kH (fun v (h:cB m t1 Y=(⟨3,0,v,false⟩,(cB m t1 Y).2.1,m))=>iR.step HG.out.quiet HG.out.way hfit hk hv h)
    have HST:=kH (fun nx hcm=>mD (old:=old) (nx:=nx) (c:=.heard) HC.out HMEM.out HG0.out.way (by rw[HG0.out.phase];decide) HG0.out.tx HG.out.quiet (by have:=HQ.out;unfold most;omega) hfit (by omega) hv (decide_eq_false (by omega)) hcm)
    have htl:=HG.out.told
    have HD:=kH (fun i=>zZ HC.out ((B.turn [_,_,_,_,_,_,_,_] [_,_]).drewN i) HG.out.tx HG.out.way hfit hv th (by have:=HQ.out;omega) (by have:=HQ.out;omega))
    have HD0:=kH (zZ HC.out (B.turn [_,_,_,_,_,_,_,_] [_,_]) HG.out.tx HG.out.way hfit hv th (by have:=HQ.out;omega) (by have:=HQ.out;omega))
    have HB:=kH B
    have HGD:=kH hgd
    have HFIT:=kH hfit
    have HVV:=kH hv
    obtain⟨R,hR⟩:∃ R,cB m t1 Y=R:=⟨_,rfl⟩
    have HRR:=kH hR
    rw[hR]at HD HD0 HFA HWQ HST HQT
    obtain⟨a,t2,m2⟩:=R
    simp only at HD HD0 HFA HWQ HST HQT
    have HTL:=kH htl
    clear A S1 hfit hR hgd hk hc0 hc1 hv htl
    obtain⟨kind,cell,value,code⟩:=Y
    unfold dE at HD HD0
    simp only at HD HD0 b0 b1 b2 b3 h6' HB HFIT HVV HRR
    go_upto_region 10 with(fail)
    generalize wc.setCell ⟨x,19,none⟩ (.func (.func 61) #[] #[])=W3 at *
    have B:=HB.out
    have d12:=B.cell 12
    have x0:=(B.pull [_]).cell 0
    have x1:=(B.pull [_]).cell 1
    have x2:=(B.pull [_]).cell 2
    have x3:=(B.pull [_]).cell 3
    simp only[aH,gA,gZ,gS]at d12 x0 x1 x2 x3
    unfold ptr at d12
    have hlt3:=af B.h0
    have hlt4:=af (B.pull [_]).h0
    clear B b0 b1 b2 b3 c19 f19
    go_cut[9]from 13 to 71 (fun v9 wd=>∃ F3 F4 L2 abx,L2<=L1+1/\v9=.pointer (some ⟨abx,0,none⟩)/\ah w0 X (ag abx (aS a)::jQ f.tx t2 F3::aG p m2 L2 F4::ag x (bm k {f with came:=.heard})::ag bx (.cells #[.int .i64 kind,.int .i64 cell,.int .i64 value,.int .i64 code] 109 (0,0))::fV K pa (K.step am f.word) F1::cI f.sv st::cI f.cv cs::cI f.tv ts::cI f.av k.args::bW f.ov (bb old)::ag w.heap.size aB::Cs) wd)
    case first =>
     --FIRST2
     have HDN:=kH (fun i=>zZ HC.out (((HB.out.new aB).drewN i).turn [_,_,_,_,_,_,_,_,_] [_,_]) HG.out.tx HG.out.way HFIT.out HVV.out th (by have:=HQ.out;have:=HTL.out;omega) (by have:=HQ.out;omega))
     rw[HRR.out]at HDN
     unfold dE ptr at HDN
     simp only at HDN
     go_region_with(first|(go_at_call 56;refine(HD.out _).mono ?_;rintro e2 w2 ⟨rfl,F3,F4,L2,hL2,S1⟩;unfold aM.val;have HS1:=kH S1;clear S1)|(go_at_call 56;refine(HDN.out _).mono ?_;rintro e2 w2 ⟨rfl,F3,F4,L2,hL2,S1⟩;unfold aM.val;obtain⟨⟨a0,a1,a2,a3⟩,⟨g0,g1,g2,g3⟩⟩:=(S1.pull [_,_]).ansBox;have HS2:=kH S1;clear S1))
     all_goals
      go_wp2
      go_meet
      case rel =>
       first
        | exact⟨F3,F4,L2,_,hL2,rfl,HS1.out.new (aS a)⟩
        | exact⟨F3,F4,L2,_,hL2,rfl,(((((HS2.out.pull [_,_]).set 0 (.int .i64 a.kind)).set 1 (.int .i64 a.err)).set 2 (.int .i64 a.value)).set 3 (.bool a.access)).eqO (by simp)⟩
    case rest =>
     clear HD HD0 d12 x0 x1 x2 x3
     obtain⟨F3,F4,L2,abx,hL2,rfl,S2⟩:=hcut
     obtain⟨ak,ae,av,aac⟩:=a
     have y0:=S2.cell 0
     have y1:=S2.cell 1
     have y2:=S2.cell 2
     have y3:=S2.cell 3
     simp only[gA,gZ,gS]at y0 y1 y2 y3
     have hlta:=af S2.h0
     have hltx2:=af (S2.pull [_,_,_]).h0
     by_cases h3:ak=3
     ·obtain⟨v,hvv,hval,hw2,hp2,hl2,hx2⟩:=HWQ.out h3
      injection hval with q1 q2
      injection q1 with q3 q4 q5 q6
      injection q2 with _ q7
      subst q3 q4 q5 q6 q7
      have c21:=(S2.pull [_,_,_]).cell 21
      have f21:=(S2.pull [_,_,_]).froz 21
      simp only[aH,gA,gZ,gS]at c21
      have HS2:=kH S2
      have HNX:=kH (And.intro (And.intro hvv hw2) (And.intro hp2 (And.intro hl2 hx2)))
      clear S2 hvv hw2 hp2 hl2 hx2
      go_wp2
      go_roundg n
      case measure=>omega
      case rel =>
       obtain⟨⟨n1,n2⟩,n3,n4,n5⟩:=HNX.out
       have S3:=(((((((((((((ah.pWord (HS2.out.pull [_,_,_]) av).pull [_,_,_,_,_,_,_,_,_,_,_]).pull [_,_,_,_]).pull [_,_,_,_,_,_]).pull [_,_,_,_,_]).pull [_,_,_,_,_,_,_,_,_,_,_]).pull [_,_,_,_,_,_,_,_,_,_,_]).pull [_,_,_,_,_,_,_,_,_,_,_]).pull [_,_,_,_,_,_,_,_,_,_,_]).pull [_,_,_,_,_,_,_,_,_,_,_]).pull [_,_,_,_,_,_,_,_,_]).pull [_,_,_,_,_,_,_,_,_,_,_]).pull [_,_,_,_,_,_,_,_,_,_,_])
       exact⟨{f with came:=.heard,word:=av},F1,F3,F4,L2,t2,K.step am f.word,q+1,by have:=HQ.out;omega,by omega,⟨HGD.out,HQT.out _ rfl,n2,n3,n5,by rw[n4,HTL.out];omega,HG.out.begun,by simp,HG.out.ask,n1,HG.out.nth,HG.out.over,HG.out.regs⟩,S3.drop.drop⟩
     ·have h3':(ak != 3)=true:=by simp[h3]
      obtain⟨ra,rcap,hsv,-⟩:=((S2.pull [_,_,_,_,_,_]).h0:aD wc 2 1 f.sv st.length (bz st)).slice
      have HSV:=kH hsv
      have HCM:=kH (mu (f:={f with came:=.heard}) (((((((((((((S2.pull [_,_,_,_]).pull [_]).pull [_,_,_,_,_,_,_,_,_,_,_]).pull [_,_,_,_]).pull [_,_,_,_,_,_]).pull [_,_,_,_,_]).pull [_,_,_,_,_,_,_,_,_,_,_]).pull [_,_,_,_,_,_,_,_,_,_,_]).pull [_,_,_,_,_,_,_,_,_,_,_]).pull [_,_,_,_,_,_,_,_,_,_,_]).pull [_,_,_,_,_,_,_,_,_,_,_]).pull [_,_,_,_,_,_,_,_,_,_,_])) HOK.out HG.out.begun (by simp) HG.out.word HG.out.nth hkt HG.out.over (fun h=>nomatch h) HC.out (by have:=HFA.out.len;have:=HTL.out;have:=HQ.out;omega) (by have:=HFA.out.len;have:=HTL.out;have:=HQ.out;omega) ⟨ak,ae,av,aac⟩ HFA.out.val HFA.out.way HFA.out.told)
      clear S2 h3 hsv
      unfold aM.val ptr at HCM
      simp only at HCM
      go_wp2_with fail
      refine HCM.out.mono ?_
      rintro e3 w3 ⟨rfl,nx,hcome,hjob⟩
      have hat:=sV (K:=K) (pa:=pa) (hi:=hi) hjob HG.out.ask HG.out.regs HGD.out (by have:=HQ.out;omega) HSV.out hst
      obtain⟨new,ht,hJ⟩:=HST.out nx hcome
      obtain⟨⟨a0,a1,a2,a3⟩,⟨g0,g1,g2,g3⟩⟩:=cw hat.blk
      have HA:=kH hat
      have HJ:=kH (And.intro ht hJ)
      clear hat hJ hjob hcome ht
      unfold aM.val
      go_wp2
      refine aZ.ret _ rfl HA.out rfl rfl fun W' hj=>⟨_,new,m2,nx,F4,L2,by have:=HQ.out;omega,rfl,HJ.out.2,?_⟩
      rw[<-HJ.out.1]
      exact hj.sub fun Ps W h=>ah.drop1N Ps [_,_] h
end
section
variable {w0:World}{X:List Nat}{Cs:List aw}{w:World}{x p L:Nat}{k:cl}{f:PF}{st cs ts:List Int}{t:bZ}{F F2:List Nat}{old:List bM}{m:au}{rv:Value}{hi:Int}
def cC(w0:World)(X:List Nat)(Cs:List aw)(x p L:Nat)(k:cl)(rv:Value)(old:List bM)(t:bZ)(m:au)(hi:Int)(e:Ending)(w':World):Prop :=
 ∃ a new m' nx F2 L',L'<=L+60/\e=.returned a.val/\(∀ fin,gx k.c m ⟨t,true,fin,old⟩ a new m' nx)/\aZ w0 X (aG p m' L' F2::Cs) x k rv hi (old++(t.told++new)) nx w'
theorem ce.blk{g:Nat}{o:Obj}{e:Ending}{w':World}(h:ce w0 X (ag g o::Cs) x p L k rv old t m hi e w'):∃ a:aM,e=.returned a.val/\w'.heap[g]?=some o:=by
 obtain⟨a,new,m',nx,F2,L',h1,h2,h3,h4⟩:=h
 exact⟨a,h2,h4.blk⟩
theorem zj{a b:aM}(h:a.val=b.val):a=b:=by
 obtain⟨a1,a2,a3,a4⟩:=a
 obtain⟨b1,b2,b3,b4⟩:=b
 simp only[aM.val,Value.agg.injEq,Array.mk.injEq,List.cons.injEq,Value.int.injEq,Value.bool.injEq,and_true,true_and]at h
 obtain⟨rfl,rfl,rfl,rfl⟩:=h
 rfl
theorem ce.ret{g L0:Nat}{W:World}{a0 b0 c0 d0:Value}{fn:Func}{act:Act}{q:Tmp}(hL:L<=L0+1)(an:aM)(hres:fn.results=#[.cell q 35])
  (h:ce w0 X (ag g (.cells #[a0,b0,c0,d0] 35 (0,0))::Cs) x p L k rv old t m hi (.returned an.val) W) (hg:act.tmps.getD q undef=.pointer (some ⟨g,0,none⟩)) (hd:act.defers=[]) :
  bodyPost Tryz.prog fn (cC w0 X Cs x p L0 k rv old t m hi) .ret act ((((W.setCell ⟨g,0,none⟩ (.int .i64 an.kind)).setCell ⟨g,1,none⟩ (.int .i64 an.err)).setCell ⟨g,2,none⟩ (.int .i64 an.value)).setCell ⟨g,3,none⟩ (.bool an.access)):=by
 obtain⟨a,new,m',nx,F2,L',h1,h2,h3,h4⟩:=h
 injection h2 with h2
 obtain rfl:=zj h2
 exact aZ.ret an hres h4 hg hd fun W' hj=>⟨an,new,m',nx,F2,L',by omega,rfl,h3,hj⟩
theorem pS(hS:ah w0 X (aG p m L F2::Cs) w):Calls Tryz.prog 39 #[ptr p] w (fun e w'=>e=.returned (.tuple #[.int .i64 m.cells.length,.int .i64 m.ring])/\ah w0 X (aG p m L F2::Cs) w') :=
 (nL (hS.h0:dk w p m L F2)).mono fun _ _ ⟨h1,h2⟩=>⟨h1,hS.below h2⟩
theorem ah.pBegun(h:ah w0 X (ag x (bm k f)::Cs) w):ah w0 X (ag x (bm k {f with begun:=true})::Cs) (w.setCell ⟨x,13,none⟩ (.bool true)):=h.pset 13 _ (by simp[aH])
theorem Ap{c:cN}(hc:co c)(hm:aY m)(h:dM c t m)(hw:t.way≠.no):(aP m t).1.kind≠0:=by
 obtain⟨new,h1,-⟩:=iJ hc hm h hw
 generalize aP m t=R at *
 obtain⟨a,t',m'⟩:=R
 simp only at h1 ⊢
 cases h1 with
 | on h=>rcases h with rfl|rfl<;>simp[moved,waits]
 | live=>simp[aW]
 | pub=>simp[moved]
 | done=>simp[aW]
 | fail=>simp[bi]
theorem yX(hS:ah w0 X (jC x k f st cs ts old t F (aG p m L F2::Cs)) w)(hok:bX st cs ts)(hb:f.begun=false)(hw:aI f.word)(hnth:0<=f.nth/\f.nth<=255)(hkt:k.tries<=255)(hov:f.over=false)
  (hc:co k.c) (htx:dM k.c t m) (hway:t.way=.no) (hfit:cz m t ⟨1,0,0,0⟩=true) (hkc:k.cells<=m.cells.length) (hkr:m.ring=k.c.ring) (hn:t.told.length<=1073741820) (ho:old.length+t.told.length<=1073741820) (hL:L<=1073741824) (th:Int) :
  Calls Tryz.prog 19 #[ptr x,ptr p,.int .i64 th] w (nH w0 X Cs x p L k {f with begun:=true} old .nothing (cB m t ⟨1,0,0,0⟩)):=by
 have S1:ah w0 X (jC x k f st cs ts old t F (aG p m L F2::ag w.heap.size aB::Cs)) (w.alloc aB):=(hS.new aB).push [_,_,_,_,_,_,_,_]
 have c1:=S1.cell 1
 have c7:=S1.cell 7
 have c13:=S1.cell 13
 have c23:=S1.cell 23
 simp only[aH,gA,gZ,gS,hb,hov]at c1 c7 c13 c23
 have hlt:=af S1.h0
 have HSZ:=kH (pS (S1.pull [_,_,_,_,_,_,_]))
 have hkc2:¬(m.cells.length:Int)<k.cells:=by omega
 have hkr2:(m.ring != k.c.ring)=false:=by simp[hkr]
 clear hS S1
 generalize hR:cB m t ⟨1,0,0,0⟩=R
 have HR:=kH hR
 clear hR
 have HX:=kH (And.intro hok (And.intro hw (And.intro hc htx)))
 have HY:=kH (And.intro hkc hkr)
 clear hok hw hc htx hkc hkr
 generalize (m.cells.length:Int)=mc at *
 unfold aB ptr at *
 go_enter Tryz.func19,Tryz.ntmps19
 go_wp2_with fail
 refine HSZ.out.mono ?_
 rintro e1 w1 ⟨rfl,S2⟩
 have S3:=S2.push [_,_,_,_,_,_,_]
 have d1:=S3.cell 1
 have d7:=S3.cell 7
 have d13:=S3.cell 13
 have f13:=S3.froz 13
 simp only[aH,gA,gZ,gS,hb]at d1 d7 d13
 have hlt1:=af S3.h0
 have S4:ah w0 X (jC x k {f with begun:=true} st cs ts old t F (aG p m L F2::ag w.heap.size aB::Cs)) (w1.setCell ⟨x,13,none⟩ (.bool true)):=S3.pBegun
 have HWN:=kH (ia S4 HX.out.1 rfl HX.out.2.1 hnth hkt hov .nothing (by simp) (by simp) HX.out.2.2.1 HX.out.2.2.2 hway hfit aK hn ho hL th)
 rw[HR.out]at HWN
 clear S2 S3 S4 c1 c7 c13 c23 HSZ
 unfold dE eb.val ptr at HWN
 simp only at HWN
 go_wp2_with fail
 refine HWN.out.mono ?_
 rintro e2 w2 ⟨nx,F3,L',hL',rfl,hcome,hjob⟩
 obtain⟨⟨a0,a1,a2,a3⟩,⟨g0,g1,g2,g3⟩⟩:=cw hjob.blk1
 unfold aM.val
 have HJ:=kH hjob
 have HCO:=kH hcome
 clear hjob hcome HWN
 go_wp2
 exact cU.ret1 (bL R.1 eb.nothing.fin) rfl HJ.out rfl rfl fun W' hj=>⟨nx,F3,L',hL',rfl,HCO.out,hj⟩
theorem zR(hS:ah w0 X (jC x k f st cs ts old t F (aG p m L F2::Cs)) w)(hok:bX st cs ts)(hb:f.begun=true)(hcm:f.came≠.no)(hw:aI f.word)(hnth:0<=f.nth/\f.nth<=255)(hkt:k.tries<=255)(hov:f.over=false)(hl:f.came=.loaded->st.length<=31)
  (hc:co k.c) (htx:dM k.c t m) (hway:t.way≠.no) (hkc:k.cells<=m.cells.length) (hkr:m.ring=k.c.ring) (hn:t.told.length<=1073741820) (ho:old.length+t.told.length<=1073741820) (hL:L<=1073741824) (th:Int) :
  Calls Tryz.prog 19 #[ptr x,ptr p,.int .i64 th] w (fun e w'=>∃ nx F2' L',L'<=L+1/\e=.returned (bL (aP m t).1 f.came.fin).val/\iy k.c old (aP m t).2.1 f.came.fin (aP m t).1 nx /\
   cU w0 X (aG p (aP m t).2.2 L' F2'::Cs) x k f f.came old (aP m t).2.1 nx w'):=by
 have S1:ah w0 X (jC x k f st cs ts old t F (aG p m L F2::ag w.heap.size aB::Cs)) (w.alloc aB):=(hS.new aB).push [_,_,_,_,_,_,_,_]
 have hmem:aY m:=(S1.turn [_,_,_,_,_,_] [_,_]).h1.ok
 have HFA:=kH (qi hc hmem htx hway)
 have hk0:=Ap hc hmem htx hway
 have HHS:=kH (fun(W:World) (S:ah w0 X (jC x k f st cs ts old t F (aG p m L F2::ag w.heap.size aB::Cs)) W)=>uj hc (S.turn [_,_,_,_,_,_] [_,_]) htx th (by omega) hL)
 have c1:=S1.cell 1
 have c7:=S1.cell 7
 have c23:=S1.cell 23
 simp only[aH,gA,gZ,gS,hov]at c1 c7 c23
 have hlt:=af S1.h0
 have HSZ:=kH (pS (S1.pull [_,_,_,_,_,_,_]))
 have hkc2:¬(m.cells.length:Int)<k.cells:=by omega
 have hkr2:(m.ring != k.c.ring)=false:=by simp[hkr]
 have HX:=kH (And.intro hok (And.intro hw (And.intro hc hcm)))
 have HL:=kH hl
 clear hS S1 hok hw hc htx hkc hkr hcm hl hmem
 generalize aP m t=R at *
 obtain⟨a,t2,m2⟩:=R
 obtain⟨ak,ae,av,aac⟩:=a
 simp only at HFA HHS hk0 ⊢
 have hk0':(ak != 0)=true:=by simp[hk0]
 generalize (m.cells.length:Int)=mc at *
 unfold aB ptr at *
 go_enter Tryz.func19,Tryz.ntmps19
 go_wp2_with fail
 refine HSZ.out.mono ?_
 rintro e1 w1 ⟨rfl,S2⟩
 have S3:=S2.push [_,_,_,_,_,_,_]
 have HT:=kH (HHS.out w1 S3)
 have d1:=S3.cell 1
 have d7:=S3.cell 7
 have d12:=S3.cell 12
 have d13:=S3.cell 13
 simp only[aH,gA,gZ,gS,hb]at d1 d7 d12 d13
 unfold ptr at d12
 have hlt1:=af S3.h0
 clear S2 S3 c1 c7 c23 HSZ
 go_wp2_with fail
 refine HT.out.mono ?_
 rintro e2 w2 ⟨rfl,F3,F4,L',hL',S4⟩
 have S5:=S4.turn [_,_] [_,_,_,_,_,_]
 have S6:ah w0 X (jC x k f st cs ts old t2 F3 (aG p m2 L' F4::ag w.heap.size aB::Cs)) (w2.alloc (aS ⟨ak,ae,av,aac⟩)):=S5.alloc _
 have HCM:=kH (mu S6 HX.out.1 hb HX.out.2.2.2 HX.out.2.1 hnth hkt hov HL.out HX.out.2.2.1 (by have:=HFA.out.len;omega) (by have:=HFA.out.len;omega) ⟨ak,ae,av,aac⟩ HFA.out.val HFA.out.way HFA.out.told)
 clear S4 S5 S6 HT
 unfold aM.val aS ptr at *
 simp only at HCM ⊢
 go_wp2_with fail
 refine HCM.out.mono ?_
 rintro e3 w3 ⟨rfl,nx,hcome,hjob⟩
 obtain⟨⟨a0,a1,a2,a3⟩,⟨g0,g1,g2,g3⟩⟩:=cw hjob.blk1
 unfold aM.val
 have HJ:=kH hjob
 have HCO:=kH hcome
 clear hjob hcome HCM
 go_wp2
 exact cU.ret1 (bL ⟨ak,ae,av,aac⟩ f.came.fin) rfl HJ.out rfl rfl fun W' hj=>⟨nx,F4,L',hL',rfl,HCO.out,hj⟩
theorem BE{K:iY}{pa:Nat}{am:K.S}{FA:List Nat}(hS:ah w0 X (jC x k f st cs ts old t F (fV K pa am FA::aG p m L F2::Cs)) w)(hok:bX st cs ts)(hst:st.length<=30)(hg:GoSt k rv m hi t K pa f t am 0 40)(hkt:k.tries<=255)(hc:co k.c)
  (hkc:k.cells<=m.cells.length) (hkr:m.ring=k.c.ring) (hhi:hi<=m.cells.length) (hn:t.told.length<=1073740000) (ho:old.length+t.told.length<=1073740000) (hL:L<=1073740000) (th:Int) :
  Calls Tryz.prog 19 #[ptr x,ptr p,.int .i64 th] w (cC w0 X Cs x p L k rv old t m hi):=by
 have S1:ah w0 X (jC x k f st cs ts old t F (fV K pa am FA::aG p m L F2::ag w.heap.size aB::Cs)) (w.alloc aB):=(hS.new aB).push [_,_,_,_,_,_,_,_,_]
 have hmem:aY m:=(S1.turn [_,_,_,_,_,_,_,_] [_]).h0.ok
 have hts:aP m t=(db,t,m):=by unfold aP;rw[hg.way]
 have HHS:=kH (fun(W:World) (S:ah w0 X (jC x k f st cs ts old t F (fV K pa am FA::aG p m L F2::ag w.heap.size aB::Cs)) W)=>uj hc ((S.turn [_,_,_,_,_,_,_] [_]).turn [_,_,_,_,_,_,_] [_,_]) hg.tx th (by omega) (by omega))
 have c1:=S1.cell 1
 have c7:=S1.cell 7
 have c23:=S1.cell 23
 simp only[aH,gA,gZ,gS,hg.over]at c1 c7 c23
 have hlt:=af S1.h0
 have HSZ:=kH (pS (S1.pull [_,_,_,_,_,_,_,_]))
 have hkc2:¬(m.cells.length:Int)<k.cells:=by omega
 have hkr2:(m.ring != k.c.ring)=false:=by simp[hkr]
 have HX:=kH (And.intro hok (And.intro hc (And.intro hg trivial)))
 have HHI:=kH hhi
 have hb:=hg.begun
 have ha:=hg.ask
 clear hS S1 hok hc hg hkc hkr hmem hhi
 rw[hts]at HHS
 clear hts
 generalize hmc:(m.cells.length:Int)=mc at hkc2 HSZ
 clear hmc
 unfold aB ptr at *
 go_enter Tryz.func19,Tryz.ntmps19
 go_wp2_with fail
 refine HSZ.out.mono ?_
 rintro e1 w1 ⟨rfl,S2⟩
 have S3:=S2.push [_,_,_,_,_,_,_,_]
 have HT:=kH (HHS.out w1 S3)
 have d1:=S3.cell 1
 have d7:=S3.cell 7
 have d12:=S3.cell 12
 have d13:=S3.cell 13
 simp only[aH,gA,gZ,gS,hb]at d1 d7 d12 d13
 unfold ptr at d12
 have hlt1:=af S3.h0
 clear S2 S3 c1 c7 c23 HSZ
 go_wp2_with fail
 refine HT.out.mono ?_
 rintro e2 w2 ⟨rfl,F3,F4,L',hL',S4⟩
 have S6:ah w0 X (jC x k f st cs ts old t F3 (fV K pa am FA::aG p m L' F4::ag w.heap.size aB::Cs)) (w2.alloc (aS db)):=((((((((((S4.alloc (aS db)).pull [_]).pull [_,_]).pull [_,_]).pull [_,_,_,_,_,_,_,_]).pull [_,_,_,_,_,_,_,_]).pull [_,_,_,_,_,_,_,_]).pull [_,_,_,_,_,_,_,_]).pull [_,_,_,_,_,_,_,_]).pull [_,_,_,_,_,_,_,_])
 have HGO:=kH (sI S6 HX.out.1 hst HX.out.2.2.1 hkt HX.out.2.1 HHI.out (by omega) (by omega) (by omega) th)
 have d20:=(S4.pull [_,_,_]).cell 20
 simp only[aH,gA,gZ,gS,ha]at d20
 have hlt2:=af (S4.pull [_,_,_]).h0
 clear S4 S6 HT d1 d7 d12 d13 hb ha
 unfold aM.val db aS ptr at *
 simp only at HGO d20 hlt2 ⊢
 go_wp2_with fail
 refine HGO.out.mono ?_
 rintro e3 w3 hgp
 obtain⟨an,rfl,hbox⟩:=hgp.blk
 obtain⟨⟨a0,a1,a2,a3⟩,⟨g0,g1,g2,g3⟩⟩:=cw hbox
 unfold aM.val
 have HGP:=kH hgp
 clear hgp hbox HGO
 go_wp2
 exact ce.ret (L:=L') hL' an rfl HGP.out rfl rfl
end
section
variable {w0:World}{X:List Nat}{Cs:List aw}{w:World}{x p L:Nat}{k:cl}{f:PF}{st cs ts:List Int}{t:bZ}{F F2:List Nat}{old:List bM}{m:au}{rv:Value}{hi:Int}
structure KOk(k:cl)(hi:Int):Prop where
 cfg:co k.c
 raw:1<=k.raw/\k.raw<=64
 rawhi:k.raw<=hi
 tries:k.tries<=255
 code:k.code.size<=512
 regs:k.regs.length<=8
 reg:∀ r∈k.regs,(1<=r.1/\r.1<=4)/\(0<=r.2.1/\r.2.1<=1024)/\(0<=r.2.2/\r.2.2<=16)/\r.2.1+kq r.1 r.2.2<=hi
 args:k.args.length<=4
 argI:∀ v∈k.args,aI v
theorem Dy{w w':World}{b:Nat}(h:w'.heap[b]?=w.heap[b]?)(i:Nat):w'.cell? ⟨b,i,none⟩=w.cell? ⟨b,i,none⟩:=by simp[World.cell?,h]
theorem ah.tabled(h:ah w0 X Cs w)(ht:Cod.Tabled w0)(hx:0∉X):Cod.Tabled w :=
 ⟨Nat.lt_of_lt_of_le ht.1 h.kept.size,fun i hi=>(Dy (h.kept.block 0 ht.1 hx) i).trans (ht.2 i hi)⟩
theorem sU{l:List UInt8}{a:Int}(h:(Cod.atS l a).err=0):∃ (c:Nat) (n:Int),Cod.atS l a=⟨c,(Cod.atS l a).operand,n,0⟩/\fB c (Cod.atS l a).operand:=by
 unfold Cod.atS at h ⊢
 split at h
 ·simp[Cod.noSpot]at h
 ·split at h
  ·simp[Cod.noSpot]at h
  ·split at h
   ·simp[Cod.noSpot]at h
   ·split at h
    ·rename_i h1 h2 h3 h4
     rw[if_neg h1,if_neg h2,if_neg h3,if_pos h4]
     refine⟨_,_,rfl,?_⟩
     generalize Cod.byteN l a.toNat=c at *
     generalize Cod.valueI (Cod.shapeN c) _=o at *
     obtain⟨q1,q2⟩:=of_decide_eq_true h4
     have hs:=Cod.shape_le c
     refine⟨by omega,?_,fun h=>?_⟩
     ·unfold Cod.loI at q1
      unfold Cod.hiI at q2
      unfold aI
      dsimp only
      rcases Cod.seven hs with e|e|e|e|e|e|e<;>simp[e]at q1 q2<;>omega
     ·have e:Cod.shapeN c=5:=by
       rcases(show c=28\/c=33\/c=34\/c=35\/c=36\/c=37\/c=38\/c=39\/c=40 by omega)with rfl|rfl|rfl|rfl|rfl|rfl|rfl|rfl|rfl<;>decide
      simp[e,Cod.loI,Cod.hiI]at q1 q2
      exact⟨q1,q2⟩
    ·simp[Cod.noSpot]at h
theorem bT{c:cN}(h:dM c t m)(hp:t.phase=2){e:Int}(he:e=8\/e=7):cz m t ⟨5,0,0,e⟩=true:=by
 unfold cz
 have hr:m.ring=t.ring:=h.mring.trans h.cfg.1.symm
 simp[hr,hp,he]
theorem o7{c:cN}(h:dM c t m)(hp:t.phase=2):cz m t ⟨4,0,0,0⟩=true:=by
 unfold cz
 have hr:m.ring=t.ring:=h.mring.trans h.cfg.1.symm
 simp[hr,hp]
theorem cr{y:es}{c:eb}{e:Ending}{w':World}(hc:co k.c)(hm:aY m)(hok:dM k.c t m)(hw:t.way=.no)(hp:t.phase=2)(hf:cz m t y=true)(h1:y.kind≠1)(hv:aI y.value)(hfin:decide (y.kind=4)=c.fin)
  (ha:f.ask=.nilIface) (hrv:f.rv=rv) (h:nH w0 X Cs x p L k f old c (cB m t y) e w'):ce w0 X Cs x p L k rv old t m hi e w':=by
 obtain⟨nx,F3,L',hL',rfl,hcome,hjob⟩:=h
 obtain⟨new,ht,hJ⟩:=mD (old:=old) hc hm hw (by omega) hok (iR.refl t) (Nat.zero_le _) hf h1 hv hfin hcome
 refine⟨_,new,_,nx,F3,L',by omega,rfl,hJ,?_⟩
 rw[<-ht]
 exact mv hjob ha hrv
theorem ce.sub{Cs':List aw}{e:Ending}{w':World}(h:ce w0 X Cs x p L k rv old t m hi e w')(hs:∀ (Ps:List aw) (W:World),ah w0 X (Ps++Cs) W->ah w0 X (Ps++Cs') W):ce w0 X Cs' x p L k rv old t m hi e w':=by
 obtain⟨a,new,m',nx,F2,L',h1,h2,h3,h4⟩:=h
 refine⟨a,new,m',nx,F2,L',h1,h2,h3,h4.sub fun Ps W h=>?_⟩
 have h5:=hs (Ps++[aG p m' L' F2]) W (by rw[List.append_assoc];exact h)
 rw[List.append_assoc]at h5
 exact h5
end
section
variable {w0:World}{X:List Nat}{Cs:List aw}{w:World}{x p L:Nat}{k:cl}{f:PF}{st cs ts:List Int}{t:bZ}{F F2:List Nat}{old:List bM}{m:au}{hi:Int}
structure jX(k:cl)(hi:Int)(f:PF)(m:au)(t:bZ):Prop where
 kok:KOk k hi
 way:t.way=.no
 phase:t.phase=2
 tx:dM k.c t m
 begun:f.begun=true
 came:f.came≠.no
 ask:f.ask=.nilIface
 word:aI f.word
 nth:0<=f.nth/\f.nth<=255
 over:f.over=false
 high:hi<=m.cells.length/\hi<=1024
theorem D3(hS:ah w0 X (jC x k f st cs ts old t F (aG p m L F2::cx f.rv k.regs::Cs)) w)(hok:bX st cs ts)(hI:jX k hi f m t)(ht:Cod.Tabled w0)(hX:0∉X)(hn:t.told.length<=1073740000)(ho:old.length+t.told.length<=1073740000)(hL:L<=1073740000)(th:Int)(hout:f.at_<0\/(k.code.size:Int)<=f.at_) :
  Calls Tryz.prog 45 #[ptr x,ptr p,.int .i64 th] w (cC w0 X (cx f.rv k.regs::Cs) x p L k f.rv old t m hi):=by
 have S1:ah w0 X (jC x k f st cs ts old t F (aG p m L F2::ag w.heap.size aB::cx f.rv k.regs::Cs)) (w.alloc aB):=(hS.new aB).push [_,_,_,_,_,_,_,_]
 have hmem:aY m:=(S1.turn [_,_,_,_,_,_,_] [_]).h0.ok
 have c9:=S1.cell 9
 have c15:=S1.cell 15
 simp only[aH,gA,gZ,gS]at c9 c15
 have hlt:=af S1.h0
 have HAB:=kH (fun i=>dL (S1.drewN i) hok hI.begun hI.word hI.nth hI.kok.tries hI.over hI.kok.cfg hI.tx hI.way 7 (bT hI.tx hI.phase (.inr rfl)) (by omega) (by omega) (by omega) th)
 have HI:=kH hI
 have HM:=kH hmem
 have hcs:(k.code.size:Int)<=512:=by have:=hI.kok.code;omega
 clear hS hok hI hmem
 have hab:Calls Tryz.prog 62 #[ptr x,ptr p,.int .i64 th,.int .i64 7] (w.alloc aB)=Calls Tryz.prog 62 #[ptr x,ptr p,.int .i64 th,.int .i64 7] (w.alloc aB):=rfl
 clear hab S1
 generalize k.code=code at *
 generalize f.at_=at_ at *
 unfold aB ptr at *
 rcases hout with hout|hout
 ·go_enter Tryz.func45,Tryz.ntmps45
  go_wp2_with fail
  go_quiet(fail)
  go_wp2_with fail
  refine(HAB.out _).mono ?_
  rintro e1 w1 hwp
  have hgp:=cr (hi:=hi) HI.out.kok.cfg HM.out HI.out.tx HI.out.way HI.out.phase (bT HI.out.tx HI.out.phase (.inr rfl)) (by decide) aK (by decide) HI.out.ask rfl hwp
  obtain⟨an,rfl,hbox⟩:=hgp.blk
  obtain⟨⟨a0,a1,a2,a3⟩,⟨g0,g1,g2,g3⟩⟩:=cw hbox
  unfold aM.val
  have HGP:=kH hgp
  clear hgp hbox hwp HAB
  go_wp2
  exact ce.ret (Nat.le_succ _) an rfl HGP.out rfl rfl
 ·have hnn:¬at_<0:=by omega
  go_enter Tryz.func45,Tryz.ntmps45
  go_wp2_with fail
  go_quiet(fail)
  go_wp2_with fail
  refine(HAB.out _).mono ?_
  rintro e1 w1 hwp
  have hgp:=cr (hi:=hi) HI.out.kok.cfg HM.out HI.out.tx HI.out.way HI.out.phase (bT HI.out.tx HI.out.phase (.inr rfl)) (by decide) aK (by decide) HI.out.ask rfl hwp
  obtain⟨an,rfl,hbox⟩:=hgp.blk
  obtain⟨⟨a0,a1,a2,a3⟩,⟨g0,g1,g2,g3⟩⟩:=cw hbox
  unfold aM.val
  have HGP:=kH hgp
  clear hgp hbox hwp HAB
  go_wp2
  exact ce.ret (Nat.le_succ _) an rfl HGP.out rfl rfl
end
section
variable {w0:World}{X:List Nat}{Cs:List aw}{w:World}{x p L:Nat}{k:cl}{f:PF}{st cs ts:List Int}{t:bZ}{F F2:List Nat}{old:List bM}{m:au}{hi:Int}
theorem zl:∀ c:Nat,c<=32->iZ c<=2:=by decide
theorem zv:∀ c:Nat,c<=32->je c<=3:=by decide
theorem oK{s:ByteArray}{a ac ao an ae:Int}(S:ah w0 X Cs w)(ht:Cod.Tabled w0)(hX:0∉X)(hs:s.size<=281474976710656)(hA:Cod.atS s.data.toList a=⟨ac,ao,an,ae⟩) :
  Calls Tryz.prog 63 #[.string s,.int .i64 a] w (fun e w'=>e=.returned (.tuple #[.agg #[.int .i64 ac,.int .i64 ao],.int .i64 an,.int .i64 ae])/\ah w0 X Cs w'):=by
 have h:=Cod.CodeAt_calls w s a hs (S.tabled ht hX)
 rw[hA]at h
 exact h.mono fun e w' ⟨h1,h2⟩=>⟨h1,S.below h2⟩
theorem D6(hS:ah w0 X (jC x k f st cs ts old t F (aG p m L F2::cx f.rv k.regs::Cs)) w)(hok:bX st cs ts)(hI:jX k hi f m t)(ht:Cod.Tabled w0)(hX:0∉X)(hn:t.told.length<=1073740000)(ho:old.length+t.told.length<=1073740000)(hL:L<=1073740000)(th:Int)(hin:0<=f.at_/\f.at_<k.code.size)(hbad:(Cod.atS k.code.data.toList f.at_).err≠0) :
  Calls Tryz.prog 45 #[ptr x,ptr p,.int .i64 th] w (cC w0 X (cx f.rv k.regs::Cs) x p L k f.rv old t m hi):=by
 have S1:ah w0 X (jC x k f st cs ts old t F (aG p m L F2::ag w.heap.size aB::cx f.rv k.regs::Cs)) (w.alloc aB):=(hS.new aB).push [_,_,_,_,_,_,_,_]
 have hmem:aY m:=(S1.turn [_,_,_,_,_,_,_] [_]).h0.ok
 have c9:=S1.cell 9
 have c15:=S1.cell 15
 simp only[aH,gA,gZ,gS]at c9 c15
 have hlt:=af S1.h0
 have HI:=kH hI
 have HM:=kH hmem
 have HOK:=kH hok
 have HS1:=kH S1
 have hcs:(k.code.size:Int)<=512:=by have:=hI.kok.code;omega
 have hnn:¬f.at_<0:=by omega
 have hnl:¬(k.code.size:Int)<=f.at_:=by omega
 have hwat:IntKind.i64.wrap f.at_=f.at_:=IntWalk.i64_in _ (by omega)
 obtain⟨ac,ao,an,ae,hA⟩:∃ ac ao an ae,Cod.atS k.code.data.toList f.at_=⟨ac,ao,an,ae⟩:=⟨_,_,_,_,rfl⟩
 have HAT:=kH (fun(Ds:List aw) (W:World) (S:ah w0 X Ds W)=>oK S ht hX (by have:=hI.kok.code;omega) hA)
 have HA:=kH hA
 clear hS hok hI hmem hA S1 hin
 obtain⟨code,hcode⟩:∃ code,k.code=code:=⟨_,rfl⟩
 obtain⟨at_,hatx⟩:∃ at_,f.at_=at_:=⟨_,rfl⟩
 have HCODE:=kH hcode
 have HATX:=kH hatx
 rw[hcode]at c9 HAT hcs hnl
 rw[hatx]at c15 HAT hnn hnl hwat
 clear hcode hatx
 unfold aB ptr at *
 go_enter Tryz.func45,Tryz.ntmps45
 go_wp2_with fail
 go_quiet(fail)
 go_upto_region 4 with(fail)
 have S2:=HS1.out.drewN nq
 generalize (w.alloc (.cells #[.int .i64 0,.int .i64 0,.int .i64 0,.bool false] 35 (0,0))).drewN nq=W1 at *
 have d9:=S2.cell 9
 have d15:=S2.cell 15
 simp only[aH,gA,gZ,gS,HCODE.out,HATX.out]at d9 d15
 have hlt1:=af S2.h0
 have HS2:=kH S2
 clear S2 c9 c15 hlt HS1
 go_cut[8,9,10]from 14 to 174 (fun v8 v9 v10 wc=>∃ b8,v8=.pointer (some ⟨b8,0,none⟩)/\v9=.int .i64 an/\v10=.int .i64 ae/\ah w0 X (ag b8 (fa ac ao)::jC x k f st cs ts old t F (aG p m L F2::ag w.heap.size aB::cx f.rv k.regs::Cs)) wc)
 case first =>
  have hne1:x≠W1.heap.size:=Nat.ne_of_lt hlt1
  have hne2:W1.heap.size≠x:=Ne.symm hne1
  go_region_held3 (fun w'=>w'.cell? ⟨x,9,none⟩=some (.string code)/\w'.cell? ⟨x,15,none⟩=some (.int .i64 at_)) (go_keep) (first|(go_at_call 63;(first|refine(HAT.out _ _ HS2.out).mono ?_|refine(HAT.out _ _ (HS2.out.drewN _)).mono ?_);rintro e1 w1 ⟨rfl,S3⟩;have e9:=S3.cell 9;have e15:=S3.cell 15;simp only[aH,gA,gZ,gS,HCODE.out,HATX.out]at e9 e15;have HS3:=kH S3;clear S3)|(go_at_call 63;refine(HAT.out _ _ ((HS2.out.new (fa 0 0)).drewN _)).mono ?_;rintro e1 w1 ⟨rfl,S4⟩;have y0:=S4.cell 0;have y1:=S4.cell 1;have z0:=S4.froz 0;have z1:=S4.froz 1;simp only[gA,gZ,gS]at y0 y1;have e9:=(S4.pull [_]).cell 9;have e15:=(S4.pull [_]).cell 15;simp only[aH,gA,gZ,gS,HCODE.out,HATX.out]at e9 e15;have HS4:=kH S4;clear S4))
  all_goals
   go_wp2
   go_meet
   case rel =>
    first
     | exact⟨_,rfl,rfl,rfl,HS3.out.new (fa ac ao)⟩
     | exact⟨_,rfl,rfl,rfl,((HS4.out.set 0 (.int .i64 ac)).set 1 (.int .i64 ao)).eqO (by simp)⟩
 case rest =>
  obtain⟨b8,rfl,rfl,rfl,S5⟩:=hcut
  clear HAT d9 d15 HS2
  have hae:(ae != 0)=true:=by
   have h:=hbad
   rw[HA.out]at h
   simpa using h
  have HAB:=kH (dL (S5.turn [_] [_,_,_,_,_,_,_,_]) HOK.out HI.out.begun HI.out.word HI.out.nth HI.out.kok.tries HI.out.over HI.out.kok.cfg HI.out.tx HI.out.way 7 (bT HI.out.tx HI.out.phase (.inr rfl)) (by omega) (by omega) (by omega) th)
  clear S5 hbad
  unfold ptr at HAB
  go_wp2_with fail
  refine HAB.out.mono ?_
  rintro e1 w1 hwp
  have hgp:=(cr (hi:=hi) HI.out.kok.cfg HM.out HI.out.tx HI.out.way HI.out.phase (bT HI.out.tx HI.out.phase (.inr rfl)) (by decide) aK (by decide) HI.out.ask rfl hwp).sub fun Ps W h=>ah.dropN Ps [_] h
  obtain⟨an',rfl,hbox⟩:=hgp.blk
  obtain⟨⟨a0,a1,a2,a3⟩,⟨g0,g1,g2,g3⟩⟩:=cw hbox
  unfold aM.val
  have HGP:=kH hgp
  clear hgp hbox hwp HAB
  go_wp2
  exact ce.ret (Nat.le_succ _) an' rfl HGP.out rfl rfl
end
end Go.Proofs.YtgfogfciobmmpaaGreatDoor
