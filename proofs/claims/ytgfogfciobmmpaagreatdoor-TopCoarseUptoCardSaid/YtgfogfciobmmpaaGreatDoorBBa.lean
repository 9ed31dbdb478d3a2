/- A part of the proof of a law of carouseltop: Wnt2 Ask Dic Dic2 Dic3 Dic4. -/
import Derived.Test.YtgfogfciobmmpaaGreatDoorBAy
import Derived.Test.YtgfogfciobmmpaaGreatDoorBAz
set_option linter.unusedSimpArgs false
set_option linter.unusedVariables false
set_option maxRecDepth 100000
set_option maxHeartbeats 8000000
namespace Go.Proofs.YtgfogfciobmmpaaGreatDoor
open Go.RowKit
section
variable {w0:World}{X:List Nat}{Cs:List aw}{w:World}{x p L:Nat}{k:cl}{f:PF}{st cs ts:List Int}{t:bZ}{F F2:List Nat}{old:List bM}{m:au}{y:es}{c:eb}
theorem cU.blk1{a:aw}{g:Nat}{o:Obj}{nx:cM}{w':World}(h:cU w0 X (a::ag g o::Cs) x k f c old t nx w'):w'.heap[g]?=some o:=by
 cases nx with
 | on j =>
  obtain⟨f',st,cs,ts,F',h1,h2,hS⟩:=h
  exact(hS.pull [_,_,_,_,_,_,_,_]).h0
 | over =>
  obtain⟨f',st,cs,ts,F',h1,hS⟩:=h
  exact(hS.pull [_,_,_,_,_,_,_,_]).h0
theorem cU.ret1{a:aw}{g:Nat}{nx:cM}{W:World}{a0 b0 c0 d0:Value}{fn:Func}{Q:Ending->World->Prop}{act:Act}{q:Tmp}(an:aM)(hres:fn.results=#[.cell q 35])
  (h:cU w0 X (a::ag g (.cells #[a0,b0,c0,d0] 35 (0,0))::Cs) x k f c old t nx W) (hg:act.tmps.getD q undef=.pointer (some ⟨g,0,none⟩)) (hd:act.defers=[])
  (hQ:∀ W',cU w0 X (a::Cs) x k f c old t nx W'->Q (.returned an.val) W') :
  bodyPost Tryz.prog fn Q .ret act ((((W.setCell ⟨g,0,none⟩ (.int .i64 an.kind)).setCell ⟨g,1,none⟩ (.int .i64 an.err)).setCell ⟨g,2,none⟩ (.int .i64 an.value)).setCell ⟨g,3,none⟩ (.bool an.access)):=by
 cases nx with
 | on j =>
  obtain⟨f',st,cs,ts,F',h1,h2,hS⟩:=h
  exact ah.ret an hres (hS.pull [_,_,_,_,_,_,_,_]) hg hd fun W' SF=>hQ W' ⟨f',st,cs,ts,F',h1,h2,SF⟩
 | over =>
  obtain⟨f',st,cs,ts,F',h1,hS⟩:=h
  exact ah.ret an hres (hS.pull [_,_,_,_,_,_,_,_]) hg hd fun W' SF=>hQ W' ⟨f',st,cs,ts,F',h1,SF⟩
theorem dL(hS:ah w0 X (jC x k f st cs ts old t F (aG p m L F2::Cs)) w)(hok:bX st cs ts)(hb:f.begun=true)(hw:aI f.word)(hnth:0<=f.nth/\f.nth<=255)(hkt:k.tries<=255)(hov:f.over=false)
  (hc:co k.c) (htx:dM k.c t m) (hway:t.way=.no) (er:Int) (hfit:cz m t ⟨5,0,0,er⟩=true) (hn:t.told.length<=1073741820) (ho:old.length+t.told.length<=1073741820) (hL:L<=1073741824) (th:Int) :
  Calls Tryz.prog 62 #[ptr x,ptr p,.int .i64 th,.int .i64 er] w (nH w0 X Cs x p L k f old .nothing (cB m t ⟨5,0,0,er⟩)):=by
 have S1:ah w0 X (jC x k f st cs ts old t F (aG p m L F2::ag w.heap.size aB::Cs)) (w.alloc aB):=(hS.new aB).push [_,_,_,_,_,_,_,_]
 have HWN:=kH (ia S1 hok hb hw hnth hkt hov .nothing (by simp) (by simp) hc htx hway hfit aK hn ho hL th)
 clear hS S1
 generalize cB m t ⟨5,0,0,er⟩=R at *
 unfold dE aB eb.val ptr at *
 simp only at HWN
 go_enter Tryz.func62,Tryz.ntmps62
 go_wp2_with fail
 refine HWN.out.mono ?_
 rintro e1 w1 ⟨nx,F3,L',hL',rfl,hcome,hjob⟩
 obtain⟨⟨a0,a1,a2,a3⟩,⟨g0,g1,g2,g3⟩⟩:=cw hjob.blk1
 unfold aM.val
 have HJ:=kH hjob
 have HCO:=kH hcome
 clear hjob hcome
 go_wp2
 exact cU.ret1 (bL R.1 eb.nothing.fin) rfl HJ.out rfl rfl fun W' hj=>⟨nx,F3,L',hL',rfl,HCO.out,hj⟩
theorem qy(hS:ah w0 X (ag x (bm k f)::Cs) w)(hk:1<=k.raw/\k.raw<=64)(q:Int) :
  Calls Tryz.prog 68 #[ptr x,.int .i64 q] w (fun e w'=>∃ c,0<=c/\c<k.raw/\e=.returned (.int .i64 c)/\w=w'):=by
 have c0:=hS.cell 0
 simp only[aH,gA,gZ,gS]at c0
 clear hS
 obtain⟨h1,h2⟩:=hk
 generalize k.raw=r at *
 unfold ptr at *
 go_enter Tryz.func68,Tryz.ntmps68
 go_wp2
 go_ret
 have hu:0<=IntKind.u64.wrap q:=by rw[IntKind.wrap_u64];omega
 have e:=Int.tmod_eq_emod_of_nonneg (b:=r) hu
 have e1:=Int.emod_nonneg (IntKind.u64.wrap q) (show r≠0 by omega)
 have e2:=Int.emod_lt_of_pos (IntKind.u64.wrap q) (show 0<r by omega)
 have e3:wrap64 ((IntKind.u64.wrap q).tmod r)=IntKind.u64.wrap q%r:=by rw[e];unfold wrap64;omega
 exact⟨_,by rw[e3];exact e1,by rw[e3];exact e2,rfl,rfl⟩
theorem kz:∀ (l:List (Int×Int×Int)) (j:Nat),j<l.length->(cE l)[j*3]?=some (.int .i64 (l.getD j (0,0,0)).1)/\(cE l)[j*3+1]?=some (.int .i64 (l.getD j (0,0,0)).2.1)/\(cE l)[j*3+2]?=some (.int .i64 (l.getD j (0,0,0)).2.2)
 | [],j,h=>by simp at h
 | r::l,0,_=>⟨rfl,rfl,rfl⟩
 | r::l,j+1,h=>by
  have ih:=kz l j (by simpa using h)
  have e:cE (r::l)=.int .i64 r.1::.int .i64 r.2.1::.int .i64 r.2.2::cE l:=rfl
  rw[e,show(j+1)*3=j*3+1+1+1 by omega]
  refine⟨?_,?_,?_⟩
  ·simpa using ih.1
  ·rw[show j*3+1+1+1+1=j*3+1+1+1+1 by rfl]
   simpa using ih.2.1
  ·rw[show j*3+1+1+1+2=j*3+2+1+1+1 by omega]
   simpa using ih.2.2
def DI(k:cl)(c:Int)(j:Nat)(w0:World)(X:List Nat)(Cs:List aw)(e:Ending)(w':World):Prop :=
 ∃ (tk pt:Int) (b:Bool),e=.returned (.tuple #[.agg #[.int .i64 tk,.int .i64 pt,.nilFunc],.bool b])/\(b=true->j<k.regs.length/\tk=cY (k.regs.getD j (0,0,0)).1 (c-32)/\pt=2/\0<=tk)/\ah w0 X Cs w'
theorem Ab(hS:ah w0 X (ag x (bm k f)::cx f.rv k.regs::Cs) w)(c:Int)(hc:33<=c/\c<=40)(j:Nat)(hj:j<=255)(hr:k.regs.length<=8)(hk:∀ r∈k.regs,1<=r.1/\r.1<=4) :
  Calls Tryz.prog 64 #[ptr x,ew c (j:Int)] w (DI k c j w0 X (ag x (bm k f)::cx f.rv k.regs::Cs)):=by
 have c8:=hS.cell 8
 simp only[aH,gA,gZ,gS]at c8
 have hlt:=af hS.h0
 have hrow:aD w 103 3 f.rv k.regs.length (cE k.regs):=hS.h1
 obtain⟨h1,h2⟩:=hc
 have S1:=(hS.new (fa c (j:Int))).new (.cells #[.int .i64 0,.int .i64 0,.nilFunc] 140 (0,0))
 rw[show(w.alloc (fa c (j:Int))).heap.size=w.heap.size+1 by simp]at S1
 unfold fa at S1
 have HS:=kH S1
 have hcc:¬c<=32:=by omega
 clear S1
 by_cases hl:j<k.regs.length
 ·rcases hrow.parts with⟨q1,q2,q3⟩|⟨g,cap,hv,hnc,hcm,hg,hcell⟩
  ·omega
  obtain⟨r0,r1,r2⟩:=kz k.regs j hl
  have d0:=hcell _ _ r0
  have hkj:1<=(k.regs.getD j (0,0,0)).1/\(k.regs.getD j (0,0,0)).1<=4:=by
   rw[List.getD_eq_getElem?_getD,List.getElem?_eq_getElem hl]
   exact hk _ (List.getElem_mem hl)
  have HKJ:=kH hkj
  rw[hv]at c8
  clear hS hrow hcell hv hk hkj r0 r1 r2
  obtain⟨kd,hkd⟩:∃ kd,(k.regs.getD j (0,0,0)).1=kd:=⟨_,rfl⟩
  have HKD:=kH hkd
  rw[hkd]at d0
  obtain⟨n,hn⟩:∃ n,k.regs.length=n:=⟨_,rfl⟩
  have HN:=kH hn
  rw[hn]at c8 hnc hl hr
  have HA:=kH (fun W=>yM (kind:=kd) (call:=c-32) (hkd▸HKJ.out) (by omega) W)
  clear hkd hn
  have hw32:IntKind.i64.wrap (c-32)=c-32:=IntWalk.i64_in _ (by omega)
  unfold ew ptr at *
  go_enter Tryz.func64,Tryz.ntmps64
  go_wp2_with fail
  go_quiet(fail)
  go_wp2_with fail
  go_region_held3 (fun w'=>w'.cell? ⟨x,8,none⟩=some (.slice (some ⟨g,0,none⟩) n cap)/\w'.cell? ⟨g,j*3,none⟩=some (.int .i64 kd)/\w'.cell? ⟨w.heap.size,0,none⟩=some (.int .i64 c)/\w'.cell? ⟨w.heap.size,1,none⟩=some (.int .i64 (j:Int))) (go_keep) (first|(go_at_call 101;refine(HA.out _).mono ?_;rintro e1 w1 ⟨rfl,rfl⟩))
  all_goals
   have S3:=(((HS.out.drewN (nq+1)).set 0 (.int .i64 (cY kd (c-32)))).set 1 (.int .i64 2)).set 2 .nilFunc
   go_wp2
   refine bodyPost_ret (fF (p:=4) (u:=5) rfl _ _ _ _ _ _ _ rfl S3.h0 Tryz.underlying140 rfl na) rfl ⟨(cY kd (c-32)),2,decide (0<=cY kd (c-32)),rfl,fun hb=>⟨by rw[HN.out];exact hl,by rw[HKD.out],rfl,of_decide_eq_true hb⟩,S3.drop.drop⟩
 ·obtain⟨a,cap,hv,hnc,hcm⟩:=hrow.slice
  rw[hv]at c8
  clear hS hrow hv hk
  obtain⟨n,hn⟩:∃ n,k.regs.length=n:=⟨_,rfl⟩
  have HN:=kH hn
  rw[hn]at c8 hnc hl hr
  clear hn
  unfold ew ptr at *
  go_enter Tryz.func64,Tryz.ntmps64
  go_wp2_with fail
  go_quiet(fail)
  have S3:=(((HS.out.drewN nq).set 0 (.int .i64 0)).set 1 (.int .i64 0)).set 2 .nilFunc
  go_wp2
  refine bodyPost_ret (fF (p:=4) (u:=5) rfl _ _ _ _ _ _ _ rfl S3.h0 Tryz.underlying140 rfl na) rfl ⟨0,0,false,rfl,fun hb=>by simp at hb,S3.drop.drop⟩
end
section
variable {w0:World}{X:List Nat}{Cs:List aw}{w:World}
structure iY where
 S:Type
 ty:TypeId
 fn:Nat
 rep:World->Nat->S->List Nat->Prop
 out:S->Int->ax
 step:S->Int->S
 keep:∀ {w w':World} {p:Nat} {m:S} {F:List Nat},rep w p m F->(∀ q∈F,w'.heap[q]?=w.heap[q]?)->rep w' p m F
 mem:∀ {w:World} {p:Nat} {m:S} {F:List Nat},rep w p m F->p∈F/\∀ q∈F,q<w.heap.size
 next:∀ (w:World) (p:Nat) (m:S) (F:List Nat) (v:Int),rep w p m F->Calls Tryz.prog fn #[.pointer (some ⟨p,0,none⟩),.int .i64 v] w
  (fun e w'=>e=.returned (out m v).val/\aQ F w w'/\∃ F',rep w' p (step m v) F'/\∀ k∈F',k∈F\/w.heap.size<=k)
 meth:∀ (v:Value) (w:World),(method 402 ty v "Next").run Tryz.prog w=.ok (fn,v) w
 call:∀ (a:Array Value) (w:World),(callFunc fn a).run Tryz.prog w=.ok (.enter fn a) w
def ded:List Nat->List Nat
 | []=>[]
 | x::l=>if x∈l then ded l else x::ded l
theorem gK{x:Nat}:∀ {l:List Nat},x∈ded l↔x∈l
 | []=>by simp[ded]
 | y::l=>by
  unfold ded
  split
  ·rename_i h
   rw[gK,List.mem_cons]
   exact⟨.inr,fun h'=>h'.elim (fun e=>e▸h) id⟩
  ·rw[List.mem_cons,List.mem_cons,gK]
theorem lj:∀ l:List Nat,(ded l).Nodup
 | []=>List.nodup_nil
 | y::l=>by
  unfold ded
  split
  ·exact lj l
  ·exact List.nodup_cons.2 ⟨fun h=>by rename_i h';exact h' (gK.1 h),lj l⟩
def fV(K:iY)(p:Nat)(m:K.S)(F:List Nat):aw :=
 ⟨ded F,fun W=>K.rep W p m F,fun _ _ h k=>K.keep k fun q hq=>h q (gK.2 hq),fun _ k x hx=>(K.mem k).2 x (gK.1 hx)⟩
def ax.d(x:ax):es:=⟨x.kind,x.cell,x.value,x.code⟩
theorem xb{K:iY}{p:Nat}{m:K.S}{F:List Nat}(hS:ah w0 X (fV K p m F::Cs) w)(v:Int) :
  Calls Tryz.prog K.fn #[ptr p,.int .i64 v] w (fun e w'=>e=.returned (dE (K.out m v).d)/\∃ F',ah w0 X (fV K p (K.step m v) F'::Cs) w'):=by
 have h0:K.rep w p m F:=hS.h0
 refine(K.next w p m F v h0).mono ?_
 rintro e w' ⟨rfl,hg,F',hr,hF⟩
 refine⟨rfl,F',hS.call1 (C3:=[fV K p (K.step m v) F']) ⟨hg.mono fun x hx=>.inl (gK.2 hx),fun c hc=>by rw[List.mem_singleton.1 hc];exact hr,?_,fun x hx=>?_⟩⟩
 ·simpa[cu,fV]using lj F'
 ·have hx':x∈F':=by simpa[cu,fV,gK]using hx
  exact(hF x hx').imp (fun h=>gK.2 h) id
def jz(K:iY)(hi:Int):Nat->K.S->Prop
 | 0,_=>False
 | n+1,m=>∀ v,aI v->((K.out m v).kind=6/\aI (K.out m v).value/\aI (K.out m v).code) \/
   (((K.out m v).kind=2\/(K.out m v).kind=3)/\0<=(K.out m v).cell/\(K.out m v).cell<hi/\aI (K.out m v).value/\jz K hi n (K.step m v))
theorem gg{K:iY}{hi hi':Int}(hh:hi<=hi'):∀ {n n':Nat} {m:K.S},n<=n'->jz K hi n m->jz K hi' n' m
 | 0,_,_,_,h=>h.elim
 | n+1,0,_,hn,_=>by omega
 | n+1,n'+1,m,hn,h=>fun v hv=>(h v hv).imp id fun⟨h1,h2,h3,h4,h5⟩=>⟨h1,h2,by omega,h4,gg hh (by omega) h5⟩
theorem mi{w w':World}{p:Nat}{F:List Nat}(h:w.grownBy w' (some p))(hp:p∈F):aQ F w w':=(aQ.refl F w).grown h fun q hq=>by
 injection hq with hq
 exact .inl (hq▸hp)
def yL:iY where
 S:=Cnt.MS
 ty:=182
 fn:=285
 rep:=Cnt.Rep
 out:=Cnt.outM
 step:=Cnt.stepM
 keep:=fun {w w' p m F} h hk=>by
  obtain⟨rfl,h⟩:=h
  exact⟨rfl,(hk p (by simp)).trans h⟩
 mem:=fun {w p m F} h=>by
  obtain⟨rfl,h⟩:=h
  exact⟨by simp,fun q hq=>by rw[List.mem_singleton.1 hq];exact af h⟩
 next:=fun w p m F v h=>(Cnt.Next_calls w p m F v h).mono fun e w' ⟨h1,h2,h3⟩=>⟨h1,mi h2 (by obtain⟨rfl,_⟩:=h;simp),h3⟩
 meth:=fun v w=>by kernel_rfl
 call:=fun a w=>by kernel_rfl
def rj:iY where
 S:=Que.MS
 ty:=185
 fn:=286
 rep:=Que.Rep
 out:=Que.outM
 step:=Que.stepM
 keep:=Que.rep_keep
 mem:=Que.rep_mem
 next:=fun w p m F v h=>(Que.Next_calls w p m F v h).mono fun e w' ⟨h1,h2,h3⟩=>⟨h1,mi h2 (Que.rep_mem h).1,h3⟩
 meth:=fun v w=>by kernel_rfl
 call:=fun a w=>by kernel_rfl
def rk:iY where
 S:=Chn.MS
 ty:=191
 fn:=288
 rep:=Chn.Rep
 out:=Chn.outM
 step:=Chn.stepM
 keep:=Chn.rep_keep
 mem:=Chn.rep_mem
 next:=fun w p m F v h=>(Chn.Next_calls w p m F v h).mono fun e w' ⟨h1,h2,h3⟩=>⟨h1,mi h2 (Chn.rep_mem h).1,h3⟩
 meth:=fun v w=>by kernel_rfl
 call:=fun a w=>by kernel_rfl
theorem qP(x:Int):aI (wrap64 x):=by unfold wrap64 aI;omega
theorem Dp{base most call:Int}{xs:List Int}(hb:0<=base):jz yL (base+most) 3 (Cnt.initM base most call xs):=by
 unfold Cnt.initM
 split
 ·intro v hv
  exact .inl ⟨rfl,aK,by simp[aI,yL,Cnt.outM]⟩
 ·rename_i hi
  have h0:0<=base+xs.getD 0 0/\base+xs.getD 0 0<base+most:=by omega
  generalize base+xs.getD 0 0=c at *
  generalize (if call=1 then xs.getD 1 0 else 0)=d at *
  intro v hv
  refine .inr ⟨.inl rfl,h0.1,h0.2,aK,?_⟩
  intro u hu
  cases hc:decide (call=1)
  ·exact .inl ⟨rfl,qP _,aK⟩
  ·refine .inr ⟨.inr rfl,h0.1,h0.2,qP _,?_⟩
   intro v' hv'
   exact .inl ⟨rfl,qP _,aK⟩
end
section
variable {w0:World}{X:List Nat}{Cs:List aw}{w:World}{p:Nat}
theorem ah.wNew{W:World}{f:Func}{Q:Ending->World->Prop}{act:Act}{q:Tmp}(a:ax)(hres:f.results=#[.cell q 109])
  {g:Nat} (h:ah w0 X Cs W) (hg:act.tmps.getD q undef=.pointer (some ⟨g,0,none⟩)) (hge:g=W.heap.size) (hd:act.defers=[]) (hQ:∀ W',ah w0 X Cs W'->Q (.returned a.val) W') :
  bodyPost Tryz.prog f Q .ret act (W.alloc (.cells #[.int .i64 a.kind,.int .i64 a.cell,.int .i64 a.value,.int .i64 a.code] 109 (0,0))) :=
 bodyPost_ret (results_cell_row hres _ _ _ _ _ _ _ hg (aj hge) Tryz.underlying109 rfl ap) hd (hQ _ (h.alloc _))
theorem ah.wRet{a0 b0 c0 d0:Value}{f:Func}{W:World}{Q:Ending->World->Prop}{act:Act}{q:Tmp}{g:Nat}(a:ax)(hres:f.results=#[.cell q 109])
  (h:ah w0 X (ag g (.cells #[a0,b0,c0,d0] 109 (0,0))::Cs) W) (hg:act.tmps.getD q undef=.pointer (some ⟨g,0,none⟩)) (hd:act.defers=[])
  (hQ:∀ W',ah w0 X Cs W'->Q (.returned a.val) W') :
  bodyPost Tryz.prog f Q .ret act ((((W.setCell ⟨g,0,none⟩ (.int .i64 a.kind)).setCell ⟨g,1,none⟩ (.int .i64 a.cell)).setCell ⟨g,2,none⟩ (.int .i64 a.value)).setCell ⟨g,3,none⟩ (.int .i64 a.code)):=by
 have h4:=(((h.set 0 (.int .i64 a.kind)).set 1 (.int .i64 a.cell)).set 2 (.int .i64 a.value)).set 3 (.int .i64 a.code)
 exact bodyPost_ret (results_cell_row hres _ _ _ _ _ _ _ hg h4.h0 Tryz.underlying109 rfl ap) hd (hQ _ h4.drop)
def sO(x:ax):Obj:=.cells #[.int .i64 x.kind,.int .i64 x.cell,.int .i64 x.value,.int .i64 x.code] 109 (0,0)
def s0:Obj:=.cells #[.int .i64 0,.int .i64 0,.int .i64 0,.int .i64 0] 109 (0,0)
theorem ah.wBox{f:Func}{W:World}{Q:Ending->World->Prop}{act:Act}{q:Tmp}{g g':Nat}(a:ax)(hres:f.results=#[.cell q 109])
  (h:ah w0 X (ag g' (sO a)::Cs) W) (hge:g'=g) (hg:act.tmps.getD q undef=.pointer (some ⟨g,0,none⟩)) (hd:act.defers=[])
  (hQ:ah w0 X Cs W->Q (.returned a.val) W):bodyPost Tryz.prog f Q .ret act W:=by
 subst hge
 exact bodyPost_ret (results_cell_row hres _ _ _ _ _ _ _ hg h.h0 Tryz.underlying109 rfl ap) hd (hQ h.drop)
structure eC where
 base:Int
 most:Int
 call:Int
 k:Int
 v:Int
 slot:Int
 seen:Int
 free:Int
def ju(d:eC)(tv nx:Value):Array Value:=#[.int .i64 d.base,.int .i64 d.most,.int .i64 d.call,.int .i64 d.k,.int .i64 d.v,.int .i64 d.slot,.int .i64 d.seen,.int .i64 d.free,tv,nx]
def dI(d:eC)(tv nx:Value):Obj:=.cells (ju d tv nx) 234 (0,0)
structure dO(d:eC):Prop where
 base:0<=d.base/\d.base<=1024
 most:0<=d.most/\d.most<=16
 k:aI d.k
 v:aI d.v
 slot:0<=d.slot/\(d.slot<d.most\/d.slot=0)
 seen:0<=d.seen/\d.seen<=d.most
 free:d.free = -1\/(0<=d.free/\d.free<d.most)
def lR(n:Nat):Value:=.func (.func n) #[] #[]
theorem ah.dset{d d':eC}{tv nx tv' nx':Value}(h:ah w0 X (ag p (dI d tv nx)::Cs) w)(i:Nat)(v:Value)(he:(ju d tv nx).setIfInBounds i v=ju d' tv' nx'):ah w0 X (ag p (dI d' tv' nx')::Cs) (w.setCell ⟨p,i,none⟩ v):=by
 have h6:=h.set i v
 rw[he]at h6
 exact h6
theorem lE(n:Int)(h:0<=n/\n<=16)(w:World):Calls Tryz.prog 226 #[.int .i64 n] w (dm (.int .i64 (1+3*n)) w):=by
 go_enter Tryz.func226,Tryz.ntmps226
 go_wp2
 go_ret
 exact⟨rfl,rfl⟩
def DicPost(w0:World)(X:List Nat)(Cs:List aw)(p:Nat)(d:eC)(tv nx:Value)(x:ax)(e:Ending)(w':World):Prop :=
 e=.returned x.val/\ah w0 X (ag p (dI d tv nx)::Cs) w'
theorem wl{d:eC}{tv nx:Value}(hS:ah w0 X (ag p (dI d tv nx)::Cs) w)(hb:0<=d.base/\d.base<=1024)(c:Int)(hc:0<=c/\c<=1000)(n:Nat) :
  Calls Tryz.prog 183 #[ptr p,.int .i64 c,lR n] w (DicPost w0 X Cs p d tv (lR n) (bV (d.base+c))):=by
 have c0:=hS.cell 0
 have c9:=hS.cell 9
 have f9:=hS.froz 9
 simp only[ju,gA,gZ,gS]at c0 c9
 have hlt:=af hS.h0
 have S1:=hS.dset (d':=d) (tv':=tv) (nx':=lR n) 9 (lR n) (by simp[ju])
 clear hS
 unfold ptr lR at *
 go_enter Tryz.func183,Tryz.ntmps183
 go_wp2
 exact ah.wNew (bV (d.base+c)) rfl S1 rfl (by simp) rfl fun W' h=>⟨rfl,h⟩
theorem ww{d:eC}{tv nx:Value}(hS:ah w0 X (ag p (dI d tv nx)::Cs) w)(v c:Int) :
  Calls Tryz.prog 185 #[ptr p,.int .i64 v,.int .i64 c] w
   (fun e w'=>e=.returned (ax.val ⟨6,0,v,c⟩)/\∃ g,ah w0 X (ag p (dI d tv (.func (.func 224) #[] #[ptr g]))::ag g (sO ⟨6,0,v,c⟩)::Cs) w'):=by
 have c9:=hS.cell 9
 have f9:=hS.froz 9
 simp only[ju,gA,gZ,gS]at c9
 have hlt:=af hS.h0
 have HS:=kH (((hS.dset (d':=d) (tv':=tv) (nx':=.func (.func 224) #[] #[ptr (w.heap.size+1)]) 9 (.func (.func 224) #[] #[ptr (w.heap.size+1)]) (by simp[ju])).alloc (sO ⟨6,0,v,c⟩)).new (sO ⟨6,0,v,c⟩))
 clear hS
 unfold ptr sO at *
 go_enter Tryz.func185,Tryz.ntmps185
 go_wp2
 refine bodyPost_ret (results_cell_row rfl _ _ _ _ _ _ _ rfl (kO (aj (by simp))) Tryz.underlying109 rfl ap) rfl ⟨rfl,w.heap.size+1,?_⟩
 have h:=HS.out.sw
 rw[show((w.setCell ⟨p,9,none⟩ (.func (.func 224) #[] #[.pointer (some ⟨w.heap.size+1,0,none⟩)])).alloc (.cells #[.int .i64 6,.int .i64 0,.int .i64 v,.int .i64 c] 109 (0,0))).heap.size=w.heap.size+1 by simp]at h
 exact h
end
section
variable {w0:World}{X:List Nat}{Cs:List aw}{w:World}{p:Nat}
theorem Dk{d:eC}{tv nx:Value}{g:Nat}{c v:Int}(hS:ah w0 X (ag p (dI d tv nx)::ag g (.cells #[.int .i64 0,.int .i64 c,.int .i64 v,.int .i64 0] 109 (0,0))::Cs) w)(hb:0<=d.base/\d.base<=1024)(hc:0<=c/\c<=1000) :
  Calls Tryz.prog 240 #[ptr p,.slice (some ⟨g,0,none⟩) 1 1] w (fun e w'=>e=.returned (bN (d.base+c) v).val/\∃ a cap,ah w0 X (ag p (dI d (.slice a 0 cap) nx)::Cs) w'):=by
 have c0:=hS.cell 0
 have c8:=hS.cell 8
 have f8:=hS.froz 8
 have S1:=hS.sw
 have hd:=S1.ansBox
 simp only[ju,gA,gZ,gS]at c0 c8
 obtain⟨⟨d0,d1,d2,d3⟩,⟨g0,g1,g2,g3⟩⟩:=hd
 have hlt:=af hS.h0
 have hltg:=af S1.h0
 have hne:p≠g:=by
  have:=hS.apart
  simp only[cu,ag,List.flatMap_cons,List.singleton_append,List.nodup_cons,List.mem_append,List.mem_cons,not_or]at this
  exact this.1.1
 have HS:=kH hS
 clear hS S1
 unfold ptr at *
 go_enter Tryz.func240,Tryz.ntmps240
 go_wp2_with fail
 refine wp_loop_rounds 2 ?_
 rw[rounds_succ]
 go_wp2_with fail
 go_region
 go_wp2_with fail
 rw[rounds_succ]
 go_wp2_with fail
 have S3:=(((((HS.out.sw.set 0 (.int .i64 3)).set 1 (.int .i64 (c+d.base))).sw).dset (d':=d) (tv':=.slice (some ⟨g,0,none⟩) 0 0) (nx':=nx) 8 (.slice (some ⟨g,0,none⟩) 0 0) (by simp[ju])).new (sO (bN (c+d.base) v))).drew
 exact ah.wBox (bN (c+d.base) v) rfl S3 (by simp) rfl rfl fun h=>⟨by rw[Int.add_comm],some ⟨g,0,none⟩,0,h.sw.drop⟩
theorem ah.eqO{A B:Array Value}{t:TypeId}{g:Nat}(h:ah w0 X (ag g (.cells A t (0,0))::Cs) w)(e:A=B):ah w0 X (ag g (.cells B t (0,0))::Cs) w:=e▸h
def Ax(k c1 v1 c2 v2 c3 v3 c4 v4:Int):Array Value:=#[.int .i64 k,.int .i64 c1,.int .i64 v1,.int .i64 0,.int .i64 k,.int .i64 c2,.int .i64 v2,.int .i64 0,.int .i64 k,.int .i64 c3,.int .i64 v3,.int .i64 0,.int .i64 k,.int .i64 c4,.int .i64 v4,.int .i64 0]
def oW(k c1 v1 c2 v2 c3 v3 c4 v4:Int):Obj:=.cells (Ax k c1 v1 c2 v2 c3 v3 c4 v4) 109 (0,0)
theorem Dj{d:eC}{tv nx:Value}{g:Nat}{c1 c2 c3 c4 v1 v2 v3 v4:Int}(hS:ah w0 X (ag p (dI d tv nx)::ag g (oW 0 c1 v1 c2 v2 c3 v3 c4 v4)::Cs) w)(hb:0<=d.base/\d.base<=1024)
  (h1:0<=c1/\c1<=1000) (h2:0<=c2/\c2<=1000) (h3:0<=c3/\c3<=1000) (h4:0<=c4/\c4<=1000) :
  Calls Tryz.prog 240 #[ptr p,.slice (some ⟨g,0,none⟩) 4 4] w (fun e w'=>e=.returned (bN (d.base+c1) v1).val /\
   ah w0 X (ag p (dI d (.slice (some ⟨g,4,none⟩) 3 3) nx)::ag g (oW 3 (c1+d.base) v1 (c2+d.base) v2 (c3+d.base) v3 (c4+d.base) v4)::Cs) w'):=by
 have c0:=hS.cell 0
 have c8:=hS.cell 8
 have f8:=hS.froz 8
 have S1:=hS.sw
 have d0:=S1.cell 0
 have d1:=S1.cell 1
 have d2:=S1.cell 2
 have d3:=S1.cell 3
 have d4:=S1.cell 4
 have d5:=S1.cell 5
 have d8:=S1.cell 8
 have d9:=S1.cell 9
 have d12:=S1.cell 12
 have d13:=S1.cell 13
 have g0:=S1.froz 0
 have g1:=S1.froz 1
 have g4:=S1.froz 4
 have g5:=S1.froz 5
 have g8:=S1.froz 8
 have g9:=S1.froz 9
 have g12:=S1.froz 12
 have g13:=S1.froz 13
 simp only[ju,Ax,gA,gZ,gS]at c0 c8 d0 d1 d2 d3 d4 d5 d8 d9 d12 d13
 have hlt:=af hS.h0
 have hltg:=af S1.h0
 have hne:p≠g:=by
  have:=hS.apart
  simp only[cu,ag,List.flatMap_cons,List.singleton_append,List.nodup_cons,List.mem_cons,not_or]at this
  exact this.1.1
 have HS:=kH hS
 clear hS S1
 unfold ptr at *
 go_enter Tryz.func240,Tryz.ntmps240
 go_wp2_with fail
 refine wp_loop_rounds 5 ?_
 rw[rounds_succ]
 go_wp2_with fail
 go_region
 go_wp2_with fail
 rw[rounds_succ]
 go_wp2_with fail
 go_region
 go_wp2_with fail
 rw[rounds_succ]
 go_wp2_with fail
 go_region
 go_wp2_with fail
 rw[rounds_succ]
 go_wp2_with fail
 go_region
 go_wp2_with fail
 rw[rounds_succ]
 go_wp2_with fail
 have S2:=(((((((HS.out.sw.set 0 (.int .i64 3)).set 1 (.int .i64 (c1+d.base))).set 4 (.int .i64 3)).set 5 (.int .i64 (c2+d.base))).set 8 (.int .i64 3)).set 9 (.int .i64 (c3+d.base))).set 12 (.int .i64 3)).set 13 (.int .i64 (c4+d.base))
 have S3:=(((((((S2.eqO (B:=Ax 3 (c1+d.base) v1 (c2+d.base) v2 (c3+d.base) v3 (c4+d.base) v4) (by simp[Ax])).sw).dset (d':=d) (tv':=.slice (some ⟨g,4,none⟩) 3 3) (nx':=nx) 8 (.slice (some ⟨g,4,none⟩) 3 3) (by simp[ju])).new (sO (bN (c1+d.base) v1))).drew).drew).drew).drew
 refine ah.wBox (bN (c1+d.base) v1) rfl S3 (by simp) rfl rfl fun h=>⟨by rw[Int.add_comm],h⟩
end
section
variable {w0:World}{X:List Nat}{Cs:List aw}{w:World}{p:Nat}{d:eC}{tv nx:Value}
inductive iF
 | begin
 | len1
 | state
 | key
 | val1
 | fine
 | counts
 | count1
 | lost1
 | done (x:ax)
def iF.fn:iF->Nat
 | .begin=>153
 | .len1=>184
 | .state=>227
 | .key=>241
 | .val1=>247
 | .fine=>239
 | .counts=>248
 | .count1=>251
 | .lost1=>238
 | .done _=>0
structure fW where
 d:eC
 todo:List ax
 ph:iF
def iB(d:eC)(v c:Int):ax×fW:=(⟨6,0,v,c⟩,⟨d,[],.done ⟨6,0,v,c⟩⟩)
def getD(d:eC)(c:Int)(ph:iF):ax×fW:=(bV (d.base+c),⟨d,[],ph⟩)
def ik(d:eC):ax×fW:=if d.call=3 then getD d 0 .lost1 else iB d 0 1
def gz(d:eC):ax×fW:=if d.seen=d.most then ik d else getD d (1+3*d.slot) .state
def kG(d:eC):ax×fW:=gz {d with seen:=d.seen+1,slot:=(d.slot+1)%d.most}
def ui(tv:Value)(l:List ax)(As:List aw):Prop :=
 (l=[]/\As=[]/\∃ a cap,tv=.slice a 0 cap)\/∃ g c1 v1 c2 v2 c3 v3 c4 v4,As=[ag g (oW 3 c1 v1 c2 v2 c3 v3 c4 v4)] /\
  ((l=[bN c2 v2,bN c3 v3,bN c4 v4]/\tv=.slice (some ⟨g,4,none⟩) 3 3)\/(l=[bN c3 v3,bN c4 v4]/\tv=.slice (some ⟨g,8,none⟩) 2 2)\/(l=[bN c4 v4]/\tv=.slice (some ⟨g,12,none⟩) 1 1))
def kS(tv:Value):Prop:=∃ a cap,tv=.slice a 0 cap
theorem kS.todo(h:kS tv):ui tv [] []:=.inl ⟨rfl,rfl,h⟩
def yT(nx:Value)(ph:iF)(Bs:List aw):Prop :=
 (∃ x c,ph=.done x/\nx=.func (.func 224) #[] #[ptr c]/\Bs=[ag c (sO x)])\/((∀ x,ph≠.done x)/\nx=lR ph.fn/\Bs=[])
def rB(w0:World)(X:List Nat)(Cs:List aw)(p:Nat)(m:fW)(w':World):Prop :=
 ∃ tv nx As Bs,ui tv m.todo As/\yT nx m.ph Bs/\ah w0 X (ag p (dI m.d tv nx)::(As++(Bs++Cs))) w'
def cA(w0:World)(X:List Nat)(Cs:List aw)(p:Nat)(r:ax×fW)(e:Ending)(w':World):Prop:=e=.returned r.1.val/\rB w0 X Cs p r.2 w'
theorem rB.pull{m:fW}{c:aw}{w':World}(h:rB w0 X (c::Cs) p m w'):∃ tv nx As Bs,ui tv m.todo As/\yT nx m.ph Bs/\ah w0 X (c::ag p (dI m.d tv nx)::(As++(Bs++Cs))) w':=by
 obtain⟨tv,nx,As,Bs,h1,h2,hS⟩:=h
 refine⟨tv,nx,As,Bs,h1,h2,?_⟩
 have h3:ah w0 X ((ag p (dI m.d tv nx)::(As++Bs))++c::Cs) w':=by simpa using hS
 have h4:=h3.pull (ag p (dI m.d tv nx)::(As++Bs))
 simpa using h4
theorem rB.box{m:fW}{g:Nat}{a b c e:Value}{t:TypeId}{w':World}(h:rB w0 X (ag g (.cells #[a,b,c,e] t (0,0))::Cs) p m w') :
  (w'.cell? ⟨g,0,none⟩=some a/\w'.cell? ⟨g,1,none⟩=some b/\w'.cell? ⟨g,2,none⟩=some c/\w'.cell? ⟨g,3,none⟩=some e) /\
  (w'.frozen? ⟨g,0,none⟩=false/\w'.frozen? ⟨g,1,none⟩=false/\w'.frozen? ⟨g,2,none⟩=false/\w'.frozen? ⟨g,3,none⟩=false):=by
 obtain⟨_,_,_,_,_,_,hS⟩:=h.pull
 exact hS.ansBox
theorem cA.ret{a0 b0 c0 d0:Value}{f:Func}{W:World}{act:Act}{q:Tmp}{g:Nat}(r:ax×fW)(hres:f.results=#[.cell q 109])
  (h:rB w0 X (ag g (.cells #[a0,b0,c0,d0] 109 (0,0))::Cs) p r.2 W) (hg:act.tmps.getD q undef=.pointer (some ⟨g,0,none⟩)) (hd:act.defers=[]) :
  bodyPost Tryz.prog f (cA w0 X Cs p r) .ret act ((((W.setCell ⟨g,0,none⟩ (.int .i64 r.1.kind)).setCell ⟨g,1,none⟩ (.int .i64 r.1.cell)).setCell ⟨g,2,none⟩ (.int .i64 r.1.value)).setCell ⟨g,3,none⟩ (.int .i64 r.1.code)):=by
 obtain⟨tv,nx,As,Bs,h1,h2,hS⟩:=h.pull
 exact ah.wRet r.1 hres hS hg hd fun W' h3=>⟨rfl,tv,nx,As,Bs,h1,h2,h3⟩
theorem ir(hS:ah w0 X (ag p (dI d tv nx)::Cs) w)(ht:kS tv)(v c:Int):Calls Tryz.prog 185 #[ptr p,.int .i64 v,.int .i64 c] w (cA w0 X Cs p (iB d v c)) :=
 (ww hS v c).mono fun _ _ ⟨h1,g,h2⟩=>⟨h1,tv,_,[],_,ht.todo,.inl ⟨_,g,rfl,rfl,rfl⟩,h2⟩
theorem gi(hS:ah w0 X (ag p (dI d tv nx)::Cs) w)(hok:dO d)(ht:kS tv)(c:Int)(hc:0<=c/\c<=1000)(ph:iF)(hp:∀ x,ph≠.done x) :
  Calls Tryz.prog 183 #[ptr p,.int .i64 c,lR ph.fn] w (cA w0 X Cs p (getD d c ph)) :=
 (wl hS hok.base c hc ph.fn).mono fun _ _ ⟨h1,h2⟩=>⟨h1,tv,_,[],[],ht.todo,.inr ⟨hp,rfl,rfl⟩,h2⟩
theorem kI(hS:ah w0 X (ag p (dI d tv nx)::Cs) w)(hok:dO d)(ht:kS tv):Calls Tryz.prog 225 #[ptr p] w (cA w0 X Cs p (ik d)):=by
 have c2:=hS.cell 2
 simp only[ju,gA,gZ,gS]at c2
 have hlt:=af hS.h0
 have S1:=(hS.new s0).sw
 clear hS
 by_cases h3:d.call=3
 ·have HC:=kH (gi S1 hok ht 0 (by omega) .lost1 (by simp))
  have e:ik d=getD d 0 .lost1:=if_pos h3
  rw[e]
  rw[h3]at c2
  clear S1 h3 e
  unfold ptr lR iF.fn s0 at *
  simp only at HC
  go_enter Tryz.func225,Tryz.ntmps225
  go_wp2_with fail
  refine HC.out.mono ?_
  rintro e w1 ⟨rfl,hA⟩
  obtain⟨⟨a0,a1,a2,a3⟩,⟨g0,g1,g2,g3⟩⟩:=hA.box
  have HA:=kH hA
  clear hA
  generalize getD d 0 .lost1=r at *
  unfold ax.val
  go_wp2
  exact cA.ret r rfl HA.out rfl rfl
 ·have HC:=kH (ir S1 ht 0 1)
  have e:ik d=iB d 0 1:=if_neg h3
  rw[e]
  have h3':(d.call != 3)=true:=by simpa using h3
  clear S1 h3 e
  unfold ptr s0 at *
  go_enter Tryz.func225,Tryz.ntmps225
  go_wp2_with fail
  refine HC.out.mono ?_
  rintro e w1 ⟨rfl,hA⟩
  obtain⟨⟨a0,a1,a2,a3⟩,⟨g0,g1,g2,g3⟩⟩:=hA.box
  have HA:=kH hA
  clear hA
  generalize iB d 0 1=r at *
  unfold ax.val
  go_wp2
  exact cA.ret r rfl HA.out rfl rfl
end
section
variable {w0:World}{X:List Nat}{Cs:List aw}{w:World}{p:Nat}{d:eC}{tv nx:Value}
theorem j9(hS:ah w0 X (ag p (dI d tv nx)::Cs) w):p<w.heap.size /\
  (w.cell? ⟨p,0,none⟩=some (.int .i64 d.base)/\w.cell? ⟨p,1,none⟩=some (.int .i64 d.most)/\w.cell? ⟨p,2,none⟩=some (.int .i64 d.call)/\w.cell? ⟨p,3,none⟩=some (.int .i64 d.k)/\w.cell? ⟨p,4,none⟩=some (.int .i64 d.v)) /\
  (w.cell? ⟨p,5,none⟩=some (.int .i64 d.slot)/\w.cell? ⟨p,6,none⟩=some (.int .i64 d.seen)/\w.cell? ⟨p,7,none⟩=some (.int .i64 d.free)/\w.cell? ⟨p,8,none⟩=some tv/\w.cell? ⟨p,9,none⟩=some nx) /\
  (w.frozen? ⟨p,5,none⟩=false/\w.frozen? ⟨p,6,none⟩=false/\w.frozen? ⟨p,7,none⟩=false/\w.frozen? ⟨p,8,none⟩=false/\w.frozen? ⟨p,9,none⟩=false):=by
 have h:=fun j=>hS.cell j
 have f:=fun j=>hS.froz j
 refine⟨af hS.h0,⟨?_,?_,?_,?_,?_⟩,⟨?_,?_,?_,?_,?_⟩,f 5,f 6,f 7,f 8,f 9⟩
 ·exact h 0
 ·exact h 1
 ·exact h 2
 ·exact h 3
 ·exact h 4
 ·exact h 5
 ·exact h 6
 ·exact h 7
 ·exact h 8
 ·exact h 9
theorem ny(hS:ah w0 X (ag p (dI d tv nx)::Cs) w)(hok:dO d)(ht:kS tv):Calls Tryz.prog 186 #[ptr p] w (cA w0 X Cs p (gz d)):=by
 obtain⟨hlt,⟨c0,c1,c2,c3,c4⟩,⟨c5,c6,c7,c8,c9⟩,⟨f5,f6,f7,f8,f9⟩⟩:=j9 hS
 have HD:=kH hok
 have HTL:=kH ht
 have S1:=fun n=>((hS.new s0).sw).drewN n
 have HAT:=kH (fun W=>lE d.slot (by have:=hok.slot;have:=hok.most;omega) W)
 by_cases h3:d.seen=d.most
 ·have HC':=kH (fun n=>kI (S1 n) hok ht)
  have e:gz d=ik d:=if_pos h3
  rw[e]
  clear S1 e hS hok ht
  have HE:=kH h3
  rw[h3]at c6
  clear h3
  unfold ptr s0 at *
  go_enter Tryz.func186,Tryz.ntmps186
  go_wp2_with fail
  go_quiet(fail)
  go_wp2_with fail
  have HC:=kH (HC'.out nq)
  refine HC.out.mono ?_
  rintro e w1 ⟨rfl,hA⟩
  obtain⟨⟨a0,a1,a2,a3⟩,⟨g0,g1,g2,g3⟩⟩:=hA.box
  have HA:=kH hA
  clear hA
  generalize ik d=r at *
  unfold ax.val
  go_wp2
  exact cA.ret r rfl HA.out rfl rfl
 ·have hok':=hok.slot
  have hm':=hok.most
  have HC':=kH (fun n=>gi (S1 n) hok ht (1+3*d.slot) (by omega) .state (by simp))
  have e:gz d=getD d (1+3*d.slot) .state:=if_neg h3
  rw[e]
  have h3':(d.seen == d.most)=false:=by simpa using h3
  clear S1 e hS hok ht h3
  unfold ptr s0 lR iF.fn at *
  simp only at HC'
  go_enter Tryz.func186,Tryz.ntmps186
  go_wp2_with fail
  go_quiet(fail)
  go_wp2_with(go_at_call 226;refine(HAT.out _).mono ?_;rintro e' w' ⟨rfl,rfl⟩)
  have HC:=kH (HC'.out nq)
  refine HC.out.mono ?_
  rintro e w1 ⟨rfl,hA⟩
  obtain⟨⟨a0,a1,a2,a3⟩,⟨g0,g1,g2,g3⟩⟩:=hA.box
  have HA:=kH hA
  clear hA
  generalize getD d (1+3*d.slot) .state=r at *
  unfold ax.val
  go_wp2
  exact cA.ret r rfl HA.out rfl rfl
theorem kJ(hS:ah w0 X (ag p (dI d tv nx)::Cs) w)(hok:dO d)(ht:kS tv)(hl:d.seen<d.most):Calls Tryz.prog 242 #[ptr p] w (cA w0 X Cs p (kG d)):=by
 obtain⟨hlt,⟨c0,c1,c2,c3,c4⟩,⟨c5,c6,c7,c8,c9⟩,⟨f5,f6,f7,f8,f9⟩⟩:=j9 hS
 have HD:=kH hok
 have HTL:=kH ht
 obtain⟨⟨s0',s1'⟩,⟨n0,n1⟩⟩:=And.intro hok.slot hok.seen
 have hm:=hok.most
 have hok':dO {d with seen:=d.seen+1,slot:=(d.slot+1)%d.most} :=
  ⟨hok.base,hok.most,hok.k,hok.v,⟨Int.emod_nonneg _ (by omega),.inl (Int.emod_lt_of_pos _ (by omega))⟩,⟨by show 0<=d.seen+1;omega,by show d.seen+1<=d.most;omega⟩,hok.free⟩
 have S1:ah w0 X (ag p (dI {d with seen:=d.seen+1,slot:=(d.slot+1)%d.most} tv nx)::ag w.heap.size s0::Cs) ((((w.setCell ⟨p,6,none⟩ (.int .i64 (d.seen+1))).setCell ⟨p,5,none⟩ (.int .i64 ((d.slot+1)%d.most))).alloc s0).drew):=by
  have h:=(((hS.dset (d':={d with seen:=d.seen+1}) (tv':=tv) (nx':=nx) 6 (.int .i64 (d.seen+1)) (by simp[ju])).dset (d':={d with seen:=d.seen+1,slot:=(d.slot+1)%d.most}) (tv':=tv) (nx':=nx) 5 (.int .i64 ((d.slot+1)%d.most)) (by simp[ju])).new s0).sw
  rw[show((w.setCell ⟨p,6,none⟩ (.int .i64 (d.seen+1))).setCell ⟨p,5,none⟩ (.int .i64 ((d.slot+1)%d.most))).heap.size=w.heap.size by simp]at h
  exact h.drew
 have HC:=kH (ny S1 hok' ht)
 have e1:wrap64 (d.seen+1)=d.seen+1:=by unfold wrap64;omega
 have e2:(d.slot+1).tmod d.most=(d.slot+1)%d.most:=Int.tmod_eq_emod_of_nonneg (by omega)
 have e3:wrap64 ((d.slot+1)%d.most)=(d.slot+1)%d.most:=by
  have h1:=Int.emod_nonneg (d.slot+1) (show d.most≠0 by omega)
  have h2:=Int.emod_lt_of_pos (d.slot+1) (show 0<d.most by omega)
  unfold wrap64
  omega
 have e4:(d.most == 0)=false:=by simp;omega
 have HE:=kH (And.intro e1 (And.intro e2 (And.intro e3 e4)))
 unfold kG
 clear S1 hS hok ht e1 e2 e3
 unfold ptr s0 at *
 go_enter Tryz.func242,Tryz.ntmps242
 go_wp2_with fail
 go_region
 go_wp2_with fail
 refine HC.out.mono ?_
 rintro e w1 ⟨rfl,hA⟩
 obtain⟨⟨a0,a1,a2,a3⟩,⟨g0,g1,g2,g3⟩⟩:=hA.box
 have HA:=kH hA
 clear hA
 generalize gz {d with seen:=d.seen+1,slot:=(d.slot+1)%d.most}=r at *
 unfold ax.val
 go_wp2
 exact cA.ret r rfl HA.out rfl rfl
def io(d:eC):eC:=if d.free<0 then {d with free:=d.slot} else d
def fw(d:eC)(v:Int):ax×fW:=if v=1 then getD d (1+3*d.slot+1) .key else if v=0 then ik (io d)else kG (io d)
theorem lu(h:dO d)(hl:d.seen<d.most):dO (io d):=by
 unfold io
 split
 ·have:=h.slot
  have:=h.seen
  exact⟨h.base,h.most,h.k,h.v,h.slot,h.seen,.inr ⟨h.slot.1,by show d.slot<d.most;omega⟩⟩
 ·exact h
theorem tY(hS:ah w0 X (ag p (dI d tv nx)::Cs) w)(hok:dO d)(ht:kS tv)(hl:d.seen<d.most)(v:Int):Calls Tryz.prog 227 #[ptr p,.int .i64 v] w (cA w0 X Cs p (fw d v)):=by
 obtain⟨hlt,⟨c0,c1,c2,c3,c4⟩,⟨c5,c6,c7,c8,c9⟩,⟨f5,f6,f7,f8,f9⟩⟩:=j9 hS
 have HD:=kH hok
 have HTL:=kH ht
 have HAT:=kH (fun W=>lE d.slot (by have:=hok.slot;have:=hok.most;omega) W)
 have hok':=hok.slot
 have hm':=hok.most
 have S1:=(hS.new s0).sw
 by_cases h1:v=1
 ·subst h1
  have e:fw d 1=getD d (1+3*d.slot+1) .key:=rfl
  rw[e]
  clear e
  have HC:=kH (gi S1 hok ht (1+3*d.slot+1) (by omega) .key (by simp))
  clear S1 hS hok ht
  unfold ptr s0 lR iF.fn at *
  simp only at HC
  go_enter Tryz.func227,Tryz.ntmps227
  go_wp2_with(go_at_call 226;refine(HAT.out _).mono ?_;rintro e' w' ⟨rfl,rfl⟩)
  refine HC.out.mono ?_
  rintro e w1 ⟨rfl,hA⟩
  obtain⟨⟨a0,a1,a2,a3⟩,⟨g0,g1,g2,g3⟩⟩:=hA.box
  have HA:=kH hA
  clear hA
  generalize getD d (1+3*d.slot+1) .key=r at *
  unfold ax.val
  go_wp2
  exact cA.ret r rfl HA.out rfl rfl
 ·by_cases hf:d.free<0
  ·by_cases h0:v=0
   ·subst h0
    have e:fw d 0=ik {d with free:=d.slot}:=by simp[fw,io,hf]
    rw[e]
    clear e h1
    have hok2:dO {d with free:=d.slot}:=by have h:=lu hok hl;rwa [show io d = {d with free:=d.slot} from if_pos hf]at h
    have S2:ah w0 X (ag p (dI {d with free:=d.slot} tv nx)::ag w.heap.size s0::Cs) ((w.setCell ⟨p,7,none⟩ (.int .i64 d.slot)).alloc s0):=by
     have h:=((hS.dset (d':={d with free:=d.slot}) (tv':=tv) (nx':=nx) 7 (.int .i64 d.slot) (by simp[ju])).new s0).sw
     rw[show(w.setCell ⟨p,7,none⟩ (.int .i64 d.slot)).heap.size=w.heap.size by simp]at h
     exact h
    have HC:=kH (kI S2 hok2 ht)
    clear S1 hS hok ht hl S2 hok2
    unfold ptr s0 at *
    go_enter Tryz.func227,Tryz.ntmps227
    go_wp2_with fail
    refine HC.out.mono ?_
    rintro e w1 ⟨rfl,hA⟩
    obtain⟨⟨a0,a1,a2,a3⟩,⟨g0,g1,g2,g3⟩⟩:=hA.box
    have HA:=kH hA
    clear hA
    generalize ik ({d with free:=d.slot})=r at *
    unfold ax.val
    go_wp2
    exact cA.ret r rfl HA.out rfl rfl
   ·have e:fw d v=kG {d with free:=d.slot}:=by simp[fw,io,hf,h0,h1]
    rw[e]
    have h1':(v == 1)=false:=by simpa using h1
    have h0':(v == 0)=false:=by simpa using h0
    clear e
    have hok2:dO {d with free:=d.slot}:=by have h:=lu hok hl;rwa [show io d = {d with free:=d.slot} from if_pos hf]at h
    have S2:ah w0 X (ag p (dI {d with free:=d.slot} tv nx)::ag w.heap.size s0::Cs) ((w.setCell ⟨p,7,none⟩ (.int .i64 d.slot)).alloc s0):=by
     have h:=((hS.dset (d':={d with free:=d.slot}) (tv':=tv) (nx':=nx) 7 (.int .i64 d.slot) (by simp[ju])).new s0).sw
     rw[show(w.setCell ⟨p,7,none⟩ (.int .i64 d.slot)).heap.size=w.heap.size by simp]at h
     exact h
    have HC:=kH (kJ S2 hok2 ht hl)
    clear S1 hS hok ht hl S2 hok2
    unfold ptr s0 at *
    go_enter Tryz.func227,Tryz.ntmps227
    go_wp2_with fail
    refine HC.out.mono ?_
    rintro e w1 ⟨rfl,hA⟩
    obtain⟨⟨a0,a1,a2,a3⟩,⟨g0,g1,g2,g3⟩⟩:=hA.box
    have HA:=kH hA
    clear hA
    generalize kG ({d with free:=d.slot})=r at *
    unfold ax.val
    go_wp2
    exact cA.ret r rfl HA.out rfl rfl
  ·by_cases h0:v=0
   ·subst h0
    have e:fw d 0=ik d:=by simp[fw,io,hf]
    rw[e]
    clear e h1
    have HC:=kH (kI S1 hok ht)
    clear S1 hS hok ht hl
    unfold ptr s0 at *
    go_enter Tryz.func227,Tryz.ntmps227
    go_wp2_with fail
    refine HC.out.mono ?_
    rintro e w1 ⟨rfl,hA⟩
    obtain⟨⟨a0,a1,a2,a3⟩,⟨g0,g1,g2,g3⟩⟩:=hA.box
    have HA:=kH hA
    clear hA
    generalize ik (d)=r at *
    unfold ax.val
    go_wp2
    exact cA.ret r rfl HA.out rfl rfl
   ·have e:fw d v=kG d:=by simp[fw,io,hf,h0,h1]
    rw[e]
    have h1':(v == 1)=false:=by simpa using h1
    have h0':(v == 0)=false:=by simpa using h0
    clear e
    have HC:=kH (kJ S1 hok ht hl)
    clear S1 hS hok ht hl
    unfold ptr s0 at *
    go_enter Tryz.func227,Tryz.ntmps227
    go_wp2_with fail
    refine HC.out.mono ?_
    rintro e w1 ⟨rfl,hA⟩
    obtain⟨⟨a0,a1,a2,a3⟩,⟨g0,g1,g2,g3⟩⟩:=hA.box
    have HA:=kH hA
    clear hA
    generalize kG (d)=r at *
    unfold ax.val
    go_wp2
    exact cA.ret r rfl HA.out rfl rfl
end
end Go.Proofs.YtgfogfciobmmpaaGreatDoor
