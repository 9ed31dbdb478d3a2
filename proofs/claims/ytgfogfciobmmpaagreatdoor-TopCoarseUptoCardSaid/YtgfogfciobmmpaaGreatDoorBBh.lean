/- A part of the proof of a law of carouseltop: StpI StpA Sch0. -/
import Derived.Test.YtgfogfciobmmpaaGreatDoorBBe
import Derived.Test.YtgfogfciobmmpaaGreatDoorBBf
import Derived.Test.YtgfogfciobmmpaaGreatDoorBBg
set_option linter.unusedSimpArgs false
set_option linter.unusedVariables false
set_option maxRecDepth 100000
set_option maxHeartbeats 8000000
namespace Go.Proofs.YtgfogfciobmmpaaGreatDoor
open Go.RowKit
section
variable {w0:World}{X:List Nat}{Cs:List aw}{w:World}{x p L:Nat}{k:cl}{f:PF}{st cs ts:List Int}{t:bZ}{F F2:List Nat}{old:List bM}{m:au}{rv:Value}{hi:Int}
theorem oF(hS:ah w0 X (jC x k f st cs ts old t F (aG p m L F2::cx f.rv k.regs::Cs)) w)(hok:bX st cs ts)(hI:jX k hi f m t)(ht:Cod.Tabled w0)(hX:0∉X)(hn:t.told.length<=1073740000)(ho:old.length+t.told.length<=1073740000)(hL:L<=1073740000)(th:Int) :
  Calls Tryz.prog 45 #[ptr x,ptr p,.int .i64 th] w (cC w0 X (cx f.rv k.regs::Cs) x p L k f.rv old t m hi):=by
 by_cases hin:0<=f.at_/\f.at_<k.code.size
 ·by_cases he:(Cod.atS k.code.data.toList f.at_).err=0
  ·obtain⟨c,n,hA,hop⟩:=sU he
   have hc:(Cod.atS k.code.data.toList f.at_).code=c:=by rw[hA]
   have h40:=hop.code
   by_cases h1:32<c
   ·exact BP hS hok hI ht hX hn ho hL th hin he (by rw[hc];omega)
   ·by_cases h2:c=0\/c=30
    ·exact D4 hS hok hI ht hX hn ho hL th hin he (by rw[hc];omega)
    ·by_cases h3:c=31
     ·exact BO hS hok hI ht hX hn ho hL th hin he (by rw[hc];omega)
     ·by_cases h4:c=32
      ·exact y8 hS hok hI ht hX hn ho hL th hin he (by rw[hc];omega)
      ·exact D5 hS hok hI ht hX hn ho hL th hin he (by rw[hc];omega)
  ·exact D6 hS hok hI ht hX hn ho hL th hin he
 ·exact D3 hS hok hI ht hX hn ho hL th (by omega)
def s6(w0:World)(X:List Nat)(Cs:List aw)(x p L:Nat)(k:cl)(rv:Value)(old:List bM)(t:bZ)(m:au)(hi:Int)(e:Ending)(w':World):Prop :=
 ∃ a new m' nx F2 L',L'<=L+70/\e=.returned a.val/\(∀ fin,gx k.c m ⟨t,true,fin,old⟩ a new m' nx)/\aZ w0 X (aG p m' L' F2::Cs) x k rv hi (old++(t.told++new)) nx w'
theorem cC.sub1{b g:aw}{e:Ending}{w':World}(h:cC w0 X (b::g::Cs) x p L k rv old t m hi e w'):cC w0 X (g::b::Cs) x p L k rv old t m hi e w':=by
 obtain⟨a,new,m',nx,F2,L',h1,h2,h3,h4⟩:=h
 exact⟨a,new,m',nx,F2,L',h1,h2,h3,h4.sub fun Ps W h=>h.perm (List.Perm.append_left Ps (List.Perm.cons _ (List.Perm.swap _ _ _)))⟩
theorem cC.blk2{b:aw}{g:Nat}{o:Obj}{e:Ending}{w':World}(h:cC w0 X (b::ag g o::Cs) x p L k rv old t m hi e w'):∃ a:aM,e=.returned a.val/\w'.heap[g]?=some o:=by
 obtain⟨a,new,m',nx,F2,L',h1,h2,h3,h4⟩:=h.sub1
 exact⟨a,h2,h4.blk⟩
theorem cC.ret2{b:aw}{g L0:Nat}{W:World}{a0 b0 c0 d0:Value}{fn:Func}{act:Act}{q:Tmp}(hL:L<=L0+1)(an:aM)(hres:fn.results=#[.cell q 35])
  (h:cC w0 X (b::ag g (.cells #[a0,b0,c0,d0] 35 (0,0))::Cs) x p L k rv old t m hi (.returned an.val) W) (hg:act.tmps.getD q undef=.pointer (some ⟨g,0,none⟩)) (hd:act.defers=[]) :
  bodyPost Tryz.prog fn (s6 w0 X (b::Cs) x p L0 k rv old t m hi) .ret act ((((W.setCell ⟨g,0,none⟩ (.int .i64 an.kind)).setCell ⟨g,1,none⟩ (.int .i64 an.err)).setCell ⟨g,2,none⟩ (.int .i64 an.value)).setCell ⟨g,3,none⟩ (.bool an.access)):=by
 obtain⟨a,new,m',nx,F2,L',h1,h2,h3,h4⟩:=h.sub1
 injection h2 with h2
 obtain rfl:=zj h2
 exact aZ.ret an hres h4 hg hd fun W' hj=>⟨an,new,m',nx,F2,L',by omega,rfl,h3,hj⟩
theorem BD(hS:ah w0 X (jC x k f st cs ts old t F (aG p m L F2::cx f.rv k.regs::Cs)) w)(hok:bX st cs ts)(hg:jX k hi f m t)(ht:Cod.Tabled w0)(hX:0∉X)
  (hkc:k.cells<=m.cells.length) (hkr:m.ring=k.c.ring) (hn:t.told.length<=1073730000) (ho:old.length+t.told.length<=1073730000) (hL:L<=1073730000) (th:Int) :
  Calls Tryz.prog 19 #[ptr x,ptr p,.int .i64 th] w (s6 w0 X (cx f.rv k.regs::Cs) x p L k f.rv old t m hi):=by
 have S1:ah w0 X (jC x k f st cs ts old t F (aG p m L F2::ag w.heap.size aB::cx f.rv k.regs::Cs)) (w.alloc aB):=(hS.new aB).push [_,_,_,_,_,_,_,_]
 have hmem:aY m:=(S1.turn [_,_,_,_,_,_,_] [_]).h0.ok
 have hts:aP m t=(db,t,m):=by unfold aP;rw[hg.way]
 have HHS:=kH (fun(W:World) (S:ah w0 X (jC x k f st cs ts old t F (aG p m L F2::ag w.heap.size aB::cx f.rv k.regs::Cs)) W)=>uj hg.kok.cfg (S.turn [_,_,_,_,_,_] [_,_]) hg.tx th (by omega) (by omega))
 have c1:=S1.cell 1
 have c7:=S1.cell 7
 have c23:=S1.cell 23
 simp only[aH,gA,gZ,gS,hg.over]at c1 c7 c23
 have hlt:=af S1.h0
 have HSZ:=kH (pS (S1.pull [_,_,_,_,_,_,_]))
 have hkc2:¬(m.cells.length:Int)<k.cells:=by omega
 have hkr2:(m.ring != k.c.ring)=false:=by simp[hkr]
 have HX:=kH (And.intro hok hg)
 have hb:=hg.begun
 have ha:=hg.ask
 clear hS S1 hok hg hkc hkr hmem
 rw[hts]at HHS
 clear hts
 generalize hmc:(m.cells.length:Int)=mc at hkc2 HSZ
 clear hmc
 unfold aB ptr at *
 go_enter Tryz.func19,Tryz.ntmps19
 go_wp2_with fail
 refine HSZ.out.mono ?_
 rintro e1 w1 ⟨rfl,S2⟩
 have S3:=S2.push [_,_,_,_,_,_,_]
 have HT:=kH (HHS.out w1 S3)
 have d1:=S3.cell 1
 have d7:=S3.cell 7
 have d12:=S3.cell 12
 have d13:=S3.cell 13
 simp only[aH,gA,gZ,gS,hb]at d1 d7 d12 d13
 unfold ptr at d12
 have hlt1:=af S3.h0
 clear S2 S3 c1 c7 c23 HSZ
 go_wp2_with fail
 refine HT.out.mono ?_
 rintro e2 w2 ⟨rfl,F3,F4,L',hL',S4⟩
 have S6:ah w0 X (jC x k f st cs ts old t F3 (aG p m L' F4::cx f.rv k.regs::ag w.heap.size aB::Cs)) (w2.alloc (aS db)):=((((((((((S4.alloc (aS db)).pull [_,_,_,_,_,_,_,_,_]).pull [_,_]).pull [_,_]).pull [_,_,_,_,_,_,_,_]).pull [_,_,_,_,_,_,_,_]).pull [_,_,_,_,_,_,_,_]).pull [_,_,_,_,_,_,_,_]).pull [_,_,_,_,_,_,_,_]).pull [_,_,_,_,_,_,_,_])
 have HGO:=kH (oF S6 HX.out.1 HX.out.2 ht hX (by omega) (by omega) (by omega) th)
 have d20:=(S4.pull [_,_]).cell 20
 simp only[aH,gA,gZ,gS,ha]at d20
 have hlt2:=af (S4.pull [_,_]).h0
 clear S4 S6 HT d1 d7 d12 d13 hb ha
 unfold aM.val db aS ptr at *
 simp only at HGO d20 hlt2 ⊢
 go_wp2_with fail
 refine HGO.out.mono ?_
 rintro e3 w3 hgp
 obtain⟨an,rfl,hbox⟩:=hgp.blk2
 obtain⟨⟨a0,a1,a2,a3⟩,⟨g0,g1,g2,g3⟩⟩:=cw hbox
 unfold aM.val
 have HGP:=kH hgp
 clear hgp hbox HGO
 go_wp2
 exact cC.ret2 (L:=L') hL' an rfl HGP.out rfl rfl
end
section
variable {w0:World}{X:List Nat}{Cs:List aw}{w:World}{x p L:Nat}{k:cl}{f:PF}{st cs ts:List Int}{t:bZ}{F F2:List Nat}{old:List bM}{m:au}{rv:Value}{hi:Int}
def aA(w0:World)(X:List Nat)(Cs:List aw)(x p L:Nat)(k:cl)(rv:Value)(hi:Int)(j:dY)(m:au)(e:Ending)(w':World):Prop :=
 ∃ a new m' nx F2 L',L'<=L+100/\e=.returned a.val/\gx k.c m j a new m' nx/\aZ w0 X (aG p m' L' F2::Cs) x k rv hi (j.told++new) nx w'
theorem cU.swap{a b:aw}{c:eb}{nx:cM}{w':World}(h:cU w0 X (a::b::Cs) x k f c old t nx w'):cU w0 X (b::a::Cs) x k f c old t nx w':=by
 cases nx with
 | on j =>
  obtain⟨f',st,cs,ts,F',h1,h2,hS⟩:=h
  exact⟨f',st,cs,ts,F',h1,h2,hS.perm (List.Perm.append_left [_,_,_,_,_,_,_] (List.Perm.swap b a Cs))⟩
 | over =>
  obtain⟨f',st,cs,ts,F',h1,hS⟩:=h
  exact⟨f',st,cs,ts,F',h1,hS.perm (List.Perm.append_left [_,_,_,_,_,_,_] (List.Perm.swap b a Cs))⟩
theorem lJ{j:dY}{told:List bM}(hJ:aZ w0 X (aG p m L F2::cx rv k.regs::Cs) x k rv hi told (.on j) w)(hj:ix k.c j m)(hk:KOk k hi)(ht:Cod.Tabled w0)(hX:0∉X)(hkc:k.cells<=m.cells.length)(hhi:hi<=m.cells.length/\hi<=1024)
  (hn:j.told.length<=1073700000) (hL:L<=1073700000) (th:Int) :
  Calls Tryz.prog 19 #[ptr x,ptr p,.int .i64 th] w (aA w0 X (cx rv k.regs::Cs) x p L k rv hi j m):=by
 obtain⟨f,st,cs,ts,F,hpf,rfl,hor⟩:=hJ
 obtain⟨jt,jb,jf,jo⟩:=j
 have hnl:jo.length+jt.told.length<=1073700000:=by simpa[dY.told]using hn
 have htw:=hj.tx.way
 cases jb with
 | false =>
  have ha:=hpf.fresh rfl
  rcases hor with⟨-,hS⟩|⟨K,pa,am,FA,ha2,-⟩
  ·obtain⟨hw,hp⟩:=hj.fresh rfl
   simp only at hw hp
   have hmem:aY m:=(ah.turn [_,_,_,_,_,_,_] [_] hS).h0.ok
   have hfit:cz m jt ⟨1,0,0,0⟩=true:=by
    unfold cz
    simp[hp,hj.tx.mring.trans hj.tx.cfg.1.symm]
   refine(yX hS hpf.ok hpf.begun hpf.word hpf.nth hk.tries hpf.over hk.cfg hj.tx hw hfit hkc hj.tx.mring (by show jt.told.length<=_;omega) (by show jo.length+jt.told.length<=_;omega) (by omega) th).mono ?_
   rintro e w' ⟨nx,F3,L',hL',rfl,hcome,hjob⟩
   obtain⟨new,d1,d2,d3,d4⟩:=oR hk.cfg hmem hj.tx hw hfit aK
   refine⟨_,new,_,nx,F3,L',by omega,rfl,.begin rfl rfl d2 hcome,?_⟩
   have h:=mv (rv:=f.rv) (hi:=hi) hjob ha rfl
   rw[d2,<-List.append_assoc]at h
   exact h
  ·rw[ha]at ha2
   cases ha2
 | true =>
  by_cases hw:jt.way=.no
  ·have hp:jt.phase=2:=by
    unfold kc at htw
    simp only[hw]at htw
    have:=hj.runs rfl
    simp only at this
    omega
   rcases hor with⟨ha,hS⟩|⟨K,pa,am,FA,ha,hg,hst,hcm,hS⟩
   ·refine(BD hS hpf.ok ⟨hk,hw,hp,hj.tx,hpf.begun,(hpf.came rfl).2,ha,hpf.word,hpf.nth,hpf.over,hhi⟩ ht hX hkc hj.tx.mring (by show jt.told.length<=_;omega) (by show jo.length+jt.told.length<=_;omega) (by omega) th).mono ?_
    rintro e w' ⟨a,new,m',nx,F3,L',h1,rfl,h3,h4⟩
    refine⟨a,new,m',nx,F3,L',by omega,rfl,h3 jf,?_⟩
    rw[<-List.append_assoc]at h4
    exact h4
   ·refine(BE hS hpf.ok hst ⟨hg,iR.refl _,hw,hp,hj.tx,rfl,hpf.begun,(hpf.came rfl).2,ha,hpf.word,hpf.nth,hpf.over,rfl⟩ hk.tries hk.cfg hkc hj.tx.mring hhi.1 (by show jt.told.length<=_;omega) (by show jo.length+jt.told.length<=_;omega) (by omega) th).mono ?_
    rintro e w' ⟨a,new,m',nx,F3,L',h1,rfl,h3,h4⟩
    refine⟨a,new,m',nx,F3,L',by omega,rfl,h3 jf,?_⟩
    rw[<-List.append_assoc]at h4
    exact h4
  ·obtain⟨hfin,hcn⟩:=hpf.came rfl
   simp only at hfin
   rcases hor with⟨ha,hS⟩|⟨K,pa,am,FA,ha,hg,hst,hcm,hS⟩
   ·have hmem:aY m:=(ah.turn [_,_,_,_,_,_,_] [_] hS).h0.ok
    refine(zR hS hpf.ok hpf.begun hcn hpf.word hpf.nth hk.tries hpf.over (fun h=>hpf.loaded h hw) hk.cfg hj.tx hw hkc hj.tx.mring (by show jt.told.length<=_;omega) (by show jo.length+jt.told.length<=_;omega) (by omega) th).mono ?_
    rintro e w' ⟨nx,F3,L',hL',rfl,hcome,hjob⟩
    obtain⟨new,d1,d2,d3,d4⟩:=iJ hk.cfg hmem hj.tx hw
    rw[hfin]at hcome ⊢
    refine⟨_,new,_,nx,F3,L',by omega,rfl,.go rfl hw rfl d2 hcome,?_⟩
    have h:=mv (rv:=f.rv) (hi:=hi) hjob ha rfl
    rw[d2,<-List.append_assoc]at h
    exact h
   ·have hmem:aY m:=(ah.turn [_,_,_,_,_,_,_,_] [_] hS).h0.ok
    obtain⟨ra,rcap,hsv,-⟩:=(hS.h1:aD w 2 1 f.sv st.length (bz st)).slice
    have hS2:ah w0 X (jC x k f st cs ts jo jt F (aG p m L F2::fV K pa am FA::cx f.rv k.regs::Cs)) w:=hS.perm (List.Perm.append_left [_,_,_,_,_,_,_] (List.Perm.swap _ _ _))
    refine(zR hS2 hpf.ok hpf.begun hcn hpf.word hpf.nth hk.tries hpf.over (fun h=>hpf.loaded h hw) hk.cfg hj.tx hw hkc hj.tx.mring (by show jt.told.length<=_;omega) (by show jo.length+jt.told.length<=_;omega) (by omega) th).mono ?_
    rintro e w' ⟨nx,F3,L',hL',rfl,hcome,hjob⟩
    obtain⟨new,d1,d2,d3,d4⟩:=iJ hk.cfg hmem hj.tx hw
    rw[hcm]at hjob
    have h:=sV (rv:=f.rv) (hi:=hi) hjob.swap ha rfl hg (Nat.le_refl _) hsv hst
    rw[hfin]at hcome ⊢
    refine⟨_,new,_,nx,F3,L',by omega,rfl,.go rfl hw rfl d2 hcome,?_⟩
    rw[d2,<-List.append_assoc]at h
    exact h
end
section
variable {w0:World}{X:List Nat}{Cs:List aw}{w:World}{x p L:Nat}{k:cl}{f:PF}{st cs ts:List Int}{t:bZ}{F F2:List Nat}{old:List bM}{m:au}{rv:Value}{hi:Int}
theorem ms{c:cN}{old:List bM}{t:bZ}{fin:Bool}{a:aM}{j:dY}(h:iy c old t fin a (.on j)):j.told=old++t.told:=by
 cases h with
 | on=>rfl
 | again=>simp[dY.told,cZ]
theorem fz{c:cN}{j j':dY}{a:aM}{new:List bM}{m m':au}(h:gx c m j a new m' (.on j')):j'.told=j.told++new:=by
 cases h with
 | begin h1 h2 h3 h4=>rw[ms h4,h3,<-List.append_assoc];rfl
 | go h1 h2 h3 h4 h5=>rw[ms h5,h4,<-List.append_assoc];rfl
 | quiet h1 h2 h3 h4 h5 =>
  show j.old++_=_
  rw[h5,<-List.append_assoc]
  rfl
 | want h1 h2 h3 h4 h5 h6 h7 h8 h9 h10=>rw[ms h10,h9,<-List.append_assoc];rfl
def overN:cM->Bool
 | .on _=>false
 | .over=>true
theorem aZ.open{told:List bM}{nx:cM}(h:aZ w0 X Cs x k rv hi told nx w)(hn:∀ j,nx=.on j->j.told=told) :
  ∃ f st cs ts t F old E,old++t.told=told/\ts.length<=16/\f.over=overN nx/\ah w0 X (jC x k f st cs ts old t F (E++Cs)) w /\
   ∀ (Cs':List aw) (F':List Nat) (W:World),ah w0 X (jC x k f st cs ts old t F' (E++Cs')) W->aZ w0 X Cs' x k rv hi told nx W:=by
 cases nx with
 | on j =>
  obtain⟨f,st,cs,ts,F,h1,h2,⟨h3,hS⟩|⟨K,pa,am,FA,h3,h4,h5,h6,hS⟩⟩:=h
  ·exact⟨f,st,cs,ts,j.tx,F,j.old,[],hn j rfl,h1.ok.tsl,h1.over,hS,fun Cs' F' W S=>⟨f,st,cs,ts,F',h1,h2,.inl ⟨h3,S⟩⟩⟩
  ·exact⟨f,st,cs,ts,j.tx,F,j.old,[fV K pa am FA],hn j rfl,h1.ok.tsl,h1.over,hS,fun Cs' F' W S=>⟨f,st,cs,ts,F',h1,h2,.inr ⟨K,pa,am,FA,h3,h4,h5,h6,S⟩⟩⟩
 | over =>
  obtain⟨f,st,cs,ts,t,F,old,h1,h2,h3,hS⟩:=h
  exact⟨f,st,cs,ts,t,F,old,[],h3,h2,h1,hS,fun Cs' F' W S=>⟨f,st,cs,ts,t,F',old,h1,h2,h3,S⟩⟩
theorem front3{E:List aw}{a b c d e:aw}(h:ah w0 X (jC x k f st cs ts old t F (E++a::b::c::d::e::Cs)) w):ah w0 X (c::d::e::jC x k f st cs ts old t F (E++a::b::Cs)) w:=by
 have e1:jC x k f st cs ts old t F (E++a::b::c::d::e::Cs)=jC x k f st cs ts old t F (E++[a,b])++([c,d,e]++Cs):=by simp[jC,pC]
 have e2:c::d::e::jC x k f st cs ts old t F (E++a::b::Cs)=[c,d,e]++(jC x k f st cs ts old t F (E++[a,b])++Cs):=by simp[jC,pC]
 rw[e1]at h
 rw[e2]
 exact h.perm (List.perm_append_comm_assoc _ _ _)
theorem back3{E:List aw}{a b c d e:aw}(h:ah w0 X (c::d::e::jC x k f st cs ts old t F (E++a::b::Cs)) w):ah w0 X (jC x k f st cs ts old t F (E++a::b::c::d::e::Cs)) w:=by
 have e1:jC x k f st cs ts old t F (E++a::b::c::d::e::Cs)=jC x k f st cs ts old t F (E++[a,b])++([c,d,e]++Cs):=by simp[jC,pC]
 have e2:c::d::e::jC x k f st cs ts old t F (E++a::b::Cs)=[c,d,e]++(jC x k f st cs ts old t F (E++[a,b])++Cs):=by simp[jC,pC]
 rw[e1]
 rw[e2]at h
 exact h.perm (List.perm_append_comm_assoc _ _ _)
theorem aZ.blkN(As:List aw){g:Nat}{o:Obj}{Bs:List aw}{told:List bM}{nx:cM}(h:aZ w0 X (As++ag g o::Bs) x k rv hi told nx w):w.heap[g]?=some o:=by
 cases nx with
 | on j =>
  obtain⟨f',st,cs,ts,F',h1,h2,⟨h3,hS⟩|⟨K,pa,am,FA,h3,h4,h5,h6,hS⟩⟩:=h
  ·exact(ah.pull ([_,_,_,_,_,_,_]++As) hS).h0
  ·exact(ah.pull ([_,_,_,_,_,_,_,_]++As) hS).h0
 | over =>
  obtain⟨f',st,cs,ts,t,F',old,h1,h2,h3,hS⟩:=h
  exact(ah.pull ([_,_,_,_,_,_,_]++As) hS).h0
theorem aZ.kept{told:List bM}{nx:cM}(h:aZ w0 X Cs x k rv hi told nx w):aQ X w0 w:=by
 cases nx with
 | on j=>obtain⟨f',st,cs,ts,F',h1,h2,⟨h3,hS⟩|⟨K,pa,am,FA,h3,h4,h5,h6,hS⟩⟩:=h<;>exact hS.kept
 | over=>obtain⟨f',st,cs,ts,t,F',old,h1,h2,h3,hS⟩:=h;exact hS.kept
theorem aZ.alloc{told:List bM}{nx:cM}(h:aZ w0 X Cs x k rv hi told nx w)(o:Obj):aZ w0 X Cs x k rv hi told nx (w.alloc o):=by
 cases nx with
 | on j =>
  obtain⟨f',st,cs,ts,F',h1,h2,⟨h3,hS⟩|⟨K,pa,am,FA,h3,h4,h5,h6,hS⟩⟩:=h
  ·exact⟨f',st,cs,ts,F',h1,h2,.inl ⟨h3,hS.alloc o⟩⟩
  ·exact⟨f',st,cs,ts,F',h1,h2,.inr ⟨K,pa,am,FA,h3,h4,h5,h6,hS.alloc o⟩⟩
 | over =>
  obtain⟨f',st,cs,ts,t,F',old,h1,h2,h3,hS⟩:=h
  exact⟨f',st,cs,ts,t,F',old,h1,h2,h3,hS.alloc o⟩
theorem aZ.drewN{told:List bM}{nx:cM}(h:aZ w0 X Cs x k rv hi told nx w)(q:Nat):aZ w0 X Cs x k rv hi told nx (w.drewN q):=by
 cases nx with
 | on j =>
  obtain⟨f',st,cs,ts,F',h1,h2,⟨h3,hS⟩|⟨K,pa,am,FA,h3,h4,h5,h6,hS⟩⟩:=h
  ·exact⟨f',st,cs,ts,F',h1,h2,.inl ⟨h3,hS.drewN q⟩⟩
  ·exact⟨f',st,cs,ts,F',h1,h2,.inr ⟨K,pa,am,FA,h3,h4,h5,h6,hS.drewN q⟩⟩
 | over =>
  obtain⟨f',st,cs,ts,t,F',old,h1,h2,h3,hS⟩:=h
  exact⟨f',st,cs,ts,t,F',old,h1,h2,h3,hS.drewN q⟩
theorem aZ.new{told:List bM}{nx:cM}(h:aZ w0 X Cs x k rv hi told nx w)(o:Obj):aZ w0 X (ag w.heap.size o::Cs) x k rv hi told nx (w.alloc o):=by
 cases nx with
 | on j =>
  obtain⟨f',st,cs,ts,F',h1,h2,⟨h3,hS⟩|⟨K,pa,am,FA,h3,h4,h5,h6,hS⟩⟩:=h
  ·exact⟨f',st,cs,ts,F',h1,h2,.inl ⟨h3,(hS.new o).push [_,_,_,_,_,_,_]⟩⟩
  ·exact⟨f',st,cs,ts,F',h1,h2,.inr ⟨K,pa,am,FA,h3,h4,h5,h6,(hS.new o).push [_,_,_,_,_,_,_,_]⟩⟩
 | over =>
  obtain⟨f',st,cs,ts,t,F',old,h1,h2,h3,hS⟩:=h
  exact⟨f',st,cs,ts,t,F',old,h1,h2,h3,(hS.new o).push [_,_,_,_,_,_,_]⟩
theorem se{E:List aw}{s:SW}{u:ST}{wb tb n:Nat}{l:List dh}{a b:aw}(hS:ah w0 X (jC x k f st cs ts old t F (E++a::b::ag wb (eH s)::bW s.ev l::ag tb (fD u)::Cs)) w)(hjp:u.jp=ptr x)(hn:u.taken=n)(h1:n<=(old++t.told).length)
  (hb:old.length+t.told.length<=1073741824) (hd:(old++t.told).length<=n+1000) (hl:l.length<=1073740000) (ho:0<=s.opened/\s.opened<=1099511627776) (th:Int) :
  Calls Tryz.prog 20 #[ptr wb,ptr tb,.int .i64 th] w (fun e w'=>e=.returned (.tuple #[])/\∃ ev' F',
   ah w0 X (jC x k f st cs ts old t F' (E++a::b::ag wb (eH {s with ev:=ev',opened:=(((old++t.told).drop n).foldl eu ⟨s.opened,u.tx,u.stamp⟩).opened})::bW ev' (l++dF s.steps th ⟨s.opened,u.tx,u.stamp⟩ ((old++t.told).drop n)) ::
    ag tb (fD {u with taken:=((old++t.told).length:Int),tx:=(((old++t.told).drop n).foldl eu ⟨s.opened,u.tx,u.stamp⟩).tx,stamp:=(((old++t.told).drop n).foldl eu ⟨s.opened,u.tx,u.stamp⟩).stamp})::Cs)) w'):=by
 have hlen:(old++t.told).length=old.length+t.told.length:=by simp
 refine(uP (P:=fun Cs'=>∃ F',Cs'=jC x k f st cs ts old t F' (E++a::b::Cs)) (L:=(old++t.told).drop n) (front3 hS) (fun W S=>?_) (by rw[List.length_drop];omega) hl ho (by omega) th).mono ?_
 ·rw[hjp,hn]
  refine(DM (ah.turn [_,_,_] [_,_,_,_,_,_,_] S) n (by omega) (by omega)).mono ?_
  rintro e w' ⟨ev,F',rfl,S2⟩
  refine⟨ev,_,⟨F',rfl⟩,rfl,?_⟩
  exact(ah.turn (Cs:=E++a::b::Cs) [_,_,_,_,_,_,_,_] [_,_,_] S2).pull [_,_,_]
 ·rintro e w' ⟨rfl,ev',Cs',⟨F',rfl⟩,S⟩
  refine⟨rfl,ev',F',back3 ?_⟩
  have e1:u.taken+(((old++t.told).drop n).length:Nat)=(((old++t.told).length:Nat):Int):=by rw[List.length_drop];omega
  rw[e1]at S
  exact S
end
end Go.Proofs.YtgfogfciobmmpaaGreatDoor
