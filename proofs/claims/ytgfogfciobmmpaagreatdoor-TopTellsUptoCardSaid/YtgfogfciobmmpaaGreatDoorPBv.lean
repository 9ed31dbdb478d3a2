/- A part of the proof of the law TopTells: StpI StpA Sch0. -/
import Derived.Test.YtgfogfciobmmpaaGreatDoorPBp
import Derived.Test.YtgfogfciobmmpaaGreatDoorPBq
import Derived.Test.YtgfogfciobmmpaaGreatDoorPBt
import Derived.Test.YtgfogfciobmmpaaGreatDoorPBu
set_option linter.unusedSimpArgs false
set_option linter.unusedVariables false
set_option maxRecDepth 100000
set_option maxHeartbeats 8000000
namespace Go.Proofs.YtgfogfciobmmpaaGreatDoor
section
open Go.RowKit
variable {w0:World} {X:List Nat} {Cs:List Comp} {w:World} {x p L:Nat} {k:PCfg} {f:PF} {st cs ts:List Int} {t:TxD} {F F2:List Nat} {old:List EvD} {m:MemD} {rv:Value} {hi:Int}
theorem instruction_prog (hS:Sep w0 X (jC x k f st cs ts old t F (cMem p m L F2::cReg f.rv k.regs::Cs)) w) (hok:StOk st cs ts) (hI:InstOk k hi f m t) (ht:Cod.Tabled w0) (hX:0 ∉ X) (hn:t.told.length≤1073740000) (ho:old.length+t.told.length≤1073740000) (hL:L≤1073740000) (th:Int) :
   Calls Tryz.prog 45 #[ptr x,ptr p,.int .i64 th] w (GoesPost1 w0 X (cReg f.rv k.regs::Cs) x p L k f.rv old t m hi):=by
 by_cases hin:0≤f.at_∧f.at_ < k.code.size
 · by_cases he:(Cod.atS k.code.data.toList f.at_).err=0
   · obtain ⟨c,n,hA,hop⟩:=at_ok he
     have hc:(Cod.atS k.code.data.toList f.at_).code=c:=by rw [hA]
     have h40:=hop.code
     by_cases h1:32 < c
     · exact Inst_high hS hok hI ht hX hn ho hL th hin he (by rw [hc];omega)
     · by_cases h2:c=0∨c=30
       · exact Inst_end hS hok hI ht hX hn ho hL th hin he (by rw [hc];omega)
       · by_cases h3:c=31
         · exact Inst_load hS hok hI ht hX hn ho hL th hin he (by rw [hc];omega)
         · by_cases h4:c=32
           · exact Inst_store hS hok hI ht hX hn ho hL th hin he (by rw [hc];omega)
           · exact Inst_dov hS hok hI ht hX hn ho hL th hin he (by rw [hc];omega)
   · exact Inst_bad hS hok hI ht hX hn ho hL th hin he
 · exact Inst_out hS hok hI ht hX hn ho hL th (by omega)
def GoesPost2 (w0:World) (X:List Nat) (Cs:List Comp) (x p L:Nat) (k:PCfg) (rv:Value) (old:List EvD) (t:TxD) (m:MemD) (hi:Int) (e:Ending) (w':World):Prop :=
 ∃ a new m' nx F2 L',L'≤L+70∧e=.returned a.val∧(∀ fin,JStep k.c m ⟨t,true,fin,old⟩ a new m' nx)∧JobAt w0 X (cMem p m' L' F2::Cs) x k rv hi (old++(t.told++new)) nx w'
theorem GoesPost1.sub1 {b g:Comp} {e:Ending} {w':World} (h:GoesPost1 w0 X (b::g::Cs) x p L k rv old t m hi e w'):GoesPost1 w0 X (g::b::Cs) x p L k rv old t m hi e w':=by
 obtain ⟨a,new,m',nx,F2,L',h1,h2,h3,h4⟩:=h
 exact ⟨a,new,m',nx,F2,L',h1,h2,h3,h4.sub fun Ps W h=>h.perm (List.Perm.append_left Ps (List.Perm.cons _ (List.Perm.swap _ _ _)))⟩
theorem GoesPost1.blk2 {b:Comp} {g:Nat} {o:Obj} {e:Ending} {w':World} (h:GoesPost1 w0 X (b::cBlk g o::Cs) x p L k rv old t m hi e w'):∃ a:AnsD,e=.returned a.val∧w'.heap[g]?=some o:=by
 obtain ⟨a,new,m',nx,F2,L',h1,h2,h3,h4⟩:=h.sub1
 exact ⟨a,h2,h4.blk⟩
theorem GoesPost1.ret2 {b:Comp} {g L0:Nat} {W:World} {a0 b0 c0 d0:Value} {fn:Func} {act:Act} {q:Tmp} (hL:L≤L0+1) (an:AnsD) (hres:fn.results=#[.cell q 35])
   (h:GoesPost1 w0 X (b::cBlk g (.cells #[a0,b0,c0,d0] 35 (0,0))::Cs) x p L k rv old t m hi (.returned an.val) W) (hg:act.tmps.getD q undef=.pointer (some ⟨g,0,none⟩)) (hd:act.defers=[]) :
   bodyPost Tryz.prog fn (GoesPost2 w0 X (b::Cs) x p L0 k rv old t m hi) .ret act ((((W.setCell ⟨g,0,none⟩ (.int .i64 an.kind)).setCell ⟨g,1,none⟩ (.int .i64 an.err)).setCell ⟨g,2,none⟩ (.int .i64 an.value)).setCell ⟨g,3,none⟩ (.bool an.access)):=by
 obtain ⟨a,new,m',nx,F2,L',h1,h2,h3,h4⟩:=h.sub1
 injection h2 with h2
 obtain rfl:=val_inj h2
 exact JobAt.ret an hres h4 hg hd fun W' hj=>⟨an,new,m',nx,F2,L',by omega,rfl,h3,hj⟩
theorem Step_inst (hS:Sep w0 X (jC x k f st cs ts old t F (cMem p m L F2::cReg f.rv k.regs::Cs)) w) (hok:StOk st cs ts) (hg:InstOk k hi f m t) (ht:Cod.Tabled w0) (hX:0 ∉ X)
   (hkc:k.cells≤m.cells.length) (hkr:m.ring=k.c.ring) (hn:t.told.length≤1073730000) (ho:old.length+t.told.length≤1073730000) (hL:L≤1073730000) (th:Int) :
   Calls Tryz.prog 19 #[ptr x,ptr p,.int .i64 th] w (GoesPost2 w0 X (cReg f.rv k.regs::Cs) x p L k f.rv old t m hi):=by
 have S1:Sep w0 X (jC x k f st cs ts old t F (cMem p m L F2::cBlk w.heap.size ans0::cReg f.rv k.regs::Cs)) (w.alloc ans0):=(hS.new ans0).push [_,_,_,_,_,_,_,_]
 have hmem:MemOk m:=(S1.turn [_,_,_,_,_,_,_] [_]).h0.ok
 have hts:txStep m t=(ansNone,t,m):=by unfold txStep;rw [hg.way]
 have HHS:=kH (fun (W:World) (S:Sep w0 X (jC x k f st cs ts old t F (cMem p m L F2::cBlk w.heap.size ans0::cReg f.rv k.regs::Cs)) W)=>Step_tx hg.kok.cfg (S.turn [_,_,_,_,_,_] [_,_]) hg.tx th (by omega) (by omega))
 have c1:=S1.cell 1
 have c7:=S1.cell 7
 have c23:=S1.cell 23
 simp only [progA,gA,gZ,gS,hg.over] at c1 c7 c23
 have hlt:=heap_lt S1.h0
 have HSZ:=kH (Sizes_p (S1.pull [_,_,_,_,_,_,_]))
 have hkc2:¬ (m.cells.length:Int) < k.cells:=by omega
 have hkr2:(m.ring != k.c.ring)=false:=by simp [hkr]
 have HX:=kH (And.intro hok hg)
 have hb:=hg.begun
 have ha:=hg.ask
 clear hS S1 hok hg hkc hkr hmem
 rw [hts] at HHS
 clear hts
 generalize hmc:(m.cells.length:Int)=mc at hkc2 HSZ
 clear hmc
 unfold ans0 ptr at *
 go_enter Tryz.func19,Tryz.ntmps19
 go_wp2_with fail
 refine HSZ.out.mono ?_
 rintro e1 w1 ⟨rfl,S2⟩
 have S3:=S2.push [_,_,_,_,_,_,_]
 have HT:=kH (HHS.out w1 S3)
 have d1:=S3.cell 1
 have d7:=S3.cell 7
 have d12:=S3.cell 12
 have d13:=S3.cell 13
 simp only [progA,gA,gZ,gS,hb] at d1 d7 d12 d13
 unfold ptr at d12
 have hlt1:=heap_lt S3.h0
 clear S2 S3 c1 c7 c23 HSZ
 go_wp2_with fail
 refine HT.out.mono ?_
 rintro e2 w2 ⟨rfl,F3,F4,L',hL',S4⟩
 have S6:Sep w0 X (jC x k f st cs ts old t F3 (cMem p m L' F4::cReg f.rv k.regs::cBlk w.heap.size ans0::Cs)) (w2.alloc (ansO ansNone)):=((((((((((S4.alloc (ansO ansNone)).pull [_,_,_,_,_,_,_,_,_]).pull [_,_]).pull [_,_]).pull [_,_,_,_,_,_,_,_]).pull [_,_,_,_,_,_,_,_]).pull [_,_,_,_,_,_,_,_]).pull [_,_,_,_,_,_,_,_]).pull [_,_,_,_,_,_,_,_]).pull [_,_,_,_,_,_,_,_])
 have HGO:=kH (instruction_prog S6 HX.out.1 HX.out.2 ht hX (by omega) (by omega) (by omega) th)
 have d20:=(S4.pull [_,_]).cell 20
 simp only [progA,gA,gZ,gS,ha] at d20
 have hlt2:=heap_lt (S4.pull [_,_]).h0
 clear S4 S6 HT d1 d7 d12 d13 hb ha
 unfold AnsD.val ansNone ansO ptr at *
 simp only at HGO d20 hlt2 ⊢
 go_wp2_with fail
 refine HGO.out.mono ?_
 rintro e3 w3 hgp
 obtain ⟨an,rfl,hbox⟩:=hgp.blk2
 obtain ⟨⟨a0,a1,a2,a3⟩,⟨g0,g1,g2,g3⟩⟩:=box4a hbox
 unfold AnsD.val
 have HGP:=kH hgp
 clear hgp hbox HGO
 go_wp2
 exact GoesPost1.ret2 (L:=L') hL' an rfl HGP.out rfl rfl
end
section
open Go.RowKit
variable {w0:World} {X:List Nat} {Cs:List Comp} {w:World} {x p L:Nat} {k:PCfg} {f:PF} {st cs ts:List Int} {t:TxD} {F F2:List Nat} {old:List EvD} {m:MemD} {rv:Value} {hi:Int}
def StepPost (w0:World) (X:List Nat) (Cs:List Comp) (x p L:Nat) (k:PCfg) (rv:Value) (hi:Int) (j:JobD) (m:MemD) (e:Ending) (w':World):Prop :=
 ∃ a new m' nx F2 L',L'≤L+100∧e=.returned a.val∧JStep k.c m j a new m' nx∧JobAt w0 X (cMem p m' L' F2::Cs) x k rv hi (j.told++new) nx w'
theorem JobPost.swap {a b:Comp} {c:CameD} {nx:JNext} {w':World} (h:JobPost w0 X (a::b::Cs) x k f c old t nx w'):JobPost w0 X (b::a::Cs) x k f c old t nx w':=by
 cases nx with
 | on j =>
   obtain ⟨f',st,cs,ts,F',h1,h2,hS⟩:=h
   exact ⟨f',st,cs,ts,F',h1,h2,hS.perm (List.Perm.append_left [_,_,_,_,_,_,_] (List.Perm.swap b a Cs))⟩
 | over =>
   obtain ⟨f',st,cs,ts,F',h1,hS⟩:=h
   exact ⟨f',st,cs,ts,F',h1,hS.perm (List.Perm.append_left [_,_,_,_,_,_,_] (List.Perm.swap b a Cs))⟩
theorem Step_prog {j:JobD} {told:List EvD} (hJ:JobAt w0 X (cMem p m L F2::cReg rv k.regs::Cs) x k rv hi told (.on j) w) (hj:JobOk k.c j m) (hk:KOk k hi) (ht:Cod.Tabled w0) (hX:0 ∉ X) (hkc:k.cells≤m.cells.length) (hhi:hi≤m.cells.length∧hi≤1024)
   (hn:j.told.length≤1073700000) (hL:L≤1073700000) (th:Int) :
   Calls Tryz.prog 19 #[ptr x,ptr p,.int .i64 th] w (StepPost w0 X (cReg rv k.regs::Cs) x p L k rv hi j m):=by
 obtain ⟨f,st,cs,ts,F,hpf,rfl,hor⟩:=hJ
 obtain ⟨jt,jb,jf,jo⟩:=j
 have hnl:jo.length+jt.told.length≤1073700000:=by simpa [JobD.told] using hn
 have htw:=hj.tx.way
 cases jb with
 | false =>
   have ha:=hpf.fresh rfl
   rcases hor with ⟨-,hS⟩ | ⟨K,pa,am,FA,ha2,-⟩
   · obtain ⟨hw,hp⟩:=hj.fresh rfl
     simp only at hw hp
     have hmem:MemOk m:=(Sep.turn [_,_,_,_,_,_,_] [_] hS).h0.ok
     have hfit:fitsT m jt ⟨1,0,0,0⟩=true:=by
       unfold fitsT
       simp [hp,hj.tx.mring.trans hj.tx.cfg.1.symm]
     refine (Step_begin hS hpf.ok hpf.begun hpf.word hpf.nth hk.tries hpf.over hk.cfg hj.tx hw hfit hkc hj.tx.mring (by show jt.told.length≤_;omega) (by show jo.length+jt.told.length≤_;omega) (by omega) th).mono ?_
     rintro e w' ⟨nx,F3,L',hL',rfl,hcome,hjob⟩
     obtain ⟨new,d1,d2,d3,d4⟩:=tx_do hk.cfg hmem hj.tx hw hfit i64_0
     refine ⟨_,new,_,nx,F3,L',by omega,rfl,.begin rfl rfl d2 hcome,?_⟩
     have h:=at_of_post (rv:=f.rv) (hi:=hi) hjob ha rfl
     rw [d2,← List.append_assoc] at h
     exact h
   · rw [ha] at ha2
     cases ha2
 | true =>
   by_cases hw:jt.way=.no
   · have hp:jt.phase=2:=by
       unfold WayOk at htw
       simp only [hw] at htw
       have:=hj.runs rfl
       simp only at this
       omega
     rcases hor with ⟨ha,hS⟩ | ⟨K,pa,am,FA,ha,hg,hst,hcm,hS⟩
     · refine (Step_inst hS hpf.ok ⟨hk,hw,hp,hj.tx,hpf.begun,(hpf.came rfl).2,ha,hpf.word,hpf.nth,hpf.over,hhi⟩ ht hX hkc hj.tx.mring (by show jt.told.length≤_;omega) (by show jo.length+jt.told.length≤_;omega) (by omega) th).mono ?_
       rintro e w' ⟨a,new,m',nx,F3,L',h1,rfl,h3,h4⟩
       refine ⟨a,new,m',nx,F3,L',by omega,rfl,h3 jf,?_⟩
       rw [← List.append_assoc] at h4
       exact h4
     · refine (Step_goes hS hpf.ok hst ⟨hg,Quiet.refl _,hw,hp,hj.tx,rfl,hpf.begun,(hpf.came rfl).2,ha,hpf.word,hpf.nth,hpf.over,rfl⟩ hk.tries hk.cfg hkc hj.tx.mring hhi.1 (by show jt.told.length≤_;omega) (by show jo.length+jt.told.length≤_;omega) (by omega) th).mono ?_
       rintro e w' ⟨a,new,m',nx,F3,L',h1,rfl,h3,h4⟩
       refine ⟨a,new,m',nx,F3,L',by omega,rfl,h3 jf,?_⟩
       rw [← List.append_assoc] at h4
       exact h4
   · obtain ⟨hfin,hcn⟩:=hpf.came rfl
     simp only at hfin
     rcases hor with ⟨ha,hS⟩ | ⟨K,pa,am,FA,ha,hg,hst,hcm,hS⟩
     · have hmem:MemOk m:=(Sep.turn [_,_,_,_,_,_,_] [_] hS).h0.ok
       refine (Step_go hS hpf.ok hpf.begun hcn hpf.word hpf.nth hk.tries hpf.over (fun h=>hpf.loaded h hw) hk.cfg hj.tx hw hkc hj.tx.mring (by show jt.told.length≤_;omega) (by show jo.length+jt.told.length≤_;omega) (by omega) th).mono ?_
       rintro e w' ⟨nx,F3,L',hL',rfl,hcome,hjob⟩
       obtain ⟨new,d1,d2,d3,d4⟩:=tx_step hk.cfg hmem hj.tx hw
       rw [hfin] at hcome ⊢
       refine ⟨_,new,_,nx,F3,L',by omega,rfl,.go rfl hw rfl d2 hcome,?_⟩
       have h:=at_of_post (rv:=f.rv) (hi:=hi) hjob ha rfl
       rw [d2,← List.append_assoc] at h
       exact h
     · have hmem:MemOk m:=(Sep.turn [_,_,_,_,_,_,_,_] [_] hS).h0.ok
       obtain ⟨ra,rcap,hsv,-⟩:=(hS.h1:RowAt w 2 1 f.sv st.length (ints st)).slice
       have hS2:Sep w0 X (jC x k f st cs ts jo jt F (cMem p m L F2::cAsk K pa am FA::cReg f.rv k.regs::Cs)) w:=hS.perm (List.Perm.append_left [_,_,_,_,_,_,_] (List.Perm.swap _ _ _))
       refine (Step_go hS2 hpf.ok hpf.begun hcn hpf.word hpf.nth hk.tries hpf.over (fun h=>hpf.loaded h hw) hk.cfg hj.tx hw hkc hj.tx.mring (by show jt.told.length≤_;omega) (by show jo.length+jt.told.length≤_;omega) (by omega) th).mono ?_
       rintro e w' ⟨nx,F3,L',hL',rfl,hcome,hjob⟩
       obtain ⟨new,d1,d2,d3,d4⟩:=tx_step hk.cfg hmem hj.tx hw
       rw [hcm] at hjob
       have h:=at_of_ask (rv:=f.rv) (hi:=hi) hjob.swap ha rfl hg (Nat.le_refl _) hsv hst
       rw [hfin] at hcome ⊢
       refine ⟨_,new,_,nx,F3,L',by omega,rfl,.go rfl hw rfl d2 hcome,?_⟩
       rw [d2,← List.append_assoc] at h
       exact h
end
section
open Go.RowKit
variable {w0:World} {X:List Nat} {Cs:List Comp} {w:World} {x p L:Nat} {k:PCfg} {f:PF} {st cs ts:List Int} {t:TxD} {F F2:List Nat} {old:List EvD} {m:MemD} {rv:Value} {hi:Int}
theorem comes_told {c:CfgD} {old:List EvD} {t:TxD} {fin:Bool} {a:AnsD} {j:JobD} (h:Comes c old t fin a (.on j)):j.told=old++t.told:=by
 cases h with
 | on=>rfl
 | again=>simp [JobD.told,newTx]
theorem jstep_told {c:CfgD} {j j':JobD} {a:AnsD} {new:List EvD} {m m':MemD} (h:JStep c m j a new m' (.on j')):j'.told=j.told++new:=by
 cases h with
 | begin h1 h2 h3 h4=>rw [comes_told h4,h3,← List.append_assoc];rfl
 | go h1 h2 h3 h4 h5=>rw [comes_told h5,h4,← List.append_assoc];rfl
 | quiet h1 h2 h3 h4 h5 =>
   show j.old++_=_
   rw [h5,← List.append_assoc]
   rfl
 | want h1 h2 h3 h4 h5 h6 h7 h8 h9 h10=>rw [comes_told h10,h9,← List.append_assoc];rfl
def overN:JNext→Bool
 | .on _=>false
 | .over=>true
theorem JobAt.open {told:List EvD} {nx:JNext} (h:JobAt w0 X Cs x k rv hi told nx w) (hn:∀ j,nx=.on j→j.told=told) :
   ∃ f st cs ts t F old E,old++t.told=told∧ts.length≤16∧f.over=overN nx∧Sep w0 X (jC x k f st cs ts old t F (E++Cs)) w ∧
     ∀ (Cs':List Comp) (F':List Nat) (W:World),Sep w0 X (jC x k f st cs ts old t F' (E++Cs')) W→JobAt w0 X Cs' x k rv hi told nx W:=by
 cases nx with
 | on j =>
   obtain ⟨f,st,cs,ts,F,h1,h2,⟨h3,hS⟩ | ⟨K,pa,am,FA,h3,h4,h5,h6,hS⟩⟩:=h
   · exact ⟨f,st,cs,ts,j.tx,F,j.old,[],hn j rfl,h1.ok.tsl,h1.over,hS,fun Cs' F' W S=>⟨f,st,cs,ts,F',h1,h2,.inl ⟨h3,S⟩⟩⟩
   · exact ⟨f,st,cs,ts,j.tx,F,j.old,[cAsk K pa am FA],hn j rfl,h1.ok.tsl,h1.over,hS,fun Cs' F' W S=>⟨f,st,cs,ts,F',h1,h2,.inr ⟨K,pa,am,FA,h3,h4,h5,h6,S⟩⟩⟩
 | over =>
   obtain ⟨f,st,cs,ts,t,F,old,h1,h2,h3,hS⟩:=h
   exact ⟨f,st,cs,ts,t,F,old,[],h3,h2,h1,hS,fun Cs' F' W S=>⟨f,st,cs,ts,t,F',old,h1,h2,h3,S⟩⟩
theorem front3 {E:List Comp} {a b c d e:Comp} (h:Sep w0 X (jC x k f st cs ts old t F (E++a::b::c::d::e::Cs)) w):Sep w0 X (c::d::e::jC x k f st cs ts old t F (E++a::b::Cs)) w:=by
 have e1:jC x k f st cs ts old t F (E++a::b::c::d::e::Cs)=jC x k f st cs ts old t F (E++[a,b])++([c,d,e]++Cs):=by simp [jC,pC]
 have e2:c::d::e::jC x k f st cs ts old t F (E++a::b::Cs)=[c,d,e]++(jC x k f st cs ts old t F (E++[a,b])++Cs):=by simp [jC,pC]
 rw [e1] at h
 rw [e2]
 exact h.perm (List.perm_append_comm_assoc _ _ _)
theorem back3 {E:List Comp} {a b c d e:Comp} (h:Sep w0 X (c::d::e::jC x k f st cs ts old t F (E++a::b::Cs)) w):Sep w0 X (jC x k f st cs ts old t F (E++a::b::c::d::e::Cs)) w:=by
 have e1:jC x k f st cs ts old t F (E++a::b::c::d::e::Cs)=jC x k f st cs ts old t F (E++[a,b])++([c,d,e]++Cs):=by simp [jC,pC]
 have e2:c::d::e::jC x k f st cs ts old t F (E++a::b::Cs)=[c,d,e]++(jC x k f st cs ts old t F (E++[a,b])++Cs):=by simp [jC,pC]
 rw [e1]
 rw [e2] at h
 exact h.perm (List.perm_append_comm_assoc _ _ _)
theorem JobAt.blkN (As:List Comp) {g:Nat} {o:Obj} {Bs:List Comp} {told:List EvD} {nx:JNext} (h:JobAt w0 X (As++cBlk g o::Bs) x k rv hi told nx w):w.heap[g]?=some o:=by
 cases nx with
 | on j =>
   obtain ⟨f',st,cs,ts,F',h1,h2,⟨h3,hS⟩ | ⟨K,pa,am,FA,h3,h4,h5,h6,hS⟩⟩:=h
   · exact (Sep.pull ([_,_,_,_,_,_,_]++As) hS).h0
   · exact (Sep.pull ([_,_,_,_,_,_,_,_]++As) hS).h0
 | over =>
   obtain ⟨f',st,cs,ts,t,F',old,h1,h2,h3,hS⟩:=h
   exact (Sep.pull ([_,_,_,_,_,_,_]++As) hS).h0
theorem JobAt.kept {told:List EvD} {nx:JNext} (h:JobAt w0 X Cs x k rv hi told nx w):Kept X w0 w:=by
 cases nx with
 | on j=>obtain ⟨f',st,cs,ts,F',h1,h2,⟨h3,hS⟩ | ⟨K,pa,am,FA,h3,h4,h5,h6,hS⟩⟩:=h <;> exact hS.kept
 | over=>obtain ⟨f',st,cs,ts,t,F',old,h1,h2,h3,hS⟩:=h;exact hS.kept
theorem JobAt.alloc {told:List EvD} {nx:JNext} (h:JobAt w0 X Cs x k rv hi told nx w) (o:Obj):JobAt w0 X Cs x k rv hi told nx (w.alloc o):=by
 cases nx with
 | on j =>
   obtain ⟨f',st,cs,ts,F',h1,h2,⟨h3,hS⟩ | ⟨K,pa,am,FA,h3,h4,h5,h6,hS⟩⟩:=h
   · exact ⟨f',st,cs,ts,F',h1,h2,.inl ⟨h3,hS.alloc o⟩⟩
   · exact ⟨f',st,cs,ts,F',h1,h2,.inr ⟨K,pa,am,FA,h3,h4,h5,h6,hS.alloc o⟩⟩
 | over =>
   obtain ⟨f',st,cs,ts,t,F',old,h1,h2,h3,hS⟩:=h
   exact ⟨f',st,cs,ts,t,F',old,h1,h2,h3,hS.alloc o⟩
theorem JobAt.drewN {told:List EvD} {nx:JNext} (h:JobAt w0 X Cs x k rv hi told nx w) (q:Nat):JobAt w0 X Cs x k rv hi told nx (w.drewN q):=by
 cases nx with
 | on j =>
   obtain ⟨f',st,cs,ts,F',h1,h2,⟨h3,hS⟩ | ⟨K,pa,am,FA,h3,h4,h5,h6,hS⟩⟩:=h
   · exact ⟨f',st,cs,ts,F',h1,h2,.inl ⟨h3,hS.drewN q⟩⟩
   · exact ⟨f',st,cs,ts,F',h1,h2,.inr ⟨K,pa,am,FA,h3,h4,h5,h6,hS.drewN q⟩⟩
 | over =>
   obtain ⟨f',st,cs,ts,t,F',old,h1,h2,h3,hS⟩:=h
   exact ⟨f',st,cs,ts,t,F',old,h1,h2,h3,hS.drewN q⟩
theorem JobAt.new {told:List EvD} {nx:JNext} (h:JobAt w0 X Cs x k rv hi told nx w) (o:Obj):JobAt w0 X (cBlk w.heap.size o::Cs) x k rv hi told nx (w.alloc o):=by
 cases nx with
 | on j =>
   obtain ⟨f',st,cs,ts,F',h1,h2,⟨h3,hS⟩ | ⟨K,pa,am,FA,h3,h4,h5,h6,hS⟩⟩:=h
   · exact ⟨f',st,cs,ts,F',h1,h2,.inl ⟨h3,(hS.new o).push [_,_,_,_,_,_,_]⟩⟩
   · exact ⟨f',st,cs,ts,F',h1,h2,.inr ⟨K,pa,am,FA,h3,h4,h5,h6,(hS.new o).push [_,_,_,_,_,_,_,_]⟩⟩
 | over =>
   obtain ⟨f',st,cs,ts,t,F',old,h1,h2,h3,hS⟩:=h
   exact ⟨f',st,cs,ts,t,F',old,h1,h2,h3,(hS.new o).push [_,_,_,_,_,_,_]⟩
theorem takes_job {E:List Comp} {s:SW} {u:ST} {wb tb n:Nat} {l:List EvT} {a b:Comp} (hS:Sep w0 X (jC x k f st cs ts old t F (E++a::b::cBlk wb (swO s)::cEv s.ev l::cBlk tb (stO u)::Cs)) w) (hjp:u.jp=ptr x) (hn:u.taken=n) (h1:n≤(old++t.told).length)
   (hb:old.length+t.told.length≤1073741824) (hd:(old++t.told).length≤n+1000) (hl:l.length≤1073740000) (ho:0≤s.opened∧s.opened≤1099511627776) (th:Int) :
   Calls Tryz.prog 20 #[ptr wb,ptr tb,.int .i64 th] w (fun e w'=>e=.returned (.tuple #[])∧∃ ev' F',
     Sep w0 X (jC x k f st cs ts old t F' (E++a::b::cBlk wb (swO { s with ev:=ev',opened:=(((old++t.told).drop n).foldl tkS ⟨s.opened,u.tx,u.stamp⟩).opened })::cEv ev' (l++tkAll s.steps th ⟨s.opened,u.tx,u.stamp⟩ ((old++t.told).drop n)) ::
       cBlk tb (stO { u with taken:=((old++t.told).length:Int),tx:=(((old++t.told).drop n).foldl tkS ⟨s.opened,u.tx,u.stamp⟩).tx,stamp:=(((old++t.told).drop n).foldl tkS ⟨s.opened,u.tx,u.stamp⟩).stamp })::Cs)) w'):=by
 have hlen:(old++t.told).length=old.length+t.told.length:=by simp
 refine (takes_calls (P:=fun Cs'=>∃ F',Cs'=jC x k f st cs ts old t F' (E++a::b::Cs)) (L:=(old++t.told).drop n) (front3 hS) (fun W S=>?_) (by rw [List.length_drop];omega) hl ho (by omega) th).mono ?_
 · rw [hjp,hn]
   refine (Told_job (Sep.turn [_,_,_] [_,_,_,_,_,_,_] S) n (by omega) (by omega)).mono ?_
   rintro e w' ⟨ev,F',rfl,S2⟩
   refine ⟨ev,_,⟨F',rfl⟩,rfl,?_⟩
   exact (Sep.turn (Cs:=E++a::b::Cs) [_,_,_,_,_,_,_,_] [_,_,_] S2).pull [_,_,_]
 · rintro e w' ⟨rfl,ev',Cs',⟨F',rfl⟩,S⟩
   refine ⟨rfl,ev',F',back3 ?_⟩
   have e1:u.taken+(((old++t.told).drop n).length:Nat)=(((old++t.told).length:Nat):Int):=by rw [List.length_drop];omega
   rw [e1] at S
   exact S
end
end Go.Proofs.YtgfogfciobmmpaaGreatDoor
