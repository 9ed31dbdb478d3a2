/- A part of the proof of a law of carouseltop: Inst3. -/
import Derived.Test.YtgfogfciobmmpaaGreatDoorBBd
set_option linter.unusedSimpArgs false
set_option linter.unusedVariables false
set_option maxRecDepth 100000
set_option maxHeartbeats 8000000
namespace Go.Proofs.YtgfogfciobmmpaaGreatDoor
open Go.RowKit
section
variable {w0:World}{X:List Nat}{Cs:List aw}{w:World}{x p L:Nat}{k:cl}{f:PF}{st cs ts:List Int}{t:bZ}{F F2:List Nat}{old:List bM}{m:au}{hi:Int}
theorem BP(hS:ah w0 X (jC x k f st cs ts old t F (aG p m L F2::cx f.rv k.regs::Cs)) w)(hok:bX st cs ts)(hI:jX k hi f m t)(ht:Cod.Tabled w0)(hX:0∉X)(hn:t.told.length<=1073740000)(ho:old.length+t.told.length<=1073740000)(hL:L<=1073740000)(th:Int)(hin:0<=f.at_/\f.at_<k.code.size)(hgood:(Cod.atS k.code.data.toList f.at_).err=0)(hcc:32<(Cod.atS k.code.data.toList f.at_).code) :
  Calls Tryz.prog 45 #[ptr x,ptr p,.int .i64 th] w (cC w0 X (cx f.rv k.regs::Cs) x p L k f.rv old t m hi):=by
 have S1:ah w0 X (jC x k f st cs ts old t F (aG p m L F2::ag w.heap.size aB::cx f.rv k.regs::Cs)) (w.alloc aB):=(hS.new aB).push [_,_,_,_,_,_,_,_]
 have hmem:aY m:=(S1.turn [_,_,_,_,_,_,_] [_]).h0.ok
 have c9:=S1.cell 9
 have c15:=S1.cell 15
 simp only[aH,gA,gZ,gS]at c9 c15
 have hlt:=af S1.h0
 have HI:=kH hI
 have HM:=kH hmem
 have HOK:=kH hok
 have HS1:=kH S1
 have hcs:(k.code.size:Int)<=512:=by have:=hI.kok.code;omega
 have hnn:¬f.at_<0:=by omega
 have hnl:¬(k.code.size:Int)<=f.at_:=by omega
 have hwat:IntKind.i64.wrap f.at_=f.at_:=IntWalk.i64_in _ (by omega)
 obtain⟨c,an,hA,hop⟩:=sU hgood
 rw[hA]at hcc
 generalize (Cod.atS k.code.data.toList f.at_).operand=ao at hA hop hcc
 clear hgood
 have HCC:=kH hcc
 clear hcc
 have HOP:=kH hop
 have HAT:=kH (fun(Ds:List aw) (W:World) (S:ah w0 X Ds W)=>oK S ht hX (by have:=hI.kok.code;omega) hA)
 clear hS hok hI hmem hA S1 hin hop
 obtain⟨code,hcode⟩:∃ code,k.code=code:=⟨_,rfl⟩
 obtain⟨at_,hatx⟩:∃ at_,f.at_=at_:=⟨_,rfl⟩
 have HCODE:=kH hcode
 have HATX:=kH hatx
 rw[hcode]at c9 HAT hcs hnl
 rw[hatx]at c15 HAT hnn hnl hwat
 clear hcode hatx
 unfold aB ptr at *
 go_enter Tryz.func45,Tryz.ntmps45
 go_wp2_with fail
 go_quiet(fail)
 go_upto_region 4 with(fail)
 have S2:=HS1.out.drewN nq
 generalize (w.alloc (.cells #[.int .i64 0,.int .i64 0,.int .i64 0,.bool false] 35 (0,0))).drewN nq=W1 at *
 have d9:=S2.cell 9
 have d15:=S2.cell 15
 simp only[aH,gA,gZ,gS,HCODE.out,HATX.out]at d9 d15
 have hlt1:=af S2.h0
 have HS2:=kH S2
 clear S2 c9 c15 hlt HS1
 go_cut[8,9,10]from 14 to 174 (fun v8 v9 v10 wc=>∃ b8,v8=.pointer (some ⟨b8,0,none⟩)/\v9=.int .i64 an/\v10=.int .i64 0/\ah w0 X (ag b8 (fa c ao)::jC x k f st cs ts old t F (aG p m L F2::ag w.heap.size aB::cx f.rv k.regs::Cs)) wc)
 case first =>
  have hne1:x≠W1.heap.size:=Nat.ne_of_lt hlt1
  have hne2:W1.heap.size≠x:=Ne.symm hne1
  go_region_held3 (fun w'=>w'.cell? ⟨x,9,none⟩=some (.string code)/\w'.cell? ⟨x,15,none⟩=some (.int .i64 at_)) (go_keep) (first|(go_at_call 63;(first|refine(HAT.out _ _ HS2.out).mono ?_|refine(HAT.out _ _ (HS2.out.drewN _)).mono ?_);rintro e1 w1 ⟨rfl,S3⟩;have e9:=S3.cell 9;have e15:=S3.cell 15;simp only[aH,gA,gZ,gS,HCODE.out,HATX.out]at e9 e15;have HS3:=kH S3;clear S3)|(go_at_call 63;refine(HAT.out _ _ ((HS2.out.new (fa 0 0)).drewN _)).mono ?_;rintro e1 w1 ⟨rfl,S4⟩;have y0:=S4.cell 0;have y1:=S4.cell 1;have z0:=S4.froz 0;have z1:=S4.froz 1;simp only[gA,gZ,gS]at y0 y1;have e9:=(S4.pull [_]).cell 9;have e15:=(S4.pull [_]).cell 15;simp only[aH,gA,gZ,gS,HCODE.out,HATX.out]at e9 e15;have HS4:=kH S4;clear S4))
  all_goals
   go_wp2
   go_meet
   case rel =>
    first
     | exact⟨_,rfl,rfl,rfl,HS3.out.new (fa c ao)⟩
     | exact⟨_,rfl,rfl,rfl,((HS4.out.set 0 (.int .i64 c)).set 1 (.int .i64 ao)).eqO (by simp)⟩
 case rest =>
  obtain⟨b8,rfl,rfl,rfl,S5⟩:=hcut
  clear HAT d9 d15 HS2
  have hcc:=HCC.out
  have hc40:=HOP.out.code
  obtain⟨h0,h255⟩:=HOP.out.small (.inr hcc)
  obtain⟨j,rfl⟩:=Int.eq_ofNat_of_zero_le h0
  have HW:=kH (Ab ((S5.pull [_,_,_,_,_,_,_,_,_,_]).pull [_,_]) c (by omega) j (by omega) HI.out.kok.regs (fun r hr=>(HI.out.kok.reg r hr).1))
  have b0:=S5.cell 0
  have b1:=S5.cell 1
  simp only[gA,gZ,gS]at b0 b1
  have hlt5:=af S5.h0
  have hltx5:=af (S5.pull [_]).h0
  clear S5
  unfold ew ptr at HW
  go_wp2_with fail
  refine HW.out.mono ?_
  rintro e1 w1 ⟨tk,pt,b,rfl,hb,S6⟩
  have S7:=S6.new (.cells #[.int .i64 tk,.int .i64 pt,.nilFunc] 140 (0,0))
  have S8:=S6.pull [_,_]
  have b0':=S8.cell 0
  have b1':=S8.cell 1
  simp only[gA,gZ,gS]at b0' b1'
  have hlt6:=af S8.h0
  have hltx6:=af S6.h0
  have HS7:=kH S7
  have HB:=kH hb
  clear S6 S7 S8 HW b0 b1 hb
  cases b
  ·
   have HAB:=kH (dL ((((((((((((HS7.out.pull [_,_]).pull [_,_,_,_,_,_,_,_,_,_,_]).pull [_,_,_,_]).pull [_,_,_]).pull [_,_,_,_,_,_,_,_,_,_,_]).pull [_,_,_,_,_,_,_,_,_,_,_]).pull [_,_,_,_,_,_,_,_,_,_,_]).pull [_,_,_,_,_,_,_,_,_,_,_]).pull [_,_,_,_,_,_,_,_,_,_,_]).pull [_,_,_,_,_,_,_,_,_,_,_]).pull [_,_,_,_,_,_,_,_,_,_,_]).pull [_,_,_,_,_,_,_,_,_,_,_]) HOK.out HI.out.begun HI.out.word HI.out.nth HI.out.kok.tries HI.out.over HI.out.kok.cfg HI.out.tx HI.out.way 7 (bT HI.out.tx HI.out.phase (.inr rfl)) (by omega) (by omega) (by omega) th)
   unfold ptr at HAB
   go_wp2_with fail
   refine HAB.out.mono ?_
   rintro e8 w8 hwp
   have hgp:=(cr (hi:=hi) HI.out.kok.cfg HM.out HI.out.tx HI.out.way HI.out.phase (bT HI.out.tx HI.out.phase (.inr rfl)) (by decide) aK (by decide) HI.out.ask rfl hwp).sub fun Ps W h=>ah.dropN Ps [_,_] h
   obtain⟨an',rfl,hbox⟩:=hgp.blk
   obtain⟨⟨a0,a1,a2,a3⟩,⟨g0,g1,g2,g3⟩⟩:=cw hbox
   unfold aM.val
   have HGP:=kH hgp
   clear hgp hbox
   go_wp2
   exact ce.ret (Nat.le_succ _) an' rfl HGP.out rfl rfl
  ·obtain⟨hjl,htk,rfl,htk0⟩:=HB.out rfl
   have htk2:tk<=1000:=by
    rw[htk];unfold cY;repeat' split
    all_goals omega
   have HF:=kH (gw (n:=none) (caps:=#[]) (((((HS7.out.pull [_,_,_,_,_,_,_]).pull [_,_,_,_,_,_,_]).pull [_,_,_,_,_,_,_]).pull [_,_,_,_,_,_,_]).pull [_,_,_,_,_]) HOK.out c j tk 2 ⟨htk0,htk2⟩ (by omega))
   have HTK:=kH htk
   have HJL:=kH hjl
   clear htk hjl
   unfold ew yw at HF
   go_wp2_with fail
   refine HF.out.mono ?_
   rintro e2 w2 ⟨hbel,fb,rfl,hfb⟩
   have S9:=HS7.out.below hbel
   have HFB:=kH hfb
   have HS9:=kH S9
   have x0:=S9.cell 0
   have S10:=S9.pull [_,_,_]
   have y0:=S10.cell 0
   have y1:=S10.cell 1
   simp only[gA,gZ,gS]at x0 y0 y1
   have hlt9:=af S9.h0
   have hlt10:=af S10.h0
   have hltx9:=af (S9.pull [_]).h0
   clear S9 S10 HF hbel hfb HS7 b0' b1'
   cases fb
   ·
    obtain⟨hf1,hf2,-⟩:=HFB.out rfl
    obtain⟨n,rfl⟩:=Int.eq_ofNat_of_zero_le htk0
    have hn1:n<=st.length:=by omega
    have HP:=kH (mM ((HS9.out.pull [_,_,_,_]).pull [_,_]) (st.length-n) n (by omega) (by have:=HOK.out.stl;omega))
    have hc0:((c:Int) == 0)=false:=by simp;omega
    have hc30:((c:Int) == 30)=false:=by simp;omega
    have hc31:((c:Int) == 31)=false:=by simp;omega
    have hc32:((c:Int) == 32)=false:=by simp;omega
    have hc33:(32:Int)<(c:Int):=by omega
    unfold ptr at HP
    go_wp2_with fail
    refine HP.out.mono ?_
    rintro e3 w3 ⟨lv,sv',rfl,S11⟩
    obtain⟨g,cap,hrv,hnc,hcm,hglt,hcell⟩:∃ g cap,f.rv=.slice (some ⟨g,0,none⟩) k.regs.length cap/\k.regs.length<=cap/\cap<=maxLen/\g<w3.heap.size/\(∀ j u,(cE k.regs)[j]?=some u->w3.cell? ⟨g,j,none⟩=some u):=by
     rcases(show aD w3 103 3 f.rv k.regs.length (cE k.regs)from(S11.pull [_,_,_,_]).h0).parts with⟨q1,q2,q3⟩|h
     ·have:=HJL.out;omega
     ·exact h
    obtain⟨r0,r1,r2⟩:=kz k.regs j HJL.out
    have g0:=hcell _ _ r0
    have g1:=hcell _ _ r1
    have g2:=hcell _ _ r2
    have hreg:=HI.out.kok.reg (k.regs.getD j (0,0,0)) (by rw[List.getD_eq_getElem?_getD,List.getElem?_eq_getElem HJL.out];exact List.getElem_mem HJL.out)
    have hdl:(st.drop (st.length-n)).length=n:=by rw[List.length_drop];omega
    obtain⟨kd,hkd⟩:∃ kd,(k.regs.getD j (0,0,0)).1=kd:=⟨_,rfl⟩
    obtain⟨bs,hbs⟩:∃ bs,(k.regs.getD j (0,0,0)).2.1=bs:=⟨_,rfl⟩
    obtain⟨mo,hmo⟩:∃ mo,(k.regs.getD j (0,0,0)).2.2=mo:=⟨_,rfl⟩
    rw[hkd,hbs,hmo]at hreg
    have htk3:=HTK.out
    rw[hkd]at htk3 g0
    rw[hbs]at g1
    rw[hmo]at g2
    have HREG:=kH hreg
    have HK:=kH (fun q=>Bo (x:=x) (call:=(c:Int)-32) (S11.drewN q) hreg.1 hreg.2.1 hreg.2.2.1 (by rw[hdl];exact htk3.symm) (by omega) (fun y hy=>HOK.out.i64 y (List.mem_of_mem_drop hy)))
    have hw32:IntKind.i64.wrap ((c:Int)-32)=(c:Int)-32:=IntWalk.i64_in _ (by omega)
    have z0:=(S11.pull [_,_,_,_,_]).cell 0
    have z1:=(S11.pull [_,_,_,_,_]).cell 1
    have c8:=(S11.pull [_]).cell 8
    simp only[aH,gA,gZ,gS]at z0 z1 c8
    have hltb3:=af (S11.pull [_,_,_,_,_]).h0
    have hltx3:=af (S11.pull [_]).h0
    have HRV:=kH hrv
    rw[hrv]at c8
    have hjl:(j:Int)<(k.regs.length:Int):=by have:=HJL.out;omega
    have hcl:(k.regs.length:Int)<=(cap:Int):=by omega
    have HHX:=kH (And.intro hdl htk3)
    clear S11 HP hcell r0 r1 r2 hreg hkd hbs hmo htk3 hrv hdl x0 y0 y1
    unfold ptr at HK
    go_wp2_with fail
    go_region_law(go_simp;go_at_call 70;refine(HK.out _).mono ?_;rintro e4 w4 ⟨K,pa,am,FA,rfl,hgood,S12⟩;have c20:=(S12.pull [_,_]).cell 20;have c21:=(S12.pull [_,_]).cell 21;have f20:=(S12.pull [_,_]).froz 20;have f21:=(S12.pull [_,_]).froz 21;simp only[aH,gA,gZ,gS]at c20 c21;have hltx4:=af (S12.pull [_,_]).h0;have HS12:=kH S12;have HGD:=kH hgood;clear S12 hgood)
    all_goals
     have S13:=((HS12.out.pull [_,_]).pset (f':={f with sv:=sv',ask:=.iface K.ty (ptr pa)}) 20 (.iface K.ty (ptr pa)) (by simp[aH])).pset (f':={f with sv:=sv',ask:=.iface K.ty (ptr pa),word:=0}) 21 (.int .i64 0) (by simp[aH])
     have S14:=((((((((((((((S13.pull [_,_,_,_,_]).pull [_,_,_,_,_,_,_,_,_,_,_,_,_]).pull [_,_,_,_,_,_,_]).pull [_,_,_,_,_,_,_]).pull [_,_,_,_,_,_]).pull [_,_,_,_,_,_,_,_,_,_,_,_,_]).pull [_,_,_,_,_,_,_]).pull [_,_,_,_,_,_,_,_,_,_,_,_,_]).pull [_,_,_,_,_,_,_,_,_,_,_,_,_]).pull [_,_,_,_,_,_,_,_,_,_,_,_,_]).pull [_,_,_,_,_,_,_,_,_,_,_,_,_]).pull [_,_,_,_,_,_,_,_,_,_,_,_,_]).pull [_,_,_,_,_,_,_,_,_,_,_,_,_]).pull [_,_,_,_,_,_,_,_,_,_,_,_,_])
     have HGO:=kH (sI (f:={f with sv:=sv',ask:=.iface K.ty (ptr pa),word:=0}) (rv:=f.rv) (hi:=hi) S14 ⟨by rw[List.length_take];have:=HOK.out.stl;omega,HOK.out.csl,HOK.out.tsl,fun v hv=>HOK.out.i64 v (List.mem_of_mem_take hv)⟩ (by rw[List.length_take];omega)
      ⟨gg (by have:=HREG.out.2.2.2;omega) (Nat.le_refl _) HGD.out,iR.refl _,HI.out.way,HI.out.phase,HI.out.tx,rfl,HI.out.begun,HI.out.came,rfl,aK,HI.out.nth,HI.out.over,rfl⟩ HI.out.kok.tries HI.out.kok.cfg HI.out.high.1 (by omega) (by omega) (by omega) th)
     clear S13 S14
     unfold ptr at HGO
     go_wp2_with fail
     refine HGO.out.mono ?_
     rintro e8 w8 hwp
     have hgp:=hwp.sub fun Ps W h=>ah.dropN Ps [_,_,_] h
     obtain⟨an',rfl,hbox⟩:=hgp.blk
     obtain⟨⟨a0,a1,a2,a3⟩,⟨g0,g1,g2,g3⟩⟩:=cw hbox
     unfold aM.val
     have HGP:=kH hgp
     clear hgp hbox
     go_wp2
     exact ce.ret (Nat.le_succ _) an' rfl HGP.out rfl rfl
   ·
    have HAB:=kH (dL ((((((((((((HS9.out.pull [_,_]).pull [_,_,_,_,_,_,_,_,_,_,_]).pull [_,_,_,_]).pull [_,_,_]).pull [_,_,_,_,_,_,_,_,_,_,_]).pull [_,_,_,_,_,_,_,_,_,_,_]).pull [_,_,_,_,_,_,_,_,_,_,_]).pull [_,_,_,_,_,_,_,_,_,_,_]).pull [_,_,_,_,_,_,_,_,_,_,_]).pull [_,_,_,_,_,_,_,_,_,_,_]).pull [_,_,_,_,_,_,_,_,_,_,_]).pull [_,_,_,_,_,_,_,_,_,_,_]) HOK.out HI.out.begun HI.out.word HI.out.nth HI.out.kok.tries HI.out.over HI.out.kok.cfg HI.out.tx HI.out.way 7 (bT HI.out.tx HI.out.phase (.inr rfl)) (by omega) (by omega) (by omega) th)
    unfold ptr at HAB
    go_wp2_with fail
    refine HAB.out.mono ?_
    rintro e8 w8 hwp
    have hgp:=(cr (hi:=hi) HI.out.kok.cfg HM.out HI.out.tx HI.out.way HI.out.phase (bT HI.out.tx HI.out.phase (.inr rfl)) (by decide) aK (by decide) HI.out.ask rfl hwp).sub fun Ps W h=>ah.dropN Ps [_,_] h
    obtain⟨an',rfl,hbox⟩:=hgp.blk
    obtain⟨⟨a0,a1,a2,a3⟩,⟨g0,g1,g2,g3⟩⟩:=cw hbox
    unfold aM.val
    have HGP:=kH hgp
    clear hgp hbox
    go_wp2
    exact ce.ret (Nat.le_succ _) an' rfl HGP.out rfl rfl
end
end Go.Proofs.YtgfogfciobmmpaaGreatDoor
