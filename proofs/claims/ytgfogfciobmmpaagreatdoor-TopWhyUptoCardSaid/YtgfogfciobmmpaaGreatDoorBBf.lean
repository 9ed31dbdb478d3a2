/- A part of the proof of a law of carouseltop: Inst4 Inst5 Inst6. -/
import Derived.Test.YtgfogfciobmmpaaGreatDoorBBd
set_option linter.unusedSimpArgs false
set_option linter.unusedVariables false
set_option maxRecDepth 100000
set_option maxHeartbeats 8000000
namespace Go.Proofs.YtgfogfciobmmpaaGreatDoor
open Go.RowKit
section
variable {w0:World}{X:List Nat}{Cs:List aw}{w:World}{x p L:Nat}{k:cl}{f:PF}{st cs ts:List Int}{t:bZ}{F F2:List Nat}{old:List bM}{m:au}{hi:Int}
theorem D4(hS:ah w0 X (jC x k f st cs ts old t F (aG p m L F2::cx f.rv k.regs::Cs)) w)(hok:bX st cs ts)(hI:jX k hi f m t)(ht:Cod.Tabled w0)(hX:0∉X)(hn:t.told.length<=1073740000)(ho:old.length+t.told.length<=1073740000)(hL:L<=1073740000)(th:Int)(hin:0<=f.at_/\f.at_<k.code.size)(hgood:(Cod.atS k.code.data.toList f.at_).err=0)(hcc:(Cod.atS k.code.data.toList f.at_).code=0\/(Cod.atS k.code.data.toList f.at_).code=30) :
  Calls Tryz.prog 45 #[ptr x,ptr p,.int .i64 th] w (cC w0 X (cx f.rv k.regs::Cs) x p L k f.rv old t m hi):=by
 have S1:ah w0 X (jC x k f st cs ts old t F (aG p m L F2::ag w.heap.size aB::cx f.rv k.regs::Cs)) (w.alloc aB):=(hS.new aB).push [_,_,_,_,_,_,_,_]
 have hmem:aY m:=(S1.turn [_,_,_,_,_,_,_] [_]).h0.ok
 have c9:=S1.cell 9
 have c15:=S1.cell 15
 simp only[aH,gA,gZ,gS]at c9 c15
 have hlt:=af S1.h0
 have HI:=kH hI
 have HM:=kH hmem
 have HOK:=kH hok
 have HS1:=kH S1
 have hcs:(k.code.size:Int)<=512:=by have:=hI.kok.code;omega
 have hnn:¬f.at_<0:=by omega
 have hnl:¬(k.code.size:Int)<=f.at_:=by omega
 have hwat:IntKind.i64.wrap f.at_=f.at_:=IntWalk.i64_in _ (by omega)
 obtain⟨c,an,hA,hop⟩:=sU hgood
 rw[hA]at hcc
 generalize (Cod.atS k.code.data.toList f.at_).operand=ao at hA hop hcc
 clear hgood
 have HCC:=kH hcc
 clear hcc
 have HOP:=kH hop
 have HAT:=kH (fun(Ds:List aw) (W:World) (S:ah w0 X Ds W)=>oK S ht hX (by have:=hI.kok.code;omega) hA)
 clear hS hok hI hmem hA S1 hin hop
 obtain⟨code,hcode⟩:∃ code,k.code=code:=⟨_,rfl⟩
 obtain⟨at_,hatx⟩:∃ at_,f.at_=at_:=⟨_,rfl⟩
 have HCODE:=kH hcode
 have HATX:=kH hatx
 rw[hcode]at c9 HAT hcs hnl
 rw[hatx]at c15 HAT hnn hnl hwat
 clear hcode hatx
 unfold aB ptr at *
 go_enter Tryz.func45,Tryz.ntmps45
 go_wp2_with fail
 go_quiet(fail)
 go_upto_region 4 with(fail)
 have S2:=HS1.out.drewN nq
 generalize (w.alloc (.cells #[.int .i64 0,.int .i64 0,.int .i64 0,.bool false] 35 (0,0))).drewN nq=W1 at *
 have d9:=S2.cell 9
 have d15:=S2.cell 15
 simp only[aH,gA,gZ,gS,HCODE.out,HATX.out]at d9 d15
 have hlt1:=af S2.h0
 have HS2:=kH S2
 clear S2 c9 c15 hlt HS1
 go_cut[8,9,10]from 14 to 174 (fun v8 v9 v10 wc=>∃ b8,v8=.pointer (some ⟨b8,0,none⟩)/\v9=.int .i64 an/\v10=.int .i64 0/\ah w0 X (ag b8 (fa c ao)::jC x k f st cs ts old t F (aG p m L F2::ag w.heap.size aB::cx f.rv k.regs::Cs)) wc)
 case first =>
  have hne1:x≠W1.heap.size:=Nat.ne_of_lt hlt1
  have hne2:W1.heap.size≠x:=Ne.symm hne1
  go_region_held3 (fun w'=>w'.cell? ⟨x,9,none⟩=some (.string code)/\w'.cell? ⟨x,15,none⟩=some (.int .i64 at_)) (go_keep) (first|(go_at_call 63;(first|refine(HAT.out _ _ HS2.out).mono ?_|refine(HAT.out _ _ (HS2.out.drewN _)).mono ?_);rintro e1 w1 ⟨rfl,S3⟩;have e9:=S3.cell 9;have e15:=S3.cell 15;simp only[aH,gA,gZ,gS,HCODE.out,HATX.out]at e9 e15;have HS3:=kH S3;clear S3)|(go_at_call 63;refine(HAT.out _ _ ((HS2.out.new (fa 0 0)).drewN _)).mono ?_;rintro e1 w1 ⟨rfl,S4⟩;have y0:=S4.cell 0;have y1:=S4.cell 1;have z0:=S4.froz 0;have z1:=S4.froz 1;simp only[gA,gZ,gS]at y0 y1;have e9:=(S4.pull [_]).cell 9;have e15:=(S4.pull [_]).cell 15;simp only[aH,gA,gZ,gS,HCODE.out,HATX.out]at e9 e15;have HS4:=kH S4;clear S4))
  all_goals
   go_wp2
   go_meet
   case rel =>
    first
     | exact⟨_,rfl,rfl,rfl,HS3.out.new (fa c ao)⟩
     | exact⟨_,rfl,rfl,rfl,((HS4.out.set 0 (.int .i64 c)).set 1 (.int .i64 ao)).eqO (by simp)⟩
 case rest =>
  obtain⟨b8,rfl,rfl,rfl,S5⟩:=hcut
  clear HAT d9 d15 HS2
  have hc40:=HOP.out.code
  have hc32:c<=32:=by have:=HCC.out;omega
  have HW:=kH (mB (((((S5.pull [_,_,_,_,_]).pull [_,_,_,_,_]).pull [_,_,_,_,_]).pull [_,_,_,_,_]).pull [_,_,_,_,_]) c hc32 ao)
  have b0:=S5.cell 0
  have b1:=S5.cell 1
  simp only[gA,gZ,gS]at b0 b1
  have hlt5:=af S5.h0
  have hltx5:=af (S5.pull [_]).h0
  clear S5
  have htk:iZ c<=2:=zl c hc32
  have hpt:je c<=3:=zv c hc32
  generalize htkn:iZ c=tk at *
  generalize hptn:je c=pt at *
  have HTK:=kH (And.intro htkn hptn)
  clear htkn hptn
  unfold ew ptr at HW
  go_wp2_with fail
  refine HW.out.mono ?_
  rintro e1 w1 ⟨d0,d1,d2,d3,d4,d5,d6,d7,d8,d9,d10,d11,d12,d13,rfl,S6⟩
  have hdv:(jA d0 d1 d2 d3 d4 d5 d6 d7 d8 d9 d10 d11 d12 d13).getD c .nilFunc=.nilFunc:=by
   rcases(show c=0\/c=30\/c=31\/c=32 by have:=HCC.out;omega)with rfl|rfl|rfl|rfl<;>rfl
  rw[hdv]
  have S6':ah w0 X (pC x k f st cs ts (ag b8 (fa c ao)::bW f.ov (bb old)::jQ f.tx t F::aG p m L F2::ag w.heap.size aB::cx f.rv k.regs::Cs)) w1:=ah.dropN [ag x (bm k f),cI f.sv st,cI f.cv cs,cI f.tv ts,cI f.av k.args] (ch d0 d1 d2 d3 d4 d5 d6 d7 d8 d9 d10 d11 d12 d13) S6
  have S7:=S6'.new (.cells #[.int .i64 tk,.int .i64 pt,.nilFunc] 140 (0,0))
  have S8:=S6'.pull [_,_,_,_,_]
  have b0':=S8.cell 0
  have b1':=S8.cell 1
  simp only[gA,gZ,gS]at b0' b1'
  have hlt6:=af S8.h0
  have hltx6:=af S6'.h0
  have HS7:=kH S7
  have HF:=kH (gw (n:=none) (caps:=#[]) S7.drop HOK.out c ao tk pt ⟨by omega,by omega⟩ ⟨by omega,by omega⟩)
  clear S6 S6' S7 S8 HW b0 b1 hdv
  unfold ew yw at HF
  go_wp2_with fail
  refine HF.out.mono ?_
  rintro e2 w2 ⟨hbel,fb,rfl,hfb⟩
  have S9:=HS7.out.below hbel
  have HFB:=kH hfb
  have HS9:=kH S9
  have x0:=S9.cell 0
  have S10:=S9.pull [_,_,_,_,_,_]
  have y0:=S10.cell 0
  have y1:=S10.cell 1
  simp only[gA,gZ,gS]at x0 y0 y1
  have hlt9:=af S9.h0
  have hlt10:=af S10.h0
  have hltx9:=af (S9.pull [_]).h0
  clear S9 S10 HF hbel hfb HS7 b0' b1'
  cases fb
  ·obtain⟨hf1,hf2,-⟩:=HFB.out rfl
   rcases(show c=0\/c=30 by have:=HCC.out;omega)with rfl|rfl
   ·
    have HWN:=kH (ia (y:=⟨4,0,0,0⟩) ((((((((((((HS9.out.pull [_,_,_,_,_,_,_,_,_,_,_]).pull [_,_,_,_,_,_,_,_,_,_,_]).pull [_,_,_,_,_,_,_,_]).pull [_,_,_]).pull [_,_,_,_,_,_,_,_,_,_,_]).pull [_,_,_,_,_,_,_,_,_,_,_]).pull [_,_,_,_,_,_,_,_,_,_,_]).pull [_,_,_,_,_,_,_,_,_,_,_]).pull [_,_,_,_,_,_,_,_,_,_,_]).pull [_,_,_,_,_,_,_,_,_,_,_]).pull [_,_,_,_,_,_,_,_,_,_,_]).pull [_,_,_,_,_,_,_,_,_,_,_]) HOK.out HI.out.begun HI.out.word HI.out.nth HI.out.kok.tries HI.out.over .ends (by simp) (by simp) HI.out.kok.cfg HI.out.tx HI.out.way (o7 HI.out.tx HI.out.phase) aK (by omega) (by omega) (by omega) th)
    unfold dE eb.val ptr at HWN
    simp only at HWN
    go_wp2_with fail
    refine HWN.out.mono ?_
    rintro e8 w8 hwp
    have hgp:=(cr (hi:=hi) HI.out.kok.cfg HM.out HI.out.tx HI.out.way HI.out.phase (o7 HI.out.tx HI.out.phase) (by decide) aK (by decide) HI.out.ask rfl hwp).sub fun Ps W h=>ah.dropN Ps [_,_] h
    obtain⟨an',rfl,hbox⟩:=hgp.blk
    obtain⟨⟨a0,a1,a2,a3⟩,⟨g0,g1,g2,g3⟩⟩:=cw hbox
    unfold aM.val
    have HGP:=kH hgp
    clear hgp hbox
    go_wp2
    exact ce.ret (Nat.le_succ _) an' rfl HGP.out rfl rfl
   ·
    have HAB:=kH (dL ((((((((((((HS9.out.pull [_,_,_,_,_,_,_,_,_,_,_]).pull [_,_,_,_,_,_,_,_,_,_,_]).pull [_,_,_,_,_,_,_,_]).pull [_,_,_]).pull [_,_,_,_,_,_,_,_,_,_,_]).pull [_,_,_,_,_,_,_,_,_,_,_]).pull [_,_,_,_,_,_,_,_,_,_,_]).pull [_,_,_,_,_,_,_,_,_,_,_]).pull [_,_,_,_,_,_,_,_,_,_,_]).pull [_,_,_,_,_,_,_,_,_,_,_]).pull [_,_,_,_,_,_,_,_,_,_,_]).pull [_,_,_,_,_,_,_,_,_,_,_]) HOK.out HI.out.begun HI.out.word HI.out.nth HI.out.kok.tries HI.out.over HI.out.kok.cfg HI.out.tx HI.out.way 8 (bT HI.out.tx HI.out.phase (.inl rfl)) (by omega) (by omega) (by omega) th)
    unfold ptr at HAB
    go_wp2_with fail
    refine HAB.out.mono ?_
    rintro e8 w8 hwp
    have hgp:=(cr (hi:=hi) HI.out.kok.cfg HM.out HI.out.tx HI.out.way HI.out.phase (bT HI.out.tx HI.out.phase (.inl rfl)) (by decide) aK (by decide) HI.out.ask rfl hwp).sub fun Ps W h=>ah.dropN Ps [_,_] h
    obtain⟨an',rfl,hbox⟩:=hgp.blk
    obtain⟨⟨a0,a1,a2,a3⟩,⟨g0,g1,g2,g3⟩⟩:=cw hbox
    unfold aM.val
    have HGP:=kH hgp
    clear hgp hbox
    go_wp2
    exact ce.ret (Nat.le_succ _) an' rfl HGP.out rfl rfl
  ·
   have HAB:=kH (dL ((((((((((((HS9.out.pull [_,_,_,_,_,_,_,_,_,_,_]).pull [_,_,_,_,_,_,_,_,_,_,_]).pull [_,_,_,_,_,_,_,_]).pull [_,_,_]).pull [_,_,_,_,_,_,_,_,_,_,_]).pull [_,_,_,_,_,_,_,_,_,_,_]).pull [_,_,_,_,_,_,_,_,_,_,_]).pull [_,_,_,_,_,_,_,_,_,_,_]).pull [_,_,_,_,_,_,_,_,_,_,_]).pull [_,_,_,_,_,_,_,_,_,_,_]).pull [_,_,_,_,_,_,_,_,_,_,_]).pull [_,_,_,_,_,_,_,_,_,_,_]) HOK.out HI.out.begun HI.out.word HI.out.nth HI.out.kok.tries HI.out.over HI.out.kok.cfg HI.out.tx HI.out.way 7 (bT HI.out.tx HI.out.phase (.inr rfl)) (by omega) (by omega) (by omega) th)
   unfold ptr at HAB
   go_wp2_with fail
   refine HAB.out.mono ?_
   rintro e8 w8 hwp
   have hgp:=(cr (hi:=hi) HI.out.kok.cfg HM.out HI.out.tx HI.out.way HI.out.phase (bT HI.out.tx HI.out.phase (.inr rfl)) (by decide) aK (by decide) HI.out.ask rfl hwp).sub fun Ps W h=>ah.dropN Ps [_,_] h
   obtain⟨an',rfl,hbox⟩:=hgp.blk
   obtain⟨⟨a0,a1,a2,a3⟩,⟨g0,g1,g2,g3⟩⟩:=cw hbox
   unfold aM.val
   have HGP:=kH hgp
   clear hgp hbox
   go_wp2
   exact ce.ret (Nat.le_succ _) an' rfl HGP.out rfl rfl
end
section
variable {w0:World}{X:List Nat}{Cs:List aw}{w:World}{x p L:Nat}{k:cl}{f:PF}{st cs ts:List Int}{t:bZ}{F F2:List Nat}{old:List bM}{m:au}{hi:Int}
theorem BO(hS:ah w0 X (jC x k f st cs ts old t F (aG p m L F2::cx f.rv k.regs::Cs)) w)(hok:bX st cs ts)(hI:jX k hi f m t)(ht:Cod.Tabled w0)(hX:0∉X)(hn:t.told.length<=1073740000)(ho:old.length+t.told.length<=1073740000)(hL:L<=1073740000)(th:Int)(hin:0<=f.at_/\f.at_<k.code.size)(hgood:(Cod.atS k.code.data.toList f.at_).err=0)(hcc:(Cod.atS k.code.data.toList f.at_).code=31) :
  Calls Tryz.prog 45 #[ptr x,ptr p,.int .i64 th] w (cC w0 X (cx f.rv k.regs::Cs) x p L k f.rv old t m hi):=by
 have S1:ah w0 X (jC x k f st cs ts old t F (aG p m L F2::ag w.heap.size aB::cx f.rv k.regs::Cs)) (w.alloc aB):=(hS.new aB).push [_,_,_,_,_,_,_,_]
 have hmem:aY m:=(S1.turn [_,_,_,_,_,_,_] [_]).h0.ok
 have c9:=S1.cell 9
 have c15:=S1.cell 15
 simp only[aH,gA,gZ,gS]at c9 c15
 have hlt:=af S1.h0
 have HI:=kH hI
 have HM:=kH hmem
 have HOK:=kH hok
 have HS1:=kH S1
 have hcs:(k.code.size:Int)<=512:=by have:=hI.kok.code;omega
 have hnn:¬f.at_<0:=by omega
 have hnl:¬(k.code.size:Int)<=f.at_:=by omega
 have hwat:IntKind.i64.wrap f.at_=f.at_:=IntWalk.i64_in _ (by omega)
 obtain⟨c,an,hA,hop⟩:=sU hgood
 rw[hA]at hcc
 generalize (Cod.atS k.code.data.toList f.at_).operand=ao at hA hop hcc
 clear hgood
 have HCC:=kH hcc
 clear hcc
 have HOP:=kH hop
 have HAT:=kH (fun(Ds:List aw) (W:World) (S:ah w0 X Ds W)=>oK S ht hX (by have:=hI.kok.code;omega) hA)
 clear hS hok hI hmem hA S1 hin hop
 obtain⟨code,hcode⟩:∃ code,k.code=code:=⟨_,rfl⟩
 obtain⟨at_,hatx⟩:∃ at_,f.at_=at_:=⟨_,rfl⟩
 have HCODE:=kH hcode
 have HATX:=kH hatx
 rw[hcode]at c9 HAT hcs hnl
 rw[hatx]at c15 HAT hnn hnl hwat
 clear hcode hatx
 unfold aB ptr at *
 go_enter Tryz.func45,Tryz.ntmps45
 go_wp2_with fail
 go_quiet(fail)
 go_upto_region 4 with(fail)
 have S2:=HS1.out.drewN nq
 generalize (w.alloc (.cells #[.int .i64 0,.int .i64 0,.int .i64 0,.bool false] 35 (0,0))).drewN nq=W1 at *
 have d9:=S2.cell 9
 have d15:=S2.cell 15
 simp only[aH,gA,gZ,gS,HCODE.out,HATX.out]at d9 d15
 have hlt1:=af S2.h0
 have HS2:=kH S2
 clear S2 c9 c15 hlt HS1
 go_cut[8,9,10]from 14 to 174 (fun v8 v9 v10 wc=>∃ b8,v8=.pointer (some ⟨b8,0,none⟩)/\v9=.int .i64 an/\v10=.int .i64 0/\ah w0 X (ag b8 (fa c ao)::jC x k f st cs ts old t F (aG p m L F2::ag w.heap.size aB::cx f.rv k.regs::Cs)) wc)
 case first =>
  have hne1:x≠W1.heap.size:=Nat.ne_of_lt hlt1
  have hne2:W1.heap.size≠x:=Ne.symm hne1
  go_region_held3 (fun w'=>w'.cell? ⟨x,9,none⟩=some (.string code)/\w'.cell? ⟨x,15,none⟩=some (.int .i64 at_)) (go_keep) (first|(go_at_call 63;(first|refine(HAT.out _ _ HS2.out).mono ?_|refine(HAT.out _ _ (HS2.out.drewN _)).mono ?_);rintro e1 w1 ⟨rfl,S3⟩;have e9:=S3.cell 9;have e15:=S3.cell 15;simp only[aH,gA,gZ,gS,HCODE.out,HATX.out]at e9 e15;have HS3:=kH S3;clear S3)|(go_at_call 63;refine(HAT.out _ _ ((HS2.out.new (fa 0 0)).drewN _)).mono ?_;rintro e1 w1 ⟨rfl,S4⟩;have y0:=S4.cell 0;have y1:=S4.cell 1;have z0:=S4.froz 0;have z1:=S4.froz 1;simp only[gA,gZ,gS]at y0 y1;have e9:=(S4.pull [_]).cell 9;have e15:=(S4.pull [_]).cell 15;simp only[aH,gA,gZ,gS,HCODE.out,HATX.out]at e9 e15;have HS4:=kH S4;clear S4))
  all_goals
   go_wp2
   go_meet
   case rel =>
    first
     | exact⟨_,rfl,rfl,rfl,HS3.out.new (fa c ao)⟩
     | exact⟨_,rfl,rfl,rfl,((HS4.out.set 0 (.int .i64 c)).set 1 (.int .i64 ao)).eqO (by simp)⟩
 case rest =>
  obtain⟨b8,rfl,rfl,rfl,S5⟩:=hcut
  clear HAT d9 d15 HS2
  have hc40:=HOP.out.code
  have hc32:c<=32:=by have:=HCC.out;omega
  have HW:=kH (mB (((((S5.pull [_,_,_,_,_]).pull [_,_,_,_,_]).pull [_,_,_,_,_]).pull [_,_,_,_,_]).pull [_,_,_,_,_]) c hc32 ao)
  have b0:=S5.cell 0
  have b1:=S5.cell 1
  simp only[gA,gZ,gS]at b0 b1
  have hlt5:=af S5.h0
  have hltx5:=af (S5.pull [_]).h0
  clear S5
  have htk:iZ c<=2:=zl c hc32
  have hpt:je c<=3:=zv c hc32
  generalize htkn:iZ c=tk at *
  generalize hptn:je c=pt at *
  have HTK:=kH (And.intro htkn hptn)
  clear htkn hptn
  unfold ew ptr at HW
  go_wp2_with fail
  refine HW.out.mono ?_
  rintro e1 w1 ⟨d0,d1,d2,d3,d4,d5,d6,d7,d8,d9,d10,d11,d12,d13,rfl,S6⟩
  have hdv:(jA d0 d1 d2 d3 d4 d5 d6 d7 d8 d9 d10 d11 d12 d13).getD c .nilFunc=.nilFunc:=by
   rcases(show c=0\/c=30\/c=31\/c=32 by have:=HCC.out;omega)with rfl|rfl|rfl|rfl<;>rfl
  rw[hdv]
  have S6':ah w0 X (pC x k f st cs ts (ag b8 (fa c ao)::bW f.ov (bb old)::jQ f.tx t F::aG p m L F2::ag w.heap.size aB::cx f.rv k.regs::Cs)) w1:=ah.dropN [ag x (bm k f),cI f.sv st,cI f.cv cs,cI f.tv ts,cI f.av k.args] (ch d0 d1 d2 d3 d4 d5 d6 d7 d8 d9 d10 d11 d12 d13) S6
  have S7:=S6'.new (.cells #[.int .i64 tk,.int .i64 pt,.nilFunc] 140 (0,0))
  have S8:=S6'.pull [_,_,_,_,_]
  have b0':=S8.cell 0
  have b1':=S8.cell 1
  simp only[gA,gZ,gS]at b0' b1'
  have hlt6:=af S8.h0
  have hltx6:=af S6'.h0
  have HS7:=kH S7
  have HF:=kH (gw (n:=none) (caps:=#[]) S7.drop HOK.out c ao tk pt ⟨by omega,by omega⟩ ⟨by omega,by omega⟩)
  clear S6 S6' S7 S8 HW b0 b1 hdv
  unfold ew yw at HF
  go_wp2_with fail
  refine HF.out.mono ?_
  rintro e2 w2 ⟨hbel,fb,rfl,hfb⟩
  have S9:=HS7.out.below hbel
  have HFB:=kH hfb
  have HS9:=kH S9
  have x0:=S9.cell 0
  have S10:=S9.pull [_,_,_,_,_,_]
  have y0:=S10.cell 0
  have y1:=S10.cell 1
  simp only[gA,gZ,gS]at x0 y0 y1
  have hlt9:=af S9.h0
  have hlt10:=af S10.h0
  have hltx9:=af (S9.pull [_]).h0
  clear S9 S10 HF hbel hfb HS7 b0' b1'
  cases fb
  ·obtain⟨hf1,hf2,-⟩:=HFB.out rfl
   obtain rfl:c=31:=by have:=HCC.out;omega
   have htk1:tk=1:=by rw[<-HTK.out.1];decide
   have hn1:tk<=st.length:=by omega
   have hxl:(st.drop (st.length-tk)).length=1:=by rw[List.length_drop];omega
   obtain⟨v,hv⟩:=len1 hxl
   have HVI:=kH (show aI v from HOK.out.i64 v (List.mem_of_mem_drop (by rw[hv];simp)))
   have HP:=kH (vc (mM ((HS9.out.pull [_,_]).pull [_,_]) (st.length-tk) tk (by omega) (by have:=HOK.out.stl;omega)) hv)
   have HTK1:=kH htk1
   clear hv hxl htk1
   unfold ptr at HP
   go_wp2_with fail
   refine HP.out.mono ?_
   rintro e3 w3 ⟨lv,sv',rfl,S11⟩
   obtain⟨g,cap,rfl,-,-,hglt,g0⟩:=AH S11
   have z0:=(S11.pull [_,_,_,_,_,_,_]).cell 0
   simp only[gA,gZ,gS]at z0
   have HPL:=kH (qy (S11.pull [_]) HI.out.kok.raw v)
   have HWN:=kH (fun cc (h0:0<=cc) (h1:cc<k.raw)=>ia (f:={f with sv:=sv' }) (y:=⟨2,cc,0,0⟩) (((((((((((((S11.pull [_,_,_,_,_,_,_,_,_,_,_,_]).pull [_,_,_,_,_,_,_,_,_,_,_,_]).pull [_,_,_,_,_,_,_,_,_]).pull [_,_,_,_,_,_]).pull [_,_,_,_]).pull [_,_,_,_,_,_,_,_,_,_,_,_]).pull [_,_,_,_,_,_,_,_,_,_,_,_]).pull [_,_,_,_,_,_,_,_,_,_,_,_]).pull [_,_,_,_,_,_,_,_,_,_,_,_]).pull [_,_,_,_,_,_,_,_,_,_,_,_]).pull [_,_,_,_,_,_,_,_,_,_,_,_]).pull [_,_,_,_,_,_,_,_,_,_,_,_]).pull [_,_,_,_,_,_,_,_,_,_,_,_]) ⟨by rw[List.length_take];have:=HOK.out.stl;omega,HOK.out.csl,HOK.out.tsl,fun v hv=>HOK.out.i64 v (List.mem_of_mem_take hv)⟩ HI.out.begun HI.out.word HI.out.nth HI.out.kok.tries HI.out.over .loaded (by simp) (fun _=>by rw[List.length_take];have:=HOK.out.stl;have:=HTK1.out;omega) HI.out.kok.cfg HI.out.tx HI.out.way (js HI.out.tx HI.out.phase (.inl rfl) h0 (by have:=HI.out.kok.rawhi;have:=HI.out.high.1;show cc<_;omega)) aK (by omega) (by omega) (by omega) th)
   have hltb3:=af (S11.pull [_,_,_,_,_,_,_]).h0
   clear S11 HP x0 y0 y1 HS9
   unfold ptr at HPL
   go_wp2_with fail
   refine HPL.out.mono ?_
   rintro e4 w4 ⟨cc,q0,q1,rfl,rfl⟩
   have HW2:=kH (HWN.out cc q0 q1)
   unfold dE eb.val ptr at HW2
   simp only at HW2
   go_wp2_with fail
   refine HW2.out.mono ?_
   rintro e8 w8 hwp
   have hgp:=(cr (f:={f with sv:=sv' }) (y:=⟨2,cc,0,0⟩) (c:=.loaded) (hi:=hi) HI.out.kok.cfg HM.out HI.out.tx HI.out.way HI.out.phase (js HI.out.tx HI.out.phase (.inl rfl) q0 (by have:=HI.out.kok.rawhi;have:=HI.out.high.1;show cc<_;omega)) (by simp) aK (by simp[eb.fin]) HI.out.ask rfl hwp).sub fun Ps W h=>ah.dropN Ps [_,_,_] h
   obtain⟨an',rfl,hbox⟩:=hgp.blk
   obtain⟨⟨a0,a1,a2,a3⟩,⟨g0,g1,g2,g3⟩⟩:=cw hbox
   unfold aM.val
   have HGP:=kH hgp
   clear hgp hbox
   go_wp2
   exact ce.ret (Nat.le_succ _) an' rfl HGP.out rfl rfl
  ·
   have HAB:=kH (dL ((((((((((((HS9.out.pull [_,_,_,_,_,_,_,_,_,_,_]).pull [_,_,_,_,_,_,_,_,_,_,_]).pull [_,_,_,_,_,_,_,_]).pull [_,_,_]).pull [_,_,_,_,_,_,_,_,_,_,_]).pull [_,_,_,_,_,_,_,_,_,_,_]).pull [_,_,_,_,_,_,_,_,_,_,_]).pull [_,_,_,_,_,_,_,_,_,_,_]).pull [_,_,_,_,_,_,_,_,_,_,_]).pull [_,_,_,_,_,_,_,_,_,_,_]).pull [_,_,_,_,_,_,_,_,_,_,_]).pull [_,_,_,_,_,_,_,_,_,_,_]) HOK.out HI.out.begun HI.out.word HI.out.nth HI.out.kok.tries HI.out.over HI.out.kok.cfg HI.out.tx HI.out.way 7 (bT HI.out.tx HI.out.phase (.inr rfl)) (by omega) (by omega) (by omega) th)
   unfold ptr at HAB
   go_wp2_with fail
   refine HAB.out.mono ?_
   rintro e8 w8 hwp
   have hgp:=(cr (hi:=hi) HI.out.kok.cfg HM.out HI.out.tx HI.out.way HI.out.phase (bT HI.out.tx HI.out.phase (.inr rfl)) (by decide) aK (by decide) HI.out.ask rfl hwp).sub fun Ps W h=>ah.dropN Ps [_,_] h
   obtain⟨an',rfl,hbox⟩:=hgp.blk
   obtain⟨⟨a0,a1,a2,a3⟩,⟨g0,g1,g2,g3⟩⟩:=cw hbox
   unfold aM.val
   have HGP:=kH hgp
   clear hgp hbox
   go_wp2
   exact ce.ret (Nat.le_succ _) an' rfl HGP.out rfl rfl
end
section
variable {w0:World}{X:List Nat}{Cs:List aw}{w:World}{x p L:Nat}{k:cl}{f:PF}{st cs ts:List Int}{t:bZ}{F F2:List Nat}{old:List bM}{m:au}{hi:Int}
theorem y8(hS:ah w0 X (jC x k f st cs ts old t F (aG p m L F2::cx f.rv k.regs::Cs)) w)(hok:bX st cs ts)(hI:jX k hi f m t)(ht:Cod.Tabled w0)(hX:0∉X)(hn:t.told.length<=1073740000)(ho:old.length+t.told.length<=1073740000)(hL:L<=1073740000)(th:Int)(hin:0<=f.at_/\f.at_<k.code.size)(hgood:(Cod.atS k.code.data.toList f.at_).err=0)(hcc:(Cod.atS k.code.data.toList f.at_).code=32) :
  Calls Tryz.prog 45 #[ptr x,ptr p,.int .i64 th] w (cC w0 X (cx f.rv k.regs::Cs) x p L k f.rv old t m hi):=by
 have S1:ah w0 X (jC x k f st cs ts old t F (aG p m L F2::ag w.heap.size aB::cx f.rv k.regs::Cs)) (w.alloc aB):=(hS.new aB).push [_,_,_,_,_,_,_,_]
 have hmem:aY m:=(S1.turn [_,_,_,_,_,_,_] [_]).h0.ok
 have c9:=S1.cell 9
 have c15:=S1.cell 15
 simp only[aH,gA,gZ,gS]at c9 c15
 have hlt:=af S1.h0
 have HI:=kH hI
 have HM:=kH hmem
 have HOK:=kH hok
 have HS1:=kH S1
 have hcs:(k.code.size:Int)<=512:=by have:=hI.kok.code;omega
 have hnn:¬f.at_<0:=by omega
 have hnl:¬(k.code.size:Int)<=f.at_:=by omega
 have hwat:IntKind.i64.wrap f.at_=f.at_:=IntWalk.i64_in _ (by omega)
 obtain⟨c,an,hA,hop⟩:=sU hgood
 rw[hA]at hcc
 generalize (Cod.atS k.code.data.toList f.at_).operand=ao at hA hop hcc
 clear hgood
 have HCC:=kH hcc
 clear hcc
 have HOP:=kH hop
 have HAT:=kH (fun(Ds:List aw) (W:World) (S:ah w0 X Ds W)=>oK S ht hX (by have:=hI.kok.code;omega) hA)
 clear hS hok hI hmem hA S1 hin hop
 obtain⟨code,hcode⟩:∃ code,k.code=code:=⟨_,rfl⟩
 obtain⟨at_,hatx⟩:∃ at_,f.at_=at_:=⟨_,rfl⟩
 have HCODE:=kH hcode
 have HATX:=kH hatx
 rw[hcode]at c9 HAT hcs hnl
 rw[hatx]at c15 HAT hnn hnl hwat
 clear hcode hatx
 unfold aB ptr at *
 go_enter Tryz.func45,Tryz.ntmps45
 go_wp2_with fail
 go_quiet(fail)
 go_upto_region 4 with(fail)
 have S2:=HS1.out.drewN nq
 generalize (w.alloc (.cells #[.int .i64 0,.int .i64 0,.int .i64 0,.bool false] 35 (0,0))).drewN nq=W1 at *
 have d9:=S2.cell 9
 have d15:=S2.cell 15
 simp only[aH,gA,gZ,gS,HCODE.out,HATX.out]at d9 d15
 have hlt1:=af S2.h0
 have HS2:=kH S2
 clear S2 c9 c15 hlt HS1
 go_cut[8,9,10]from 14 to 174 (fun v8 v9 v10 wc=>∃ b8,v8=.pointer (some ⟨b8,0,none⟩)/\v9=.int .i64 an/\v10=.int .i64 0/\ah w0 X (ag b8 (fa c ao)::jC x k f st cs ts old t F (aG p m L F2::ag w.heap.size aB::cx f.rv k.regs::Cs)) wc)
 case first =>
  have hne1:x≠W1.heap.size:=Nat.ne_of_lt hlt1
  have hne2:W1.heap.size≠x:=Ne.symm hne1
  go_region_held3 (fun w'=>w'.cell? ⟨x,9,none⟩=some (.string code)/\w'.cell? ⟨x,15,none⟩=some (.int .i64 at_)) (go_keep) (first|(go_at_call 63;(first|refine(HAT.out _ _ HS2.out).mono ?_|refine(HAT.out _ _ (HS2.out.drewN _)).mono ?_);rintro e1 w1 ⟨rfl,S3⟩;have e9:=S3.cell 9;have e15:=S3.cell 15;simp only[aH,gA,gZ,gS,HCODE.out,HATX.out]at e9 e15;have HS3:=kH S3;clear S3)|(go_at_call 63;refine(HAT.out _ _ ((HS2.out.new (fa 0 0)).drewN _)).mono ?_;rintro e1 w1 ⟨rfl,S4⟩;have y0:=S4.cell 0;have y1:=S4.cell 1;have z0:=S4.froz 0;have z1:=S4.froz 1;simp only[gA,gZ,gS]at y0 y1;have e9:=(S4.pull [_]).cell 9;have e15:=(S4.pull [_]).cell 15;simp only[aH,gA,gZ,gS,HCODE.out,HATX.out]at e9 e15;have HS4:=kH S4;clear S4))
  all_goals
   go_wp2
   go_meet
   case rel =>
    first
     | exact⟨_,rfl,rfl,rfl,HS3.out.new (fa c ao)⟩
     | exact⟨_,rfl,rfl,rfl,((HS4.out.set 0 (.int .i64 c)).set 1 (.int .i64 ao)).eqO (by simp)⟩
 case rest =>
  obtain⟨b8,rfl,rfl,rfl,S5⟩:=hcut
  clear HAT d9 d15 HS2
  have hc40:=HOP.out.code
  have hc32:c<=32:=by have:=HCC.out;omega
  have HW:=kH (mB (((((S5.pull [_,_,_,_,_]).pull [_,_,_,_,_]).pull [_,_,_,_,_]).pull [_,_,_,_,_]).pull [_,_,_,_,_]) c hc32 ao)
  have b0:=S5.cell 0
  have b1:=S5.cell 1
  simp only[gA,gZ,gS]at b0 b1
  have hlt5:=af S5.h0
  have hltx5:=af (S5.pull [_]).h0
  clear S5
  have htk:iZ c<=2:=zl c hc32
  have hpt:je c<=3:=zv c hc32
  generalize htkn:iZ c=tk at *
  generalize hptn:je c=pt at *
  have HTK:=kH (And.intro htkn hptn)
  clear htkn hptn
  unfold ew ptr at HW
  go_wp2_with fail
  refine HW.out.mono ?_
  rintro e1 w1 ⟨d0,d1,d2,d3,d4,d5,d6,d7,d8,d9,d10,d11,d12,d13,rfl,S6⟩
  have hdv:(jA d0 d1 d2 d3 d4 d5 d6 d7 d8 d9 d10 d11 d12 d13).getD c .nilFunc=.nilFunc:=by
   rcases(show c=0\/c=30\/c=31\/c=32 by have:=HCC.out;omega)with rfl|rfl|rfl|rfl<;>rfl
  rw[hdv]
  have S6':ah w0 X (pC x k f st cs ts (ag b8 (fa c ao)::bW f.ov (bb old)::jQ f.tx t F::aG p m L F2::ag w.heap.size aB::cx f.rv k.regs::Cs)) w1:=ah.dropN [ag x (bm k f),cI f.sv st,cI f.cv cs,cI f.tv ts,cI f.av k.args] (ch d0 d1 d2 d3 d4 d5 d6 d7 d8 d9 d10 d11 d12 d13) S6
  have S7:=S6'.new (.cells #[.int .i64 tk,.int .i64 pt,.nilFunc] 140 (0,0))
  have S8:=S6'.pull [_,_,_,_,_]
  have b0':=S8.cell 0
  have b1':=S8.cell 1
  simp only[gA,gZ,gS]at b0' b1'
  have hlt6:=af S8.h0
  have hltx6:=af S6'.h0
  have HS7:=kH S7
  have HF:=kH (gw (n:=none) (caps:=#[]) S7.drop HOK.out c ao tk pt ⟨by omega,by omega⟩ ⟨by omega,by omega⟩)
  clear S6 S6' S7 S8 HW b0 b1 hdv
  unfold ew yw at HF
  go_wp2_with fail
  refine HF.out.mono ?_
  rintro e2 w2 ⟨hbel,fb,rfl,hfb⟩
  have S9:=HS7.out.below hbel
  have HFB:=kH hfb
  have HS9:=kH S9
  have x0:=S9.cell 0
  have S10:=S9.pull [_,_,_,_,_,_]
  have y0:=S10.cell 0
  have y1:=S10.cell 1
  simp only[gA,gZ,gS]at x0 y0 y1
  have hlt9:=af S9.h0
  have hlt10:=af S10.h0
  have hltx9:=af (S9.pull [_]).h0
  clear S9 S10 HF hbel hfb HS7 b0' b1'
  cases fb
  ·obtain⟨hf1,hf2,-⟩:=HFB.out rfl
   obtain rfl:c=32:=by have:=HCC.out;omega
   have htk1:tk=2:=by rw[<-HTK.out.1];decide
   have hn1:tk<=st.length:=by omega
   have hxl:(st.drop (st.length-tk)).length=2:=by rw[List.length_drop];omega
   obtain⟨v,v2,hv⟩:=kF hxl
   have HVI:=kH (show aI v2 from HOK.out.i64 v2 (List.mem_of_mem_drop (by rw[hv];simp)))
   have HP:=kH (vc (mM ((HS9.out.pull [_,_]).pull [_,_]) (st.length-tk) tk (by omega) (by have:=HOK.out.stl;omega)) hv)
   have HTK1:=kH htk1
   clear hv hxl htk1
   unfold ptr at HP
   go_wp2_with fail
   refine HP.out.mono ?_
   rintro e3 w3 ⟨lv,sv',rfl,S11⟩
   have z0:=(S11.pull [_,_,_,_,_,_,_]).cell 0
   have c15:=(S11.pull [_]).cell 15
   have f15:=(S11.pull [_]).froz 15
   simp only[aH,gA,gZ,gS]at z0 c15
   have hltb3:=af (S11.pull [_,_,_,_,_,_,_]).h0
   have S12:=(S11.pull [_]).pset (f':={f with sv:=sv',at_:=wrap64 (f.at_+1)}) 15 (.int .i64 (wrap64 (f.at_+1))) (by simp[aH])
   have HS12:=kH S12
   obtain⟨at2,hat2⟩:∃ a,f.at_=a:=⟨_,rfl⟩
   rw[hat2]at c15
   have HAT2:=kH hat2
   clear S11 S12 HP x0 y0 y1 HS9 hat2
   go_upto_region 20 with(fail)
   have S12:=HS12.out
   rw[HAT2.out]at S12
   generalize w3.setCell ⟨x,15,none⟩ (.int .i64 (wrap64 (at2+1)))=W4 at *
   obtain⟨g,cap,rfl,-,-,hglt,g0,g1⟩:=An (S12.pull [_])
   have HPL:=kH (fun q=>qy (S12.drewN q) HI.out.kok.raw v)
   have HWN:=kH (fun q cc (h0:0<=cc) (h1:cc<k.raw)=>ia (f:={f with sv:=sv',at_:=wrap64 (at2+1)}) (y:=⟨3,cc,v2,0⟩) ((((((((((((((S12.pull [_,_,_,_,_,_,_,_,_,_,_,_]).pull [_,_,_,_,_,_,_,_,_,_,_,_]).pull [_,_,_,_,_,_,_,_,_]).pull [_,_,_,_,_,_]).pull [_,_,_,_,_]).pull [_,_,_,_,_,_,_,_,_,_,_,_]).pull [_,_,_,_,_,_,_,_,_,_,_,_]).pull [_,_,_,_,_,_,_,_,_,_,_,_]).pull [_,_,_,_,_,_,_,_,_,_,_,_]).pull [_,_,_,_,_,_,_,_,_,_,_,_]).pull [_,_,_,_,_,_,_,_,_,_,_,_]).pull [_,_,_,_,_,_,_,_,_,_,_,_]).pull [_,_,_,_,_,_,_,_,_,_,_,_]).drewN q) ⟨by rw[List.length_take];have:=HOK.out.stl;omega,HOK.out.csl,HOK.out.tsl,fun v hv=>HOK.out.i64 v (List.mem_of_mem_take hv)⟩ HI.out.begun HI.out.word HI.out.nth HI.out.kok.tries HI.out.over .nothing (by simp) (by simp) HI.out.kok.cfg HI.out.tx HI.out.way (js HI.out.tx HI.out.phase (.inr rfl) h0 (by have:=HI.out.kok.rawhi;have:=HI.out.high.1;show cc<_;omega)) HVI.out (by omega) (by omega) (by omega) th)
   clear S12 HS12 c15 f15 z0
   unfold dE eb.val ptr at *
   simp only at HPL HWN
   go_region_law(first|(go_simp;go_at_call 68;refine(HPL.out _).mono ?_;rintro e4 w4 ⟨cc,q0,q1,rfl,rfl⟩)|(go_simp;go_at_call 40;refine(HWN.out _ _ q0 q1).mono ?_;rintro e8 w8 hwp;have hgp:=(cr (f:={f with sv:=sv',at_:=wrap64 (at2+1)}) (y:=⟨3,cc,v2,0⟩) (c:=.nothing) (hi:=hi) HI.out.kok.cfg HM.out HI.out.tx HI.out.way HI.out.phase (js HI.out.tx HI.out.phase (.inr rfl) q0 (by have:=HI.out.kok.rawhi;have:=HI.out.high.1;show cc<_;omega)) (by simp) HVI.out (by simp[eb.fin]) HI.out.ask rfl hwp).sub fun Ps W h=>ah.dropN Ps [_,_,_] h;obtain⟨an',rfl,hbox⟩:=hgp.blk;obtain⟨⟨a0,a1,a2,a3⟩,⟨g0,g1,g2,g3⟩⟩:=cw hbox;unfold aM.val;have HGP:=kH hgp;clear hgp hbox))
   all_goals
    go_wp2
    exact ce.ret (Nat.le_succ _) an' rfl HGP.out rfl rfl
  ·
   have HAB:=kH (dL ((((((((((((HS9.out.pull [_,_,_,_,_,_,_,_,_,_,_]).pull [_,_,_,_,_,_,_,_,_,_,_]).pull [_,_,_,_,_,_,_,_]).pull [_,_,_]).pull [_,_,_,_,_,_,_,_,_,_,_]).pull [_,_,_,_,_,_,_,_,_,_,_]).pull [_,_,_,_,_,_,_,_,_,_,_]).pull [_,_,_,_,_,_,_,_,_,_,_]).pull [_,_,_,_,_,_,_,_,_,_,_]).pull [_,_,_,_,_,_,_,_,_,_,_]).pull [_,_,_,_,_,_,_,_,_,_,_]).pull [_,_,_,_,_,_,_,_,_,_,_]) HOK.out HI.out.begun HI.out.word HI.out.nth HI.out.kok.tries HI.out.over HI.out.kok.cfg HI.out.tx HI.out.way 7 (bT HI.out.tx HI.out.phase (.inr rfl)) (by omega) (by omega) (by omega) th)
   unfold ptr at HAB
   go_wp2_with fail
   refine HAB.out.mono ?_
   rintro e8 w8 hwp
   have hgp:=(cr (hi:=hi) HI.out.kok.cfg HM.out HI.out.tx HI.out.way HI.out.phase (bT HI.out.tx HI.out.phase (.inr rfl)) (by decide) aK (by decide) HI.out.ask rfl hwp).sub fun Ps W h=>ah.dropN Ps [_,_] h
   obtain⟨an',rfl,hbox⟩:=hgp.blk
   obtain⟨⟨a0,a1,a2,a3⟩,⟨g0,g1,g2,g3⟩⟩:=cw hbox
   unfold aM.val
   have HGP:=kH hgp
   clear hgp hbox
   go_wp2
   exact ce.ret (Nat.le_succ _) an' rfl HGP.out rfl rfl
end
end Go.Proofs.YtgfogfciobmmpaaGreatDoor
