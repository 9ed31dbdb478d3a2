/- A part of the proof of a law of carouseltop: Inst7 NewP. -/
import Derived.Test.YtgfogfciobmmpaaGreatDoorBBd
import Derived.Deep.RegionHeld3
set_option linter.unusedSimpArgs false
set_option linter.unusedVariables false
set_option maxRecDepth 100000
set_option maxHeartbeats 8000000
namespace Go.Proofs.YtgfogfciobmmpaaGreatDoor
open Go.RowKit
section
variable {w0:World}{X:List Nat}{Cs:List aw}{w:World}{x p L:Nat}{k:cl}{f:PF}{st cs ts:List Int}{t:bZ}{F F2:List Nat}{old:List bM}{m:au}{hi:Int}
theorem dv_fun:∀ c:Nat,1<=c->c<=29->∀ b0 b1 b2 b3 b4 b5 b6 b7 b8 b9 b10 b11 b12 b13,∃ n caps,(jA b0 b1 b2 b3 b4 b5 b6 b7 b8 b9 b10 b11 b12 b13).getD c .nilFunc=.func (.func n) #[] caps
 | 1,_,_=>fun _ _ _ _ _ _ _ _ _ _ _ _ _ _=>⟨_,_,rfl⟩
 | 2,_,_=>fun _ _ _ _ _ _ _ _ _ _ _ _ _ _=>⟨_,_,rfl⟩
 | 3,_,_=>fun _ _ _ _ _ _ _ _ _ _ _ _ _ _=>⟨_,_,rfl⟩
 | 4,_,_=>fun _ _ _ _ _ _ _ _ _ _ _ _ _ _=>⟨_,_,rfl⟩
 | 5,_,_=>fun _ _ _ _ _ _ _ _ _ _ _ _ _ _=>⟨_,_,rfl⟩
 | 6,_,_=>fun _ _ _ _ _ _ _ _ _ _ _ _ _ _=>⟨_,_,rfl⟩
 | 7,_,_=>fun _ _ _ _ _ _ _ _ _ _ _ _ _ _=>⟨_,_,rfl⟩
 | 8,_,_=>fun _ _ _ _ _ _ _ _ _ _ _ _ _ _=>⟨_,_,rfl⟩
 | 9,_,_=>fun _ _ _ _ _ _ _ _ _ _ _ _ _ _=>⟨_,_,rfl⟩
 | 10,_,_=>fun _ _ _ _ _ _ _ _ _ _ _ _ _ _=>⟨_,_,rfl⟩
 | 11,_,_=>fun _ _ _ _ _ _ _ _ _ _ _ _ _ _=>⟨_,_,rfl⟩
 | 12,_,_=>fun _ _ _ _ _ _ _ _ _ _ _ _ _ _=>⟨_,_,rfl⟩
 | 13,_,_=>fun _ _ _ _ _ _ _ _ _ _ _ _ _ _=>⟨_,_,rfl⟩
 | 14,_,_=>fun _ _ _ _ _ _ _ _ _ _ _ _ _ _=>⟨_,_,rfl⟩
 | 15,_,_=>fun _ _ _ _ _ _ _ _ _ _ _ _ _ _=>⟨_,_,rfl⟩
 | 16,_,_=>fun _ _ _ _ _ _ _ _ _ _ _ _ _ _=>⟨_,_,rfl⟩
 | 17,_,_=>fun _ _ _ _ _ _ _ _ _ _ _ _ _ _=>⟨_,_,rfl⟩
 | 18,_,_=>fun _ _ _ _ _ _ _ _ _ _ _ _ _ _=>⟨_,_,rfl⟩
 | 19,_,_=>fun _ _ _ _ _ _ _ _ _ _ _ _ _ _=>⟨_,_,rfl⟩
 | 20,_,_=>fun _ _ _ _ _ _ _ _ _ _ _ _ _ _=>⟨_,_,rfl⟩
 | 21,_,_=>fun _ _ _ _ _ _ _ _ _ _ _ _ _ _=>⟨_,_,rfl⟩
 | 22,_,_=>fun _ _ _ _ _ _ _ _ _ _ _ _ _ _=>⟨_,_,rfl⟩
 | 23,_,_=>fun _ _ _ _ _ _ _ _ _ _ _ _ _ _=>⟨_,_,rfl⟩
 | 24,_,_=>fun _ _ _ _ _ _ _ _ _ _ _ _ _ _=>⟨_,_,rfl⟩
 | 25,_,_=>fun _ _ _ _ _ _ _ _ _ _ _ _ _ _=>⟨_,_,rfl⟩
 | 26,_,_=>fun _ _ _ _ _ _ _ _ _ _ _ _ _ _=>⟨_,_,rfl⟩
 | 27,_,_=>fun _ _ _ _ _ _ _ _ _ _ _ _ _ _=>⟨_,_,rfl⟩
 | 28,_,_=>fun _ _ _ _ _ _ _ _ _ _ _ _ _ _=>⟨_,_,rfl⟩
 | 29,_,_=>fun _ _ _ _ _ _ _ _ _ _ _ _ _ _=>⟨_,_,rfl⟩
 | 0,h,_=>by omega
 | n+30,_,h=>by omega
theorem D5(hS:ah w0 X (jC x k f st cs ts old t F (aG p m L F2::cx f.rv k.regs::Cs)) w)(hok:bX st cs ts)(hI:jX k hi f m t)(ht:Cod.Tabled w0)(hX:0∉X)(hn:t.told.length<=1073740000)(ho:old.length+t.told.length<=1073740000)(hL:L<=1073740000)(th:Int)(hin:0<=f.at_/\f.at_<k.code.size)(hgood:(Cod.atS k.code.data.toList f.at_).err=0)(hcc:1<=(Cod.atS k.code.data.toList f.at_).code/\(Cod.atS k.code.data.toList f.at_).code<=29) :
  Calls Tryz.prog 45 #[ptr x,ptr p,.int .i64 th] w (cC w0 X (cx f.rv k.regs::Cs) x p L k f.rv old t m hi):=by
 have S1:ah w0 X (jC x k f st cs ts old t F (aG p m L F2::ag w.heap.size aB::cx f.rv k.regs::Cs)) (w.alloc aB):=(hS.new aB).push [_,_,_,_,_,_,_,_]
 have hmem:aY m:=(S1.turn [_,_,_,_,_,_,_] [_]).h0.ok
 have c9:=S1.cell 9
 have c15:=S1.cell 15
 simp only[aH,gA,gZ,gS]at c9 c15
 have hlt:=af S1.h0
 have HI:=kH hI
 have HM:=kH hmem
 have HOK:=kH hok
 have HS1:=kH S1
 have hcs:(k.code.size:Int)<=512:=by have:=hI.kok.code;omega
 have hnn:¬f.at_<0:=by omega
 have hnl:¬(k.code.size:Int)<=f.at_:=by omega
 have hwat:IntKind.i64.wrap f.at_=f.at_:=IntWalk.i64_in _ (by omega)
 obtain⟨c,an,hA,hop⟩:=sU hgood
 rw[hA]at hcc
 generalize (Cod.atS k.code.data.toList f.at_).operand=ao at hA hop hcc
 clear hgood
 have HCC:=kH hcc
 clear hcc
 have HOP:=kH hop
 have HAT:=kH (fun(Ds:List aw) (W:World) (S:ah w0 X Ds W)=>oK S ht hX (by have:=hI.kok.code;omega) hA)
 clear hS hok hI hmem hA S1 hin hop
 obtain⟨code,hcode⟩:∃ code,k.code=code:=⟨_,rfl⟩
 obtain⟨at_,hatx⟩:∃ at_,f.at_=at_:=⟨_,rfl⟩
 have HCODE:=kH hcode
 have HATX:=kH hatx
 rw[hcode]at c9 HAT hcs hnl
 rw[hatx]at c15 HAT hnn hnl hwat
 clear hcode hatx
 unfold aB ptr at *
 go_enter Tryz.func45,Tryz.ntmps45
 go_wp2_with fail
 go_quiet(fail)
 go_upto_region 4 with(fail)
 have S2:=HS1.out.drewN nq
 generalize (w.alloc (.cells #[.int .i64 0,.int .i64 0,.int .i64 0,.bool false] 35 (0,0))).drewN nq=W1 at *
 have d9:=S2.cell 9
 have d15:=S2.cell 15
 simp only[aH,gA,gZ,gS,HCODE.out,HATX.out]at d9 d15
 have hlt1:=af S2.h0
 have HS2:=kH S2
 clear S2 c9 c15 hlt HS1
 go_cut[8,9,10]from 14 to 174 (fun v8 v9 v10 wc=>∃ b8,v8=.pointer (some ⟨b8,0,none⟩)/\v9=.int .i64 an/\v10=.int .i64 0/\ah w0 X (ag b8 (fa c ao)::jC x k f st cs ts old t F (aG p m L F2::ag w.heap.size aB::cx f.rv k.regs::Cs)) wc)
 case first =>
  have hne1:x≠W1.heap.size:=Nat.ne_of_lt hlt1
  have hne2:W1.heap.size≠x:=Ne.symm hne1
  go_region_held3 (fun w'=>w'.cell? ⟨x,9,none⟩=some (.string code)/\w'.cell? ⟨x,15,none⟩=some (.int .i64 at_)) (go_keep) (first|(go_at_call 63;(first|refine(HAT.out _ _ HS2.out).mono ?_|refine(HAT.out _ _ (HS2.out.drewN _)).mono ?_);rintro e1 w1 ⟨rfl,S3⟩;have e9:=S3.cell 9;have e15:=S3.cell 15;simp only[aH,gA,gZ,gS,HCODE.out,HATX.out]at e9 e15;have HS3:=kH S3;clear S3)|(go_at_call 63;refine(HAT.out _ _ ((HS2.out.new (fa 0 0)).drewN _)).mono ?_;rintro e1 w1 ⟨rfl,S4⟩;have y0:=S4.cell 0;have y1:=S4.cell 1;have z0:=S4.froz 0;have z1:=S4.froz 1;simp only[gA,gZ,gS]at y0 y1;have e9:=(S4.pull [_]).cell 9;have e15:=(S4.pull [_]).cell 15;simp only[aH,gA,gZ,gS,HCODE.out,HATX.out]at e9 e15;have HS4:=kH S4;clear S4))
  all_goals
   go_wp2
   go_meet
   case rel =>
    first
     | exact⟨_,rfl,rfl,rfl,HS3.out.new (fa c ao)⟩
     | exact⟨_,rfl,rfl,rfl,((HS4.out.set 0 (.int .i64 c)).set 1 (.int .i64 ao)).eqO (by simp)⟩
 case rest =>
  obtain⟨b8,rfl,rfl,rfl,S5⟩:=hcut
  clear HAT d9 d15 HS2
  have hc40:=HOP.out.code
  have hc32:c<=32:=by have:=HCC.out;omega
  have HW:=kH (mB (((((S5.pull [_,_,_,_,_]).pull [_,_,_,_,_]).pull [_,_,_,_,_]).pull [_,_,_,_,_]).pull [_,_,_,_,_]) c hc32 ao)
  have b0:=S5.cell 0
  have b1:=S5.cell 1
  simp only[gA,gZ,gS]at b0 b1
  have hlt5:=af S5.h0
  have hltx5:=af (S5.pull [_]).h0
  clear S5
  have htk:iZ c<=2:=zl c hc32
  have hpt:je c<=3:=zv c hc32
  generalize htkn:iZ c=tk at *
  generalize hptn:je c=pt at *
  have HTK:=kH (And.intro htkn hptn)
  clear htkn hptn
  unfold ew ptr at HW
  go_wp2_with fail
  refine HW.out.mono ?_
  rintro e1 w1 ⟨d0,d1,d2,d3,d4,d5,d6,d7,d8,d9,d10,d11,d12,d13,rfl,S6⟩
  have hc1:1<=c:=by have:=HCC.out;omega
  have hc29:c<=29:=by have:=HCC.out;omega
  obtain⟨nf,caps,hdv⟩:=dv_fun c hc1 hc29 d0 d1 d2 d3 d4 d5 d6 d7 d8 d9 d10 d11 d12 d13
  rw[hdv]
  have HDV:=kH hdv
  have S7:=S6.new (.cells #[.int .i64 tk,.int .i64 pt,.func (.func nf) #[] caps] 140 (0,0))
  have S8:ah w0 X (ag b8 (fa c ao)::pC x k f st cs ts (ch d0 d1 d2 d3 d4 d5 d6 d7 d8 d9 d10 d11 d12 d13++(bW f.ov (bb old)::jQ f.tx t F::aG p m L F2::ag w.heap.size aB::cx f.rv k.regs::Cs))) w1:=S6.pull ([ag x (bm k f),cI f.sv st,cI f.cv cs,cI f.tv ts,cI f.av k.args]++ch d0 d1 d2 d3 d4 d5 d6 d7 d8 d9 d10 d11 d12 d13)
  have b0':=S8.cell 0
  have b1':=S8.cell 1
  simp only[gA,gZ,gS]at b0' b1'
  have hlt6:=af S8.h0
  have hltx6:=af S6.h0
  have HS7:=kH S7
  have HF:=kH (gw (n:=some nf) (caps:=caps) S7.drop HOK.out c ao tk pt ⟨by omega,by omega⟩ ⟨by omega,by omega⟩)
  clear S6 S7 S8 HW b0 b1 hdv
  unfold ew yw at HF
  go_wp2_with fail
  refine HF.out.mono ?_
  rintro e2 w2 ⟨hbel,fb,rfl,hfb⟩
  have S9:=HS7.out.below hbel
  have HFB:=kH hfb
  have HS9:=kH S9
  have x0:=S9.cell 0
  have S10:ah w0 X (ag b8 (fa c ao)::_) w2:=S9.pull ([ag w1.heap.size _,ag x (bm k f),cI f.sv st,cI f.cv cs,cI f.tv ts,cI f.av k.args]++ch d0 d1 d2 d3 d4 d5 d6 d7 d8 d9 d10 d11 d12 d13)
  have y0:=S10.cell 0
  have y1:=S10.cell 1
  simp only[gA,gZ,gS]at x0 y0 y1
  have hlt9:=af S9.h0
  have hlt10:=af S10.h0
  have hltx9:=af (S9.pull [_]).h0
  clear S9 S10 HF hbel hfb HS7 b0' b1'
  cases fb
  ·obtain⟨hf1,hf2,hf3,hf4,hf5⟩:=HFB.out rfl
   have HFF:=kH (And.intro hf3 (And.intro hf4 hf5))
   have HP:=kH (mM ((HS9.out.pull [_,_]).pull [_,_]) (st.length-tk) tk (by omega) (by have:=HOK.out.stl;omega))
   have hc0:((c:Int) == 0)=false:=by simp;omega
   have hc30:((c:Int) == 30)=false:=by simp;omega
   have hc31:((c:Int) == 31)=false:=by simp;omega
   have hc32':((c:Int) == 32)=false:=by simp;omega
   have hc33:¬(32:Int)<(c:Int):=by omega
   clear hf3 hf4 hf5
   unfold ptr at HP
   go_wp2_with fail
   refine HP.out.mono ?_
   rintro e3 w3 ⟨lv,sv',rfl,S11⟩
   have c15:=(S11.pull [_]).cell 15
   have f15:=(S11.pull [_]).froz 15
   simp only[aH,gA,gZ,gS]at c15
   have hltx3:=af (S11.pull [_]).h0
   have S12:=(S11.pull [_]).pset (f':={f with sv:=sv',at_:=wrap64 (f.at_+an)}) 15 (.int .i64 (wrap64 (f.at_+an))) (by simp[aH])
   have HS12:=kH S12
   obtain⟨at2,hat2⟩:∃ a,f.at_=a:=⟨_,rfl⟩
   rw[hat2]at c15
   have HAT2:=kH hat2
   obtain⟨la,lcap,hlv,-⟩:=(show aD w3 2 1 lv (st.drop (st.length-tk)).length (bz (st.drop (st.length-tk)))from S11.h0).slice
   have z0:w3.cell? ⟨b8,0,none⟩=some (.int .i64 c):=(show ah w0 X (ag b8 (fa c ao)::_) w3 from S11.pull ([_,_,_,_,_,_,_]++ch d0 d1 d2 d3 d4 d5 d6 d7 d8 d9 d10 d11 d12 d13)).cell 0
   have hltb3:=af (show ah w0 X (ag b8 (fa c ao)::_) w3 from S11.pull ([_,_,_,_,_,_,_]++ch d0 d1 d2 d3 d4 d5 d6 d7 d8 d9 d10 d11 d12 d13)).h0
   have HLV:=kH hlv
   clear S11 S12 HP x0 y0 y1 HS9 hat2 hlv
   go_upto_region 26 with(fail)
   have S12:=HS12.out
   rw[HAT2.out]at S12
   generalize w3.setCell ⟨x,15,none⟩ (.int .i64 (wrap64 (at2+an)))=W4 at *
   have x2:=(S12.pull [_,_,_]).cell 2
   have S13:ah w0 X (ag b8 (fa c ao)::_) W4:=S12.pull ([_,_,_,_,_,_,_]++ch d0 d1 d2 d3 d4 d5 d6 d7 d8 d9 d10 d11 d12 d13)
   have y0:=S13.cell 0
   have y1:=S13.cell 1
   simp only[gA,gZ,gS]at x2 y0 y1
   have hltb:=af S13.h0
   have hlt11:=af (S12.pull [_,_,_]).h0
   have S14:ah w0 X (pC x k {f with sv:=sv',at_:=wrap64 (at2+an)} (st.take (st.length-tk)) cs ts (cI lv (st.drop (st.length-tk))::(ch d0 d1 d2 d3 d4 d5 d6 d7 d8 d9 d10 d11 d12 d13++(ag b8 (fa c ao)::bW f.ov (bb old)::jQ f.tx t F::aG p m L F2::ag w.heap.size aB::cx f.rv k.regs::Cs)))) W4:=(((((((S12.pull [_]).pull [_,_,_,_,_,_]).pull [_,_,_,_,_,_]).pull [_,_,_,_,_,_]).pull [_,_,_,_,_]).pull [_,_,_,_,_]).pull [_,_,_,_,_,_]).drop
   obtain⟨nf',caps',hdv',hrun,hcalls⟩:=Bc c hc1 hc29 S14 ⟨by rw[List.length_take];have:=HOK.out.stl;omega,HOK.out.csl,HOK.out.tsl,fun v hv=>HOK.out.i64 v (List.mem_of_mem_take hv)⟩ HOP.out (by rw[List.length_drop,HTK.out.1];omega) (fun v hv=>HOK.out.i64 v (List.mem_of_mem_drop hv)) (by rw[List.length_take,HTK.out.2];omega)
    (fun h=>by have:=HFF.out.1 (by rw[h];rfl);have:=HOK.out.csl;omega) (fun h=>by have:=HFF.out.2.1 (by rw[h];rfl);omega) (fun h=>by have:=HFF.out.2.2 (by rw[h];rfl);have:=HOK.out.tsl;omega) HI.out.kok.args HI.out.kok.argI
   have hdd:=HDV.out.symm.trans hdv'
   injection hdd with hd1 _ hd3
   injection hd1 with hd1
   subst hd1 hd3
   have HCL:=kH hcalls
   clear S12 S13 S14 hcalls hdv' HS12 c15 f15 z0
   unfold ew ptr at HCL
   go_wp2_with fail
   refine HCL.out.mono ?_
   rintro e4 w5 ⟨rfl,sv2,cv2,tv2,at3,st2,cs2,ts2,hok2,S15⟩
   have S16:ah w0 X (jC x k {f with sv:=sv2,cv:=cv2,tv:=tv2,at_:=at3} st2 cs2 ts2 old t F (aG p m L F2::ag w.heap.size aB::cx f.rv k.regs::Cs)) w5 :=
    ah.dropN [ag x (bm k {f with sv:=sv2,cv:=cv2,tv:=tv2,at_:=at3}),cI sv2 st2,cI cv2 cs2,cI tv2 ts2,cI f.av k.args] [ag b8 (fa c ao)] (ah.dropN [ag x (bm k {f with sv:=sv2,cv:=cv2,tv:=tv2,at_:=at3}),cI sv2 st2,cI cv2 cs2,cI tv2 ts2,cI f.av k.args] (ch d0 d1 d2 d3 d4 d5 d6 d7 d8 d9 d10 d11 d12 d13)
     (ah.dropN [ag x (bm k {f with sv:=sv2,cv:=cv2,tv:=tv2,at_:=at3}),cI sv2 st2,cI cv2 cs2,cI tv2 ts2,cI f.av k.args] [cI lv (st.drop (st.length-tk))] S15))
   obtain⟨⟨a0,a1,a2,a3⟩,⟨g0,g1,g2,g3⟩⟩:=(S16.pull [_,_,_,_,_,_,_,_]).ansBox
   have HS16:=kH S16
   have HOK2:=kH hok2
   clear S15 S16 hok2 HCL x2 y0 y1
   go_wp2
   refine ah.ret ⟨2,0,0,false⟩ rfl (HS16.out.pull [_,_,_,_,_,_,_,_]) rfl rfl fun W' SF=>⟨⟨2,0,0,false⟩,[],m,.on ⟨t,true,f.came.fin,old⟩,F2,L,by omega,rfl,fun fin=>.quiet rfl HI.out.way (iR.refl t) (Nat.zero_le _) (by simp),{f with sv:=sv2,cv:=cv2,tv:=tv2,at_:=at3},st2,cs2,ts2,F,
    ⟨HOK2.out,HI.out.begun,fun _=>⟨rfl,HI.out.came⟩,HI.out.word,HI.out.nth,fun _ h=>absurd HI.out.way h,HI.out.over,fun h=>nomatch h⟩,rfl,.inl ⟨HI.out.ask,SF⟩⟩
  ·
   have S12:ah w0 X (pC x k f st cs ts (bW f.ov (bb old)::jQ f.tx t F::aG p m L F2::ag w.heap.size aB::cx f.rv k.regs::Cs)) w2:=ah.dropN [ag x (bm k f),cI f.sv st,cI f.cv cs,cI f.tv ts,cI f.av k.args] [ag b8 (fa c ao)] (ah.dropN [ag x (bm k f),cI f.sv st,cI f.cv cs,cI f.tv ts,cI f.av k.args] (ch d0 d1 d2 d3 d4 d5 d6 d7 d8 d9 d10 d11 d12 d13) HS9.out.drop)
   have HAB:=kH (dL S12 HOK.out HI.out.begun HI.out.word HI.out.nth HI.out.kok.tries HI.out.over HI.out.kok.cfg HI.out.tx HI.out.way 7 (bT HI.out.tx HI.out.phase (.inr rfl)) (by omega) (by omega) (by omega) th)
   unfold ptr at HAB
   go_wp2_with fail
   refine HAB.out.mono ?_
   rintro e8 w8 hwp
   have hgp:=(cr (hi:=hi) HI.out.kok.cfg HM.out HI.out.tx HI.out.way HI.out.phase (bT HI.out.tx HI.out.phase (.inr rfl)) (by decide) aK (by decide) HI.out.ask rfl hwp)
   obtain⟨an',rfl,hbox⟩:=hgp.blk
   obtain⟨⟨a0,a1,a2,a3⟩,⟨g0,g1,g2,g3⟩⟩:=cw hbox
   unfold aM.val
   have HGP:=kH hgp
   clear hgp hbox
   go_wp2
   exact ce.ret (Nat.le_succ _) an' rfl HGP.out rfl rfl
end
section
variable {w0:World}{X:List Nat}{Cs:List aw}{w:World}{x:Nat}
def qr(rs:List (Int×Int)):List Value:=rs.flatMap fun r=>[.int .i64 r.1,.int .i64 r.2]
theorem tC:∀ (l:List (Int×Int)) (j:Nat),j<l.length->(qr l)[j*2]?=some (.int .i64 (l.getD j (0,0)).1)/\(qr l)[j*2+1]?=some (.int .i64 (l.getD j (0,0)).2)
 | [],j,h=>by simp at h
 | r::l,0,_=>⟨rfl,rfl⟩
 | r::l,j+1,h=>by
  have ih:=tC l j (by simpa using h)
  have e:qr (r::l)=.int .i64 r.1::.int .i64 r.2::qr l:=rfl
  rw[e,show(j+1)*2=j*2+1+1 by omega]
  exact⟨by simpa using ih.1,by simpa using ih.2⟩
theorem qw{W:World}{rv:Value}{rs:List (Int×Int)}(h:aD W 90 2 rv rs.length (qr rs))(hn:rs.length<=8796093021952):Plc.ReadsR W W.heap.size rv rs:=by
 rcases h.parts with⟨rfl,h2,-⟩|⟨g,cap,rfl,hnc,hcm,hg,hcell⟩
 ·exact⟨hn,none,0,by rw[h2],by omega,by omega,.inl (List.eq_nil_of_length_eq_zero h2)⟩
 ·refine⟨hn,some ⟨g,0,none⟩,cap,rfl,hnc,by unfold maxLen at hcm;omega,.inr ⟨g,0,rfl,hg,fun i hi=>?_⟩⟩
  obtain⟨h1,h2⟩:=tC rs i hi
  exact⟨by rw[Nat.zero_add];exact hcell _ _ h1,by rw[Nat.zero_add];exact hcell _ _ h2⟩
def eA(raw:Int)(rs:List (Int×Int))(n:Nat):List (Int×Int×Int):=(List.range n).map fun i=>((rs.getD i (0,0)).1,raw+Plc.sumSz rs i,(rs.getD i (0,0)).2)
theorem xG(raw:Int)(rs:List (Int×Int))(n:Nat):eA raw rs (n+1)=eA raw rs n++[((rs.getD n (0,0)).1,raw+Plc.sumSz rs n,(rs.getD n (0,0)).2)]:=by
 unfold eA
 rw[List.range_succ,List.map_append]
 rfl
theorem lO(raw:Int)(rs:List (Int×Int))(n:Nat):(eA raw rs n).length=n:=by simp[eA]
theorem tB(l:List (Int×Int×Int))(a b c:Int):cE l++[.int .i64 a,.int .i64 b,.int .i64 c]=cE (l++[(a,b,c)]):=by
 unfold cE
 rw[List.flatMap_append]
 rfl
theorem tA(l:List (Int×Int×Int)):(cE l).length=l.length*3:=by
 induction l with
 | nil=>rfl
 | cons r l ih =>
  have e:cE (r::l)=.int .i64 r.1::.int .i64 r.2.1::.int .i64 r.2.2::cE l:=rfl
  rw[e]
  simp[ih]
  omega
def pf0(rv av:Value):PF:=⟨rv,av,0,0,false,false,0,.slice none 0 0,.slice none 0 0,.slice none 0 0,.no,.nilIface,0,.slice none 0 0,false,0⟩
def BT(c:Plc.Cfg)(rs:List (Int×Int))(code:ByteArray)(xs:List Int):cl:=⟨⟨c.ring,c.writes,c.stamps,c.multi⟩,c.raw,c.tries,c.raw+Plc.sumSz rs rs.length,code,eA c.raw rs rs.length,xs⟩
theorem CY:(Tryz.prog.info? 103).map (fun i=>(i.zero,i.size,i.bytes))=some (some (.agg #[.int .i64 0,.int .i64 0,.int .i64 0]),3,24):=by kernel_rfl
theorem zQ{W:World}{v:Value}{xs:List Int}(h:ah w0 X (cI v xs::Cs) W):∃ a c,v=.slice a xs.length c/\xs.length<=c/\c<=maxLen:=by
 have hr:aD W 2 1 v xs.length (bz xs):=h.h0
 exact hr.slice
def jW(w0:World)(X:List Nat)(Cs:List aw)(k:cl)(e:Ending)(w':World):Prop :=
 ∃ x rv' av' tx F,e=.returned (.tuple #[ptr x,.int .i64 0])/\ah w0 X (jC x k (eS (pf0 rv' av') tx (.slice none 0 0)) [] [] [] [] (cZ k.c.ring k.c.writes k.c.stamps k.c.multi) F (cx rv' k.regs::Cs)) w'
attribute [local go_sem] ip
theorem Cy(hS:ah w0 X Cs w)(c:Plc.Cfg)(rv:Value)(rs:List (Int×Int))(code:ByteArray)(av:Value)(xs:List Int)(hregs:∀ W,aQ X w0 W->aD W 90 2 rv rs.length (qr rs))(hargs:∀ W,aQ X w0 W->aD W 2 1 av xs.length (bz xs))
  (hE:Plc.checkE c rs=0) (hcode:code.size<=512) (hx:xs.length<=4) :
  Calls Tryz.prog 18 #[c.val rv,.string code,av] w (jW w0 X Cs (BT c rs code xs)):=by
 have hf:=of_decide_eq_true (Plc.check_ok hE)
 have hn8:rs.length<=8:=by omega
 have HCELLS:=kH (fun(W:World) (h:aQ X w0 W)=>Plc.Cells_calls W W.heap.size c rv rs (qw (hregs W h) (by omega)) (Nat.le_refl _))
 have HBASE:=kH (fun(W:World) (h:aQ X w0 W) r=>Plc.Base_calls W W.heap.size c rv rs r (qw (hregs W h) (by omega)) (Nat.le_refl _))
 have hcv:Plc.cellsV c rs=.tuple #[.int .i64 (c.raw+Plc.sumSz rs rs.length),.int .i64 0]:=by unfold Plc.cellsV;rw[if_pos hE,hE]
 rw[hcv]at HCELLS
 obtain⟨a,cap,hrv,hcn,hcm⟩:=(hregs w hS.kept).slice
 obtain⟨aa,acap,hav,hacn,hacm⟩:=(hargs w hS.kept).slice
 have HREGS:=kH hregs
 have HARGS:=kH hargs
 have HS:=kH hS
 have HE:=kH hE
 have HF:=kH hf
 clear hS hregs hargs hE hcv hf
 generalize hN:c.raw+Plc.sumSz rs rs.length=N at HCELLS
 have HN:=kH hN
 clear hN
 subst hrv hav
 obtain⟨raw,ring,writes,stamps,multi,tries⟩:=c
 unfold Plc.Cfg.val Plc.Cfg.cells at *
 dsimp only at *
 have hxl:(xs.length:Int)<=4:=by omega
 have hcl:(code.size:Int)<=512:=by omega
 go_enter Tryz.func18,Tryz.ntmps18
 go_wp2_with fail
 have S1:=HS.out.new (.cells #[.int .i64 raw,.int .i64 ring,.int .i64 writes,.int .i64 stamps,.bool multi,.int .i64 tries,.slice a rs.length cap] 24 (0,0))
 refine(HCELLS.out _ S1.kept).mono ?_
 rintro e1 w1 ⟨rfl,hb1⟩
 have S2:=S1.below hb1
 have y0:=S2.cell 0
 have y1:=S2.cell 1
 have y2:=S2.cell 2
 have y3:=S2.cell 3
 have y4:=S2.cell 4
 have y5:=S2.cell 5
 have y6:=S2.cell 6
 simp only[gA,gZ,gS]at y0 y1 y2 y3 y4 y5 y6
 have hlt1:=af S2.h0
 have HCL:=kH (rD S2 (HARGS.out _ S2.kept) (by omega))
 have HCLD:=kH (fun q=>rD (S2.drewN q) (HARGS.out _ (S2.drewN q).kept) (by omega))
 clear S1 S2 hb1 HCELLS
 go_wp2_with fail
 go_region_held3 (fun w'=>w'.cell? ⟨w.heap.size,0,none⟩=some (.int .i64 raw)/\w'.cell? ⟨w.heap.size,1,none⟩=some (.int .i64 ring)/\w'.cell? ⟨w.heap.size,2,none⟩=some (.int .i64 writes)/\w'.cell? ⟨w.heap.size,3,none⟩=some (.int .i64 stamps)/\w'.cell? ⟨w.heap.size,4,none⟩=some (.bool multi)/\w'.cell? ⟨w.heap.size,5,none⟩=some (.int .i64 tries)/\w'.cell? ⟨w.heap.size,6,none⟩=some (.slice a rs.length cap)) (go_keep) (first|(go_at_call 35;(first|refine HCL.out.mono ?_|refine(HCLD.out _).mono ?_);rintro e2 w2 ⟨av',rfl,S3⟩;obtain⟨a9,c9,rfl,-,-⟩:=zQ S3;have z0:=S3.cell1 0;have z1:=S3.cell1 1;have z2:=S3.cell1 2;have z3:=S3.cell1 3;have z4:=S3.cell1 4;have z5:=S3.cell1 5;have z6:=S3.cell1 6;simp only[gA,gZ,gS]at z0 z1 z2 z3 z4 z5 z6;have hltc:=af S3.h1;have HS3:=kH S3;clear S3))
 have S4:=HS3.out.new (.cells #[.int .i64 raw,.int .i64 ring,.int .i64 writes,.int .i64 stamps,.bool multi,.int .i64 tries,.slice none 0 0,.int .i64 N,.slice none 0 0,.string code,.slice a9 xs.length c9,.int .i64 0,.pointer none,.bool false,.bool false,.int .i64 0,.slice none 0 0,.slice none 0 0,.slice none 0 0,.nilFunc,.nilIface,.int .i64 0,.slice none 0 0,.bool false,.int .i64 0] 100 (0,0))
 have S5:=S4.eqB (B:=fY (BT ⟨raw,ring,writes,stamps,multi,tries⟩ rs code xs) (pf0 (.slice none 0 0) (.slice a9 xs.length c9))) (by rw[<-HN.out];rfl)
 have S6:=((S5.nilRow 103 3)).sw
 have HS6:=kH S6
 clear S4 S5 S6 HS3 HCL HCLD y0 y1 y2 y3 y4 y5 y6
 go_wp2_with fail
 go_loopg[45] (rs.length) (fun nn v45 wr=>∃ (i:Nat) (rvv:Value),i<=rs.length/\v45=.int .i64 i/\nn+i=rs.length/\ah w0 X (ag w2.heap.size (qx (BT ⟨raw,ring,writes,stamps,multi,tries⟩ rs code xs) (pf0 rvv (.slice a9 xs.length c9)))::aN 103 3 rvv i (cE (eA raw rs i))::cI (.slice a9 xs.length c9) xs::ag w.heap.size (.cells #[.int .i64 raw,.int .i64 ring,.int .i64 writes,.int .i64 stamps,.bool multi,.int .i64 tries,.slice a rs.length cap] 24 (0,0))::Cs) wr)
 case atStart=>exact⟨0,.slice none 0 0,Nat.zero_le _,rfl,by omega,HS6.out⟩
 case round =>
  obtain⟨i,rvv,hi,rfl,hn,S⟩:=hrel
  have HNN:=kH hn
  clear hn HS6
  by_cases hlt2:i<rs.length
  ·have hrow:=HREGS.out _ S.kept
   obtain⟨q1,q2⟩:=tC rs i hlt2
   rcases hrow.parts with⟨-,h2,-⟩|⟨g,cap',hv,-,-,hg,hcell⟩
   ·omega
   injection hv with hv1 hv2 hv3
   subst hv1
   have g0:=hcell _ _ q1
   have g1:=hcell _ _ q2
   have S2:=S.pull [_,_,_]
   have y0:=S2.cell 0
   have y1:=S2.cell 1
   have y2:=S2.cell 2
   have y3:=S2.cell 3
   have y4:=S2.cell 4
   have y5:=S2.cell 5
   have y6:=S2.cell 6
   have k8:=S.cell 8
   have f8:=S.froz 8
   simp only[fY,pf0,gA,gZ,gS]at y0 y1 y2 y3 y4 y5 y6 k8
   have hltx:=af S.h0
   have hltc2:=af S2.h0
   have HB:=kH (fun(o:Obj)=>HBASE.out _ (S.alloc o).kept (i:Int))
   have HS:=kH S
   have HRO:=kH (xG raw rs i)
   obtain⟨kd,hkd⟩:∃ kd,(rs.getD i (0,0)).1=kd:=⟨_,rfl⟩
   obtain⟨mo,hmo⟩:∃ mo,(rs.getD i (0,0)).2=mo:=⟨_,rfl⟩
   rw[hkd]at g0
   rw[hmo]at g1
   have HKM:=kH (And.intro hkd hmo)
   have hil:(i:Int)<(rs.length:Int):=by omega
   have hcl2:(rs.length:Int)<=(cap:Int):=by omega
   clear S S2 hrow hcell q1 q2 hv2 hv3 hkd hmo
   have hbv:Plc.baseV ⟨raw,ring,writes,stamps,multi,tries⟩ rs (i:Int)=.tuple #[.int .i64 (raw+Plc.sumSz rs i),.int .i64 0]:=by
    unfold Plc.baseV
    rw[if_pos HE.out,if_neg (by omega),Int.toNat_natCast]
   rw[hbv]at HB
   clear hbv
   obtain⟨bs,hbs⟩:∃ bs,raw+Plc.sumSz rs i=bs:=⟨_,rfl⟩
   rw[hbs]at HB
   have HBS:=kH hbs
   clear hbs
   go_wp2_with fail
   refine(HB.out _).mono ?_
   rintro e3 w3 ⟨rfl,hb3⟩
   have S3:=(HS.out.new (.cells #[.int .i64 kd,.int .i64 mo] 90 (0,0))).below hb3
   have b0:=S3.cell 0
   have b1:=S3.cell 1
   have k8:=S3.cell1 8
   have f8:=S3.froz1 8
   simp only[fY,pf0,gA,gZ,gS]at b0 b1 k8
   have hlt3:=af S3.h0
   have hlt4:=af S3.h1
   have HRO2:Hid (aD w3 103 3 rvv i (cE (eA raw rs i))):=S3.h2
   have HS3:=kH S3
   clear S3 hb3 HB g0 g1 y0 y1 y2 y3 y4 y5 y6
   obtain⟨i0,yi,yz0,yz1,yz2⟩:=info_parts CY
   have HLEN:=kH (tA (eA raw rs i))
   have HADD:=kH (tB (eA raw rs i) kd bs mo)
   go_wp2_with fail
   go_region_law(refine step_append_lies _ rfl (.tmp 60) (.tmp 67) 92 rfl 0 103 i0 _ 3 24 Tryz.underlying92 yi yz0 yz1 yz2 rfl (by decide) rvv i (cE (eA raw rs i)) rfl (World.ownsRow.alloc (w:=w3.drewN _) HRO2.out _) ⟨w3.heap.size,0,none⟩ 1 1 [.int .i64 kd,.int .i64 bs,.int .i64 mo] rfl rfl (fun j u hu=>cG (ar rfl) j u hu) (by simp[Value.oneCell']) (by decide) (by unfold maxLen;omega) (by omega) (Nat.zero_le _) _ rfl ?_;intro g5 cap5 w5 hown5 hgrow5 hat5 hgl5;have S5:=(((HS3.out.drewN _).alloc _).pull [_,_]).append hgrow5 hown5 hat5 (Nat.le_refl _);have hcc5:=(S5.pull [_,_]).cell 8;have hcf5:=(S5.pull [_,_]).froz 8;simp only[fY,pf0,gA,gZ,gS]at hcc5;have HS5:=kH S5;clear S5)
   all_goals
    go_wp2
    go_roundg (rs.length-(i+1))
    case measure=>have:=HNN.out;omega
    case rel =>
     refine⟨i+1,.slice (some ⟨g5,0,none⟩) (i+1) cap5,by omega,by go_num,by have:=HNN.out;omega,?_⟩
     have e:cE (eA raw rs (i+1))=cE (eA raw rs i)++[.int .i64 kd,.int .i64 bs,.int .i64 mo]:=by rw[HRO.out,HKM.out.1,HKM.out.2,HBS.out,<-HADD.out]
     rw[e]
     exact((((HS5.out.pull [_,_]).set 8 (.slice (some ⟨g5,0,none⟩) (i+1) cap5)).eqB (B:=fY (BT ⟨raw,ring,writes,stamps,multi,tries⟩ rs code xs) (pf0 (.slice (some ⟨g5,0,none⟩) (i+1) cap5) (.slice a9 xs.length c9))) (by simp[fY,pf0])).pull [_,_]).drop
  ·obtain rfl:i=rs.length:=by omega
   obtain⟨h1,h2,h3,h4,h5,h6,h7,h8,h9,h10,-⟩:=HF.out
   have HAG:=kH (Bp S ⟨⟨h3,h4⟩,⟨h5,h6⟩,⟨h7,h8⟩⟩ rfl (show(0:Int)<=0/\(0:Int)<=1000 by decide))
   clear S h1 h2 h3 h4 h5 h6 h7 h8 h9 h10
   unfold ptr at HAG
   go_wp2_with fail
   refine HAG.out.mono ?_
   rintro e7 w7 ⟨rfl,tx,F',S7⟩
   have HS7:=kH S7
   clear S7 HAG
   go_wp2
   go_ret2
   have S8:=((((HS7.out.nilRow 2 1).nilRow 2 1).nilRow 2 1).nilRow 44 19)
   have S9:=(((((((((S8.pull [_,_,_,_,_,_]).pull [_,_,_,_,_,_]).pull [_,_]).pull [_,_,_,_,_,_,_]).pull [_,_,_,_]).pull [_,_,_,_,_]).pull [_,_,_,_,_,_]).pull [_,_,_,_,_,_,_]).pull [_,_,_,_,_,_,_,_])
   refine⟨w2.heap.size,rvv,.slice a9 xs.length c9,tx,F',rfl,?_⟩
   show ah w0 X (_::_::_::_::_::_::_::aN _ _ rvv (eA raw rs rs.length).length (cE (eA raw rs rs.length))::Cs) _
   rw[lO]
   exact S9.drop
end
end Go.Proofs.YtgfogfciobmmpaaGreatDoor
