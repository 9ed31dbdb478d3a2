/- A part of the proof of the law TopTells: Inst7. -/
import Derived.Test.YtgfogfciobmmpaaGreatDoorPBs
set_option linter.unusedSimpArgs false
set_option linter.unusedVariables false
set_option maxRecDepth 100000
set_option maxHeartbeats 8000000
namespace Go.Proofs.YtgfogfciobmmpaaGreatDoor
section
open Go.RowKit
variable {w0:World} {X:List Nat} {Cs:List Comp} {w:World} {x p L:Nat} {k:PCfg} {f:PF} {st cs ts:List Int} {t:TxD} {F F2:List Nat} {old:List EvD} {m:MemD} {hi:Int}
theorem dv_fun:∀ c:Nat,1≤c→c≤29→∀ b0 b1 b2 b3 b4 b5 b6 b7 b8 b9 b10 b11 b12 b13,∃ n caps,(dvL b0 b1 b2 b3 b4 b5 b6 b7 b8 b9 b10 b11 b12 b13).getD c .nilFunc=.func (.func n) #[] caps
 | 1,_,_=>fun _ _ _ _ _ _ _ _ _ _ _ _ _ _=>⟨_,_,rfl⟩
 | 2,_,_=>fun _ _ _ _ _ _ _ _ _ _ _ _ _ _=>⟨_,_,rfl⟩
 | 3,_,_=>fun _ _ _ _ _ _ _ _ _ _ _ _ _ _=>⟨_,_,rfl⟩
 | 4,_,_=>fun _ _ _ _ _ _ _ _ _ _ _ _ _ _=>⟨_,_,rfl⟩
 | 5,_,_=>fun _ _ _ _ _ _ _ _ _ _ _ _ _ _=>⟨_,_,rfl⟩
 | 6,_,_=>fun _ _ _ _ _ _ _ _ _ _ _ _ _ _=>⟨_,_,rfl⟩
 | 7,_,_=>fun _ _ _ _ _ _ _ _ _ _ _ _ _ _=>⟨_,_,rfl⟩
 | 8,_,_=>fun _ _ _ _ _ _ _ _ _ _ _ _ _ _=>⟨_,_,rfl⟩
 | 9,_,_=>fun _ _ _ _ _ _ _ _ _ _ _ _ _ _=>⟨_,_,rfl⟩
 | 10,_,_=>fun _ _ _ _ _ _ _ _ _ _ _ _ _ _=>⟨_,_,rfl⟩
 | 11,_,_=>fun _ _ _ _ _ _ _ _ _ _ _ _ _ _=>⟨_,_,rfl⟩
 | 12,_,_=>fun _ _ _ _ _ _ _ _ _ _ _ _ _ _=>⟨_,_,rfl⟩
 | 13,_,_=>fun _ _ _ _ _ _ _ _ _ _ _ _ _ _=>⟨_,_,rfl⟩
 | 14,_,_=>fun _ _ _ _ _ _ _ _ _ _ _ _ _ _=>⟨_,_,rfl⟩
 | 15,_,_=>fun _ _ _ _ _ _ _ _ _ _ _ _ _ _=>⟨_,_,rfl⟩
 | 16,_,_=>fun _ _ _ _ _ _ _ _ _ _ _ _ _ _=>⟨_,_,rfl⟩
 | 17,_,_=>fun _ _ _ _ _ _ _ _ _ _ _ _ _ _=>⟨_,_,rfl⟩
 | 18,_,_=>fun _ _ _ _ _ _ _ _ _ _ _ _ _ _=>⟨_,_,rfl⟩
 | 19,_,_=>fun _ _ _ _ _ _ _ _ _ _ _ _ _ _=>⟨_,_,rfl⟩
 | 20,_,_=>fun _ _ _ _ _ _ _ _ _ _ _ _ _ _=>⟨_,_,rfl⟩
 | 21,_,_=>fun _ _ _ _ _ _ _ _ _ _ _ _ _ _=>⟨_,_,rfl⟩
 | 22,_,_=>fun _ _ _ _ _ _ _ _ _ _ _ _ _ _=>⟨_,_,rfl⟩
 | 23,_,_=>fun _ _ _ _ _ _ _ _ _ _ _ _ _ _=>⟨_,_,rfl⟩
 | 24,_,_=>fun _ _ _ _ _ _ _ _ _ _ _ _ _ _=>⟨_,_,rfl⟩
 | 25,_,_=>fun _ _ _ _ _ _ _ _ _ _ _ _ _ _=>⟨_,_,rfl⟩
 | 26,_,_=>fun _ _ _ _ _ _ _ _ _ _ _ _ _ _=>⟨_,_,rfl⟩
 | 27,_,_=>fun _ _ _ _ _ _ _ _ _ _ _ _ _ _=>⟨_,_,rfl⟩
 | 28,_,_=>fun _ _ _ _ _ _ _ _ _ _ _ _ _ _=>⟨_,_,rfl⟩
 | 29,_,_=>fun _ _ _ _ _ _ _ _ _ _ _ _ _ _=>⟨_,_,rfl⟩
 | 0,h,_=>by omega
 | n+30,_,h=>by omega
theorem Inst_dov (hS:Sep w0 X (jC x k f st cs ts old t F (cMem p m L F2::cReg f.rv k.regs::Cs)) w) (hok:StOk st cs ts) (hI:InstOk k hi f m t) (ht:Cod.Tabled w0) (hX:0 ∉ X) (hn:t.told.length≤1073740000) (ho:old.length+t.told.length≤1073740000) (hL:L≤1073740000) (th:Int) (hin:0≤f.at_∧f.at_ < k.code.size) (hgood:(Cod.atS k.code.data.toList f.at_).err=0) (hcc:1≤(Cod.atS k.code.data.toList f.at_).code∧(Cod.atS k.code.data.toList f.at_).code≤29) :
   Calls Tryz.prog 45 #[ptr x,ptr p,.int .i64 th] w (GoesPost1 w0 X (cReg f.rv k.regs::Cs) x p L k f.rv old t m hi):=by
 have S1:Sep w0 X (jC x k f st cs ts old t F (cMem p m L F2::cBlk w.heap.size ans0::cReg f.rv k.regs::Cs)) (w.alloc ans0):=(hS.new ans0).push [_,_,_,_,_,_,_,_]
 have hmem:MemOk m:=(S1.turn [_,_,_,_,_,_,_] [_]).h0.ok
 have c9:=S1.cell 9
 have c15:=S1.cell 15
 simp only [progA,gA,gZ,gS] at c9 c15
 have hlt:=heap_lt S1.h0
 have HI:=kH hI
 have HM:=kH hmem
 have HOK:=kH hok
 have HS1:=kH S1
 have hcs:(k.code.size:Int)≤512:=by have:=hI.kok.code;omega
 have hnn:¬ f.at_ < 0:=by omega
 have hnl:¬ (k.code.size:Int)≤f.at_:=by omega
 have hwat:IntKind.i64.wrap f.at_=f.at_:=IntWalk.i64_in _ (by omega)
 obtain ⟨c,an,hA,hop⟩:=at_ok hgood
 rw [hA] at hcc
 generalize (Cod.atS k.code.data.toList f.at_).operand=ao at hA hop hcc
 clear hgood
 have HCC:=kH hcc
 clear hcc
 have HOP:=kH hop
 have HAT:=kH (fun (Ds:List Comp) (W:World) (S:Sep w0 X Ds W)=>at_sep S ht hX (by have:=hI.kok.code;omega) hA)
 clear hS hok hI hmem hA S1 hin hop
 obtain ⟨code,hcode⟩:∃ code,k.code=code:=⟨_,rfl⟩
 obtain ⟨at_,hatx⟩:∃ at_,f.at_=at_:=⟨_,rfl⟩
 have HCODE:=kH hcode
 have HATX:=kH hatx
 rw [hcode] at c9 HAT hcs hnl
 rw [hatx] at c15 HAT hnn hnl hwat
 clear hcode hatx
 unfold ans0 ptr at *
 go_enter Tryz.func45,Tryz.ntmps45
 go_wp2_with fail
 go_quiet (fail)
 go_upto_region 4 with (fail)
 have S2:=HS1.out.drewN nq
 generalize (w.alloc (.cells #[.int .i64 0,.int .i64 0,.int .i64 0,.bool false] 35 (0,0))).drewN nq=W1 at *
 have d9:=S2.cell 9
 have d15:=S2.cell 15
 simp only [progA,gA,gZ,gS,HCODE.out,HATX.out] at d9 d15
 have hlt1:=heap_lt S2.h0
 have HS2:=kH S2
 clear S2 c9 c15 hlt HS1
 go_cut [8,9,10] from 14 to 174 (fun v8 v9 v10 wc=>∃ b8,v8=.pointer (some ⟨b8,0,none⟩)∧v9=.int .i64 an∧v10=.int .i64 0∧Sep w0 X (cBlk b8 (opO c ao)::jC x k f st cs ts old t F (cMem p m L F2::cBlk w.heap.size ans0::cReg f.rv k.regs::Cs)) wc)
 case first =>
   have hne1:x≠W1.heap.size:=Nat.ne_of_lt hlt1
   have hne2:W1.heap.size≠x:=Ne.symm hne1
   go_region_held3 (fun w'=>w'.cell? ⟨x,9,none⟩=some (.string code)∧w'.cell? ⟨x,15,none⟩=some (.int .i64 at_)) (go_keep) (first | (go_at_call 63;(first | refine (HAT.out _ _ HS2.out).mono ?_ | refine (HAT.out _ _ (HS2.out.drewN _)).mono ?_);rintro e1 w1 ⟨rfl,S3⟩;have e9:=S3.cell 9;have e15:=S3.cell 15;simp only [progA,gA,gZ,gS,HCODE.out,HATX.out] at e9 e15;have HS3:=kH S3;clear S3) | (go_at_call 63;refine (HAT.out _ _ ((HS2.out.new (opO 0 0)).drewN _)).mono ?_;rintro e1 w1 ⟨rfl,S4⟩;have y0:=S4.cell 0;have y1:=S4.cell 1;have z0:=S4.froz 0;have z1:=S4.froz 1;simp only [gA,gZ,gS] at y0 y1;have e9:=(S4.pull [_]).cell 9;have e15:=(S4.pull [_]).cell 15;simp only [progA,gA,gZ,gS,HCODE.out,HATX.out] at e9 e15;have HS4:=kH S4;clear S4))
   all_goals
     go_wp2
     go_meet
     case rel =>
       first
         | exact ⟨_,rfl,rfl,rfl,HS3.out.new (opO c ao)⟩
         | exact ⟨_,rfl,rfl,rfl,((HS4.out.set 0 (.int .i64 c)).set 1 (.int .i64 ao)).eqO (by simp)⟩
 case rest =>
   obtain ⟨b8,rfl,rfl,rfl,S5⟩:=hcut
   clear HAT d9 d15 HS2
   have hc40:=HOP.out.code
   have hc32:c≤32:=by have:=HCC.out;omega
   have HW:=kH (work_low (((((S5.pull [_,_,_,_,_]).pull [_,_,_,_,_]).pull [_,_,_,_,_]).pull [_,_,_,_,_]).pull [_,_,_,_,_]) c hc32 ao)
   have b0:=S5.cell 0
   have b1:=S5.cell 1
   simp only [gA,gZ,gS] at b0 b1
   have hlt5:=heap_lt S5.h0
   have hltx5:=heap_lt (S5.pull [_]).h0
   clear S5
   have htk:tkI c≤2:=tk_le c hc32
   have hpt:ptI c≤3:=pt_le c hc32
   generalize htkn:tkI c=tk at *
   generalize hptn:ptI c=pt at *
   have HTK:=kH (And.intro htkn hptn)
   clear htkn hptn
   unfold opV ptr at HW
   go_wp2_with fail
   refine HW.out.mono ?_
   rintro e1 w1 ⟨d0,d1,d2,d3,d4,d5,d6,d7,d8,d9,d10,d11,d12,d13,rfl,S6⟩
   have hc1:1≤c:=by have:=HCC.out;omega
   have hc29:c≤29:=by have:=HCC.out;omega
   obtain ⟨nf,caps,hdv⟩:=dv_fun c hc1 hc29 d0 d1 d2 d3 d4 d5 d6 d7 d8 d9 d10 d11 d12 d13
   rw [hdv]
   have HDV:=kH hdv
   have S7:=S6.new (.cells #[.int .i64 tk,.int .i64 pt,.func (.func nf) #[] caps] 140 (0,0))
   have S8:Sep w0 X (cBlk b8 (opO c ao)::pC x k f st cs ts (binC d0 d1 d2 d3 d4 d5 d6 d7 d8 d9 d10 d11 d12 d13++(cEv f.ov (bare old)::cTx f.tx t F::cMem p m L F2::cBlk w.heap.size ans0::cReg f.rv k.regs::Cs))) w1:=S6.pull ([cBlk x (progO k f),cI f.sv st,cI f.cv cs,cI f.tv ts,cI f.av k.args]++binC d0 d1 d2 d3 d4 d5 d6 d7 d8 d9 d10 d11 d12 d13)
   have b0':=S8.cell 0
   have b1':=S8.cell 1
   simp only [gA,gZ,gS] at b0' b1'
   have hlt6:=heap_lt S8.h0
   have hltx6:=heap_lt S6.h0
   have HS7:=kH S7
   have HF:=kH (faulty_prog (n:=some nf) (caps:=caps) S7.drop HOK.out c ao tk pt ⟨by omega,by omega⟩ ⟨by omega,by omega⟩)
   clear S6 S7 S8 HW b0 b1 hdv
   unfold opV dvOf at HF
   go_wp2_with fail
   refine HF.out.mono ?_
   rintro e2 w2 ⟨hbel,fb,rfl,hfb⟩
   have S9:=HS7.out.below hbel
   have HFB:=kH hfb
   have HS9:=kH S9
   have x0:=S9.cell 0
   have S10:Sep w0 X (cBlk b8 (opO c ao)::_) w2:=S9.pull ([cBlk w1.heap.size _,cBlk x (progO k f),cI f.sv st,cI f.cv cs,cI f.tv ts,cI f.av k.args]++binC d0 d1 d2 d3 d4 d5 d6 d7 d8 d9 d10 d11 d12 d13)
   have y0:=S10.cell 0
   have y1:=S10.cell 1
   simp only [gA,gZ,gS] at x0 y0 y1
   have hlt9:=heap_lt S9.h0
   have hlt10:=heap_lt S10.h0
   have hltx9:=heap_lt (S9.pull [_]).h0
   clear S9 S10 HF hbel hfb HS7 b0' b1'
   cases fb
   · obtain ⟨hf1,hf2,hf3,hf4,hf5⟩:=HFB.out rfl
     have HFF:=kH (And.intro hf3 (And.intro hf4 hf5))
     have HP:=kH (pop_prog ((HS9.out.pull [_,_]).pull [_,_]) (st.length - tk) tk (by omega) (by have:=HOK.out.stl;omega))
     have hc0:((c:Int) == 0)=false:=by simp;omega
     have hc30:((c:Int) == 30)=false:=by simp;omega
     have hc31:((c:Int) == 31)=false:=by simp;omega
     have hc32':((c:Int) == 32)=false:=by simp;omega
     have hc33:¬ (32:Int) < (c:Int):=by omega
     clear hf3 hf4 hf5
     unfold ptr at HP
     go_wp2_with fail
     refine HP.out.mono ?_
     rintro e3 w3 ⟨lv,sv',rfl,S11⟩
     have c15:=(S11.pull [_]).cell 15
     have f15:=(S11.pull [_]).froz 15
     simp only [progA,gA,gZ,gS] at c15
     have hltx3:=heap_lt (S11.pull [_]).h0
     have S12:=(S11.pull [_]).pset (f':={ f with sv:=sv',at_:=wrap64 (f.at_+an) }) 15 (.int .i64 (wrap64 (f.at_+an))) (by simp [progA])
     have HS12:=kH S12
     obtain ⟨at2,hat2⟩:∃ a,f.at_=a:=⟨_,rfl⟩
     rw [hat2] at c15
     have HAT2:=kH hat2
     obtain ⟨la,lcap,hlv,-⟩:=(show RowAt w3 2 1 lv (st.drop (st.length - tk)).length (ints (st.drop (st.length - tk))) from S11.h0).slice
     have z0:w3.cell? ⟨b8,0,none⟩=some (.int .i64 c):=(show Sep w0 X (cBlk b8 (opO c ao)::_) w3 from S11.pull ([_,_,_,_,_,_,_]++binC d0 d1 d2 d3 d4 d5 d6 d7 d8 d9 d10 d11 d12 d13)).cell 0
     have hltb3:=heap_lt (show Sep w0 X (cBlk b8 (opO c ao)::_) w3 from S11.pull ([_,_,_,_,_,_,_]++binC d0 d1 d2 d3 d4 d5 d6 d7 d8 d9 d10 d11 d12 d13)).h0
     have HLV:=kH hlv
     clear S11 S12 HP x0 y0 y1 HS9 hat2 hlv
     go_upto_region 26 with (fail)
     have S12:=HS12.out
     rw [HAT2.out] at S12
     generalize w3.setCell ⟨x,15,none⟩ (.int .i64 (wrap64 (at2+an)))=W4 at *
     have x2:=(S12.pull [_,_,_]).cell 2
     have S13:Sep w0 X (cBlk b8 (opO c ao)::_) W4:=S12.pull ([_,_,_,_,_,_,_]++binC d0 d1 d2 d3 d4 d5 d6 d7 d8 d9 d10 d11 d12 d13)
     have y0:=S13.cell 0
     have y1:=S13.cell 1
     simp only [gA,gZ,gS] at x2 y0 y1
     have hltb:=heap_lt S13.h0
     have hlt11:=heap_lt (S12.pull [_,_,_]).h0
     have S14:Sep w0 X (pC x k { f with sv:=sv',at_:=wrap64 (at2+an) } (st.take (st.length - tk)) cs ts (cI lv (st.drop (st.length - tk))::(binC d0 d1 d2 d3 d4 d5 d6 d7 d8 d9 d10 d11 d12 d13++(cBlk b8 (opO c ao)::cEv f.ov (bare old)::cTx f.tx t F::cMem p m L F2::cBlk w.heap.size ans0::cReg f.rv k.regs::Cs)))) W4:=(((((((S12.pull [_]).pull [_,_,_,_,_,_]).pull [_,_,_,_,_,_]).pull [_,_,_,_,_,_]).pull [_,_,_,_,_]).pull [_,_,_,_,_]).pull [_,_,_,_,_,_]).drop
     obtain ⟨nf',caps',hdv',hrun,hcalls⟩:=dov_calls c hc1 hc29 S14 ⟨by rw [List.length_take];have:=HOK.out.stl;omega,HOK.out.csl,HOK.out.tsl,fun v hv=>HOK.out.i64 v (List.mem_of_mem_take hv)⟩ HOP.out (by rw [List.length_drop,HTK.out.1];omega) (fun v hv=>HOK.out.i64 v (List.mem_of_mem_drop hv)) (by rw [List.length_take,HTK.out.2];omega)
       (fun h=>by have:=HFF.out.1 (by rw [h];rfl);have:=HOK.out.csl;omega) (fun h=>by have:=HFF.out.2.1 (by rw [h];rfl);omega) (fun h=>by have:=HFF.out.2.2 (by rw [h];rfl);have:=HOK.out.tsl;omega) HI.out.kok.args HI.out.kok.argI
     have hdd:=HDV.out.symm.trans hdv'
     injection hdd with hd1 _ hd3
     injection hd1 with hd1
     subst hd1 hd3
     have HCL:=kH hcalls
     clear S12 S13 S14 hcalls hdv' HS12 c15 f15 z0
     unfold opV ptr at HCL
     go_wp2_with fail
     refine HCL.out.mono ?_
     rintro e4 w5 ⟨rfl,sv2,cv2,tv2,at3,st2,cs2,ts2,hok2,S15⟩
     have S16:Sep w0 X (jC x k { f with sv:=sv2,cv:=cv2,tv:=tv2,at_:=at3 } st2 cs2 ts2 old t F (cMem p m L F2::cBlk w.heap.size ans0::cReg f.rv k.regs::Cs)) w5 :=
       Sep.dropN [cBlk x (progO k { f with sv:=sv2,cv:=cv2,tv:=tv2,at_:=at3 }),cI sv2 st2,cI cv2 cs2,cI tv2 ts2,cI f.av k.args] [cBlk b8 (opO c ao)] (Sep.dropN [cBlk x (progO k { f with sv:=sv2,cv:=cv2,tv:=tv2,at_:=at3 }),cI sv2 st2,cI cv2 cs2,cI tv2 ts2,cI f.av k.args] (binC d0 d1 d2 d3 d4 d5 d6 d7 d8 d9 d10 d11 d12 d13)
         (Sep.dropN [cBlk x (progO k { f with sv:=sv2,cv:=cv2,tv:=tv2,at_:=at3 }),cI sv2 st2,cI cv2 cs2,cI tv2 ts2,cI f.av k.args] [cI lv (st.drop (st.length - tk))] S15))
     obtain ⟨⟨a0,a1,a2,a3⟩,⟨g0,g1,g2,g3⟩⟩:=(S16.pull [_,_,_,_,_,_,_,_]).ansBox
     have HS16:=kH S16
     have HOK2:=kH hok2
     clear S15 S16 hok2 HCL x2 y0 y1
     go_wp2
     refine Sep.ret ⟨2,0,0,false⟩ rfl (HS16.out.pull [_,_,_,_,_,_,_,_]) rfl rfl fun W' SF=>⟨⟨2,0,0,false⟩,[],m,.on ⟨t,true,f.came.fin,old⟩,F2,L,by omega,rfl,fun fin=>.quiet rfl HI.out.way (Quiet.refl t) (Nat.zero_le _) (by simp),{ f with sv:=sv2,cv:=cv2,tv:=tv2,at_:=at3 },st2,cs2,ts2,F,
       ⟨HOK2.out,HI.out.begun,fun _=>⟨rfl,HI.out.came⟩,HI.out.word,HI.out.nth,fun _ h=>absurd HI.out.way h,HI.out.over,fun h=>nomatch h⟩,rfl,.inl ⟨HI.out.ask,SF⟩⟩
   · --FAULTY
     have S12:Sep w0 X (pC x k f st cs ts (cEv f.ov (bare old)::cTx f.tx t F::cMem p m L F2::cBlk w.heap.size ans0::cReg f.rv k.regs::Cs)) w2:=Sep.dropN [cBlk x (progO k f),cI f.sv st,cI f.cv cs,cI f.tv ts,cI f.av k.args] [cBlk b8 (opO c ao)] (Sep.dropN [cBlk x (progO k f),cI f.sv st,cI f.cv cs,cI f.tv ts,cI f.av k.args] (binC d0 d1 d2 d3 d4 d5 d6 d7 d8 d9 d10 d11 d12 d13) HS9.out.drop)
     have HAB:=kH (aborts_prog S12 HOK.out HI.out.begun HI.out.word HI.out.nth HI.out.kok.tries HI.out.over HI.out.kok.cfg HI.out.tx HI.out.way 7 (fits_abort HI.out.tx HI.out.phase (.inr rfl)) (by omega) (by omega) (by omega) th)
     unfold ptr at HAB
     go_wp2_with fail
     refine HAB.out.mono ?_
     rintro e8 w8 hwp
     have hgp:=(goes_of_want (hi:=hi) HI.out.kok.cfg HM.out HI.out.tx HI.out.way HI.out.phase (fits_abort HI.out.tx HI.out.phase (.inr rfl)) (by decide) i64_0 (by decide) HI.out.ask rfl hwp)
     obtain ⟨an',rfl,hbox⟩:=hgp.blk
     obtain ⟨⟨a0,a1,a2,a3⟩,⟨g0,g1,g2,g3⟩⟩:=box4a hbox
     unfold AnsD.val
     have HGP:=kH hgp
     clear hgp hbox
     go_wp2
     exact GoesPost.ret (Nat.le_succ _) an' rfl HGP.out rfl rfl
end
end Go.Proofs.YtgfogfciobmmpaaGreatDoor
