/- A part of the proof of the law TopTells: Popl Inst5 Conc JTold Kok. -/
import Derived.Test.YtgfogfciobmmpaaGreatDoorPBo
import Derived.Test.YtgfogfciobmmpaaGreatDoorPBr
import Derived.Lib.AppendZeros
import Derived.Deep.Upon
import Derived.Deep.RegionHeld3
set_option linter.unusedSimpArgs false
set_option linter.unusedVariables false
set_option maxRecDepth 100000
set_option maxHeartbeats 8000000
namespace Go.Proofs.YtgfogfciobmmpaaGreatDoor
section
open Go.RowKit
variable {w0:World} {X:List Nat} {Cs:List Comp} {w:World} {x:Nat} {k:PCfg} {f:PF} {st:List Int}
theorem pop_list {a:Array Value} {sl:Nat} {xs:List Int} (h:Calls Tryz.prog 67 a w (PopPost w0 X Cs x k f st sl)) (hv:st.drop sl=xs) :
   Calls Tryz.prog 67 a w (fun e w'=>∃ lv sv',e=.returned lv∧Sep w0 X (cI lv xs::cBlk x (progO k { f with sv:=sv' })::cI sv' (st.take sl)::Cs) w'):=by
 subst hv
 exact h
theorem one_slice {lv:Value} {v:Int} (h:Sep w0 X (cI lv [v]::Cs) w):∃ g cap,lv=.slice (some ⟨g,0,none⟩) 1 cap∧1≤cap∧cap≤maxLen∧g < w.heap.size∧w.cell? ⟨g,0,none⟩=some (.int .i64 v):=by
 have hr:RowAt w 2 1 lv [v].length (ints [v]):=h.h0
 rcases hr.parts with ⟨-,q2,-⟩ | ⟨g,cap,h1,h2,h3,h4,h5⟩
 · simp at q2
 · exact ⟨g,cap,h1,h2,h3,h4,h5 0 _ (by simp [ints])⟩
theorem two_slice {lv:Value} {v v2:Int} (h:Sep w0 X (cI lv [v,v2]::Cs) w):∃ g cap,lv=.slice (some ⟨g,0,none⟩) 2 cap∧2≤cap∧cap≤maxLen∧g < w.heap.size∧w.cell? ⟨g,0,none⟩=some (.int .i64 v)∧w.cell? ⟨g,1,none⟩=some (.int .i64 v2):=by
 have hr:RowAt w 2 1 lv [v,v2].length (ints [v,v2]):=h.h0
 rcases hr.parts with ⟨-,q2,-⟩ | ⟨g,cap,h1,h2,h3,h4,h5⟩
 · simp at q2
 · exact ⟨g,cap,h1,h2,h3,h4,h5 0 _ (by simp [ints]),h5 1 _ (by simp [ints])⟩
end
section
open Go.RowKit
variable {w0:World} {X:List Nat} {Cs:List Comp} {w:World} {x p L:Nat} {k:PCfg} {f:PF} {st cs ts:List Int} {t:TxD} {F F2:List Nat} {old:List EvD} {m:MemD} {hi:Int}
theorem Inst_load (hS:Sep w0 X (jC x k f st cs ts old t F (cMem p m L F2::cReg f.rv k.regs::Cs)) w) (hok:StOk st cs ts) (hI:InstOk k hi f m t) (ht:Cod.Tabled w0) (hX:0 ∉ X) (hn:t.told.length≤1073740000) (ho:old.length+t.told.length≤1073740000) (hL:L≤1073740000) (th:Int) (hin:0≤f.at_∧f.at_ < k.code.size) (hgood:(Cod.atS k.code.data.toList f.at_).err=0) (hcc:(Cod.atS k.code.data.toList f.at_).code=31) :
   Calls Tryz.prog 45 #[ptr x,ptr p,.int .i64 th] w (GoesPost1 w0 X (cReg f.rv k.regs::Cs) x p L k f.rv old t m hi):=by
 have S1:Sep w0 X (jC x k f st cs ts old t F (cMem p m L F2::cBlk w.heap.size ans0::cReg f.rv k.regs::Cs)) (w.alloc ans0):=(hS.new ans0).push [_,_,_,_,_,_,_,_]
 have hmem:MemOk m:=(S1.turn [_,_,_,_,_,_,_] [_]).h0.ok
 have c9:=S1.cell 9
 have c15:=S1.cell 15
 simp only [progA,gA,gZ,gS] at c9 c15
 have hlt:=heap_lt S1.h0
 have HI:=kH hI
 have HM:=kH hmem
 have HOK:=kH hok
 have HS1:=kH S1
 have hcs:(k.code.size:Int)≤512:=by have:=hI.kok.code;omega
 have hnn:¬ f.at_ < 0:=by omega
 have hnl:¬ (k.code.size:Int)≤f.at_:=by omega
 have hwat:IntKind.i64.wrap f.at_=f.at_:=IntWalk.i64_in _ (by omega)
 obtain ⟨c,an,hA,hop⟩:=at_ok hgood
 rw [hA] at hcc
 generalize (Cod.atS k.code.data.toList f.at_).operand=ao at hA hop hcc
 clear hgood
 have HCC:=kH hcc
 clear hcc
 have HOP:=kH hop
 have HAT:=kH (fun (Ds:List Comp) (W:World) (S:Sep w0 X Ds W)=>at_sep S ht hX (by have:=hI.kok.code;omega) hA)
 clear hS hok hI hmem hA S1 hin hop
 obtain ⟨code,hcode⟩:∃ code,k.code=code:=⟨_,rfl⟩
 obtain ⟨at_,hatx⟩:∃ at_,f.at_=at_:=⟨_,rfl⟩
 have HCODE:=kH hcode
 have HATX:=kH hatx
 rw [hcode] at c9 HAT hcs hnl
 rw [hatx] at c15 HAT hnn hnl hwat
 clear hcode hatx
 unfold ans0 ptr at *
 go_enter Tryz.func45,Tryz.ntmps45
 go_wp2_with fail
 go_quiet (fail)
 go_upto_region 4 with (fail)
 have S2:=HS1.out.drewN nq
 generalize (w.alloc (.cells #[.int .i64 0,.int .i64 0,.int .i64 0,.bool false] 35 (0,0))).drewN nq=W1 at *
 have d9:=S2.cell 9
 have d15:=S2.cell 15
 simp only [progA,gA,gZ,gS,HCODE.out,HATX.out] at d9 d15
 have hlt1:=heap_lt S2.h0
 have HS2:=kH S2
 clear S2 c9 c15 hlt HS1
 go_cut [8,9,10] from 14 to 174 (fun v8 v9 v10 wc=>∃ b8,v8=.pointer (some ⟨b8,0,none⟩)∧v9=.int .i64 an∧v10=.int .i64 0∧Sep w0 X (cBlk b8 (opO c ao)::jC x k f st cs ts old t F (cMem p m L F2::cBlk w.heap.size ans0::cReg f.rv k.regs::Cs)) wc)
 case first =>
   have hne1:x≠W1.heap.size:=Nat.ne_of_lt hlt1
   have hne2:W1.heap.size≠x:=Ne.symm hne1
   go_region_held3 (fun w'=>w'.cell? ⟨x,9,none⟩=some (.string code)∧w'.cell? ⟨x,15,none⟩=some (.int .i64 at_)) (go_keep) (first | (go_at_call 63;(first | refine (HAT.out _ _ HS2.out).mono ?_ | refine (HAT.out _ _ (HS2.out.drewN _)).mono ?_);rintro e1 w1 ⟨rfl,S3⟩;have e9:=S3.cell 9;have e15:=S3.cell 15;simp only [progA,gA,gZ,gS,HCODE.out,HATX.out] at e9 e15;have HS3:=kH S3;clear S3) | (go_at_call 63;refine (HAT.out _ _ ((HS2.out.new (opO 0 0)).drewN _)).mono ?_;rintro e1 w1 ⟨rfl,S4⟩;have y0:=S4.cell 0;have y1:=S4.cell 1;have z0:=S4.froz 0;have z1:=S4.froz 1;simp only [gA,gZ,gS] at y0 y1;have e9:=(S4.pull [_]).cell 9;have e15:=(S4.pull [_]).cell 15;simp only [progA,gA,gZ,gS,HCODE.out,HATX.out] at e9 e15;have HS4:=kH S4;clear S4))
   all_goals
     go_wp2
     go_meet
     case rel =>
       first
         | exact ⟨_,rfl,rfl,rfl,HS3.out.new (opO c ao)⟩
         | exact ⟨_,rfl,rfl,rfl,((HS4.out.set 0 (.int .i64 c)).set 1 (.int .i64 ao)).eqO (by simp)⟩
 case rest =>
   obtain ⟨b8,rfl,rfl,rfl,S5⟩:=hcut
   clear HAT d9 d15 HS2
   have hc40:=HOP.out.code
   have hc32:c≤32:=by have:=HCC.out;omega
   have HW:=kH (work_low (((((S5.pull [_,_,_,_,_]).pull [_,_,_,_,_]).pull [_,_,_,_,_]).pull [_,_,_,_,_]).pull [_,_,_,_,_]) c hc32 ao)
   have b0:=S5.cell 0
   have b1:=S5.cell 1
   simp only [gA,gZ,gS] at b0 b1
   have hlt5:=heap_lt S5.h0
   have hltx5:=heap_lt (S5.pull [_]).h0
   clear S5
   have htk:tkI c≤2:=tk_le c hc32
   have hpt:ptI c≤3:=pt_le c hc32
   generalize htkn:tkI c=tk at *
   generalize hptn:ptI c=pt at *
   have HTK:=kH (And.intro htkn hptn)
   clear htkn hptn
   unfold opV ptr at HW
   go_wp2_with fail
   refine HW.out.mono ?_
   rintro e1 w1 ⟨d0,d1,d2,d3,d4,d5,d6,d7,d8,d9,d10,d11,d12,d13,rfl,S6⟩
   have hdv:(dvL d0 d1 d2 d3 d4 d5 d6 d7 d8 d9 d10 d11 d12 d13).getD c .nilFunc=.nilFunc:=by
     rcases (show c=0∨c=30∨c=31∨c=32 by have:=HCC.out;omega) with rfl | rfl | rfl | rfl <;> rfl
   rw [hdv]
   have S6':Sep w0 X (pC x k f st cs ts (cBlk b8 (opO c ao)::cEv f.ov (bare old)::cTx f.tx t F::cMem p m L F2::cBlk w.heap.size ans0::cReg f.rv k.regs::Cs)) w1:=Sep.dropN [cBlk x (progO k f),cI f.sv st,cI f.cv cs,cI f.tv ts,cI f.av k.args] (binC d0 d1 d2 d3 d4 d5 d6 d7 d8 d9 d10 d11 d12 d13) S6
   have S7:=S6'.new (.cells #[.int .i64 tk,.int .i64 pt,.nilFunc] 140 (0,0))
   have S8:=S6'.pull [_,_,_,_,_]
   have b0':=S8.cell 0
   have b1':=S8.cell 1
   simp only [gA,gZ,gS] at b0' b1'
   have hlt6:=heap_lt S8.h0
   have hltx6:=heap_lt S6'.h0
   have HS7:=kH S7
   have HF:=kH (faulty_prog (n:=none) (caps:=#[]) S7.drop HOK.out c ao tk pt ⟨by omega,by omega⟩ ⟨by omega,by omega⟩)
   clear S6 S6' S7 S8 HW b0 b1 hdv
   unfold opV dvOf at HF
   go_wp2_with fail
   refine HF.out.mono ?_
   rintro e2 w2 ⟨hbel,fb,rfl,hfb⟩
   have S9:=HS7.out.below hbel
   have HFB:=kH hfb
   have HS9:=kH S9
   have x0:=S9.cell 0
   have S10:=S9.pull [_,_,_,_,_,_]
   have y0:=S10.cell 0
   have y1:=S10.cell 1
   simp only [gA,gZ,gS] at x0 y0 y1
   have hlt9:=heap_lt S9.h0
   have hlt10:=heap_lt S10.h0
   have hltx9:=heap_lt (S9.pull [_]).h0
   clear S9 S10 HF hbel hfb HS7 b0' b1'
   cases fb
   · obtain ⟨hf1,hf2,-⟩:=HFB.out rfl
     obtain rfl:c=31:=by have:=HCC.out;omega
     have htk1:tk=1:=by rw [← HTK.out.1];decide
     have hn1:tk≤st.length:=by omega
     have hxl:(st.drop (st.length - tk)).length=1:=by rw [List.length_drop];omega
     obtain ⟨v,hv⟩:=len1 hxl
     have HVI:=kH (show I64 v from HOK.out.i64 v (List.mem_of_mem_drop (by rw [hv];simp)))
     have HP:=kH (pop_list (pop_prog ((HS9.out.pull [_,_]).pull [_,_]) (st.length - tk) tk (by omega) (by have:=HOK.out.stl;omega)) hv)
     have HTK1:=kH htk1
     clear hv hxl htk1
     unfold ptr at HP
     go_wp2_with fail
     refine HP.out.mono ?_
     rintro e3 w3 ⟨lv,sv',rfl,S11⟩
     obtain ⟨g,cap,rfl,-,-,hglt,g0⟩:=one_slice S11
     have z0:=(S11.pull [_,_,_,_,_,_,_]).cell 0
     simp only [gA,gZ,gS] at z0
     have HPL:=kH (plain_prog (S11.pull [_]) HI.out.kok.raw v)
     have HWN:=kH (fun cc (h0:0≤cc) (h1:cc < k.raw)=>wants_prog (f:={ f with sv:=sv' }) (y:=⟨2,cc,0,0⟩) (((((((((((((S11.pull [_,_,_,_,_,_,_,_,_,_,_,_]).pull [_,_,_,_,_,_,_,_,_,_,_,_]).pull [_,_,_,_,_,_,_,_,_]).pull [_,_,_,_,_,_]).pull [_,_,_,_]).pull [_,_,_,_,_,_,_,_,_,_,_,_]).pull [_,_,_,_,_,_,_,_,_,_,_,_]).pull [_,_,_,_,_,_,_,_,_,_,_,_]).pull [_,_,_,_,_,_,_,_,_,_,_,_]).pull [_,_,_,_,_,_,_,_,_,_,_,_]).pull [_,_,_,_,_,_,_,_,_,_,_,_]).pull [_,_,_,_,_,_,_,_,_,_,_,_]).pull [_,_,_,_,_,_,_,_,_,_,_,_]) ⟨by rw [List.length_take];have:=HOK.out.stl;omega,HOK.out.csl,HOK.out.tsl,fun v hv=>HOK.out.i64 v (List.mem_of_mem_take hv)⟩ HI.out.begun HI.out.word HI.out.nth HI.out.kok.tries HI.out.over .loaded (by simp) (fun _=>by rw [List.length_take];have:=HOK.out.stl;have:=HTK1.out;omega) HI.out.kok.cfg HI.out.tx HI.out.way (fits_cell HI.out.tx HI.out.phase (.inl rfl) h0 (by have:=HI.out.kok.rawhi;have:=HI.out.high.1;show cc < _;omega)) i64_0 (by omega) (by omega) (by omega) th)
     have hltb3:=heap_lt (S11.pull [_,_,_,_,_,_,_]).h0
     clear S11 HP x0 y0 y1 HS9
     unfold ptr at HPL
     go_wp2_with fail
     refine HPL.out.mono ?_
     rintro e4 w4 ⟨cc,q0,q1,rfl,rfl⟩
     have HW2:=kH (HWN.out cc q0 q1)
     unfold wantV CameD.val ptr at HW2
     simp only at HW2
     go_wp2_with fail
     refine HW2.out.mono ?_
     rintro e8 w8 hwp
     have hgp:=(goes_of_want (f:={ f with sv:=sv' }) (y:=⟨2,cc,0,0⟩) (c:=.loaded) (hi:=hi) HI.out.kok.cfg HM.out HI.out.tx HI.out.way HI.out.phase (fits_cell HI.out.tx HI.out.phase (.inl rfl) q0 (by have:=HI.out.kok.rawhi;have:=HI.out.high.1;show cc < _;omega)) (by simp) i64_0 (by simp [CameD.fin]) HI.out.ask rfl hwp).sub fun Ps W h=>Sep.dropN Ps [_,_,_] h
     obtain ⟨an',rfl,hbox⟩:=hgp.blk
     obtain ⟨⟨a0,a1,a2,a3⟩,⟨g0,g1,g2,g3⟩⟩:=box4a hbox
     unfold AnsD.val
     have HGP:=kH hgp
     clear hgp hbox
     go_wp2
     exact GoesPost.ret (Nat.le_succ _) an' rfl HGP.out rfl rfl
   · --FAULTY
     have HAB:=kH (aborts_prog ((((((((((((HS9.out.pull [_,_,_,_,_,_,_,_,_,_,_]).pull [_,_,_,_,_,_,_,_,_,_,_]).pull [_,_,_,_,_,_,_,_]).pull [_,_,_]).pull [_,_,_,_,_,_,_,_,_,_,_]).pull [_,_,_,_,_,_,_,_,_,_,_]).pull [_,_,_,_,_,_,_,_,_,_,_]).pull [_,_,_,_,_,_,_,_,_,_,_]).pull [_,_,_,_,_,_,_,_,_,_,_]).pull [_,_,_,_,_,_,_,_,_,_,_]).pull [_,_,_,_,_,_,_,_,_,_,_]).pull [_,_,_,_,_,_,_,_,_,_,_]) HOK.out HI.out.begun HI.out.word HI.out.nth HI.out.kok.tries HI.out.over HI.out.kok.cfg HI.out.tx HI.out.way 7 (fits_abort HI.out.tx HI.out.phase (.inr rfl)) (by omega) (by omega) (by omega) th)
     unfold ptr at HAB
     go_wp2_with fail
     refine HAB.out.mono ?_
     rintro e8 w8 hwp
     have hgp:=(goes_of_want (hi:=hi) HI.out.kok.cfg HM.out HI.out.tx HI.out.way HI.out.phase (fits_abort HI.out.tx HI.out.phase (.inr rfl)) (by decide) i64_0 (by decide) HI.out.ask rfl hwp).sub fun Ps W h=>Sep.dropN Ps [_,_] h
     obtain ⟨an',rfl,hbox⟩:=hgp.blk
     obtain ⟨⟨a0,a1,a2,a3⟩,⟨g0,g1,g2,g3⟩⟩:=box4a hbox
     unfold AnsD.val
     have HGP:=kH hgp
     clear hgp hbox
     go_wp2
     exact GoesPost.ret (Nat.le_succ _) an' rfl HGP.out rfl rfl
end
section
open Go.RowKit
variable {w0:World} {X:List Nat} {Cs:List Comp} {w:World}
theorem Sep.asRow {W:World} {Y:List Nat} {Ds:List Comp} {w1:World} {g:Nat} {o:Obj} {e:TypeId} {sz:Nat} {v:Value} {n:Nat} {xs:List Value} (h:Sep w1 Y (cBlk g o::Ds) W) (hr:RowAt W e sz v n xs) (hf:rowF v=[g]):Sep w1 Y (cRow e sz v n xs::Ds) W :=
 h.call1 (C3:=[cRow e sz v n xs]) ⟨Kept.refl _ _,fun c hc=>by rw [List.mem_singleton.1 hc];exact hr,by simp [feet,cRow,hf],fun x hx=>by simp [feet,cRow,hf] at hx;exact .inl (by simp [cBlk,hx])⟩
def evZ:Value:=.agg #[.int .i64 0,.int .i64 0,.int .i64 0,.int .i64 0,.int .i64 0,.int .i64 0,.bool false,.int .i64 0,.int .i64 0,.int .i64 0,.int .u64 0,.int .u64 0,.int .u64 0,.int .u64 0,.int .u64 0,.int .u64 0,.int .u64 0,.int .u64 0,.int .i64 0]
theorem infoEvZ:(Tryz.prog.info? 44).map (fun i=>(i.zero,i.size,i.bytes))=some (some evZ,19,152):=by kernel_rfl
theorem Grow_ev (hS:Sep w0 X Cs w) (n:Nat) (h0:0 < n) (h1:n≤1073741824) :
   Calls Tryz.prog 106 #[.slice none 0 0,.int .i64 n] w
     (fun e w'=>∃ g cap,e=.returned (.slice (some ⟨g,0,none⟩) 0 cap)∧Sep w0 X (cRow 44 19 (.slice (some ⟨g,0,none⟩) 0 cap) 0 []::Cs) w'):=by
 obtain ⟨i0,yi,yz0,yz1,yz2⟩:=info_parts infoEvZ
 have hzs:evZ.cells.size=19:=rfl
 have HZ:=kH hzs
 clear hzs
 have hrz:=fun W=>Lib.run_append_nil_zeros (P:=Tryz.prog) W 37 3 37 44 i0 _ .i64 .i64 Tryz.underlying37 Tryz.underlying3 yi yz0 n h0 (by rw [yz1];decide) (by omega) (by rw [yz2];omega)
 generalize evZ.cells=zc at hrz HZ
 have HS:=kH hS
 have HC:=kH (And.intro (grownCap_ge w n 0 44) (grownCap_le_maxLen w n 0 44 (by unfold maxLen;omega)))
 have hw:IntKind.i64.wrap (n:Int)=n:=IntWalk.i64_in _ (by omega)
 clear hS
 go_enter Tryz.func106,Tryz.ntmps106
 go_wp2_with (at_builtin;refine Lib.wpList_append_run _ rfl _ _ _ _ rfl _ _ rfl rfl _ _ (hrz _) ?_)
 go_ret
 obtain ⟨hc1,hc2⟩:=HC.out
 generalize grownCap w n 0 44=cap at *
 refine ⟨w.heap.size,cap,rfl,?_⟩
 refine Sep.asRow (g:=w.heap.size) (n:=0) (xs:=[]) ((HS.out.new _).drew) ⟨by simp,.inr ⟨w.heap.size,cap,_,rfl,Nat.zero_le _,((HS.out.new _).drew).h0,Nat.zero_le _,hc2,?_,by simp⟩⟩ rfl
 rw [Array.size_append,size_zeroCells,size_zeroCells,HZ.out]
 omega
theorem Concat_ev {b N a cap g:Nat} {xs:List Value} (hS:Sep w0 X (cBlk b (.cells #[.slice (some ⟨g,a * 19,none⟩) (N - a) (cap - a),.slice none 0 0] 37 (0,0))::cRow 44 19 (.slice (some ⟨g,0,none⟩) N cap) N xs::Cs) w) (ha:a < N) (hN:N≤1073741824) (h1:∀ u∈xs,u.oneCell'=true) :
   Calls Tryz.prog 71 #[.slice (some ⟨b,0,none⟩) 2 2] w
     (fun e w'=>∃ ev,e=.returned ev∧Sep w0 X (cRow 44 19 ev (N - a) (xs.drop (a * 19))::cRow 44 19 (.slice (some ⟨g,0,none⟩) N cap) N xs::Cs) w'):=by
 obtain ⟨i0,yi,yz0,yz1,yz2⟩:=info_parts infoEvZ
 have c0:=hS.cell 0
 have c1:=hS.cell 1
 simp only [gA,gZ,gS] at c0 c1
 have hlt:=heap_lt hS.h0
 obtain ⟨M,hM⟩:∃ M,N - a=M:=⟨_,rfl⟩
 have hM0:0 < M:=by omega
 have hMN:M≤1073741824:=by omega
 have HG:=kH (Grow_ev hS M hM0 hMN)
 have hw:IntKind.i64.wrap (M:Int)=M:=IntWalk.i64_in _ (by omega)
 have hr:RowAt w 44 19 (.slice (some ⟨g,0,none⟩) N cap) N xs:=hS.h1
 have HL:=kH hr.1
 have H1:=kH (show ∀ u∈xs.drop (a * 19),u.oneCell'=true from fun u hu=>h1 u (List.mem_of_mem_drop hu))
 have HM:=kH hM
 rw [hM] at c0
 clear hS hr h1 hM
 go_enter Tryz.func71,Tryz.ntmps71
 go_wp2_with fail
 refine wp_loop_rounds 3 ?_
 rw [rounds_succ]
 go_wp2_with fail
 rw [rounds_succ]
 go_wp2_with fail
 rw [rounds_succ]
 go_wp2_with fail
 refine HG.out.mono ?_
 rintro e w1 ⟨g1,cap1,rfl,S1⟩
 rw [HM.out] at S1
 have d0:=S1.cell1 0
 have d1:=S1.cell1 1
 simp only [gA,gZ,gS] at d0 d1
 have HS1:=kH S1
 have hrow:RowAt w1 44 19 (.slice (some ⟨g,0,none⟩) N cap) N xs:=S1.h2
 clear S1 c0 c1
 go_wp2_with fail
 refine wp_loop_rounds 3 ?_
 rw [rounds_succ]
 have hsl:(xs.drop (a * 19)).length=M * 19:=by rw [List.length_drop,HL.out,← HM.out,Nat.sub_mul]
 have HNEWS:Hid (∀ (j:Nat) (u:Value),(xs.drop (a * 19))[j]?=some u→w1.cell? ((⟨g,a * 19,none⟩:Addr).add j)=some u):=fun j u hu=>by
   have e:(⟨g,a * 19,none⟩:Addr).add j=⟨g,a * 19+j,none⟩:=by unfold Addr.add;split <;> simp_all
   rw [e]
   rw [List.getElem?_drop] at hu
   obtain ⟨q1,q2,q3,-,-,-,-,q6,-⟩:=hrow.read (by omega)
   injection q3 with q3 _ _
   injection q3 with q3
   injection q3 with q3 _ _
   rw [q3]
   exact q6 _ u hu
 have hnone:=fun ty W=>run_append_nothing (P:=Tryz.prog) W 37 37 ty 44 i0 Tryz.underlying37 yi
 clear hrow
 go_wp2_with (at_builtin;refine wpList_append_lies _ rfl (.tmp 31) (.tmp 32) 37 rfl 0 44 i0 _ 19 152 Tryz.underlying37 yi yz0 yz1 yz2 rfl (by decide) (.slice (some ⟨g1,0,none⟩) 0 cap1) 0 [] rfl HS1.out.h0 ⟨g,a * 19,none⟩ M (cap - a) (xs.drop (a * 19)) rfl hsl HNEWS.out H1.out hM0 (by unfold maxLen;omega) (by omega) (Nat.zero_le _) _ rfl ?_;intro g5 cap5 w5 hown5 hgrow5 hat5 hgl5;have S5:=HS1.out.append hgrow5 hown5 hat5 (Nat.le_refl _);have k1:=S5.cell1 1;simp only [gA,gZ,gS] at k1;have HS5:=kH S5;have hcap5:=(show RowAt w5 _ _ _ _ _ from S5.h0).slice;clear S5 hown5 hgrow5 hat5)
 rw [rounds_succ]
 have hle5:0+M≤cap5:=by
   obtain ⟨q1,q2,q3,q4,q5⟩:=hcap5
   injection q3 with _ _ q6
   omega
 rw [Nat.zero_add] at hle5
 have hn5:=fun ty W=>hnone ty W (some ⟨g5,0,none⟩) M cap5 hle5 (.slice none 0 0) (Src.ofNil W Tryz.underlying37 0)
 clear hnone hcap5
 go_wp2_with (at_builtin;refine Lib.wpList_append_run _ rfl (.tmp 31) (.tmp 32) 37 37 rfl (.slice (some ⟨g5,0,none⟩) M cap5) (.slice none 0 0) rfl rfl (.slice (some ⟨g5,0,none⟩) M cap5) _ (hn5 _ _) ?_)
 rw [rounds_succ]
 go_wp2
 go_ret
 have h:=HS5.out
 simp only [Nat.zero_add,List.nil_append] at h
 rw [HM.out]
 exact ⟨_,rfl,h.sw.drop⟩
theorem Concat_ev2 {b N a cap g M2 cap2 g2:Nat} {xs ys:List Value} (hS:Sep w0 X (cBlk b (.cells #[.slice (some ⟨g,a * 19,none⟩) (N - a) (cap - a),.slice (some ⟨g2,0,none⟩) M2 cap2] 37 (0,0))::cRow 44 19 (.slice (some ⟨g,0,none⟩) N cap) N xs::cRow 44 19 (.slice (some ⟨g2,0,none⟩) M2 cap2) M2 ys::Cs) w) (ha:a < N) (h0:0 < M2) (hN:N+M2≤1073741824) (h1:∀ u∈xs,u.oneCell'=true) (h2:∀ u∈ys,u.oneCell'=true) :
   Calls Tryz.prog 71 #[.slice (some ⟨b,0,none⟩) 2 2] w
     (fun e w'=>∃ ev,e=.returned ev∧Sep w0 X (cRow 44 19 ev (N - a+M2) (xs.drop (a * 19)++ys)::cRow 44 19 (.slice (some ⟨g,0,none⟩) N cap) N xs::cRow 44 19 (.slice (some ⟨g2,0,none⟩) M2 cap2) M2 ys::Cs) w'):=by
 obtain ⟨i0,yi,yz0,yz1,yz2⟩:=info_parts infoEvZ
 have c0:=hS.cell 0
 have c1:=hS.cell 1
 simp only [gA,gZ,gS] at c0 c1
 have hlt:=heap_lt hS.h0
 obtain ⟨M,hM⟩:∃ M,N - a=M:=⟨_,rfl⟩
 have hM0:0 < M:=by omega
 have hMN:M≤1073741824:=by omega
 have hMM:M+M2≤1073741824:=by omega
 have HG:=kH (Grow_ev hS (M+M2) (by omega) hMM)
 have hw:IntKind.i64.wrap (M:Int)=M:=IntWalk.i64_in _ (by omega)
 have hw2:IntKind.i64.wrap ((M:Int)+(M2:Int))=((M+M2:Nat):Int):=by rw [show ((M+M2:Nat):Int)=(M:Int)+(M2:Int) by omega];exact IntWalk.i64_in _ (by omega)
 have H2:=kH h2
 have hr:RowAt w 44 19 (.slice (some ⟨g,0,none⟩) N cap) N xs:=hS.h1
 have HL:=kH hr.1
 have H1:=kH (show ∀ u∈xs.drop (a * 19),u.oneCell'=true from fun u hu=>h1 u (List.mem_of_mem_drop hu))
 have HM:=kH hM
 rw [hM] at c0
 clear hS hr h1 h2 hM
 go_enter Tryz.func71,Tryz.ntmps71
 go_wp2_with fail
 refine wp_loop_rounds 3 ?_
 rw [rounds_succ]
 go_wp2_with fail
 rw [rounds_succ]
 go_wp2_with fail
 rw [rounds_succ]
 go_wp2_with fail
 refine HG.out.mono ?_
 rintro e w1 ⟨g1,cap1,rfl,S1⟩
 rw [HM.out] at S1
 have d0:=S1.cell1 0
 have d1:=S1.cell1 1
 simp only [gA,gZ,gS] at d0 d1
 have HS1:=kH S1
 have hrow:RowAt w1 44 19 (.slice (some ⟨g,0,none⟩) N cap) N xs:=S1.h2
 clear S1 c0 c1
 go_wp2_with fail
 refine wp_loop_rounds 3 ?_
 rw [rounds_succ]
 have hsl:(xs.drop (a * 19)).length=M * 19:=by rw [List.length_drop,HL.out,← HM.out,Nat.sub_mul]
 have HNEWS:Hid (∀ (j:Nat) (u:Value),(xs.drop (a * 19))[j]?=some u→w1.cell? ((⟨g,a * 19,none⟩:Addr).add j)=some u):=fun j u hu=>by
   have e:(⟨g,a * 19,none⟩:Addr).add j=⟨g,a * 19+j,none⟩:=by unfold Addr.add;split <;> simp_all
   rw [e]
   rw [List.getElem?_drop] at hu
   obtain ⟨q1,q2,q3,-,-,-,-,q6,-⟩:=hrow.read (by omega)
   injection q3 with q3 _ _
   injection q3 with q3
   injection q3 with q3 _ _
   rw [q3]
   exact q6 _ u hu
 clear hrow
 go_wp2_with (at_builtin;refine wpList_append_lies _ rfl (.tmp 31) (.tmp 32) 37 rfl 0 44 i0 _ 19 152 Tryz.underlying37 yi yz0 yz1 yz2 rfl (by decide) (.slice (some ⟨g1,0,none⟩) 0 cap1) 0 [] rfl HS1.out.h0 ⟨g,a * 19,none⟩ M (cap - a) (xs.drop (a * 19)) rfl hsl HNEWS.out H1.out hM0 (by unfold maxLen;omega) (by omega) (Nat.zero_le _) _ rfl ?_;intro g5 cap5 w5 hown5 hgrow5 hat5 hgl5;have S5:=HS1.out.append hgrow5 hown5 hat5 (Nat.le_refl _);have k1:=S5.cell1 1;simp only [gA,gZ,gS] at k1;have HS5:=kH S5;have hcap5:=(show RowAt w5 _ _ _ _ _ from S5.h0).slice;clear S5 hown5 hgrow5 hat5)
 rw [rounds_succ]
 have hrow5:RowAt w5 44 19 (.slice (some ⟨g2,0,none⟩) M2 cap2) M2 ys:=HS5.out.h3
 have HL2:=kH hrow5.1
 have HNEW2:Hid (∀ (j:Nat) (u:Value),ys[j]?=some u→w5.cell? ((⟨g2,0,none⟩:Addr).add j)=some u):=fun j u hu=>by
   have e:(⟨g2,0,none⟩:Addr).add j=⟨g2,j,none⟩:=by unfold Addr.add;split <;> simp_all
   rw [e]
   obtain ⟨q1,q2,q3,-,-,-,-,q6,-⟩:=hrow5.read (by omega)
   injection q3 with q3 _ _
   injection q3 with q3
   injection q3 with q3 _ _
   rw [q3]
   exact q6 _ u hu
 clear hrow5 hcap5
 go_wp2_with (at_builtin;refine wpList_append_lies _ rfl (.tmp 31) (.tmp 32) 37 rfl 0 44 i0 _ 19 152 Tryz.underlying37 yi yz0 yz1 yz2 rfl (by decide) (.slice (some ⟨g5,0,none⟩) M cap5) M (xs.drop (a * 19)) rfl (by have h:=HS5.out.h0;simp only [Nat.zero_add,List.nil_append] at h;exact h) ⟨g2,0,none⟩ M2 cap2 ys rfl HL2.out HNEW2.out H2.out h0 (by unfold maxLen;omega) (by omega) (Nat.zero_le _) _ rfl ?_;intro g6 cap6 w6 hown6 hgrow6 hat6 hgl6;have S6:=HS5.out;simp only [Nat.zero_add,List.nil_append] at S6;have S7:=S6.append hgrow6 hown6 hat6 (Nat.le_refl _);have HS7:=kH S7;clear S6 S7 hown6 hgrow6 hat6)
 rw [rounds_succ]
 go_wp2
 go_ret
 rw [HM.out]
 exact ⟨_,rfl,HS7.out.sw.drop⟩
end
section
open Go.RowKit
variable {w0:World} {X:List Nat} {Cs:List Comp} {w:World} {x:Nat} {k:PCfg} {f:PF} {st cs ts:List Int} {t:TxD} {F:List Nat} {old:List EvD}
theorem Told_nothing (hS:Sep w0 X (cTx x t F::Cs) w) (h:t.told=[]) :
   Calls Tryz.prog 54 #[ptr x,.int .i64 0] w (fun e w'=>e=.returned (.slice none 0 0)∧∃ F',Sep w0 X (cTx x t F'::Cs) w'):=by
 obtain ⟨q,a,j,lv,tv,h1,h2,hS⟩:=hS.txOpen
 have e:(t.told.length:Int)=0:=by rw [h];rfl
 have hT:=Told_none hS (by rw [h];decide)
 rw [e] at hT
 refine hT.mono ?_
 rintro e w' ⟨rfl,S⟩
 exact ⟨rfl,Sep.txClose h1 h2 S⟩
theorem Told_job1 (hS:Sep w0 X (jC x k f st cs ts old t F Cs) w) (n:Nat) (h1:old.length≤n) (h2:n≤old.length+t.told.length) (hn:old.length+t.told.length≤1073741824) :
   Calls Tryz.prog 46 #[ptr x,.int .i64 n] w (fun e w'=>∃ ev F',e=.returned ev∧Sep w0 X (cEv ev (bare ((old++t.told).drop n))::jC x k f st cs ts old t F' Cs) w'):=by
 have c12:=hS.cell 12
 have c22:=hS.cell 22
 simp only [progA,gA,gZ,gS] at c12 c22
 have hr:RowAt w 44 19 f.ov (bare old).length (evCells (bare old)):=(hS.pull [_,_,_,_,_]).h0
 obtain ⟨a,cap,hv,hcn,hcm⟩:=hr.slice
 rw [bare_length] at hv hcn
 rw [hv] at c22
 have HV:=kH hv
 have HT:=kH (fun q=>Told_tx ((hS.drewN q).pull [_,_,_,_,_,_]) (n - old.length) (by omega) (by omega))
 have HT0:=kH (Told_tx (hS.pull [_,_,_,_,_,_]) (n - old.length) (by omega) (by omega))
 have hlt:=heap_lt hS.h0
 have hsub:IntKind.i64.wrap ((n:Int) - (old.length:Int))=((n - old.length:Nat):Int):=by
   rw [show ((n - old.length:Nat):Int)=(n:Int) - (old.length:Int) by omega]
   exact IntWalk.i64_in _ (by omega)
 have HD:=kH (show (old++t.told).drop n=t.told.drop (n - old.length) by
   rw [List.drop_append,List.drop_eq_nil_of_le h1]
   rfl)
 have hge:(old.length:Int)≤(n:Int):=by omega
 have hmax:max (n:Int) 0=n:=by omega
 clear hS hr hv
 unfold ptr at *
 obtain ⟨N,hN⟩:∃ N,old.length=N:=⟨_,rfl⟩
 rw [hN] at HV c22 hsub hge HT HT0 HD hcn
 clear hN h1 h2 hn
 go_enter Tryz.func46,Tryz.ntmps46
 go_wp2_with fail
 go_region_held3 (fun w'=>w'.cell? ⟨x,12,none⟩=some (.pointer (some ⟨f.tx,0,none⟩))∧w'.cell? ⟨x,22,none⟩=some (.slice a N cap)) (go_keep) (first | (go_at_call 54;(first | refine (HT.out _).mono ?_ | refine HT0.out.mono ?_);rintro e1 w1 ⟨ev,F',rfl,S1⟩;have S2:=S1.pull [_];have S3:=S1.sw.pull [_,_];have d12:=S3.cell 12;have d22:=S3.cell 22;simp only [progA,gA,gZ,gS,HV.out] at d12 d22;unfold ptr at d12;have HS1:=kH S1;clear S1 S2 S3))
 go_wp2
 go_ret
 rw [HD.out]
 exact ⟨_,F',rfl,HS1.out.sw.push [_,_,_,_,_,_,_]⟩
theorem Told_job2 (hS:Sep w0 X (jC x k f st cs ts old t F Cs) w) (n:Nat) (h1:n < old.length) (h0:t.told=[]) (hn:old.length≤1073741824) :
   Calls Tryz.prog 46 #[ptr x,.int .i64 n] w (fun e w'=>∃ ev F',e=.returned ev∧Sep w0 X (cEv ev (bare ((old++t.told).drop n))::jC x k f st cs ts old t F' Cs) w'):=by
 have c12:=hS.cell 12
 have c22:=hS.cell 22
 simp only [progA,gA,gZ,gS] at c12 c22
 have hr:RowAt w 44 19 f.ov (bare old).length (evCells (bare old)):=(hS.pull [_,_,_,_,_]).h0
 rw [bare_length] at hr
 obtain ⟨g,cap,hv,hcn,hcm,hg,hrf,hcell,hfz⟩:=hr.read (by omega)
 rw [hv] at c22
 have HV:=kH hv
 have HT:=kH (fun q=>Told_nothing ((hS.drewN q).pull [_,_,_,_,_,_]) h0)
 have HT0:=kH (Told_nothing (hS.pull [_,_,_,_,_,_]) h0)
 have hlt:=heap_lt hS.h0
 have hge:¬ (old.length:Int)≤(n:Int):=by omega
 have hmax:max (n:Int) 0=n:=by omega
 have h0n:(0:Int)≤n:=by omega
 have hle:(n:Int)≤(old.length:Int):=by omega
 have hlc:(old.length:Int)≤(cap:Int):=by omega
 have H0:=kH h0
 have H1:=kH h1
 have HN:=kH hn
 clear hS hr hv hcell hfz h0 h1 hn
 unfold ptr at *
 obtain ⟨N,hN⟩:∃ N,old.length=N:=⟨_,rfl⟩
 have HNN:=kH hN
 have HOV:=kH (show cEv f.ov (bare old)=cRow 44 19 (.slice (some ⟨g,0,none⟩) N cap) N (evCells (bare old)) by unfold cEv;rw [HV.out,bare_length,hN])
 rw [hN] at c22 hge hle hlc hcn
 clear hN
 go_enter Tryz.func46,Tryz.ntmps46
 go_wp2_with fail
 go_region_held3 (fun w'=>w'.cell? ⟨x,12,none⟩=some (.pointer (some ⟨f.tx,0,none⟩))∧w'.cell? ⟨x,22,none⟩=some (.slice (some ⟨g,0,none⟩) N cap)) (go_keep) (first | (go_at_call 54;(first | refine (HT.out _).mono ?_ | refine HT0.out.mono ?_);rintro e1 w1 ⟨rfl,F',S1⟩;have S3:=S1.pull [_];have d12:=S3.cell 12;have d22:=S3.cell 22;simp only [progA,gA,gZ,gS,HV.out,HNN.out] at d12 d22;unfold ptr at d12;have HS1:=kH S1;clear S1 S3) | (go_at_call 71;have S4:=((HS1.out.new (.cells #[.slice (some ⟨g,n * 19,none⟩) (N - n) (cap - n),.slice none 0 0] 37 (0,0))).pull [_,_,_,_,_,_,_]).sw;rw [HOV.out] at S4;refine (Concat_ev S4 (by rw [← HNN.out];exact H1.out) (by rw [← HNN.out];exact HN.out) (evCells_one _)).mono ?_;rintro e2 w2 ⟨ev,rfl,S5⟩;have S6:=S5.pull [_,_,_];have d12:=S6.cell 12;have d22:=S6.cell 22;simp only [progA,gA,gZ,gS,HV.out,HNN.out] at d12 d22;unfold ptr at d12;have HS5:=kH S5;clear S4 S5 S6))
 go_wp2
 go_ret
 have S6:=(HS5.out.turn [_,_,_] [_,_,_,_,_]).pull [_,_,_,_,_]
 rw [← HOV.out] at S6
 refine ⟨ev,F',rfl,?_⟩
 rw [H0.out,List.append_nil,bare_drop]
 unfold cEv
 rw [evCells_drop,List.length_drop,bare_length,HNN.out]
 unfold cEv at S6
 rw [bare_length,HNN.out] at S6
 unfold jC
 unfold cEv
 rw [bare_length,HNN.out]
 exact S6
theorem Told_job3 (hS:Sep w0 X (jC x k f st cs ts old t F Cs) w) (n:Nat) (h1:n < old.length) (h0:0 < t.told.length) (hn:old.length+t.told.length≤1073741824) :
   Calls Tryz.prog 46 #[ptr x,.int .i64 n] w (fun e w'=>∃ ev F',e=.returned ev∧Sep w0 X (cEv ev (bare ((old++t.told).drop n))::jC x k f st cs ts old t F' Cs) w'):=by
 have c12:=hS.cell 12
 have c22:=hS.cell 22
 simp only [progA,gA,gZ,gS] at c12 c22
 have hr:RowAt w 44 19 f.ov (bare old).length (evCells (bare old)):=(hS.pull [_,_,_,_,_]).h0
 rw [bare_length] at hr
 obtain ⟨g,cap,hv,hcn,hcm,hg,hrf,hcell,hfz⟩:=hr.read (by omega)
 rw [hv] at c22
 have HV:=kH hv
 have HT:=kH (fun q=>Told_tx ((hS.drewN q).pull [_,_,_,_,_,_]) 0 (Nat.zero_le _) (by omega))
 have HT0:=kH (Told_tx (hS.pull [_,_,_,_,_,_]) 0 (Nat.zero_le _) (by omega))
 have hlt:=heap_lt hS.h0
 have hge:¬ (old.length:Int)≤(n:Int):=by omega
 have hmax:max (n:Int) 0=n:=by omega
 have h0n:(0:Int)≤n:=by omega
 have hle:(n:Int)≤(old.length:Int):=by omega
 have hlc:(old.length:Int)≤(cap:Int):=by omega
 have H0:=kH h0
 have H1:=kH h1
 have HN:=kH hn
 clear hS hr hv hcell hfz h0 h1 hn
 unfold ptr at *
 obtain ⟨N,hN⟩:∃ N,old.length=N:=⟨_,rfl⟩
 have HNN:=kH hN
 have HOV:=kH (show cEv f.ov (bare old)=cRow 44 19 (.slice (some ⟨g,0,none⟩) N cap) N (evCells (bare old)) by unfold cEv;rw [HV.out,bare_length,hN])
 have HEV:=kH (fun (g2 cap2:Nat)=>show cEv (.slice (some ⟨g2,0,none⟩) t.told.length cap2) (bare (t.told.drop 0))=cRow 44 19 (.slice (some ⟨g2,0,none⟩) t.told.length cap2) t.told.length (evCells (bare t.told)) by unfold cEv;rw [List.drop_zero,bare_length])
 rw [hN] at c22 hge hle hlc hcn
 clear hN
 go_enter Tryz.func46,Tryz.ntmps46
 go_wp2_with fail
 go_region_held3 (fun w'=>w'.cell? ⟨x,12,none⟩=some (.pointer (some ⟨f.tx,0,none⟩))∧w'.cell? ⟨x,22,none⟩=some (.slice (some ⟨g,0,none⟩) N cap)) (go_keep) (first | (go_at_call 54;(first | refine (HT.out _).mono ?_ | refine HT0.out.mono ?_);rintro e1 w1 ⟨ev0,F',rfl,S1⟩;obtain ⟨g2,cap2,rfl,-,-,-,-,-,-⟩:=(row_told S1).read H0.out;have S3:=S1.pull [_,_];have d12:=S3.cell 12;have d22:=S3.cell 22;simp only [progA,gA,gZ,gS,HV.out,HNN.out] at d12 d22;unfold ptr at d12;have HS1:=kH S1;clear S1 S3) | (go_at_call 71;have S4:=((((HS1.out.new (.cells #[.slice (some ⟨g,n * 19,none⟩) (N - n) (cap - n),.slice (some ⟨g2,0,none⟩) t.told.length cap2] 37 (0,0))).pull [_]).pull [_,_,_,_,_,_,_,_]).pull [_,_]);rw [HOV.out,HEV.out] at S4;refine (Concat_ev2 S4 (by rw [← HNN.out];exact H1.out) H0.out (by rw [← HNN.out];exact HN.out) (evCells_one _) (evCells_one _)).mono ?_;rintro e2 w2 ⟨ev,rfl,S5⟩;have S6:=S5.pull [_,_,_,_];have d12:=S6.cell 12;have d22:=S6.cell 22;simp only [progA,gA,gZ,gS,HV.out,HNN.out] at d12 d22;unfold ptr at d12;have HS5:=kH S5;clear S4 S5 S6))
 go_wp2
 go_ret
 have S6:=(((((((((HS5.out.pull [_,_,_]).pull [_,_]).pull [_,_,_,_,_,_,_,_]).pull [_,_,_,_,_,_,_,_]).pull [_,_,_,_,_,_,_,_]).pull [_,_,_,_,_,_,_,_]).pull [_,_,_,_,_,_,_,_]).pull [_,_,_,_,_,_,_]).pull [_,_,_,_,_,_,_,_]).drop
 rw [← HOV.out] at S6
 refine ⟨ev,F',rfl,?_⟩
 rw [List.drop_append_of_le_length (by have:=H1.out;omega),bare_app,bare_drop]
 unfold cEv
 rw [evCells_app,evCells_drop,List.length_append,List.length_drop,bare_length,bare_length,HNN.out]
 unfold cEv at S6
 rw [bare_length,HNN.out] at S6
 unfold jC
 unfold cEv
 rw [bare_length,HNN.out]
 exact S6
theorem Told_job (hS:Sep w0 X (jC x k f st cs ts old t F Cs) w) (n:Nat) (h1:n≤old.length+t.told.length) (hn:old.length+t.told.length≤1073741824) :
   Calls Tryz.prog 46 #[ptr x,.int .i64 n] w (fun e w'=>∃ ev F',e=.returned ev∧Sep w0 X (cEv ev (bare ((old++t.told).drop n))::jC x k f st cs ts old t F' Cs) w'):=by
 by_cases h:old.length≤n
 · exact Told_job1 hS n h h1 hn
 · by_cases h0:t.told=[]
   · exact Told_job2 hS n (by omega) h0 (by omega)
   · exact Told_job3 hS n (by omega) (List.length_pos_iff.2 h0) hn
end
section
open Go.RowKit
theorem sum_mono (rs:List (Int×Int)):∀ (d i:Nat),i+d≤rs.length→Plc.sumSz rs i≤Plc.sumSz rs (i+d)
 | 0,_,_=>Int.le_refl _
 | d+1,i,h=>by
   have h1:=sum_mono rs d i (by omega)
   have h2:=Plc.sum_snoc rs (i+d) (by omega)
   have h3:=Plc.size_bd (rs.getD (i+d) (0,0)).1 (rs.getD (i+d) (0,0)).2
   rw [show i+(d+1)=i+d+1 by omega,h2]
   omega
theorem reg_ok {c:Plc.Cfg} {rs:List (Int×Int)} (h:Plc.checkE c rs=0) {i:Nat} (hi:i < rs.length):Plc.regB (rs.getD i (0,0)).1 (rs.getD i (0,0)).2=true:=by
 by_cases hb:Plc.regB (rs.getD i (0,0)).1 (rs.getD i (0,0)).2=true
 · exact hb
 · have:=Plc.check_reg (c:=c) hi (by simpa using hb)
   omega
theorem kOk_of {c:Plc.Cfg} {rs:List (Int×Int)} {code:ByteArray} {xs:List Int} (hE:Plc.checkE c rs=0) (hcode:code.size≤512) (hx:xs.length≤4) (hxi:∀ v∈xs,I64 v):KOk (kOf c rs code xs) (c.raw+Plc.sumSz rs rs.length):=by
 obtain ⟨h1,h2,h3,h4,h5,h6,h7,h8,h9,h10,h11⟩:=of_decide_eq_true (Plc.check_ok hE)
 have hs:=Plc.sum_bd rs rs.length (Nat.le_refl _)
 refine ⟨⟨⟨h3,h4⟩,⟨h5,h6⟩,⟨h7,h8⟩⟩,⟨h1,h2⟩,?_,h10,hcode,?_,?_,hx,hxi⟩
 · show c.raw≤c.raw+_
   omega
 · show (regsOf c.raw rs rs.length).length≤8
   rw [regsOf_length]
   exact h11
 · intro r hr
   have hr':r∈regsOf c.raw rs rs.length:=hr
   unfold regsOf at hr'
   obtain ⟨i,hi,rfl⟩:=List.mem_map.1 hr'
   have hil:=List.mem_range.1 hi
   have hb:=reg_ok hE hil
   obtain ⟨b1,b2,b3,b4⟩:=of_decide_eq_true hb
   have hsn:=Plc.sum_snoc rs i hil
   have hm:=sum_mono rs (rs.length - (i+1)) (i+1) (by omega)
   rw [show i+1+(rs.length - (i+1))=rs.length by omega] at hm
   have hsb:=Plc.sum_bd rs i (by omega)
   have hsz:Plc.sizeN (rs.getD i (0,0)).1 (rs.getD i (0,0)).2=sizeP (rs.getD i (0,0)).1 (rs.getD i (0,0)).2:=by
     unfold Plc.sizeN
     rw [if_pos hb]
     rfl
   rw [hsz] at hsn
   dsimp only
   refine ⟨⟨b1,b2⟩,⟨by omega,by omega⟩,⟨b3,b4⟩,by omega⟩
theorem new_at {w0 w:World} {X:List Nat} {Cs:List Comp} {x tx:Nat} {k:PCfg} {rv av:Value} {F:List Nat} {hi:Int} {told:List EvD} (h:Sep w0 X (jC x k (newPF (pf0 rv av) tx (.slice none 0 0)) [] [] [] [] (newTx k.c.ring k.c.writes k.c.stamps k.c.multi) F (cReg rv k.regs::Cs)) w) :
   JobAt w0 X (cReg rv k.regs::Cs) x k rv hi told (.on ⟨newTx k.c.ring k.c.writes k.c.stamps k.c.multi,false,false,[]⟩) w :=
 ⟨_,[],[],[],F,⟨stOk_nil,rfl,fun h=>by simp at h,i64_0,(show (0:Int)≤0+1∧(0:Int)+1≤255 by decide),fun h=>by simp [newPF] at h,rfl,fun _=>rfl⟩,rfl,.inl ⟨rfl,h⟩⟩
theorem new_job {c:CfgD} {m:MemD} (hc:CfgOk c) (hm:m.ring=c.ring):JobOk c ⟨newTx c.ring c.writes c.stamps c.multi,false,false,[]⟩ m:=jobOk_new hc hm false (fun _ h=>nomatch h)
end
end Go.Proofs.YtgfogfciobmmpaaGreatDoor
