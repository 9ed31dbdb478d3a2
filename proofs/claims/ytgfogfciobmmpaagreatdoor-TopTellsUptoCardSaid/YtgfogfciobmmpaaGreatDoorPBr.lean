/- A part of the proof of the law TopTells: NewP. -/
import Derived.Test.YtgfogfciobmmpaaGreatDoorPBm
import Derived.Deep.RegionHeld3
set_option linter.unusedSimpArgs false
set_option linter.unusedVariables false
set_option maxRecDepth 100000
set_option maxHeartbeats 8000000
namespace Go.Proofs.YtgfogfciobmmpaaGreatDoor
section
open Go.RowKit
variable {w0:World} {X:List Nat} {Cs:List Comp} {w:World} {x:Nat}
def regC (rs:List (Int×Int)):List Value:=rs.flatMap fun r=>[.int .i64 r.1,.int .i64 r.2]
theorem regC_at:∀ (l:List (Int×Int)) (j:Nat),j < l.length→(regC l)[j * 2]?=some (.int .i64 (l.getD j (0,0)).1)∧(regC l)[j * 2+1]?=some (.int .i64 (l.getD j (0,0)).2)
 | [],j,h=>by simp at h
 | r::l,0,_=>⟨rfl,rfl⟩
 | r::l,j+1,h=>by
   have ih:=regC_at l j (by simpa using h)
   have e:regC (r::l)=.int .i64 r.1::.int .i64 r.2::regC l:=rfl
   rw [e,show (j+1) * 2=j * 2+1+1 by omega]
   exact ⟨by simpa using ih.1,by simpa using ih.2⟩
theorem reads_regs {W:World} {rv:Value} {rs:List (Int×Int)} (h:RowAt W 90 2 rv rs.length (regC rs)) (hn:rs.length≤8796093021952):Plc.ReadsR W W.heap.size rv rs:=by
 rcases h.parts with ⟨rfl,h2,-⟩ | ⟨g,cap,rfl,hnc,hcm,hg,hcell⟩
 · exact ⟨hn,none,0,by rw [h2],by omega,by omega,.inl (List.eq_nil_of_length_eq_zero h2)⟩
 · refine ⟨hn,some ⟨g,0,none⟩,cap,rfl,hnc,by unfold maxLen at hcm;omega,.inr ⟨g,0,rfl,hg,fun i hi=>?_⟩⟩
   obtain ⟨h1,h2⟩:=regC_at rs i hi
   exact ⟨by rw [Nat.zero_add];exact hcell _ _ h1,by rw [Nat.zero_add];exact hcell _ _ h2⟩
def regsOf (raw:Int) (rs:List (Int×Int)) (n:Nat):List (Int×Int×Int):=(List.range n).map fun i=>((rs.getD i (0,0)).1,raw+Plc.sumSz rs i,(rs.getD i (0,0)).2)
theorem regsOf_add (raw:Int) (rs:List (Int×Int)) (n:Nat):regsOf raw rs (n+1)=regsOf raw rs n++[((rs.getD n (0,0)).1,raw+Plc.sumSz rs n,(rs.getD n (0,0)).2)]:=by
 unfold regsOf
 rw [List.range_succ,List.map_append]
 rfl
theorem regsOf_length (raw:Int) (rs:List (Int×Int)) (n:Nat):(regsOf raw rs n).length=n:=by simp [regsOf]
theorem regCells_add (l:List (Int×Int×Int)) (a b c:Int):regCells l++[.int .i64 a,.int .i64 b,.int .i64 c]=regCells (l++[(a,b,c)]):=by
 unfold regCells
 rw [List.flatMap_append]
 rfl
theorem regCells_len (l:List (Int×Int×Int)):(regCells l).length=l.length * 3:=by
 induction l with
 | nil=>rfl
 | cons r l ih =>
   have e:regCells (r::l)=.int .i64 r.1::.int .i64 r.2.1::.int .i64 r.2.2::regCells l:=rfl
   rw [e]
   simp [ih]
   omega
def pf0 (rv av:Value):PF:=⟨rv,av,0,0,false,false,0,.slice none 0 0,.slice none 0 0,.slice none 0 0,.no,.nilIface,0,.slice none 0 0,false,0⟩
def kOf (c:Plc.Cfg) (rs:List (Int×Int)) (code:ByteArray) (xs:List Int):PCfg:=⟨⟨c.ring,c.writes,c.stamps,c.multi⟩,c.raw,c.tries,c.raw+Plc.sumSz rs rs.length,code,regsOf c.raw rs rs.length,xs⟩
theorem infoReg3:(Tryz.prog.info? 103).map (fun i=>(i.zero,i.size,i.bytes))=some (some (.agg #[.int .i64 0,.int .i64 0,.int .i64 0]),3,24):=by kernel_rfl
theorem cI_form {W:World} {v:Value} {xs:List Int} (h:Sep w0 X (cI v xs::Cs) W):∃ a c,v=.slice a xs.length c∧xs.length≤c∧c≤maxLen:=by
 have hr:RowAt W 2 1 v xs.length (ints xs):=h.h0
 exact hr.slice
def NewPost (w0:World) (X:List Nat) (Cs:List Comp) (k:PCfg) (e:Ending) (w':World):Prop :=
 ∃ x rv' av' tx F,e=.returned (.tuple #[ptr x,.int .i64 0])∧Sep w0 X (jC x k (newPF (pf0 rv' av') tx (.slice none 0 0)) [] [] [] [] (newTx k.c.ring k.c.writes k.c.stamps k.c.multi) F (cReg rv' k.regs::Cs)) w'
attribute [local go_sem] fill_one
theorem prog_New (hS:Sep w0 X Cs w) (c:Plc.Cfg) (rv:Value) (rs:List (Int×Int)) (code:ByteArray) (av:Value) (xs:List Int) (hregs:∀ W,Kept X w0 W→RowAt W 90 2 rv rs.length (regC rs)) (hargs:∀ W,Kept X w0 W→RowAt W 2 1 av xs.length (ints xs))
   (hE:Plc.checkE c rs=0) (hcode:code.size≤512) (hx:xs.length≤4) :
   Calls Tryz.prog 18 #[c.val rv,.string code,av] w (NewPost w0 X Cs (kOf c rs code xs)):=by
 have hf:=of_decide_eq_true (Plc.check_ok hE)
 have hn8:rs.length≤8:=by omega
 have HCELLS:=kH (fun (W:World) (h:Kept X w0 W)=>Plc.Cells_calls W W.heap.size c rv rs (reads_regs (hregs W h) (by omega)) (Nat.le_refl _))
 have HBASE:=kH (fun (W:World) (h:Kept X w0 W) r=>Plc.Base_calls W W.heap.size c rv rs r (reads_regs (hregs W h) (by omega)) (Nat.le_refl _))
 have hcv:Plc.cellsV c rs=.tuple #[.int .i64 (c.raw+Plc.sumSz rs rs.length),.int .i64 0]:=by unfold Plc.cellsV;rw [if_pos hE,hE]
 rw [hcv] at HCELLS
 obtain ⟨a,cap,hrv,hcn,hcm⟩:=(hregs w hS.kept).slice
 obtain ⟨aa,acap,hav,hacn,hacm⟩:=(hargs w hS.kept).slice
 have HREGS:=kH hregs
 have HARGS:=kH hargs
 have HS:=kH hS
 have HE:=kH hE
 have HF:=kH hf
 clear hS hregs hargs hE hcv hf
 generalize hN:c.raw+Plc.sumSz rs rs.length=N at HCELLS
 have HN:=kH hN
 clear hN
 subst hrv hav
 obtain ⟨raw,ring,writes,stamps,multi,tries⟩:=c
 unfold Plc.Cfg.val Plc.Cfg.cells at *
 dsimp only at *
 have hxl:(xs.length:Int)≤4:=by omega
 have hcl:(code.size:Int)≤512:=by omega
 go_enter Tryz.func18,Tryz.ntmps18
 go_wp2_with fail
 have S1:=HS.out.new (.cells #[.int .i64 raw,.int .i64 ring,.int .i64 writes,.int .i64 stamps,.bool multi,.int .i64 tries,.slice a rs.length cap] 24 (0,0))
 refine (HCELLS.out _ S1.kept).mono ?_
 rintro e1 w1 ⟨rfl,hb1⟩
 have S2:=S1.below hb1
 have y0:=S2.cell 0
 have y1:=S2.cell 1
 have y2:=S2.cell 2
 have y3:=S2.cell 3
 have y4:=S2.cell 4
 have y5:=S2.cell 5
 have y6:=S2.cell 6
 simp only [gA,gZ,gS] at y0 y1 y2 y3 y4 y5 y6
 have hlt1:=heap_lt S2.h0
 have HCL:=kH (Clone_cI S2 (HARGS.out _ S2.kept) (by omega))
 have HCLD:=kH (fun q=>Clone_cI (S2.drewN q) (HARGS.out _ (S2.drewN q).kept) (by omega))
 clear S1 S2 hb1 HCELLS
 go_wp2_with fail
 go_region_held3 (fun w'=>w'.cell? ⟨w.heap.size,0,none⟩=some (.int .i64 raw)∧w'.cell? ⟨w.heap.size,1,none⟩=some (.int .i64 ring)∧w'.cell? ⟨w.heap.size,2,none⟩=some (.int .i64 writes)∧w'.cell? ⟨w.heap.size,3,none⟩=some (.int .i64 stamps)∧w'.cell? ⟨w.heap.size,4,none⟩=some (.bool multi)∧w'.cell? ⟨w.heap.size,5,none⟩=some (.int .i64 tries)∧w'.cell? ⟨w.heap.size,6,none⟩=some (.slice a rs.length cap)) (go_keep) (first | (go_at_call 35;(first | refine HCL.out.mono ?_ | refine (HCLD.out _).mono ?_);rintro e2 w2 ⟨av',rfl,S3⟩;obtain ⟨a9,c9,rfl,-,-⟩:=cI_form S3;have z0:=S3.cell1 0;have z1:=S3.cell1 1;have z2:=S3.cell1 2;have z3:=S3.cell1 3;have z4:=S3.cell1 4;have z5:=S3.cell1 5;have z6:=S3.cell1 6;simp only [gA,gZ,gS] at z0 z1 z2 z3 z4 z5 z6;have hltc:=heap_lt S3.h1;have HS3:=kH S3;clear S3))
 have S4:=HS3.out.new (.cells #[.int .i64 raw,.int .i64 ring,.int .i64 writes,.int .i64 stamps,.bool multi,.int .i64 tries,.slice none 0 0,.int .i64 N,.slice none 0 0,.string code,.slice a9 xs.length c9,.int .i64 0,.pointer none,.bool false,.bool false,.int .i64 0,.slice none 0 0,.slice none 0 0,.slice none 0 0,.nilFunc,.nilIface,.int .i64 0,.slice none 0 0,.bool false,.int .i64 0] 100 (0,0))
 have S5:=S4.eqB (B:=progN (kOf ⟨raw,ring,writes,stamps,multi,tries⟩ rs code xs) (pf0 (.slice none 0 0) (.slice a9 xs.length c9))) (by rw [← HN.out];rfl)
 have S6:=((S5.nilRow 103 3)).sw
 have HS6:=kH S6
 clear S4 S5 S6 HS3 HCL HCLD y0 y1 y2 y3 y4 y5 y6
 go_wp2_with fail
 go_loopg [45] (rs.length) (fun nn v45 wr=>∃ (i:Nat) (rvv:Value),i≤rs.length∧v45=.int .i64 i∧nn+i=rs.length∧Sep w0 X (cBlk w2.heap.size (progNO (kOf ⟨raw,ring,writes,stamps,multi,tries⟩ rs code xs) (pf0 rvv (.slice a9 xs.length c9)))::cRow 103 3 rvv i (regCells (regsOf raw rs i))::cI (.slice a9 xs.length c9) xs::cBlk w.heap.size (.cells #[.int .i64 raw,.int .i64 ring,.int .i64 writes,.int .i64 stamps,.bool multi,.int .i64 tries,.slice a rs.length cap] 24 (0,0))::Cs) wr)
 case atStart=>exact ⟨0,.slice none 0 0,Nat.zero_le _,rfl,by omega,HS6.out⟩
 case round =>
   obtain ⟨i,rvv,hi,rfl,hn,S⟩:=hrel
   have HNN:=kH hn
   clear hn HS6
   by_cases hlt2:i < rs.length
   · have hrow:=HREGS.out _ S.kept
     obtain ⟨q1,q2⟩:=regC_at rs i hlt2
     rcases hrow.parts with ⟨-,h2,-⟩ | ⟨g,cap',hv,-,-,hg,hcell⟩
     · omega
     injection hv with hv1 hv2 hv3
     subst hv1
     have g0:=hcell _ _ q1
     have g1:=hcell _ _ q2
     have S2:=S.pull [_,_,_]
     have y0:=S2.cell 0
     have y1:=S2.cell 1
     have y2:=S2.cell 2
     have y3:=S2.cell 3
     have y4:=S2.cell 4
     have y5:=S2.cell 5
     have y6:=S2.cell 6
     have k8:=S.cell 8
     have f8:=S.froz 8
     simp only [progN,pf0,gA,gZ,gS] at y0 y1 y2 y3 y4 y5 y6 k8
     have hltx:=heap_lt S.h0
     have hltc2:=heap_lt S2.h0
     have HB:=kH (fun (o:Obj)=>HBASE.out _ (S.alloc o).kept (i:Int))
     have HS:=kH S
     have HRO:=kH (regsOf_add raw rs i)
     obtain ⟨kd,hkd⟩:∃ kd,(rs.getD i (0,0)).1=kd:=⟨_,rfl⟩
     obtain ⟨mo,hmo⟩:∃ mo,(rs.getD i (0,0)).2=mo:=⟨_,rfl⟩
     rw [hkd] at g0
     rw [hmo] at g1
     have HKM:=kH (And.intro hkd hmo)
     have hil:(i:Int) < (rs.length:Int):=by omega
     have hcl2:(rs.length:Int)≤(cap:Int):=by omega
     clear S S2 hrow hcell q1 q2 hv2 hv3 hkd hmo
     have hbv:Plc.baseV ⟨raw,ring,writes,stamps,multi,tries⟩ rs (i:Int)=.tuple #[.int .i64 (raw+Plc.sumSz rs i),.int .i64 0]:=by
       unfold Plc.baseV
       rw [if_pos HE.out,if_neg (by omega),Int.toNat_natCast]
     rw [hbv] at HB
     clear hbv
     obtain ⟨bs,hbs⟩:∃ bs,raw+Plc.sumSz rs i=bs:=⟨_,rfl⟩
     rw [hbs] at HB
     have HBS:=kH hbs
     clear hbs
     go_wp2_with fail
     refine (HB.out _).mono ?_
     rintro e3 w3 ⟨rfl,hb3⟩
     have S3:=(HS.out.new (.cells #[.int .i64 kd,.int .i64 mo] 90 (0,0))).below hb3
     have b0:=S3.cell 0
     have b1:=S3.cell 1
     have k8:=S3.cell1 8
     have f8:=S3.froz1 8
     simp only [progN,pf0,gA,gZ,gS] at b0 b1 k8
     have hlt3:=heap_lt S3.h0
     have hlt4:=heap_lt S3.h1
     have HRO2:Hid (RowAt w3 103 3 rvv i (regCells (regsOf raw rs i))):=S3.h2
     have HS3:=kH S3
     clear S3 hb3 HB g0 g1 y0 y1 y2 y3 y4 y5 y6
     obtain ⟨i0,yi,yz0,yz1,yz2⟩:=info_parts infoReg3
     have HLEN:=kH (regCells_len (regsOf raw rs i))
     have HADD:=kH (regCells_add (regsOf raw rs i) kd bs mo)
     go_wp2_with fail
     go_region_law (refine step_append_lies _ rfl (.tmp 60) (.tmp 67) 92 rfl 0 103 i0 _ 3 24 Tryz.underlying92 yi yz0 yz1 yz2 rfl (by decide) rvv i (regCells (regsOf raw rs i)) rfl (World.ownsRow.alloc (w:=w3.drewN _) HRO2.out _) ⟨w3.heap.size,0,none⟩ 1 1 [.int .i64 kd,.int .i64 bs,.int .i64 mo] rfl rfl (fun j u hu=>new_cell (heap_new_at rfl) j u hu) (by simp [Value.oneCell']) (by decide) (by unfold maxLen;omega) (by omega) (Nat.zero_le _) _ rfl ?_;intro g5 cap5 w5 hown5 hgrow5 hat5 hgl5;have S5:=(((HS3.out.drewN _).alloc _).pull [_,_]).append hgrow5 hown5 hat5 (Nat.le_refl _);have hcc5:=(S5.pull [_,_]).cell 8;have hcf5:=(S5.pull [_,_]).froz 8;simp only [progN,pf0,gA,gZ,gS] at hcc5;have HS5:=kH S5;clear S5)
     all_goals
       go_wp2
       go_roundg (rs.length - (i+1))
       case measure=>have:=HNN.out;omega
       case rel =>
         refine ⟨i+1,.slice (some ⟨g5,0,none⟩) (i+1) cap5,by omega,by go_num,by have:=HNN.out;omega,?_⟩
         have e:regCells (regsOf raw rs (i+1))=regCells (regsOf raw rs i)++[.int .i64 kd,.int .i64 bs,.int .i64 mo]:=by rw [HRO.out,HKM.out.1,HKM.out.2,HBS.out,← HADD.out]
         rw [e]
         exact ((((HS5.out.pull [_,_]).set 8 (.slice (some ⟨g5,0,none⟩) (i+1) cap5)).eqB (B:=progN (kOf ⟨raw,ring,writes,stamps,multi,tries⟩ rs code xs) (pf0 (.slice (some ⟨g5,0,none⟩) (i+1) cap5) (.slice a9 xs.length c9))) (by simp [progN,pf0])).pull [_,_]).drop
   · obtain rfl:i=rs.length:=by omega
     obtain ⟨h1,h2,h3,h4,h5,h6,h7,h8,h9,h10,-⟩:=HF.out
     have HAG:=kH (again_new S ⟨⟨h3,h4⟩,⟨h5,h6⟩,⟨h7,h8⟩⟩ rfl (show (0:Int)≤0∧(0:Int)≤1000 by decide))
     clear S h1 h2 h3 h4 h5 h6 h7 h8 h9 h10
     unfold ptr at HAG
     go_wp2_with fail
     refine HAG.out.mono ?_
     rintro e7 w7 ⟨rfl,tx,F',S7⟩
     have HS7:=kH S7
     clear S7 HAG
     go_wp2
     go_ret2
     have S8:=((((HS7.out.nilRow 2 1).nilRow 2 1).nilRow 2 1).nilRow 44 19)
     have S9:=(((((((((S8.pull [_,_,_,_,_,_]).pull [_,_,_,_,_,_]).pull [_,_]).pull [_,_,_,_,_,_,_]).pull [_,_,_,_]).pull [_,_,_,_,_]).pull [_,_,_,_,_,_]).pull [_,_,_,_,_,_,_]).pull [_,_,_,_,_,_,_,_])
     refine ⟨w2.heap.size,rvv,.slice a9 xs.length c9,tx,F',rfl,?_⟩
     show Sep w0 X (_::_::_::_::_::_::_::cRow _ _ rvv (regsOf raw rs rs.length).length (regCells (regsOf raw rs rs.length))::Cs) _
     rw [regsOf_length]
     exact S9.drop
end
end Go.Proofs.YtgfogfciobmmpaaGreatDoor
