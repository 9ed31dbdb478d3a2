/- A part of the proof of the law TopTells: DoAll Prg Dop Dop2 Dop3 Dop4 Dop5 Wrk. -/
import Derived.Test.YtgfogfciobmmpaaGreatDoorPBd
import Derived.Laws.CopyOwn
import Derived.Deep.RegionLaw
import Derived.Deep.RegionHeld3
set_option linter.unusedSimpArgs false
set_option linter.unusedVariables false
set_option maxRecDepth 100000
set_option maxHeartbeats 8000000
namespace Go.Proofs.YtgfogfciobmmpaaGreatDoor
section
open Go.RowKit
variable {w0:World} {X:List Nat} {Cs:List Comp} {w:World} {x p L:Nat} {t:TxD} {F F2:List Nat} {m:MemD} {y:WantD}
theorem Do_tx {c:CfgD} (hc:CfgOk c) (hS:Sep w0 X (cTx x t F::cMem p m L F2::Cs) w) (hok:TxOk c t m) (hw:t.way=.no) (hf:fitsT m t y=true) (hv:I64 y.value) (th:Int) (hn:t.told.length≤1073741823) (hL:L≤1073741824) :
   Calls Tryz.prog 56 #[ptr x,ptr p,.int .i64 th,wantV y] w (TxPost w0 X Cs x p L (txDo m t y)):=by
 have hmem:MemOk m:=(hS.h1:RepM _ p m L F2).ok
 obtain ⟨q,a,k,lv,tv,hm,hr,hS⟩:=hS.txOpen
 rw [hw] at hS
 have hS:Sep w0 X (txC x q .nilIface tv t (cMem p m L F2::Cs)) w:=hS
 have hcl:=hmem.cells
 have hmr:t.ring=m.ring:=hok.cfg.1.trans hok.mring.symm
 have hrg:1≤t.ring∧t.ring≤16:=by have:=hc.ring;have:=hok.cfg.1;omega
 have hn1:t.told.length≤1073741824:=by omega
 have hf0:=hf
 unfold fitsT at hf0
 simp only [Bool.and_eq_true,decide_eq_true_eq] at hf0
 obtain ⟨-,hf0⟩:=hf0
 by_cases h1:y.kind=1
 · exact Do_beg hS hf h1 hm hr hmr hrg hn hL th
 rw [if_neg h1] at hf0
 by_cases h2:y.kind=2
 · rw [if_pos (.inl h2)] at hf0
   simp only [decide_eq_true_eq] at hf0
   obtain ⟨-,hc0,hc1⟩:=hf0
   cases ho:ownT t.list y.cell with
   | some v=>exact Do_own hS hw hf h2 ho ⟨hc0,by omega⟩ hok.nodup hm hr hn1 th
   | none=>exact Do_read hS hf h2 ho ⟨hc0,by omega⟩ hc1 hok.nodup hm hr hok.reads hmr hrg hok.start hn1 hL th
 by_cases h3:y.kind=3
 · rw [if_pos (.inr h3)] at hf0
   simp only [decide_eq_true_eq] at hf0
   obtain ⟨-,hc0,hc1⟩:=hf0
   exact Do_put hS hw hf h3 ⟨hc0,by omega⟩ hv hok.nodup hm hr hok.wrote hok.reads.1 hn1 th
 rw [if_neg (by omega)] at hf0
 by_cases h4:y.kind=4
 · by_cases hl:t.list=[]
   · exact Do_empty hS hf h4 hl hm hr hok.reads.1 hn1 th
   · have hlen:=hok.len
     have hwr:=hc.writes
     have hcw:=hok.cfg.2.1
     have hsp:1≤t.stamps∧t.stamps≤1099511627776:=by have:=hc.stamps;have:=hok.cfg.2.2.1;omega
     exact Do_com hS hf h4 ⟨List.length_pos_iff.2 hl,by omega⟩ (fun y hy=>by have h:=hok.list y hy;omega) hm hr hok.reads hok.wrote.1 hmr hrg hsp hok.start hn1 hL th
 rw [if_neg h4] at hf0
 by_cases h5:y.kind=5
 · exact Do_abort hS hw hf h5 hm hr hok.reads.1 hn1 th
 · rw [if_neg h5] at hf0
   simp at hf0
end
section
open Go.RowKit
variable {w0:World} {X:List Nat} {Cs:List Comp} {w:World} {x:Nat}
structure PCfg where
 c:CfgD
 raw:Int
 tries:Int
 cells:Int
 code:ByteArray
 regs:List (Int×Int×Int)
 args:List Int
inductive CameD
 | no
 | nothing
 | ends
 | loaded
 | heard
def CameD.val:CameD→Value
 | .no=>.nilFunc
 | .nothing=>.func (.func 41) #[] #[]
 | .ends=>.func (.func 66) #[] #[]
 | .loaded=>.func (.func 69) #[] #[]
 | .heard=>.func (.func 61) #[] #[]
def CameD.fin:CameD→Bool
 | .ends=>true
 | _=>false
structure PF where
 rv:Value
 av:Value
 nth:Int
 tx:Nat
 begun:Bool
 published:Bool
 at_:Int
 sv:Value
 cv:Value
 tv:Value
 came:CameD
 ask:Value
 word:Int
 ov:Value
 over:Bool
 err:Int
def progA (k:PCfg) (f:PF):Array Value:=#[.int .i64 k.raw,.int .i64 k.c.ring,.int .i64 k.c.writes,.int .i64 k.c.stamps,.bool k.c.multi,.int .i64 k.tries,.slice none 0 0,.int .i64 k.cells,f.rv,.string k.code,f.av,.int .i64 f.nth,
 ptr f.tx,.bool f.begun,.bool f.published,.int .i64 f.at_,f.sv,f.cv,f.tv,f.came.val,f.ask,.int .i64 f.word,f.ov,.bool f.over,.int .i64 f.err]
def progO (k:PCfg) (f:PF):Obj:=.cells (progA k f) 100 (0,0)
def regCells (l:List (Int×Int×Int)):List Value:=l.flatMap fun r=>[.int .i64 r.1,.int .i64 r.2.1,.int .i64 r.2.2]
def cReg (v:Value) (l:List (Int×Int×Int)):Comp:=cRow 103 3 v l.length (regCells l)
theorem ints_length (xs:List Int):(ints xs).length=xs.length:=by simp [ints]
theorem ints_one (xs:List Int):∀ v∈ints xs,v.oneCell'=true:=fun v hv=>by
 unfold ints at hv
 obtain ⟨y,_,rfl⟩:=List.mem_map.1 hv
 rfl
theorem ints_add (xs:List Int) (v:Int):ints xs++[.int .i64 v]=ints (xs++[v]):=by simp [ints]
theorem ints_drop (xs:List Int) (k:Nat):(ints xs).drop k=ints (xs.drop k):=by simp [ints,List.map_drop]
theorem ints_take (xs:List Int) (k:Nat):(ints xs).take k=ints (xs.take k):=by simp [ints,List.map_take]
theorem ints_at {xs:List Int} {j:Nat} (h:j < xs.length):(ints xs)[j]?=some (.int .i64 (xs.getD j 0)):=by
 unfold ints
 rw [List.getElem?_map,List.getElem?_eq_getElem h,List.getD_eq_getElem?_getD,List.getElem?_eq_getElem h]
 rfl
theorem Sep.pset {k:PCfg} {f f':PF} (h:Sep w0 X (cBlk x (progO k f)::Cs) w) (i:Nat) (v:Value) (he:(progA k f).setIfInBounds i v=progA k f'):Sep w0 X (cBlk x (progO k f')::Cs) (w.setCell ⟨x,i,none⟩ v):=by
 have h6:=h.set i v
 rw [he] at h6
 exact h6
theorem infoI64:(Tryz.prog.info? 2).map (fun i=>(i.zero,i.size,i.bytes))=some (some (.int .i64 0),1,8):=by kernel_rfl
theorem push_prog {k:PCfg} {f:PF} {st:List Int} (hS:Sep w0 X (cBlk x (progO k f)::cI f.sv st::Cs) w) (v:Int) (hn:st.length≤1000) :
   Calls Tryz.prog 60 #[ptr x,.int .i64 v] w (fun e w'=>e=.returned (.tuple #[])∧∃ sv',Sep w0 X (cBlk x (progO k { f with sv:=sv' })::cI sv' (st++[v])::Cs) w'):=by
 obtain ⟨i0,yi,yz0,yz1,yz2⟩:=info_parts infoI64
 have c16:=hS.cell 16
 simp only [progA,gA,gZ,gS] at c16
 have hlt:=heap_lt hS.h0
 have hr:RowAt w 2 1 f.sv st.length (ints st):=hS.h1
 have HS:=kH hS
 have HR:=kH hr
 have HA:=kH (ints_add st v)
 have hone:=ints_one st
 clear hS hr hone
 unfold ptr at *
 go_enter Tryz.func60,Tryz.ntmps60
 go_wp2_with (at_builtin;refine wpList_append_lies _ rfl (.tmp 9) (.tmp 11) 66 rfl 0 2 i0 _ 1 8 Tryz.underlying66 yi yz0 yz1 yz2 rfl (by decide) f.sv st.length (ints st) rfl (World.ownsRow.alloc HR.out _) ⟨w.heap.size,0,none⟩ 1 1 [.int .i64 v] rfl rfl (fun j u hu=>new_cell (heap_new_at rfl) j u hu) (by simp [Value.oneCell']) (by decide) (by unfold maxLen;omega) (by omega) (Nat.zero_le _) _ rfl ?_;intro g cap w5 hown5 hgrow5 hat5 hgl5;have S5:=((HS.out.alloc _).sw.append hgrow5 hown5 hat5 (Nat.le_refl _)).sw;have hcf5:=S5.froz 16;have hcc5:=S5.cell 16;simp only [progA,gA,gZ,gS] at hcc5;have HS5:=kH S5;clear S5 hown5 hgrow5 hat5)
 have S6:=HS5.out.pset (f':={ f with sv:=.slice (some ⟨g,0,none⟩) (st.length+1) cap }) 16 (.slice (some ⟨g,0,none⟩) (st.length+1) cap) (by simp [progA])
 go_end0
 refine ⟨rfl,.slice (some ⟨g,0,none⟩) (st.length+1) cap,?_⟩
 show Sep w0 X (_::cRow _ _ _ (st++[v]).length (ints (st++[v]))::Cs) _
 rw [show (st++[v]).length=st.length+1 by simp,← HA.out]
 exact S6
theorem RowAt.take {e:TypeId} {sz:Nat} {g n cap:Nat} {xs:List Value} (h:RowAt w e sz (.slice (some ⟨g,0,none⟩) n cap) n xs) {m:Nat} (hm:m≤n):RowAt w e sz (.slice (some ⟨g,0,none⟩) m cap) m (xs.take (m * sz)):=by
 obtain ⟨h1,h2⟩:=h
 rcases h2 with ⟨h2,_⟩ | ⟨g',cap',cur,h2,hb,hg,hnc,hcm,hcs,ht⟩
 · simp at h2
 · simp only [Value.slice.injEq,Option.some.injEq,Addr.mk.injEq,and_true,true_and] at h2
   obtain ⟨rfl,rfl⟩:=h2
   have hms:m * sz≤n * sz:=Nat.mul_le_mul_right _ hm
   refine ⟨by rw [List.length_take,h1];omega,.inr ⟨g,cap,cur,rfl,hb,hg,by omega,hcm,hcs,?_⟩⟩
   rw [← ht,List.take_take,Nat.min_eq_left hms]
theorem RowAt.parts {e:TypeId} {sz:Nat} {v:Value} {n:Nat} {xs:List Value} (h:RowAt w e sz v n xs):(v=.slice none 0 0∧n=0∧xs=[])∨∃ g cap,v=.slice (some ⟨g,0,none⟩) n cap∧n≤cap∧cap≤maxLen∧g < w.heap.size∧(∀ j u,xs[j]?=some u→w.cell? ⟨g,j,none⟩=some u):=by
 rcases h.2 with ⟨rfl,rfl⟩ | ⟨g,cap,cur,rfl,hb,hg,hnc,hcm,hcs,ht⟩
 · exact .inl ⟨rfl,rfl,List.eq_nil_of_length_eq_zero (by simpa using h.1)⟩
 · refine .inr ⟨g,cap,rfl,hnc,hcm,heap_lt hg,fun j u hu=>?_⟩
   rw [cell_of_row w g j _ _ _ hg]
   rw [← ht,List.getElem?_take] at hu
   split at hu
   · simpa using hu
   · simp at hu
theorem Sep.cut {e:TypeId} {sz:Nat} {g n cap:Nat} {xs:List Value} (h:Sep w0 X (cRow e sz (.slice (some ⟨g,0,none⟩) n cap) n xs::Cs) w) {m:Nat} (hm:m≤n):Sep w0 X (cRow e sz (.slice (some ⟨g,0,none⟩) m cap) m (xs.take (m * sz))::Cs) w:=by
 have hr:RowAt w e sz (.slice (some ⟨g,0,none⟩) n cap) n xs:=h.h0
 exact h.call1 (C3:=[cRow e sz (.slice (some ⟨g,0,none⟩) m cap) m (xs.take (m * sz))]) ⟨Kept.refl _ _,fun c hc=>by rw [List.mem_singleton.1 hc];exact hr.take hm,by simp [feet,cRow,rowF],fun x hx=>by simp [feet,cRow,rowF] at hx;exact .inl (by simp [cRow,rowF,hx])⟩
theorem Sep.gotRow {W':World} {e:TypeId} {sz:Nat} {v:Value} {n:Nat} {xs:List Value} (h:Sep w0 X Cs w) (hb:Below w.heap.size w W') (hr:W'.ownsRow w.heap.size e sz v n xs):Sep w0 X (cRow e sz v n xs::Cs) W':=by
 have h0:RowAt W' e sz v n xs:=by
   refine ⟨hr.1,?_⟩
   rcases hr.2 with h | ⟨g,cap,cur,h1,h2,h3⟩
   · exact .inl h
   · exact .inr ⟨g,cap,cur,h1,Nat.zero_le _,h3⟩
 refine h.more (C3:=[cRow e sz v n xs]) ⟨Kept.of_below hb _,fun c hc=>by rw [List.mem_singleton.1 hc];exact h0,?_,fun x hx=>?_⟩
 · rcases hr.2 with ⟨rfl,_⟩ | ⟨g,cap,cur,rfl,_⟩ <;> simp [feet,cRow,rowF]
 · rcases hr.2 with ⟨rfl,_⟩ | ⟨g,cap,cur,rfl,h2,_⟩
   · simp [feet,cRow,rowF] at hx
   · simp [feet,cRow,rowF] at hx
     subst hx
     exact .inr h2
theorem sizeI64 (w:World):(Go.sizeOf 2).run Tryz.prog w=.ok 1 w:=by kernel_rfl
theorem Clone_ints (hS:Sep w0 X Cs w) (g off n c:Nat) (xs:List Int) (hl:xs.length=n) (hn:n≤1000000) (hc:∀ (j:Nat) (u:Value),(ints xs)[j]?=some u→w.cell? ⟨g,off+j,none⟩=some u) :
   Calls Tryz.prog 35 #[.slice (some ⟨g,off,none⟩) n c] w (fun e w'=>∃ v',e=.returned v'∧Sep w0 X (cI v' xs::Cs) w'):=by
 obtain ⟨i0,yi,yz0,yz1,yz2⟩:=info_parts infoI64
 refine (Tryz.Clone_i64 i0 _ 1 8 yi yz0 yz1 yz2 rfl (by decide) sizeI64 g off n c (ints xs) w (by rw [ints_length,hl];omega) (by unfold maxLen;omega) (by omega) hc (ints_one xs)).mono ?_
 rintro e w' ⟨v',rfl,hr,-,hb⟩
 refine ⟨v',rfl,?_⟩
 subst hl
 exact hS.gotRow hb hr
def PopPost (w0:World) (X:List Nat) (Cs:List Comp) (x:Nat) (k:PCfg) (f:PF) (st:List Int) (m:Nat) (e:Ending) (w':World):Prop :=
 ∃ lv sv',e=.returned lv∧Sep w0 X (cI lv (st.drop m)::cBlk x (progO k { f with sv:=sv' })::cI sv' (st.take m)::Cs) w'
theorem pop_prog {k:PCfg} {f:PF} {st:List Int} (hS:Sep w0 X (cBlk x (progO k f)::cI f.sv st::Cs) w) (m n:Nat) (hmn:st.length=m+n) (hn:st.length≤1000) :
   Calls Tryz.prog 67 #[ptr x,.int .i64 n] w (PopPost w0 X Cs x k f st m):=by
 have c16:=hS.cell 16
 have f16:=hS.froz 16
 simp only [progA,gA,gZ,gS] at c16
 have hlt:=heap_lt hS.h0
 have hr:RowAt w 2 1 f.sv st.length (ints st):=hS.h1
 have hsub:IntKind.i64.wrap ((st.length:Int) - (n:Int))=(m:Int):=by rw [IntWalk.i64_in _ (by omega)];omega
 rcases hr.parts with ⟨hv,h0,-⟩ | ⟨g,cap,hv,hnc,hcm,hg,hcell⟩
 · have hst:st=[]:=List.eq_nil_of_length_eq_zero h0
   subst hst
   obtain rfl:m=0:=by simp at hmn;omega
   obtain rfl:n=0:=by simp at hmn;omega
   rw [hv] at c16
   have S1:Sep w0 X (cI (.slice none 0 0) []::cBlk x (progO k f)::cI f.sv []::Cs) w:=hS.nilRow _ _
   have HS:=kH S1
   have HV:=kH hv
   clear hS hr hmn hn hsub S1 hv h0
   unfold ptr at *
   go_enter Tryz.func67,Tryz.ntmps67
   go_wp2_with (go_at_call 35;refine (Tryz.Clone_i64_nil _ _ _).mono ?_;rintro e w' ⟨rfl,rfl⟩)
   go_ret
   refine ⟨_,.slice none 0 0,rfl,?_⟩
   have h:=((HS.out).sw.pset (f':={ f with sv:=.slice none 0 0 }) 16 (.slice none 0 0) (by simp [progA])).sw
   rw [HV.out] at h
   exact h
 · have hmc:m≤cap:=by omega
   have hdl:(st.drop m).length=n:=by rw [List.length_drop];omega
   have hsrc:∀ (j:Nat) (u:Value),(ints (st.drop m))[j]?=some u→w.cell? ⟨g,m+j,none⟩=some u:=fun j u hu=>by
     rw [← ints_drop,List.getElem?_drop] at hu
     exact hcell _ u hu
   have HC:=kH (fun c=>Clone_ints hS g m n c (st.drop m) hdl (by omega) hsrc)
   have hsrc0:m=cap→∀ (j:Nat) (u:Value),(ints (st.drop m))[j]?=some u→w.cell? ⟨g,0+j,none⟩=some u:=fun e j u hu=>by
     rw [List.eq_nil_of_length_eq_zero (show (st.drop m).length=0 by rw [List.length_drop];omega)] at hu
     simp [ints] at hu
   have HV:=kH hv
   rw [hv] at c16
   have hn1:st.length - m=n:=by omega
   have hml:m≤st.length:=by omega
   have hn0:m=cap→n=0:=by omega
   by_cases hcap:cap=m
   · have HC0:=kH (fun c=>Clone_ints hS g 0 n c (st.drop m) hdl (by omega) (hsrc0 hcap.symm))
     obtain rfl:n=0:=hn0 hcap.symm
     obtain rfl:m=cap:=hcap.symm
     have HSUB:=kH hsub
     clear HC hS hr hsrc hsrc0 hcell hdl hv hn0 hsub
     unfold ptr at *
     go_enter Tryz.func67,Tryz.ntmps67
     go_wp2_with fail
     refine (HC0.out _).mono ?_
     rintro e w1 ⟨v',rfl,S1⟩
     have d16:=S1.cell1 16
     have g16:=S1.froz1 16
     simp only [progA,gA,gZ,gS,HV.out] at d16
     have HS1:=kH S1
     clear S1 c16 f16
     go_wp2
     go_ret
     refine ⟨_,.slice (some ⟨g,0,none⟩) m m,rfl,?_⟩
     have S2:Sep w0 X (cRow 2 1 f.sv st.length (ints st)::cI v' (st.drop m)::cBlk x (progO k f)::Cs) w1:=HS1.out.f2
     rw [HV.out] at S2
     have S3:=(S2.cut hml).b2.sw.pset (f':={ f with sv:=.slice (some ⟨g,0,none⟩) m m }) 16 (.slice (some ⟨g,0,none⟩) m m) (by simp [progA])
     rw [Nat.mul_one,ints_take] at S3
     show Sep w0 X (cI v' (st.drop m)::cBlk x _::cRow _ _ _ (st.take m).length (ints (st.take m))::Cs) _
     rw [show (st.take m).length=m by rw [List.length_take];omega]
     exact S3.sw
   · have HSUB:=kH hsub
     clear hS hr hsrc hsrc0 hcell hdl hv hn0 hsub
     unfold ptr at *
     go_enter Tryz.func67,Tryz.ntmps67
     go_wp2_with fail
     refine (HC.out _).mono ?_
     rintro e w1 ⟨v',rfl,S1⟩
     have d16:=S1.cell1 16
     have g16:=S1.froz1 16
     simp only [progA,gA,gZ,gS,HV.out] at d16
     have HS1:=kH S1
     clear S1 c16 f16
     go_wp2
     go_ret
     refine ⟨_,.slice (some ⟨g,0,none⟩) m cap,rfl,?_⟩
     have S2:Sep w0 X (cRow 2 1 f.sv st.length (ints st)::cI v' (st.drop m)::cBlk x (progO k f)::Cs) w1:=HS1.out.f2
     rw [HV.out] at S2
     have S3:=(S2.cut hml).b2.sw.pset (f':={ f with sv:=.slice (some ⟨g,0,none⟩) m cap }) 16 (.slice (some ⟨g,0,none⟩) m cap) (by simp [progA])
     rw [Nat.mul_one,ints_take] at S3
     show Sep w0 X (cI v' (st.drop m)::cBlk x _::cRow _ _ _ (st.take m).length (ints (st.take m))::Cs) _
     rw [show (st.take m).length=m by rw [List.length_take];omega]
     exact S3.sw
end
section
open Go.RowKit
variable {w0:World} {X:List Nat} {Cs:List Comp} {w:World} {x:Nat} {k:PCfg} {f:PF} {st cs ts:List Int} {lv:Value}
def pC (x:Nat) (k:PCfg) (f:PF) (st cs ts:List Int) (Cs:List Comp):List Comp:=cBlk x (progO k f)::cI f.sv st::cI f.cv cs::cI f.tv ts::cI f.av k.args::Cs
structure StOk (st cs ts:List Int):Prop where
 stl:st.length≤32
 csl:cs.length≤8
 tsl:ts.length≤16
 i64:∀ v∈st,I64 v
def DopPost (w0:World) (X:List Nat) (Cs:List Comp) (x:Nat) (k:PCfg) (f:PF) (e:Ending) (w':World):Prop :=
 e=.returned (.tuple #[])∧∃ sv cv tv at_ st cs ts,StOk st cs ts∧Sep w0 X (pC x k { f with sv:=sv,cv:=cv,tv:=tv,at_:=at_ } st cs ts Cs) w'
def opV (c n:Int):Value:=.agg #[.int .i64 c,.int .i64 n]
def opO (c n:Int):Obj:=.cells #[.int .i64 c,.int .i64 n] 135 (0,0)
theorem Sep.intAt (As:List Comp) {g n cap:Nat} {xs:List Int} (h:Sep w0 X (As++cI (.slice (some ⟨g,0,none⟩) n cap) xs::Cs) w) {j:Nat} (hj:j < xs.length):w.cell? ⟨g,j,none⟩=some (.int .i64 (xs.getD j 0)):=by
 have hr:RowAt w 2 1 (.slice (some ⟨g,0,none⟩) n cap) xs.length (ints xs):=(h.pull As).h0
 rcases hr.parts with ⟨h1,h2,h3⟩ | ⟨g2,cap2,h1,h2,h3,h4,h5⟩
 · omega
 · simp only [Value.slice.injEq,Option.some.injEq,Addr.mk.injEq,and_true,true_and] at h1
   obtain ⟨rfl,-,-⟩:=h1
   exact h5 j _ (ints_at hj)
theorem Sep.intForm (As:List Comp) {xs:List Int} (h:Sep w0 X (As++cI lv xs::Cs) w) (hx:0 < xs.length):∃ g cap,lv=.slice (some ⟨g,0,none⟩) xs.length cap∧xs.length≤cap∧g < w.heap.size:=by
 have hr:RowAt w 2 1 lv xs.length (ints xs):=(h.pull As).h0
 rcases hr.parts with ⟨h1,h2,h3⟩ | ⟨g2,cap2,h1,h2,h3,h4,h5⟩
 · omega
 · exact ⟨g2,cap2,h1,h2,h4⟩
theorem stOk_add (h:StOk st cs ts) {v:Int} (hl:st.length+1≤32) (hv:I64 v):StOk (st++[v]) cs ts :=
 ⟨by simp;omega,h.csl,h.tsl,fun y hy=>by
   rcases List.mem_append.1 hy with hy | hy
   · exact h.i64 y hy
   · rw [List.mem_singleton.1 hy];exact hv⟩
theorem push_pC (hS:Sep w0 X (pC x k f st cs ts Cs) w) (v:Int) (hn:st.length≤1000) :
   Calls Tryz.prog 60 #[ptr x,.int .i64 v] w (fun e w'=>e=.returned (.tuple #[])∧∃ sv',Sep w0 X (pC x k { f with sv:=sv' } (st++[v]) cs ts Cs) w'):=push_prog hS v hn
theorem pushes_prog (hS:Sep w0 X (pC x k f st cs ts (cI lv []::Cs)) w) (hok:StOk st cs ts) (hl:st.length+1≤32) (c o:Int) (ho:I64 o) :
   Calls Tryz.prog 120 #[ptr x,opV c o,lv] w (DopPost w0 X (cI lv []::Cs) x k f):=by
 have HP:=kH (push_pC (hS.alloc (opO c o)) o (by omega))
 have HOK:=kH (stOk_add hok hl ho)
 have hlt:=heap_lt hS.h0
 unfold opV opO ptr at *
 clear hS hok ho
 go_enter Tryz.func120,Tryz.ntmps120
 go_wp2_with fail
 refine HP.out.mono ?_
 rintro e w1 ⟨rfl,sv',S1⟩
 go_wp2
 go_end0
 exact ⟨rfl,sv',_,_,_,_,_,_,HOK.out,S1⟩
theorem dups_prog {a:Int} (hS:Sep w0 X (pC x k f st cs ts (cI lv [a]::Cs)) w) (hok:StOk st cs ts) (hl:st.length+2≤32) (c o:Int) (ha:I64 a) :
   Calls Tryz.prog 121 #[ptr x,opV c o,lv] w (DopPost w0 X (cI lv [a]::Cs) x k f):=by
 obtain ⟨g,cap,rfl,hcap,hg⟩:=Sep.intForm [_,_,_,_,_] hS (by simp)
 have HP:=kH (push_pC (hS.alloc (opO c o)) a (by omega))
 have HOK:=kH (stOk_add (stOk_add hok (by omega) ha) (by simp;omega) ha)
 have c0:=Sep.intAt [_,_,_,_,_] hS (j:=0) (by simp)
 simp only [List.getD_cons_zero] at c0
 have hlt:=heap_lt hS.h0
 have HL:st.length+2≤32:=hl
 unfold opV opO ptr at *
 clear hS hok ha hcap
 go_enter Tryz.func121,Tryz.ntmps121
 go_wp2_with fail
 refine HP.out.mono ?_
 rintro e w1 ⟨rfl,sv1,S1⟩
 have HP2:=kH (push_pC S1 a (by simp;omega))
 have d0:=Sep.intAt [_,_,_,_,_] S1 (j:=0) (by simp)
 simp only [List.getD_cons_zero] at d0
 unfold ptr at HP2
 clear S1 c0
 go_wp2_with fail
 refine HP2.out.mono ?_
 rintro e w2 ⟨rfl,sv2,S2⟩
 go_wp2
 go_end0
 exact ⟨rfl,sv2,_,_,_,_,_,_,HOK.out,S2⟩
end
section
open Go.RowKit
variable {w0:World} {X:List Nat} {Cs:List Comp} {w:World} {x:Nat} {k:PCfg} {f:PF} {st cs ts:List Int} {lv:Value}
theorem wrap_I64 (v:Int):I64 (IntKind.i64.wrap v):=by rw [IntKind.wrap_i64];unfold I64;omega
theorem wrap64_I64 (v:Int):I64 (wrap64 v):=by unfold wrap64 I64;omega
theorem Sep.pAt (h:Sep w0 X (cBlk x (progO k f)::Cs) w) (v:Int):Sep w0 X (cBlk x (progO k { f with at_:=v })::Cs) (w.setCell ⟨x,15,none⟩ (.int .i64 v)):=h.pset 15 _ (by simp [progA])
theorem bits_I64 (op:BinOp) (a b:Int):I64 (bits op .i64 a b):=by unfold bits;exact wrap_I64 _
theorem drops_prog {xs:List Int} (hS:Sep w0 X (pC x k f st cs ts (cI lv xs::Cs)) w) (hok:StOk st cs ts) (c o:Int) :
   Calls Tryz.prog 122 #[ptr x,opV c o,lv] w (DopPost w0 X (cI lv xs::Cs) x k f):=by
 have HS:=kH (hS.alloc (opO c o))
 have HOK:=kH hok
 unfold opV opO ptr at *
 clear hS hok
 go_enter Tryz.func122,Tryz.ntmps122
 go_wp2
 go_end0
 exact ⟨rfl,f.sv,f.cv,f.tv,f.at_,_,_,_,HOK.out,HS.out⟩
theorem swaps_prog {a b:Int} (hS:Sep w0 X (pC x k f st cs ts (cI lv [a,b]::Cs)) w) (hok:StOk st cs ts) (hl:st.length+2≤32) (c o:Int) (ha:I64 a) (hb:I64 b) :
   Calls Tryz.prog 123 #[ptr x,opV c o,lv] w (DopPost w0 X (cI lv [a,b]::Cs) x k f):=by
 obtain ⟨g,cap,rfl,hcap,hg⟩:=Sep.intForm [_,_,_,_,_] hS (by simp)
 have HP:=kH (push_pC (hS.alloc (opO c o)) b (by omega))
 have HOK:=kH (stOk_add (stOk_add hok (by omega) hb) (by simp;omega) ha)
 have c1:=Sep.intAt [_,_,_,_,_] hS (j:=1) (by simp)
 simp only [List.getD_cons_zero,List.getD_cons_succ] at c1
 have hlt:=heap_lt hS.h0
 have HL:st.length+2≤32:=hl
 unfold opV opO ptr at *
 clear hS hok ha hb hcap
 go_enter Tryz.func123,Tryz.ntmps123
 go_wp2_with fail
 refine HP.out.mono ?_
 rintro e w1 ⟨rfl,sv1,S1⟩
 have HP2:=kH (push_pC S1 a (by simp;omega))
 have d0:=Sep.intAt [_,_,_,_,_] S1 (j:=0) (by simp)
 simp only [List.getD_cons_zero] at d0
 unfold ptr at HP2
 clear S1 c1
 go_wp2_with fail
 refine HP2.out.mono ?_
 rintro e w2 ⟨rfl,sv2,S2⟩
 go_wp2
 go_end0
 exact ⟨rfl,sv2,_,_,_,_,_,_,HOK.out,S2⟩
theorem overs_prog {a b:Int} (hS:Sep w0 X (pC x k f st cs ts (cI lv [a,b]::Cs)) w) (hok:StOk st cs ts) (hl:st.length+3≤32) (c o:Int) (ha:I64 a) (hb:I64 b) :
   Calls Tryz.prog 124 #[ptr x,opV c o,lv] w (DopPost w0 X (cI lv [a,b]::Cs) x k f):=by
 obtain ⟨g,cap,rfl,hcap,hg⟩:=Sep.intForm [_,_,_,_,_] hS (by simp)
 have HP:=kH (push_pC (hS.alloc (opO c o)) a (by omega))
 have HOK:=kH (stOk_add (stOk_add (stOk_add hok (by omega) ha) (by simp;omega) hb) (by simp;omega) ha)
 have c0:=Sep.intAt [_,_,_,_,_] hS (j:=0) (by simp)
 simp only [List.getD_cons_zero,List.getD_cons_succ] at c0
 have hlt:=heap_lt hS.h0
 have HL:st.length+3≤32:=hl
 unfold opV opO ptr at *
 clear hS hok ha hb hcap
 go_enter Tryz.func124,Tryz.ntmps124
 go_wp2_with fail
 refine HP.out.mono ?_
 rintro e w1 ⟨rfl,sv1,S1⟩
 have HP2:=kH (push_pC S1 b (by simp;omega))
 have d0:=Sep.intAt [_,_,_,_,_] S1 (j:=1) (by simp)
 simp only [List.getD_cons_zero,List.getD_cons_succ] at d0
 unfold ptr at HP2
 clear S1 c0
 go_wp2_with fail
 refine HP2.out.mono ?_
 rintro e w2 ⟨rfl,sv2,S2⟩
 have HP3:=kH (push_pC S2 a (by simp;omega))
 have e0:=Sep.intAt [_,_,_,_,_] S2 (j:=0) (by simp)
 simp only [List.getD_cons_zero,List.getD_cons_succ] at e0
 unfold ptr at HP3
 clear S2 d0
 go_wp2_with fail
 refine HP3.out.mono ?_
 rintro e w3 ⟨rfl,sv3,S3⟩
 go_wp2
 go_end0
 exact ⟨rfl,sv3,_,_,_,_,_,_,HOK.out,S3⟩
theorem nots_prog {a:Int} (hS:Sep w0 X (pC x k f st cs ts (cI lv [a]::Cs)) w) (hok:StOk st cs ts) (hl:st.length+1≤32) (c o:Int) :
   Calls Tryz.prog 134 #[ptr x,opV c o,lv] w (DopPost w0 X (cI lv [a]::Cs) x k f):=by
 obtain ⟨g,cap,rfl,hcap,hg⟩:=Sep.intForm [_,_,_,_,_] hS (by simp)
 have HP:=kH (fun v=>push_pC (hS.alloc (opO c o)) v (by omega))
 have HOK:=kH (fun v (hv:I64 v)=>stOk_add hok (by omega) hv)
 have c0:=Sep.intAt [_,_,_,_,_] hS (j:=0) (by simp)
 simp only [List.getD_cons_zero] at c0
 have hlt:=heap_lt hS.h0
 unfold opV opO ptr at *
 clear hS hok hcap
 go_enter Tryz.func134,Tryz.ntmps134
 go_wp2_with fail
 refine (HP.out _).mono ?_
 rintro e w1 ⟨rfl,sv1,S1⟩
 go_wp2
 go_end0
 exact ⟨rfl,sv1,_,_,_,_,_,_,HOK.out _ (by first | exact wrap_I64 _ | exact wrap64_I64 _ | exact bits_I64 _ _ _),S1⟩
theorem jumps_prog {xs:List Int} (hS:Sep w0 X (pC x k f st cs ts (cI lv xs::Cs)) w) (hok:StOk st cs ts) (c o:Int) :
   Calls Tryz.prog 143 #[ptr x,opV c o,lv] w (DopPost w0 X (cI lv xs::Cs) x k f):=by
 have HS:=kH hS
 have HOK:=kH hok
 have c15:=hS.cell 15
 have f15:=hS.froz 15
 simp only [progA,gA,gZ,gS] at c15
 have hlt:=heap_lt hS.h0
 generalize f.at_=at_ at c15
 unfold opV ptr at *
 clear hS hok
 go_enter Tryz.func143,Tryz.ntmps143
 go_wp2_with fail
 go_region
 go_wp2
 go_end0
 have S9:=((Sep.pAt HS.out (wrap64 (at_+o))).alloc (.cells #[.int .i64 c,.int .i64 o] 135 (0,0))).drew
 exact ⟨rfl,f.sv,f.cv,f.tv,wrap64 (at_+o),st,cs,ts,HOK.out,S9⟩
theorem jumpzs_prog {a:Int} (hS:Sep w0 X (pC x k f st cs ts (cI lv [a]::Cs)) w) (hok:StOk st cs ts) (c o:Int) :
   Calls Tryz.prog 144 #[ptr x,opV c o,lv] w (DopPost w0 X (cI lv [a]::Cs) x k f):=by
 obtain ⟨g,cap,rfl,hcap,hg⟩:=Sep.intForm [_,_,_,_,_] hS (by simp)
 have HS:=kH hS
 have HOK:=kH hok
 have c0:=Sep.intAt [_,_,_,_,_] hS (j:=0) (by simp)
 simp only [List.getD_cons_zero] at c0
 have c15:=hS.cell 15
 have f15:=hS.froz 15
 simp only [progA,gA,gZ,gS] at c15
 have hlt:=heap_lt hS.h0
 generalize f.at_=at_ at c15
 unfold opV ptr at *
 clear hS hok hcap
 by_cases h0:a=0
 · subst h0
   go_enter Tryz.func144,Tryz.ntmps144
   go_wp2_with fail
   go_region
   go_wp2
   go_end0
   have S9:=((Sep.pAt HS.out (wrap64 (at_+o))).alloc (.cells #[.int .i64 c,.int .i64 o] 135 (0,0))).drew
   exact ⟨rfl,f.sv,f.cv,f.tv,wrap64 (at_+o),st,cs,ts,HOK.out,S9⟩
 · have h0':(a == 0)=false:=beq_eq_false_iff_ne.2 h0
   go_enter Tryz.func144,Tryz.ntmps144
   go_wp2
   go_end0
   exact ⟨rfl,f.sv,f.cv,f.tv,f.at_,_,_,_,HOK.out,HS.out.alloc _⟩
end
section
open Go.RowKit
variable {w0:World} {X:List Nat} {Cs:List Comp} {w:World} {x:Nat} {k:PCfg} {f:PF} {st cs ts:List Int} {lv:Value}
theorem Sep.pCv (h:Sep w0 X (cBlk x (progO k f)::Cs) w) (v:Value):Sep w0 X (cBlk x (progO k { f with cv:=v })::Cs) (w.setCell ⟨x,17,none⟩ v):=h.pset 17 _ (by simp [progA])
theorem Sep.pTv (h:Sep w0 X (cBlk x (progO k f)::Cs) w) (v:Value):Sep w0 X (cBlk x (progO k { f with tv:=v })::Cs) (w.setCell ⟨x,18,none⟩ v):=h.pset 18 _ (by simp [progA])
theorem cI_of {v:Value} {n:Nat} {xs:List Int} {vs:List Value} (hn:n=xs.length) (hv:vs=ints xs):cRow 2 1 v n vs=cI v xs:=by subst hn hv;rfl
theorem calls_prog {xs:List Int} (hS:Sep w0 X (pC x k f st cs ts (cI lv xs::Cs)) w) (hok:StOk st cs ts) (hl:cs.length≤7) (c o:Int) :
   Calls Tryz.prog 145 #[ptr x,opV c o,lv] w (DopPost w0 X (cI lv xs::Cs) x k f):=by
 obtain ⟨i0,yi,yz0,yz1,yz2⟩:=info_parts infoI64
 have S1:Sep w0 X (pC x k f st cs ts (cBlk w.heap.size (opO c o)::cI lv xs::Cs)) (w.alloc (opO c o)):=(hS.new (opO c o)).push [_,_,_,_,_]
 have HOK:=kH (show StOk st (cs++[f.at_]) ts from ⟨hok.stl,by simp;omega,hok.tsl,hok.i64⟩)
 have c15:=hS.cell 15
 have f15:=hS.froz 15
 have c17:=hS.cell 17
 have f17:=hS.froz 17
 simp only [progA,gA,gZ,gS] at c15 c17
 have hlt:=heap_lt hS.h0
 have hr:RowAt w 2 1 f.cv cs.length (ints cs):=hS.h2
 have hbx:=heap_new_at (w:=w) (o:=opO c o) rfl
 have HR:Hid (∀ q,RowAt ((w.alloc (opO c o)).drewN q) 2 1 f.cv cs.length (ints cs)):=fun q=>((S1.drewN q).h2:RowAt _ _ _ _ _ _)
 have HS1:=kH S1
 have HA:=kH (ints_add cs f.at_)
 have k15:=S1.cell 15
 have k17:=S1.cell 17
 have j15:=S1.froz 15
 have j17:=S1.froz 17
 have b1:(w.alloc (opO c o)).cell? ⟨w.heap.size,1,none⟩=some (.int .i64 o):=by
   have h:=cell_of_row (w.alloc (opO c o)) w.heap.size 1 _ _ _ hbx
   simpa using h
 simp only [progA,gA,gZ,gS] at k15 k17
 clear hS S1 hok hr hbx
 unfold opV ptr at *
 generalize f.at_=at_ at *
 go_enter Tryz.func145,Tryz.ntmps145
 go_wp2_with fail
 generalize hW1:w.alloc (.cells #[.int .i64 c,.int .i64 o] 135 (0,0))=W1 at *
 have HW1:Hid (w.alloc (opO c o)=W1):=hW1
 clear hW1
 rw [HW1.out] at HS1 HR k15 k17 j15 j17 b1
 clear c15 f15 c17 f17
 have HNW:Hid (∀ (W:World) (n:Nat) (u:Value),[Value.int .i64 at_][n]?=some u→(W.alloc (.cells #[.int .i64 at_] 2 (0,0))).cell? ((⟨W.heap.size,0,none⟩:Addr).add n)=some u):=fun W n u hu=>new_cell (heap_new_at rfl) n u (by simpa using hu)
 have hlt1:=heap_lt HS1.out.h0
 go_region_law (refine step_append_lies _ rfl (.tmp 11) (.tmp 17) 66 rfl 0 2 i0 _ 1 8 Tryz.underlying66 yi yz0 yz1 yz2 rfl (by decide) f.cv cs.length (ints cs) rfl (World.ownsRow.alloc (HR.out _) _) ⟨W1.heap.size,0,none⟩ 1 1 [.int .i64 at_] rfl rfl (HNW.out _) (by simp [Value.oneCell']) (by decide) (by unfold maxLen;omega) (by omega) (Nat.zero_le _) _ rfl ?_;intro g cap w5 hown5 hgrow5 hat5 hgl5;have S5:=(((HS1.out.drewN _).alloc _).pull [_,_]).append hgrow5 hown5 hat5 (Nat.le_refl _);have S6:=S5.push [_,_];have hcf5:=S6.froz 17;have hcc5:=S6.cell 17;have hcf15:=S6.froz 15;have hcc15:=S6.cell 15;simp only [progA,gA,gZ,gS] at hcc5 hcc15;have HS6:=kH S6;clear S5 S6 hown5 hgrow5 hat5)
 all_goals
   have S7:=HS6.out.pCv (.slice (some ⟨g,0,none⟩) (cs.length+1) cap)
   have hb1:=(S7.pull [_,_,_,_,_]).cell 1
   simp only [gA,gZ,gS] at hb1
   have j15':=S7.froz 15
   have k15':=S7.cell 15
   simp only [progA,gA,gZ,gS] at k15'
   generalize w5.setCell ⟨x,17,none⟩ (.slice (some ⟨g,0,none⟩) (cs.length+1) cap)=w6 at *
   have HS7:=kH S7
   clear S7
   go_wp2
   go_end0
   have S8:Sep w0 X (cBlk x _::cI f.sv st::cRow 2 1 _ (cs.length+1) _::cI f.tv ts::cI f.av k.args::cBlk w.heap.size (opO c o)::cI lv xs::Cs) _:=HS7.out.pAt o
   have S9:=((S8.pull [_,_,_,_,_]).drop).pull [_,_]
   rw [cI_of (xs:=cs++[at_]) (by simp) HA.out] at S9
   exact ⟨rfl,f.sv,_,f.tv,o,_,_,_,HOK.out,S9.push [_,_]⟩
end
section
open Go.RowKit
variable {w0:World} {X:List Nat} {Cs:List Comp} {w:World} {x:Nat} {k:PCfg} {f:PF} {st cs ts:List Int} {lv:Value}
theorem rets_prog {xs:List Int} (hS:Sep w0 X (pC x k f st cs ts (cI lv xs::Cs)) w) (hok:StOk st cs ts) (hl:0 < cs.length) (c o:Int) :
   Calls Tryz.prog 146 #[ptr x,opV c o,lv] w (DopPost w0 X (cI lv xs::Cs) x k f):=by
 have hr:RowAt w 2 1 f.cv cs.length (ints cs):=hS.h2
 obtain ⟨m,hm⟩:∃ m,cs.length=m+1:=⟨cs.length - 1,by omega⟩
 rcases hr.parts with ⟨h1,h2,h3⟩ | ⟨g,cap,hv,hnc,hcm,hg,hcell⟩
 · omega
 have hS':Sep w0 X (cBlk x (progO k f)::cI f.sv st::cRow 2 1 f.cv cs.length (ints cs)::cI f.tv ts::cI f.av k.args::cI lv xs::Cs) w:=hS
 rw [hv] at hS'
 have HS:=kH hS'
 have HOK:=kH (show StOk st (cs.take m) ts from ⟨hok.stl,by rw [List.length_take];have:=hok.csl;omega,hok.tsl,hok.i64⟩)
 have cm:=hcell m _ (ints_at (xs:=cs) (j:=m) (by omega))
 have c15:=hS.cell 15
 have f15:=hS.froz 15
 have c17:=hS.cell 17
 have f17:=hS.froz 17
 simp only [progA,hv,gA,gZ,gS] at c15 c17
 have hlt:=heap_lt hS.h0
 have HM:=kH hm
 have hcl:=hok.csl
 rw [hm] at c17 hnc hcl
 have HIT:=kH (ints_take cs m)
 have hxg:x≠g:=fun e=>by
   have ha:=HS.out.apart
   subst e
   simp [feet,cBlk,cRow,rowF] at ha
 clear hS hS' hok hr hv hcell hm hl
 generalize f.at_=at_ at *
 generalize cs.getD m 0=rt at *
 unfold opV ptr at *
 go_enter Tryz.func146,Tryz.ntmps146
 go_wp2
 go_end0
 have S2:=(((HS.out.pAt rt).pCv (.slice (some ⟨g,0,none⟩) m cap)).pull [_,_]).cut (m:=m) (by have:=HM.out;omega)
 rw [Nat.mul_one,cI_of (xs:=cs.take m) (by have:=HM.out;rw [List.length_take];omega) HIT.out] at S2
 exact ⟨rfl,f.sv,_,f.tv,rt,_,_,_,HOK.out,(S2.push [_,_]).alloc _⟩
theorem tells_prog {a:Int} (hS:Sep w0 X (pC x k f st cs ts (cI lv [a]::Cs)) w) (hok:StOk st cs ts) (hl:ts.length≤15) (c o:Int) :
   Calls Tryz.prog 148 #[ptr x,opV c o,lv] w (DopPost w0 X (cI lv [a]::Cs) x k f):=by
 obtain ⟨i0,yi,yz0,yz1,yz2⟩:=info_parts infoI64
 obtain ⟨g0,cap0,rfl,hcap0,hg0⟩:=Sep.intForm [_,_,_,_,_] hS (by simp)
 have S1:=hS.alloc (opO c o)
 have HOK:=kH (show StOk st cs (ts++[a]) from ⟨hok.stl,hok.csl,by simp;omega,hok.i64⟩)
 have hlt:=heap_lt hS.h0
 have HR:Hid (∀ q,RowAt ((w.alloc (opO c o)).drewN q) 2 1 f.tv ts.length (ints ts)):=fun q=>((S1.drewN q).h3:RowAt _ _ _ _ _ _)
 have HA:=kH (ints_add ts a)
 have k18:=S1.cell 18
 have j18:=S1.froz 18
 have c0:=Sep.intAt [_,_,_,_,_] S1 (j:=0) (by simp)
 simp only [progA,gA,gZ,gS,List.getD_cons_zero] at k18 c0
 have HS1:=kH S1
 clear hS S1 hok hcap0
 unfold opV ptr at *
 go_enter Tryz.func148,Tryz.ntmps148
 go_wp2_with fail
 generalize hW1:w.alloc (.cells #[.int .i64 c,.int .i64 o] 135 (0,0))=W1 at *
 have HW1:Hid (w.alloc (opO c o)=W1):=hW1
 clear hW1
 rw [HW1.out] at HS1 HR k18 j18 c0
 have HNW:Hid (∀ (W:World) (n:Nat) (u:Value),[Value.int .i64 a][n]?=some u→(W.alloc (.cells #[.int .i64 a] 2 (0,0))).cell? ((⟨W.heap.size,0,none⟩:Addr).add n)=some u):=fun W n u hu=>new_cell (heap_new_at rfl) n u (by simpa using hu)
 have hlt1:=heap_lt HS1.out.h0
 go_region_law (refine step_append_lies _ rfl (.tmp 11) (.tmp 15) 66 rfl 0 2 i0 _ 1 8 Tryz.underlying66 yi yz0 yz1 yz2 rfl (by decide) f.tv ts.length (ints ts) rfl (World.ownsRow.alloc (HR.out _) _) ⟨W1.heap.size,0,none⟩ 1 1 [.int .i64 a] rfl rfl (HNW.out _) (by simp [Value.oneCell']) (by decide) (by unfold maxLen;omega) (by omega) (Nat.zero_le _) _ rfl ?_;intro g cap w5 hown5 hgrow5 hat5 hgl5;have S5:=(((HS1.out.drewN _).alloc _).pull [_,_,_]).append hgrow5 hown5 hat5 (Nat.le_refl _);have S6:=S5.push [_,_,_];have hcf5:=S6.froz 18;have hcc5:=S6.cell 18;simp only [progA,gA,gZ,gS] at hcc5;have HS6:=kH S6;clear S5 S6 hown5 hgrow5 hat5)
 all_goals
   have S7:=HS6.out.pTv (.slice (some ⟨g,0,none⟩) (ts.length+1) cap)
   have HS7:=kH S7
   clear S7
   go_wp2
   go_end0
   have S8:Sep w0 X (cBlk x _::cI f.sv st::cI f.cv cs::cRow 2 1 _ (ts.length+1) _::cI f.av k.args::_::Cs) _:=HS7.out
   have S9:=S8.pull [_,_,_]
   rw [cI_of (xs:=ts++[a]) (by simp) HA.out] at S9
   exact ⟨rfl,f.sv,f.cv,_,f.at_,_,_,_,HOK.out,S9.push [_,_,_]⟩
theorem argues_prog {xs:List Int} (hS:Sep w0 X (pC x k f st cs ts (cI lv xs::Cs)) w) (hok:StOk st cs ts) (hl:st.length+1≤32) (c o:Int) (ho:0≤o∧o≤255) (ha:k.args.length≤4) (hai:∀ v∈k.args,I64 v) :
   Calls Tryz.prog 147 #[ptr x,opV c o,lv] w (DopPost w0 X (cI lv xs::Cs) x k f):=by
 obtain ⟨j,rfl⟩:=Int.eq_ofNat_of_zero_le ho.1
 have HP:=kH (fun q r v=>push_pC (((hS.alloc (opO c (j:Int))).drewN q).drewN r) v (by omega))
 have HP1:=kH (fun q v=>push_pC ((hS.alloc (opO c (j:Int))).drewN q) v (by omega))
 have HOK:=kH (fun v (hv:I64 v)=>stOk_add hok (by omega) hv)
 have hlt:=heap_lt hS.h0
 have c10:=hS.cell 10
 simp only [progA,gA,gZ,gS] at c10
 have hr:RowAt w 2 1 f.av k.args.length (ints k.args):=(Sep.pull [_,_,_,_] hS).h0
 unfold opV opO ptr at *
 obtain ⟨ho0,ho1⟩:=ho
 by_cases hj:j < k.args.length
 · rcases hr.parts with ⟨h1,h2,h3⟩ | ⟨g,cap,hv,hnc,hcm,hg,hcell⟩
   · omega
   have cj:=hcell j _ (ints_at hj)
   have hvi:I64 (k.args.getD j 0):=by
     rw [List.getD_eq_getElem?_getD,List.getElem?_eq_getElem hj]
     exact hai _ (List.getElem_mem hj)
   have HVI:=kH hvi
   rw [hv] at c10
   clear hS hok hr hcell hv hai hvi
   generalize k.args.getD j 0=v at *
   generalize k.args.length=n at *
   go_enter Tryz.func147,Tryz.ntmps147
   go_wp2_with fail
   go_quiet (fail)
   go_wp2_with fail
   go_quiet (fail)
   go_wp2_with fail
   refine (HP1.out _ v).mono ?_
   rintro e w1 ⟨rfl,sv1,S1⟩
   go_wp2
   go_end0
   exact ⟨rfl,sv1,_,_,_,_,_,_,HOK.out _ HVI.out,S1⟩
 · obtain ⟨a,cap,hv,hnc,hcm⟩:=hr.slice
   rw [hv] at c10
   clear hS hok hr hv hai
   generalize k.args.length=n at *
   go_enter Tryz.func147,Tryz.ntmps147
   go_wp2_with fail
   go_quiet (fail)
   go_wp2_with fail
   refine (HP1.out _ 0).mono ?_
   rintro e w1 ⟨rfl,sv1,S1⟩
   go_wp2
   go_end0
   exact ⟨rfl,sv1,_,_,_,_,_,_,HOK.out _ i64_0,S1⟩
theorem convs_prog {a:Int} (hS:Sep w0 X (pC x k f st cs ts (cI lv [a]::Cs)) w) (hok:StOk st cs ts) (hl:st.length+1≤32) (c o:Int) :
   Calls Tryz.prog 142 #[ptr x,opV c o,lv] w (DopPost w0 X (cI lv [a]::Cs) x k f):=by
 obtain ⟨g,cap,rfl,hcap,hg⟩:=Sep.intForm [_,_,_,_,_] hS (by simp)
 have HP:=kH (fun v=>push_pC (hS.alloc (opO c o)) v (by omega))
 have HOK:=kH (fun v (hv:I64 v)=>stOk_add hok (by omega) hv)
 have c0:=Sep.intAt [_,_,_,_,_] hS (j:=0) (by simp)
 simp only [List.getD_cons_zero] at c0
 have hlt:=heap_lt hS.h0
 unfold opV opO ptr at *
 clear hS hok hcap
 rcases (show o=0∨o=1∨o=2∨o=3∨o=4∨(o≠0∧o≠1∧o≠2∧o≠3∧o≠4) by omega) with rfl | rfl | rfl | rfl | rfl | ⟨h0,h1,h2,h3,h4⟩
 · go_enter Tryz.func142,Tryz.ntmps142
   go_wp2_with fail
   refine (HP.out _).mono ?_
   rintro e w1 ⟨rfl,sv1,S1⟩
   go_wp2
   go_end0
   exact ⟨rfl,sv1,_,_,_,_,_,_,HOK.out _ (by first | exact wrap64_I64 _ | exact wrap_I64 _ | (unfold I64;omega)),S1⟩
 · go_enter Tryz.func142,Tryz.ntmps142
   go_wp2_with fail
   refine (HP.out _).mono ?_
   rintro e w1 ⟨rfl,sv1,S1⟩
   go_wp2
   go_end0
   exact ⟨rfl,sv1,_,_,_,_,_,_,HOK.out _ (by first | exact wrap64_I64 _ | exact wrap_I64 _ | (unfold I64;omega)),S1⟩
 · go_enter Tryz.func142,Tryz.ntmps142
   go_wp2_with fail
   refine (HP.out _).mono ?_
   rintro e w1 ⟨rfl,sv1,S1⟩
   go_wp2
   go_end0
   exact ⟨rfl,sv1,_,_,_,_,_,_,HOK.out _ (by first | exact wrap64_I64 _ | exact wrap_I64 _ | (unfold I64;omega)),S1⟩
 · go_enter Tryz.func142,Tryz.ntmps142
   go_wp2_with fail
   refine (HP.out _).mono ?_
   rintro e w1 ⟨rfl,sv1,S1⟩
   go_wp2
   go_end0
   exact ⟨rfl,sv1,_,_,_,_,_,_,HOK.out _ (by first | exact wrap64_I64 _ | exact wrap_I64 _ | (unfold I64;omega)),S1⟩
 · go_enter Tryz.func142,Tryz.ntmps142
   go_wp2_with fail
   refine (HP.out _).mono ?_
   rintro e w1 ⟨rfl,sv1,S1⟩
   go_wp2
   go_end0
   exact ⟨rfl,sv1,_,_,_,_,_,_,HOK.out _ (by first | exact wrap64_I64 _ | exact wrap_I64 _ | (unfold I64;omega)),S1⟩
 · have e0:(o == 0)=false:=beq_eq_false_iff_ne.2 h0
   have e1:(o == 1)=false:=beq_eq_false_iff_ne.2 h1
   have e2:(o == 2)=false:=beq_eq_false_iff_ne.2 h2
   have e3:(o == 3)=false:=beq_eq_false_iff_ne.2 h3
   have e4:(o == 4)=false:=beq_eq_false_iff_ne.2 h4
   clear h0 h1 h2 h3 h4
   go_enter Tryz.func142,Tryz.ntmps142
   go_wp2_with fail
   refine (HP.out _).mono ?_
   rintro e w1 ⟨rfl,sv1,S1⟩
   go_wp2
   go_end0
   exact ⟨rfl,sv1,_,_,_,_,_,_,HOK.out _ (by first | exact wrap64_I64 _ | exact wrap_I64 _ | (unfold I64;omega)),S1⟩
end
section
open Go.RowKit
variable {w0:World} {X:List Nat} {Cs:List Comp} {w:World} {x:Nat} {k:PCfg} {f:PF} {st cs ts:List Int} {lv:Value}
structure TwoOne (n:Nat):Prop where
 run:∀ (args:Array Value) (w:World),(callFunc n args).run Tryz.prog w=.ok (.enter n args) w
 call:∀ (a b:Int) (w:World),I64 a→I64 b→Calls Tryz.prog n #[.int .i64 a,.int .i64 b] w (fun e w'=>∃ v,I64 v∧e=.returned (.int .i64 v)∧w=w')
theorem is_calls (b:Bool) (w:World):Calls Tryz.prog 139 #[.bool b] w (Just (.int .i64 (if b=true then 1 else 0)) w):=by
 cases b
 all_goals
   go_enter Tryz.func139,Tryz.ntmps139
   go_wp2
   go_ret
   exact ⟨rfl,rfl⟩
theorem is_t (w:World):Calls Tryz.prog 139 #[.bool true] w (Just (.int .i64 1) w):=is_calls true w
theorem is_f (w:World):Calls Tryz.prog 139 #[.bool false] w (Just (.int .i64 0) w):=is_calls false w
theorem tmod_I64 {a b:Int} (ha:I64 a):I64 (a.tmod b):=by
 unfold I64 at *
 have h1:(a.tmod b).natAbs≤a.natAbs:=by rw [Int.natAbs_tmod];exact Nat.mod_le _ _
 rcases Int.le_total 0 a with h | h
 · have:=Int.tmod_nonneg b h;omega
 · have h2:0≤(-a).tmod b:=Int.tmod_nonneg b (by omega)
   rw [Int.neg_tmod] at h2
   omega
theorem and_63 (h:Int):0≤bits .and .u64 h 63∧bits .and .u64 h 63≤63:=by
 have h1:(BitVec.ofInt 64 63).toNat=2 ^ 6 - 1:=by decide
 have key:(BitVec.ofInt 64 h &&& BitVec.ofInt 64 63).toNat=(h % ((2 ^ 64:Nat):Int)).toNat % 2 ^ 6:=by
   rw [BitVec.toNat_and,BitVec.toNat_ofInt,h1,Nat.and_two_pow_sub_one_eq_mod]
 have e:bits .and .u64 h 63=IntKind.u64.wrap ((BitVec.ofInt 64 h &&& BitVec.ofInt 64 63).toNat:Nat):=rfl
 rw [e,key,IntKind.wrap_u64]
 omega
theorem div_I64 {a:Int} (ha:I64 a) (n:Nat):I64 (a / 2 ^ n):=by
 unfold I64 at *
 have hp:(1:Int)≤2 ^ n:=by
   have h:=Nat.one_le_two_pow (n:=n)
   have e:((2 ^ n:Nat):Int)=(2:Int) ^ n:=by simp
   omega
 rcases Int.le_total 0 a with h | h
 · have h1:=Int.ediv_nonneg h (show (0:Int)≤2 ^ n by omega)
   have h2:=Int.ediv_le_self (2 ^ n:Int) h
   omega
 · have h1:a≤a / 2 ^ n:=Int.le_ediv_of_mul_le (by omega) (by
     have h3:a * 2 ^ n≤a * 1:=Int.mul_le_mul_of_nonpos_left h hp
     omega)
   have h2:a / 2 ^ n≤0:=by
     have h3:=Int.ediv_le_ediv (show (0:Int) < 2 ^ n by omega) h
     simpa using h3
   omega
theorem add_two0 (a b:Int) (w:World) (ha:I64 a) (hb:I64 b):Calls Tryz.prog 126 #[.int .i64 a,.int .i64 b] w (fun e w'=>∃ v,I64 v∧e=.returned (.int .i64 v)∧w=w'):=by
 go_enter Tryz.func126,Tryz.ntmps126
 go_wp2
 go_ret
 exact ⟨_,by first | exact wrap64_I64 _ | exact wrap_I64 _ | exact bits_I64 _ _ _ | exact tmod_I64 ha,rfl,rfl⟩
theorem sub_two0 (a b:Int) (w:World) (ha:I64 a) (hb:I64 b):Calls Tryz.prog 127 #[.int .i64 a,.int .i64 b] w (fun e w'=>∃ v,I64 v∧e=.returned (.int .i64 v)∧w=w'):=by
 go_enter Tryz.func127,Tryz.ntmps127
 go_wp2
 go_ret
 exact ⟨_,by first | exact wrap64_I64 _ | exact wrap_I64 _ | exact bits_I64 _ _ _ | exact tmod_I64 ha,rfl,rfl⟩
theorem mul_two0 (a b:Int) (w:World) (ha:I64 a) (hb:I64 b):Calls Tryz.prog 128 #[.int .i64 a,.int .i64 b] w (fun e w'=>∃ v,I64 v∧e=.returned (.int .i64 v)∧w=w'):=by
 go_enter Tryz.func128,Tryz.ntmps128
 go_wp2
 go_ret
 exact ⟨_,by first | exact wrap64_I64 _ | exact wrap_I64 _ | exact bits_I64 _ _ _ | exact tmod_I64 ha,rfl,rfl⟩
theorem div_two0 (a b:Int) (w:World) (ha:I64 a) (hb:I64 b):Calls Tryz.prog 129 #[.int .i64 a,.int .i64 b] w (fun e w'=>∃ v,I64 v∧e=.returned (.int .i64 v)∧w=w'):=by
 by_cases h:b=0
 · subst h
   go_enter Tryz.func129,Tryz.ntmps129
   go_wp2
   go_ret
   exact ⟨_,i64_0,rfl,rfl⟩
 · have h':(b == 0)=false:=beq_eq_false_iff_ne.2 h
   go_enter Tryz.func129,Tryz.ntmps129
   go_wp2
   go_ret
   exact ⟨_,by first | exact wrap64_I64 _ | exact wrap_I64 _ | exact bits_I64 _ _ _ | exact tmod_I64 ha,rfl,rfl⟩
theorem rem_two0 (a b:Int) (w:World) (ha:I64 a) (hb:I64 b):Calls Tryz.prog 130 #[.int .i64 a,.int .i64 b] w (fun e w'=>∃ v,I64 v∧e=.returned (.int .i64 v)∧w=w'):=by
 by_cases h:b=0
 · subst h
   go_enter Tryz.func130,Tryz.ntmps130
   go_wp2
   go_ret
   exact ⟨_,i64_0,rfl,rfl⟩
 · have h':(b == 0)=false:=beq_eq_false_iff_ne.2 h
   go_enter Tryz.func130,Tryz.ntmps130
   go_wp2
   go_ret
   exact ⟨_,by first | exact wrap64_I64 _ | exact wrap_I64 _ | exact bits_I64 _ _ _ | exact tmod_I64 ha,rfl,rfl⟩
theorem and_two0 (a b:Int) (w:World) (ha:I64 a) (hb:I64 b):Calls Tryz.prog 131 #[.int .i64 a,.int .i64 b] w (fun e w'=>∃ v,I64 v∧e=.returned (.int .i64 v)∧w=w'):=by
 go_enter Tryz.func131,Tryz.ntmps131
 go_wp2
 go_ret
 exact ⟨_,by first | exact wrap64_I64 _ | exact wrap_I64 _ | exact bits_I64 _ _ _ | exact tmod_I64 ha,rfl,rfl⟩
theorem or_two0 (a b:Int) (w:World) (ha:I64 a) (hb:I64 b):Calls Tryz.prog 132 #[.int .i64 a,.int .i64 b] w (fun e w'=>∃ v,I64 v∧e=.returned (.int .i64 v)∧w=w'):=by
 go_enter Tryz.func132,Tryz.ntmps132
 go_wp2
 go_ret
 exact ⟨_,by first | exact wrap64_I64 _ | exact wrap_I64 _ | exact bits_I64 _ _ _ | exact tmod_I64 ha,rfl,rfl⟩
theorem xor_two0 (a b:Int) (w:World) (ha:I64 a) (hb:I64 b):Calls Tryz.prog 133 #[.int .i64 a,.int .i64 b] w (fun e w'=>∃ v,I64 v∧e=.returned (.int .i64 v)∧w=w'):=by
 go_enter Tryz.func133,Tryz.ntmps133
 go_wp2
 go_ret
 exact ⟨_,by first | exact wrap64_I64 _ | exact wrap_I64 _ | exact bits_I64 _ _ _ | exact tmod_I64 ha,rfl,rfl⟩
theorem shl_two0 (a b:Int) (w:World) (ha:I64 a) (hb:I64 b):Calls Tryz.prog 135 #[.int .i64 a,.int .i64 b] w (fun e w'=>∃ v,I64 v∧e=.returned (.int .i64 v)∧w=w'):=by
 obtain ⟨h1,h2⟩:=and_63 (IntKind.u64.wrap b)
 have h3:bits .and .u64 (IntKind.u64.wrap b) 63≤64:=by omega
 go_enter Tryz.func135,Tryz.ntmps135
 go_wp2
 go_ret
 exact ⟨_,by first | exact wrap64_I64 _ | exact wrap_I64 _ | exact bits_I64 _ _ _ | exact div_I64 ha _ | exact tmod_I64 ha,rfl,rfl⟩
theorem shr_two0 (a b:Int) (w:World) (ha:I64 a) (hb:I64 b):Calls Tryz.prog 136 #[.int .i64 a,.int .i64 b] w (fun e w'=>∃ v,I64 v∧e=.returned (.int .i64 v)∧w=w'):=by
 obtain ⟨h1,h2⟩:=and_63 (IntKind.u64.wrap b)
 have h3:bits .and .u64 (IntKind.u64.wrap b) 63≤64:=by omega
 go_enter Tryz.func136,Tryz.ntmps136
 go_wp2
 go_ret
 exact ⟨_,by first | exact wrap64_I64 _ | exact wrap_I64 _ | exact bits_I64 _ _ _ | exact div_I64 ha _ | exact tmod_I64 ha,rfl,rfl⟩
theorem ushr_two0 (a b:Int) (w:World) (ha:I64 a) (hb:I64 b):Calls Tryz.prog 137 #[.int .i64 a,.int .i64 b] w (fun e w'=>∃ v,I64 v∧e=.returned (.int .i64 v)∧w=w'):=by
 obtain ⟨h1,h2⟩:=and_63 (IntKind.u64.wrap b)
 have h3:bits .and .u64 (IntKind.u64.wrap b) 63≤64:=by omega
 go_enter Tryz.func137,Tryz.ntmps137
 go_wp2
 go_ret
 exact ⟨_,by first | exact wrap64_I64 _ | exact wrap_I64 _ | exact bits_I64 _ _ _ | exact div_I64 ha _ | exact tmod_I64 ha,rfl,rfl⟩
theorem eq_two0 (a b:Int) (w:World) (ha:I64 a) (hb:I64 b):Calls Tryz.prog 138 #[.int .i64 a,.int .i64 b] w (fun e w'=>∃ v,I64 v∧e=.returned (.int .i64 v)∧w=w'):=by
 by_cases h:a=b
 · subst h
   go_enter Tryz.func138,Tryz.ntmps138
   go_wp2_with fail
   refine (is_t _).mono ?_
   rintro e w' ⟨rfl,rfl⟩
   go_wp2
   go_ret
   exact ⟨1,by simp [I64],rfl,rfl⟩
 · have h1:(a == b)=false:=beq_eq_false_iff_ne.2 h
   go_enter Tryz.func138,Tryz.ntmps138
   go_wp2_with fail
   refine (is_f _).mono ?_
   rintro e w' ⟨rfl,rfl⟩
   go_wp2
   go_ret
   exact ⟨0,by simp [I64],rfl,rfl⟩
theorem lt_two0 (a b:Int) (w:World) (ha:I64 a) (hb:I64 b):Calls Tryz.prog 140 #[.int .i64 a,.int .i64 b] w (fun e w'=>∃ v,I64 v∧e=.returned (.int .i64 v)∧w=w'):=by
 by_cases h:a < b
 · have h1:decide (a < b)=true:=decide_eq_true h
   go_enter Tryz.func140,Tryz.ntmps140
   go_wp2_with fail
   refine (is_t _).mono ?_
   rintro e w' ⟨rfl,rfl⟩
   go_wp2
   go_ret
   exact ⟨1,by simp [I64],rfl,rfl⟩
 · have h1:decide (a < b)=false:=decide_eq_false h
   go_enter Tryz.func140,Tryz.ntmps140
   go_wp2_with fail
   refine (is_f _).mono ?_
   rintro e w' ⟨rfl,rfl⟩
   go_wp2
   go_ret
   exact ⟨0,by simp [I64],rfl,rfl⟩
theorem ult_two0 (a b:Int) (w:World) (ha:I64 a) (hb:I64 b):Calls Tryz.prog 141 #[.int .i64 a,.int .i64 b] w (fun e w'=>∃ v,I64 v∧e=.returned (.int .i64 v)∧w=w'):=by
 by_cases h:IntKind.u64.wrap a < IntKind.u64.wrap b
 · have h1:decide (IntKind.u64.wrap a < IntKind.u64.wrap b)=true:=decide_eq_true h
   go_enter Tryz.func141,Tryz.ntmps141
   go_wp2_with fail
   refine (is_t _).mono ?_
   rintro e w' ⟨rfl,rfl⟩
   go_wp2
   go_ret
   exact ⟨1,by simp [I64],rfl,rfl⟩
 · have h1:decide (IntKind.u64.wrap a < IntKind.u64.wrap b)=false:=decide_eq_false h
   go_enter Tryz.func141,Tryz.ntmps141
   go_wp2_with fail
   refine (is_f _).mono ?_
   rintro e w' ⟨rfl,rfl⟩
   go_wp2
   go_ret
   exact ⟨0,by simp [I64],rfl,rfl⟩
theorem add_two:TwoOne 126:=⟨fun _ _=>by kernel_rfl,add_two0⟩
theorem sub_two:TwoOne 127:=⟨fun _ _=>by kernel_rfl,sub_two0⟩
theorem mul_two:TwoOne 128:=⟨fun _ _=>by kernel_rfl,mul_two0⟩
theorem div_two:TwoOne 129:=⟨fun _ _=>by kernel_rfl,div_two0⟩
theorem rem_two:TwoOne 130:=⟨fun _ _=>by kernel_rfl,rem_two0⟩
theorem and_two:TwoOne 131:=⟨fun _ _=>by kernel_rfl,and_two0⟩
theorem or_two:TwoOne 132:=⟨fun _ _=>by kernel_rfl,or_two0⟩
theorem xor_two:TwoOne 133:=⟨fun _ _=>by kernel_rfl,xor_two0⟩
theorem shl_two:TwoOne 135:=⟨fun _ _=>by kernel_rfl,shl_two0⟩
theorem shr_two:TwoOne 136:=⟨fun _ _=>by kernel_rfl,shr_two0⟩
theorem ushr_two:TwoOne 137:=⟨fun _ _=>by kernel_rfl,ushr_two0⟩
theorem eq_two:TwoOne 138:=⟨fun _ _=>by kernel_rfl,eq_two0⟩
theorem lt_two:TwoOne 140:=⟨fun _ _=>by kernel_rfl,lt_two0⟩
theorem ult_two:TwoOne 141:=⟨fun _ _=>by kernel_rfl,ult_two0⟩
end
section
open Go.RowKit
variable {w0:World} {X:List Nat} {Cs:List Comp} {w:World} {x:Nat} {k:PCfg} {f:PF} {st cs ts:List Int} {lv:Value}
def funO (v:Value):Obj:=.cells #[v] 223 (0,0)
theorem bin_prog {n bf:Nat} {a b:Int} (hT:TwoOne n) (hS:Sep w0 X (pC x k f st cs ts (cI lv [a,b]::cBlk bf (funO (.func (.func n) #[] #[]))::Cs)) w) (hok:StOk st cs ts) (hl:st.length+1≤32) (c o:Int) (ha:I64 a) (hb:I64 b) :
   Calls Tryz.prog 180 #[ptr x,opV c o,lv,ptr bf] w (DopPost w0 X (cI lv [a,b]::cBlk bf (funO (.func (.func n) #[] #[]))::Cs) x k f):=by
 obtain ⟨g,cap,rfl,hcap,hg⟩:=Sep.intForm [_,_,_,_,_] hS (by simp)
 have S1:=hS.alloc (opO c o)
 have HP:=kH (fun q v=>push_pC (S1.drewN q) v (by omega))
 have HOK:=kH (fun v (hv:I64 v)=>stOk_add hok (by omega) hv)
 have c0:=Sep.intAt [_,_,_,_,_] S1 (j:=0) (by simp)
 have c1:=Sep.intAt [_,_,_,_,_] S1 (j:=1) (by simp)
 have cf:=(S1.pull [_,_,_,_,_,_]).cell 0
 simp only [List.getD_cons_zero,List.getD_cons_succ,gA,gZ] at c0 c1 cf
 have hlt:=heap_lt hS.h0
 have HTT:=kH (fun W=>hT.call a b W ha hb)
 have hrun:=hT.run
 have HS1:=kH S1
 clear hS S1 hok hcap hT
 unfold opV ptr at *
 go_enter Tryz.func180,Tryz.ntmps180
 go_wp2_with fail
 generalize hW1:w.alloc (.cells #[.int .i64 c,.int .i64 o] 135 (0,0))=W1 at *
 have HW1:Hid (w.alloc (opO c o)=W1):=hW1
 clear hW1
 rw [HW1.out] at HS1 HP c0 c1 cf
 go_region_held3 (fun w'=>w'.cell? ⟨bf,0,none⟩=some (.func (.func n) #[] #[])∧w'.cell? ⟨g,0,none⟩=some (.int .i64 a)∧w'.cell? ⟨g,1,none⟩=some (.int .i64 b)) (go_keep) (first | (go_at_call 60;refine (HP.out _ _).mono ?_;rintro e2 w2 ⟨rfl,sv1,S2⟩;have d0:=Sep.intAt [_,_,_,_,_] S2 (j:=0) (by simp);have d1:=Sep.intAt [_,_,_,_,_] S2 (j:=1) (by simp);have df:=(S2.pull [_,_,_,_,_,_]).cell 0;simp only [List.getD_cons_zero,List.getD_cons_succ,gA,gZ] at d0 d1 df;have HS2:=kH S2;clear S2) | (refine (HTT.out _).mono ?_;rintro e w' ⟨v,hv,rfl,rfl⟩;have HV:=kH hv;clear hv))
 go_wp2
 go_end0
 exact ⟨rfl,sv1,_,_,_,_,_,_,HOK.out _ HV.out,HS2.out⟩
theorem infoWork:(Tryz.prog.info? 140).map (·.size)=some 3:=by kernel_rfl
theorem binary_works (hS:Sep w0 X Cs w) (n:Nat) :
   Calls Tryz.prog 125 #[.func (.func n) #[] #[]] w (fun e w'=>∃ b,e=.returned (.agg #[.int .i64 2,.int .i64 1,.func (.func 180) #[] #[ptr b]])∧Sep w0 X (cBlk b (funO (.func (.func n) #[] #[]))::Cs) w'):=by
 have HS:=kH (hS.new (funO (.func (.func n) #[] #[])))
 clear hS
 unfold funO ptr at *
 go_enter Tryz.func125,Tryz.ntmps125
 go_wp2
 refine bodyPost_ret (results_cell_row rfl _ _ _ _ _ _ _ rfl (heap_new_at (o:=.cells #[.int .i64 2,.int .i64 1,.func (.func 180) #[] #[.pointer (some ⟨w.heap.size,0,none⟩)]] 140 (0,0)) (by simp)) Tryz.underlying140 rfl infoWork) rfl ⟨w.heap.size,rfl,HS.out.alloc _⟩
def worksL (b0 b1 b2 b3 b4 b5 b6 b7 b8 b9 b10 b11 b12 b13:Nat):List Value:=[.int .i64 0,.int .i64 0,.nilFunc,
 .int .i64 0,.int .i64 1,.func (.func 120) #[] #[],
 .int .i64 0,.int .i64 1,.func (.func 120) #[] #[],
 .int .i64 0,.int .i64 1,.func (.func 120) #[] #[],
 .int .i64 1,.int .i64 2,.func (.func 121) #[] #[],
 .int .i64 1,.int .i64 0,.func (.func 122) #[] #[],
 .int .i64 2,.int .i64 2,.func (.func 123) #[] #[],
 .int .i64 2,.int .i64 3,.func (.func 124) #[] #[],
 .int .i64 2,.int .i64 1,.func (.func 180) #[] #[ptr b0],
 .int .i64 2,.int .i64 1,.func (.func 180) #[] #[ptr b1],
 .int .i64 2,.int .i64 1,.func (.func 180) #[] #[ptr b2],
 .int .i64 2,.int .i64 1,.func (.func 180) #[] #[ptr b3],
 .int .i64 2,.int .i64 1,.func (.func 180) #[] #[ptr b4],
 .int .i64 2,.int .i64 1,.func (.func 180) #[] #[ptr b5],
 .int .i64 2,.int .i64 1,.func (.func 180) #[] #[ptr b6],
 .int .i64 2,.int .i64 1,.func (.func 180) #[] #[ptr b7],
 .int .i64 1,.int .i64 1,.func (.func 134) #[] #[],
 .int .i64 2,.int .i64 1,.func (.func 180) #[] #[ptr b8],
 .int .i64 2,.int .i64 1,.func (.func 180) #[] #[ptr b9],
 .int .i64 2,.int .i64 1,.func (.func 180) #[] #[ptr b10],
 .int .i64 2,.int .i64 1,.func (.func 180) #[] #[ptr b11],
 .int .i64 2,.int .i64 1,.func (.func 180) #[] #[ptr b12],
 .int .i64 2,.int .i64 1,.func (.func 180) #[] #[ptr b13],
 .int .i64 1,.int .i64 1,.func (.func 142) #[] #[],
 .int .i64 0,.int .i64 0,.func (.func 143) #[] #[],
 .int .i64 1,.int .i64 0,.func (.func 144) #[] #[],
 .int .i64 0,.int .i64 0,.func (.func 145) #[] #[],
 .int .i64 0,.int .i64 0,.func (.func 146) #[] #[],
 .int .i64 0,.int .i64 1,.func (.func 147) #[] #[],
 .int .i64 1,.int .i64 0,.func (.func 148) #[] #[],
 .int .i64 0,.int .i64 0,.nilFunc,
 .int .i64 1,.int .i64 1,.nilFunc,
 .int .i64 2,.int .i64 0,.nilFunc]
theorem Sep.blkAt {g:Nat} {cs:Array Value} {t:TypeId} (h:Sep w0 X Cs w) (hm:cBlk g (.cells cs t (0,0))∈Cs) (i:Nat):w.cell? ⟨g,i,none⟩=cs[i]?:=cell_of_row w g i _ _ _ (h.holds _ hm)
theorem works_calls (hS:Sep w0 X Cs w) :
   Calls Tryz.prog 100 #[] w (fun e w'=>∃ g b0 b1 b2 b3 b4 b5 b6 b7 b8 b9 b10 b11 b12 b13,e=.returned (.slice (some ⟨g,0,none⟩) 33 33)∧Sep w0 X (cBlk g (.cells (worksL b0 b1 b2 b3 b4 b5 b6 b7 b8 b9 b10 b11 b12 b13).toArray 140 (0,0)) ::
     cBlk b13 (funO (.func (.func 141) #[] #[]))::cBlk b12 (funO (.func (.func 140) #[] #[]))::cBlk b11 (funO (.func (.func 138) #[] #[]))::cBlk b10 (funO (.func (.func 137) #[] #[]))::cBlk b9 (funO (.func (.func 136) #[] #[]))::cBlk b8 (funO (.func (.func 135) #[] #[]))::cBlk b7 (funO (.func (.func 133) #[] #[]))::cBlk b6 (funO (.func (.func 132) #[] #[]))::cBlk b5 (funO (.func (.func 131) #[] #[]))::cBlk b4 (funO (.func (.func 130) #[] #[]))::cBlk b3 (funO (.func (.func 129) #[] #[]))::cBlk b2 (funO (.func (.func 128) #[] #[]))::cBlk b1 (funO (.func (.func 127) #[] #[]))::cBlk b0 (funO (.func (.func 126) #[] #[]))::Cs) w'):=by
 have S0:=(hS.new (.cells #[.int .i64 0,.int .i64 1,.func (.func 120) #[] #[]] 140 (0,0))).drew
 have HS:=kH S0
 clear S0 hS
 go_enter Tryz.func100,Tryz.ntmps100
 go_wp2_with fail
 have hq0:=heap_new_at (w:=w) (o:=.cells #[.int .i64 0,.int .i64 1,.func (.func 120) #[] #[]] 140 (0,0)) rfl
 generalize w.alloc (.cells #[.int .i64 0,.int .i64 1,.func (.func 120) #[] #[]] 140 (0,0))=W1 at *
 have q0:=cell_of_row W1 w.heap.size 0 _ _ _ hq0
 have q1:=cell_of_row W1 w.heap.size 1 _ _ _ hq0
 have q2:=cell_of_row W1 w.heap.size 2 _ _ _ hq0
 simp only [gA,gZ,gS] at q0 q1 q2
 clear hq0
 unfold ptr at *
 go_region_held3 (fun w'=>w'.cell? ⟨w.heap.size,0,none⟩=some (.int .i64 0)∧w'.cell? ⟨w.heap.size,1,none⟩=some (.int .i64 1)∧w'.cell? ⟨w.heap.size,2,none⟩=some (.func (.func 120) #[] #[])) (go_keep) (first | (go_at_call 125;refine (binary_works HS.out _).mono ?_;rintro e w2 ⟨b,rfl,S2⟩;have q0:=S2.blkAt (g:=w.heap.size) (cs:=#[.int .i64 0,.int .i64 1,.func (.func 120) #[] #[]]) (t:=140) (by repeat (first | exact List.mem_cons_self | apply List.mem_cons_of_mem)) 0;have q1:=S2.blkAt (g:=w.heap.size) (cs:=#[.int .i64 0,.int .i64 1,.func (.func 120) #[] #[]]) (t:=140) (by repeat (first | exact List.mem_cons_self | apply List.mem_cons_of_mem)) 1;have q2:=S2.blkAt (g:=w.heap.size) (cs:=#[.int .i64 0,.int .i64 1,.func (.func 120) #[] #[]]) (t:=140) (by repeat (first | exact List.mem_cons_self | apply List.mem_cons_of_mem)) 2;simp only [gA,gZ,gS] at q0 q1 q2;have HS:=kH S2;clear S2))
 go_wp2
 go_ret
 exact ⟨_,_,_,_,_,_,_,_,_,_,_,_,_,_,_,rfl,((HS.out.new _).pull [_,_,_,_,_,_,_,_,_,_,_,_,_,_,_]).drop⟩
end
end Go.Proofs.YtgfogfciobmmpaaGreatDoor
