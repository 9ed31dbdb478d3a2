/- A part of the proof of a law of carouseltop: Agn Cms Came Cms2 JTold AgN. -/
import Derived.Test.YtgfogfciobmmpaaGreatDoorBAu
import Derived.Test.YtgfogfciobmmpaaGreatDoorBAv
import Derived.Deep.RegionHeld3
set_option linter.unusedSimpArgs false
set_option linter.unusedVariables false
set_option maxRecDepth 100000
set_option maxHeartbeats 8000000
namespace Go.Proofs.YtgfogfciobmmpaaGreatDoor
open Go.RowKit
section
variable {w0:World}{X:List Nat}{Cs:List aw}{w:World}{x:Nat}{k:cl}{f:PF}{st cs ts:List Int}{t:bZ}{F:List Nat}{old:List bM}
def eS(f:PF)(tx:Nat)(ov:Value):PF:={f with nth:=f.nth+1,tx:=tx,begun:=false,published:=false,at_:=0,sv:=.slice none 0 0,cv:=.slice none 0 0,tv:=.slice none 0 0,came:=.no,ask:=.nilIface,word:=0,ov:=ov}
theorem ah.pOv(h:ah w0 X (ag x (bm k f)::Cs) w)(v:Value):ah w0 X (ag x (bm k {f with ov:=v})::Cs) (w.setCell ⟨x,22,none⟩ v):=h.pset 22 _ (by simp[aH])
theorem AC(k:cl)(f:PF)(tx:Nat):(((((((((((aH k f).setIfInBounds 12 (ptr tx)).setIfInBounds 13 (.bool false)).setIfInBounds 14 (.bool false)).setIfInBounds 15 (.int .i64 0)).setIfInBounds 16 (.slice none 0 0)).setIfInBounds 17 (.slice none 0 0)).setIfInBounds 18 (.slice none 0 0)).setIfInBounds 19 .nilFunc).setIfInBounds 20 .nilIface).setIfInBounds 21 (.int .i64 0)).setIfInBounds 11 (.int .i64 (f.nth+1))=aH k (eS f tx f.ov):=by
 simp[aH,eS,eb.val]
theorem ah.pTry(h:ah w0 X (ag x (bm k f)::Cs) w)(tx:Nat):ah w0 X (ag x (bm k (eS f tx f.ov))::Cs)
  (((((((((((w.setCell ⟨x,12,none⟩ (ptr tx)).setCell ⟨x,13,none⟩ (.bool false)).setCell ⟨x,14,none⟩ (.bool false)).setCell ⟨x,15,none⟩ (.int .i64 0)).setCell ⟨x,16,none⟩ (.slice none 0 0)).setCell ⟨x,17,none⟩ (.slice none 0 0)).setCell ⟨x,18,none⟩ (.slice none 0 0)).setCell ⟨x,19,none⟩ .nilFunc).setCell ⟨x,20,none⟩ .nilIface).setCell ⟨x,21,none⟩ (.int .i64 0)).setCell ⟨x,11,none⟩ (.int .i64 (f.nth+1))):=by
 have h6:=((((((((((h.set 12 (ptr tx)).set 13 (.bool false)).set 14 (.bool false)).set 15 (.int .i64 0)).set 16 (.slice none 0 0)).set 17 (.slice none 0 0)).set 18 (.slice none 0 0)).set 19 .nilFunc).set 20 .nilIface).set 21 (.int .i64 0)).set 11 (.int .i64 (f.nth+1))
 rw[AC]at h6
 exact h6
theorem u9{W:World}{Y:List Nat}{Ds:List aw}{w1:World}{ev:Value}{l:List bM}(h:ah w1 Y (bW ev (bb (l.drop 0))::Ds) W):aD W 44 19 ev l.length (aL (bb l)):=by
 have h:=h.h0
 rw[List.drop_zero]at h
 have e:(bb l).length=l.length:=bE l
 unfold bW aN at h
 rw[e]at h
 exact h
theorem row_old{W:World}{Y:List Nat}{Ds:List aw}{w1:World}{ev:Value}{l:List bM}(h:ah w1 Y (bW ev (bb l)::Ds) W):ah w1 Y (aN 44 19 ev l.length (aL (bb l))::Ds) W:=by
 have e:(bb l).length=l.length:=bE l
 unfold bW at h
 rw[e]at h
 exact h
theorem jT(hS:ah w0 X (pC x k f st cs ts (bW f.ov (bb old)::jQ f.tx t F::Cs)) w)(hc:co k.c)(hn:0<t.told.length/\t.told.length<=1073741824)(ho:old.length+t.told.length<=1073741824)(hnth:0<=f.nth/\f.nth<=1000) :
  Calls Tryz.prog 38 #[ptr x] w (fun e w'=>e=.returned (.tuple #[])/\∃ tx ov F',ah w0 X (pC x k (eS f tx ov) [] [] [] (bW ov (bb (old++t.told))::jQ tx (cZ k.c.ring k.c.writes k.c.stamps k.c.multi) F'::Cs)) w'):=by
 obtain⟨i0,yi,yz0,yz1,yz2⟩:=info_parts gf
 have hlt:=af hS.h0
 have c12:=hS.cell 12
 have c22:=hS.cell 22
 simp only[aH,gA,gZ,gS]at c12 c22
 have HT:=kH (fun q=>nJ ((hS.drewN q).pull [_,_,_,_,_,_]) 0 (Nat.zero_le _) hn.2)
 have HS:=kH hS
 have HC:=kH hc
 have HLN:=kH (show(aL (bb t.told)).length=t.told.length*19 by rw[fP,bE])
 clear hS hc
 unfold ptr at *
 go_enter Tryz.func38,Tryz.ntmps38
 go_wp2_with fail
 go_region_law(first|(refine step_append_lies _ rfl (.tmp 8) (.tmp 14) 37 rfl 0 44 i0 _ 19 152 Tryz.underlying37 yi yz0 yz1 yz2 rfl (by decide) f.ov old.length (aL (bb old)) rfl HS2.out.h0 ⟨g0,0,none⟩ t.told.length cap0 (aL (bb t.told)) rfl HLN.out (HNW.out) (fJ _) (by omega) (by unfold maxLen;omega) (by omega) (Nat.zero_le _) _ rfl ?_;intro g cap w5 hown5 hgrow5 hat5 hgl5;have S5:=HS2.out.append hgrow5 hown5 hat5 (Nat.le_refl _);have S6:=S5.pull [_,_,_];have f22:=S6.froz 22;have k22:=S6.cell 22;simp only[aH,gA,gZ,gS]at k22;have HS6:=kH S6;clear S5 S6 hown5 hgrow5 hat5)|(go_simp;refine(HT.out _).mono ?_;rintro e2 w2 ⟨ev,F2,rfl,S2⟩;have hr2:=u9 S2;obtain⟨g0,cap0,rfl,hq1,hq2,hq3,hq4,hq5,hq6⟩:=hr2.read hn.1;have HNW:Hid (∀ (j:Nat) (u:Value),(aL (bb t.told))[j]?=some u->w2.cell? ((⟨g0,0,none⟩:Addr).add j)=some u):=(by(intro j u hu;have e:(⟨g0,0,none⟩:Addr).add j=⟨g0,j,none⟩:=(by unfold Addr.add;split<;>simp_all);rw[e];exact hq5 j u hu));have S3:=row_old (S2.pull [_,_,_,_,_,_,_]);have c22':=(S3.pull [_,_,_]).cell 22;simp only[aH,gA,gZ,gS]at c22';have HS2:=kH S3;clear S2 S3 hr2 hq1 hq2 hq3 hq4 hq5 hq6))
 all_goals
  have S7:=HS6.out.pOv (.slice (some ⟨g,0,none⟩) (old.length+t.told.length) cap)
  generalize w5.setCell ⟨x,22,none⟩ (.slice (some ⟨g,0,none⟩) (old.length+t.told.length) cap)=w6 at *
  have HS7:=kH S7
  have hk:=fun j=>S7.cell j
  have d0:=hk 0
  have d1:=hk 1
  have d2:=hk 2
  have d3:=hk 3
  have d4:=hk 4
  have d5:=hk 5
  have d6:=hk 6
  simp only[aH,gA,gZ,gS]at d0 d1 d2 d3 d4 d5 d6
  have HN:=kH (DZ S7 k.raw k.tries none 0 0 k.c HC.out)
  unfold rU at HN
  clear S7 hk
  go_wp2_with fail
  refine HN.out.mono ?_
  rintro e7 w7 ⟨tx',q',rfl,hm,hR,S8⟩
  have S9:=ah.txOutN [_,_,_,_,_,_,_,_] S8
  have hk:=fun j=>S9.cell j
  have c11:=hk 11
  have c12':=hk 12
  have c13:=hk 13
  have c14:=hk 14
  have c15:=hk 15
  have c16:=hk 16
  have c17:=hk 17
  have c18:=hk 18
  have c19:=hk 19
  have c20:=hk 20
  have c21:=hk 21
  have f11:=S9.froz 11
  have f12:=S9.froz 12
  have f13:=S9.froz 13
  have f14:=S9.froz 14
  have f15:=S9.froz 15
  have f16:=S9.froz 16
  have f17:=S9.froz 17
  have f18:=S9.froz 18
  have f19:=S9.froz 19
  have f20:=S9.froz 20
  have f21:=S9.froz 21
  simp only[aH,gA,gZ,gS]at c11 c12' c13 c14 c15 c16 c17 c18 c19 c20 c21
  have HS9:=kH S9
  have HM:=kH hm
  have HR:=kH hR
  have hnth':0<=f.nth+1/\f.nth+1<=1001:=by omega
  have HNT:=kH (show IntKind.i64.wrap (f.nth+1)=f.nth+1 from IntWalk.i64_in _ (by omega))
  clear S8 S9 hk hm hR d0 d1 d2 d3 d4 d5 d6
  unfold ptr at *
  go_wp2
  go_end0
  have A:=HS9.out.pTry tx'
  have B:=(((((A.pull [_,_]).drop.pull [_,_]).drop.pull [_,_]).drop.pull [_,_]).drop.pull [_,_]).drop
  have B1:ah w0 X (eK tx' q' (ez (cZ k.c.ring k.c.writes k.c.stamps k.c.multi).way 0) (.slice none 0 0) (cZ k.c.ring k.c.writes k.c.stamps k.c.multi) (qa 0 0 .nilFunc (cZ k.c.ring k.c.writes k.c.stamps k.c.multi).way ([_,_,_]++Cs))) _:=ah.txInN [_,_,_] B
  obtain⟨F',B2⟩:=ah.txClose (by rw[HM.out];rfl) HR.out B1
  have B3:=((((B2.nilRow 2 1).nilRow 2 1).nilRow 2 1).pull [_,_,_,_])
  have B4:=(((B3.pull [_,_,_,_,_,_]).push [_,_,_,_]).pull [_,_,_,_,_]).push [_,_,_,_,_,_]
  refine⟨rfl,tx',.slice (some ⟨g,0,none⟩) (old.length+t.told.length) cap,F',?_⟩
  rw[wI]
  unfold bW
  rw[o8,show(bb old++bb t.told).length=old.length+t.told.length by simp[bb]]
  exact B4
end
section
variable {w0:World}{X:List Nat}{Cs:List aw}{w:World}{x:Nat}{k:cl}{f:PF}{st cs ts:List Int}{t:bZ}{F:List Nat}{old:List bM}
theorem jV(hS:ah w0 X (jQ x t F::Cs) w) :
  Calls Tryz.prog 59 #[ptr x] w (fun e w'=>e=.returned (.int .i64 t.phase)/\∃ F',ah w0 X (jQ x t F'::Cs) w'):=by
 obtain⟨q,a,j,lv,tv,h1,h2,hS⟩:=hS.txOpen
 refine(DX hS).mono ?_
 rintro e w' ⟨rfl,S⟩
 exact⟨rfl,ah.txClose h1 h2 S⟩
theorem ah.pPub(h:ah w0 X (ag x (bm k f)::Cs) w)(b:Bool):ah w0 X (ag x (bm k {f with published:=b})::Cs) (w.setCell ⟨x,14,none⟩ (.bool b)):=h.pset 14 _ (by simp[aH])
theorem ah.retNew{W:World}{f:Func}{Q:Ending->World->Prop}{act:Act}{q:Tmp}(a:aM)(hres:f.results=#[.cell q 35])
  (h:ah w0 X Cs W) (hg:act.tmps.getD q undef=.pointer (some ⟨W.heap.size,0,none⟩)) (hd:act.defers=[]) (hQ:∀ W',ah w0 X Cs W'->Q (.returned a.val) W') :
  bodyPost Tryz.prog f Q .ret act (W.alloc (.cells #[.int .i64 a.kind,.int .i64 a.err,.int .i64 a.value,.bool a.access] 35 (0,0))) :=
 bodyPost_ret (results_cell_row hres _ _ _ _ _ _ _ hg (ar rfl) Tryz.underlying35 rfl cK) hd (hQ _ (h.alloc _))
structure PfOk(f:PF)(st cs ts:List Int)(j:dY):Prop where
 ok:bX st cs ts
 begun:f.begun=j.begun
 came:j.begun=true->f.came.fin=j.fin/\f.came≠.no
 word:aI f.word
 nth:0<=f.nth/\f.nth<=255
 loaded:f.came=.loaded->j.tx.way≠.no->st.length<=31
 over:f.over=false
 fresh:j.begun=false->f.ask=.nilIface
def jC(x:Nat)(k:cl)(f:PF)(st cs ts:List Int)(old:List bM)(t:bZ)(F:List Nat)(Cs:List aw):List aw:=pC x k f st cs ts (bW f.ov (bb old)::jQ f.tx t F::Cs)
def cU(w0:World)(X:List Nat)(Cs:List aw)(x:Nat)(k:cl)(f:PF)(c:eb)(old:List bM)(t:bZ)(nx:cM)(w':World):Prop :=
 match nx with
 | .on j=>∃ f' st cs ts F',(PfOk f' st cs ts j/\f'.rv=f.rv)/\((f'.ask=f.ask/\f'.came=c/\(c≠.loaded->f'.sv=f.sv))\/f'.ask=.nilIface)/\ah w0 X (jC x k f' st cs ts j.old j.tx F' Cs) w'
 | .over=>∃ f' st cs ts F',(f'.over=true/\ts.length<=16)/\ah w0 X (jC x k f' st cs ts old t F' Cs) w'
def dC(w0:World)(X:List Nat)(Cs:List aw)(x:Nat)(k:cl)(f:PF)(old:List bM)(t:bZ)(a:aM)(e:Ending)(w':World):Prop :=
 e=.returned (bL a f.came.fin).val/\∃ nx,iy k.c old t f.came.fin a nx/\cU w0 X Cs x k f f.came old t nx w'
theorem Dn(hS:ah w0 X (jC x k f st cs ts old t F Cs) w)(hok:bX st cs ts)(hb:f.begun=true)(hcm:f.came≠.no)(hw:aI f.word)(hnth:0<=f.nth/\f.nth<=255)(hov:f.over=false)(hl:f.came=.loaded->st.length<=31)(a:aM)(h3:a.kind≠3)(h4:a.kind≠4) :
  Calls Tryz.prog 43 #[ptr x,a.val] w (dC w0 X Cs x k f old t a):=by
 obtain⟨ak,ae,av,aac⟩:=a
 simp only at h3 h4
 have S1:ah w0 X (jC x k f st cs ts old t F (ag w.heap.size (aS ⟨ak,ae,av,aac⟩)::ag (w.heap.size+1) aB::Cs)) ((w.alloc (aS ⟨ak,ae,av,aac⟩)).alloc aB):=by
  have h:=((hS.new (aS ⟨ak,ae,av,aac⟩)).new aB).sw
  rw[show(w.alloc (aS ⟨ak,ae,av,aac⟩)).heap.size=w.heap.size+1 by simp]at h
  exact ah.turn [_,_] [_,_,_,_,_,_,_] h
 have HP:=kH (jV (S1.pull [_,_,_,_,_,_]))
 have HS1:=kH S1
 have HS0:=kH hS
 have hlt:=af hS.h0
 have c12:=S1.cell 12
 have c14:=hS.cell 14
 have f14:=hS.froz 14
 simp only[aH,gA,gZ,gS]at c12 c14
 have e3:(ak == 3)=false:=beq_eq_false_iff_ne.2 h3
 have e4:(ak == 4)=false:=beq_eq_false_iff_ne.2 h4
 have HQ:=kH (show ∀ b,iy k.c old t f.came.fin ⟨ak,ae,av,aac⟩ (.on ⟨t,true,f.came.fin,old⟩)/\bL ⟨ak,ae,av,aac⟩ f.came.fin=⟨ak,ae,0,aac⟩/\PfOk {f with published:=b} st cs ts ⟨t,true,f.came.fin,old⟩from fun b=>⟨.on h4 (fun h=>h3 h.1),by unfold bL;simp[h3],hok,hb,fun _=>⟨rfl,hcm⟩,hw,hnth,fun h _=>hl h,hov,fun h=>by simp at h⟩)
 clear hS S1 hok h3 h4 hb hcm hw hnth hov hl
 unfold aM.val aS aB ptr at *
 generalize hpb:f.published=pb at c14
 have HPB:=kH hpb
 clear hpb
 cases pb
 ·go_enter Tryz.func43,Tryz.ntmps43
  go_wp2_with fail
  refine HP.out.mono ?_
  rintro e w1 ⟨rfl,F',S2⟩
  have S3:ah w0 X (jC x k f st cs ts old t F' (ag w.heap.size (aS ⟨ak,ae,av,aac⟩)::ag (w.heap.size+1) aB::Cs)) w1:=S2.push [_,_,_,_,_,_]
  have d14:=S3.cell 14
  have g14:=S3.froz 14
  simp only[aH,gA,gZ,gS]at d14
  have hbx:=fun j=>(S3.pull [_,_,_,_,_,_,_]).cell j
  have hbf:=fun j=>(S3.pull [_,_,_,_,_,_,_]).froz j
  have b0:=hbx 0
  have b1:=hbx 1
  have b2:=hbx 2
  have b3:=hbx 3
  have z0:=hbf 0
  have z1:=hbf 1
  have z2:=hbf 2
  simp only[gA,gZ,gS]at b0 b1 b2 b3
  have S4:=S3.pull [_,_,_,_,_,_,_,_]
  obtain⟨⟨a0,a1,a2,a3⟩,⟨i0,i1,i2,i3⟩⟩:=S4.ansBox
  have hne:x≠w.heap.size:=Nat.ne_of_lt hlt
  have hne2:x≠w.heap.size+1:=by omega
  have HS3:=kH S3
  generalize t.phase=ph at *
  clear S2 S3 S4 hbx hbf
  go_wp2
  obtain⟨q1,q2,q3⟩:=HQ.out (ph == 5)
  refine ah.ret ⟨ak,ae,0,aac⟩ rfl ((ah.pPub HS3.out (ph == 5)).pull [_,_,_,_,_,_,_,_]) rfl rfl fun W' SF=>⟨by rw[q2],_,q1,_,st,cs,ts,F',⟨q3,rfl⟩,.inl ⟨rfl,rfl,fun _=>rfl⟩,?_⟩
  exact(SF.pull [_,_,_,_,_,_,_]).drop
 ·go_enter Tryz.func43,Tryz.ntmps43
  go_wp2
  obtain⟨q1,q2,q3⟩:=HQ.out true
  refine ah.retNew ⟨ak,ae,0,aac⟩ rfl ((ah.pPub HS0.out true).alloc _) (by simp) rfl fun W' SF=>⟨by rw[q2],_,q1,_,st,cs,ts,F,⟨q3,rfl⟩,.inl ⟨rfl,rfl,fun _=>rfl⟩,SF⟩
end
section
variable {w0:World}{X:List Nat}{Cs:List aw}{w:World}{x:Nat}{k:cl}{f:PF}{st cs ts:List Int}{t:bZ}{F:List Nat}{old:List bM}
def kV(w0:World)(X:List Nat)(Cs:List aw)(x:Nat)(k:cl)(f:PF)(cs ts:List Int)(r:Bool)(e:Ending)(w':World):Prop :=
 e=.returned (.bool r)/\∃ sv at_ wd st',(bX st' cs ts/\(f.came≠.loaded->sv=f.sv))/\aI wd/\ah w0 X (pC x k {f with sv:=sv,at_:=at_,word:=wd} st' cs ts Cs) w'
theorem tG(hS:ah w0 X (pC x k f st cs ts Cs) w)(hok:bX st cs ts)(hw:aI f.word)(v:Int) :
  Calls Tryz.prog 41 #[ptr x,.int .i64 v] w (kV w0 X Cs x k f cs ts false):=by
 have HS:=kH hS
 clear hS
 go_enter Tryz.func41,Tryz.ntmps41
 go_wp2
 go_ret
 exact⟨rfl,f.sv,f.at_,f.word,st,⟨hok,fun _=>rfl⟩,hw,HS.out⟩
theorem Ba(hS:ah w0 X (pC x k f st cs ts Cs) w)(hok:bX st cs ts)(hw:aI f.word)(v:Int) :
  Calls Tryz.prog 66 #[ptr x,.int .i64 v] w (kV w0 X Cs x k f cs ts true):=by
 have HS:=kH hS
 clear hS
 go_enter Tryz.func66,Tryz.ntmps66
 go_wp2
 go_ret
 exact⟨rfl,f.sv,f.at_,f.word,st,⟨hok,fun _=>rfl⟩,hw,HS.out⟩
theorem ah.pWord(h:ah w0 X (ag x (bm k f)::Cs) w)(v:Int):ah w0 X (ag x (bm k {f with word:=v})::Cs) (w.setCell ⟨x,21,none⟩ (.int .i64 v)):=h.pset 21 _ (by simp[aH])
theorem yt(hS:ah w0 X (pC x k f st cs ts Cs) w)(hok:bX st cs ts)(v:Int)(hv:aI v) :
  Calls Tryz.prog 61 #[ptr x,.int .i64 v] w (kV w0 X Cs x k f cs ts false):=by
 have HS:=kH hS
 have c21:=hS.cell 21
 have f21:=hS.froz 21
 simp only[aH,gA,gZ,gS]at c21
 clear hS
 unfold ptr at *
 go_enter Tryz.func61,Tryz.ntmps61
 go_wp2
 go_ret
 exact⟨rfl,f.sv,f.at_,v,st,⟨hok,fun _=>rfl⟩,hv,ah.pWord HS.out v⟩
theorem vC(hS:ah w0 X (pC x k f st cs ts Cs) w)(hok:bX st cs ts)(hw:aI f.word)(hl:st.length<=31)(hcl:f.came=.loaded)(v:Int)(hv:aI v) :
  Calls Tryz.prog 69 #[ptr x,.int .i64 v] w (kV w0 X Cs x k f cs ts false):=by
 have HP:=kH (eE hS v (by omega))
 have HOK:=kH (dQ hok (by omega) hv)
 clear hS hok
 unfold ptr at *
 go_enter Tryz.func69,Tryz.ntmps69
 go_wp2_with fail
 refine HP.out.mono ?_
 rintro e w1 ⟨rfl,sv',S1⟩
 have c15:=S1.cell 15
 have f15:=S1.froz 15
 simp only[aH,gA,gZ,gS]at c15
 generalize hat:f.at_=at_ at c15
 have HS1:=kH S1
 clear S1 hat
 go_wp2
 go_ret
 have S9:=ah.pAt HS1.out (wrap64 (at_+1))
 exact⟨rfl,sv',wrap64 (at_+1),f.word,_,⟨HOK.out,fun h=>absurd hcl h⟩,hw,S9⟩
theorem re(hc:f.came≠.no):∃ n,f.came.val=.func (.func n) #[] #[]/\(∀ (a:Array Value) (W:World),(callFunc n a).run Tryz.prog W=.ok (.enter n a) W) /\
  ∀ (w0:World) (X:List Nat) (Cs:List aw) (w:World) (x:Nat) (b:Bool) (st cs ts:List Int) (v:Int),ah w0 X (pC x k {f with published:=b} st cs ts Cs) w->bX st cs ts->aI f.word->(f.came=.loaded->st.length<=31)->aI v->Calls Tryz.prog n #[ptr x,.int .i64 v] w (kV w0 X Cs x k {f with published:=b} cs ts f.came.fin):=by
 match h:f.came,hc with
 | .nothing,_=>exact⟨_,rfl,fun _ _=>by kernel_rfl,fun _ _ _ _ _ _ _ _ _ v hS hok hw _ _=>tG hS hok hw v⟩
 | .ends,_=>exact⟨_,rfl,fun _ _=>by kernel_rfl,fun _ _ _ _ _ _ _ _ _ v hS hok hw _ _=>Ba hS hok hw v⟩
 | .loaded,_=>exact⟨_,rfl,fun _ _=>by kernel_rfl,fun _ _ _ _ _ _ _ _ _ v hS hok hw hl hv=>vC hS hok hw (hl rfl) rfl v hv⟩
 | .heard,_=>exact⟨_,rfl,fun _ _=>by kernel_rfl,fun _ _ _ _ _ _ _ _ _ v hS hok _ _ hv=>yt hS hok v hv⟩
end
section
variable {w0:World}{X:List Nat}{Cs:List aw}{w:World}{x:Nat}{k:cl}{f:PF}{st cs ts:List Int}{t:bZ}{F:List Nat}{old:List bM}
theorem ah.pOver(h:ah w0 X (ag x (bm k f)::Cs) w)(b:Bool):ah w0 X (ag x (bm k {f with over:=b})::Cs) (w.setCell ⟨x,23,none⟩ (.bool b)):=h.pset 23 _ (by simp[aH])
theorem yC(hS:ah w0 X (jC x k f st cs ts old t F Cs) w)(hok:bX st cs ts)(hb:f.begun=true)(hcm:f.came≠.no)(hw:aI f.word)(hnth:0<=f.nth/\f.nth<=255)(hl:f.came=.loaded->st.length<=31)(hway:t.way=.no)(ae av:Int)(aac:Bool)(hv:aI av) :
  Calls Tryz.prog 43 #[ptr x,(⟨3,ae,av,aac⟩:aM).val] w (dC w0 X Cs x k f old t ⟨3,ae,av,aac⟩):=by
 have S1:ah w0 X (jC x k f st cs ts old t F (ag w.heap.size (aS ⟨3,ae,av,aac⟩)::ag (w.heap.size+1) aB::Cs)) ((w.alloc (aS ⟨3,ae,av,aac⟩)).alloc aB):=by
  have h:=((hS.new (aS ⟨3,ae,av,aac⟩)).new aB).sw
  rw[show(w.alloc (aS ⟨3,ae,av,aac⟩)).heap.size=w.heap.size+1 by simp]at h
  exact ah.turn [_,_] [_,_,_,_,_,_,_] h
 have HP:=kH (jV (S1.pull [_,_,_,_,_,_]))
 have HS1:=kH S1
 have HS0:=kH hS
 have hlt:=af hS.h0
 have c12:=S1.cell 12
 have c14:=hS.cell 14
 have f14:=hS.froz 14
 simp only[aH,gA,gZ,gS]at c12 c14
 obtain⟨n,hfv,hrun,hcall⟩:=re (k:=k) hcm
 have HFV:=kH hfv
 have HCL:=kH hcall
 clear hcall hfv
 clear hS S1
 unfold aM.val aS aB ptr at *
 generalize hpb:f.published=pb at c14
 have HPB:=kH hpb
 clear hpb
 generalize hfn:f.came.fin=fn at *
 have HFN:=kH hfn
 clear hfn
 cases pb
 ·go_enter Tryz.func43,Tryz.ntmps43
  go_wp2_with fail
  refine HP.out.mono ?_
  rintro e w1 ⟨rfl,F',S2⟩
  have S3:ah w0 X (jC x k f st cs ts old t F' (ag w.heap.size (aS ⟨3,ae,av,aac⟩)::ag (w.heap.size+1) aB::Cs)) w1:=S2.push [_,_,_,_,_,_]
  have d14:=S3.cell 14
  have g14:=S3.froz 14
  simp only[aH,gA,gZ,gS]at d14
  generalize t.phase=ph at *
  have S4:=ah.pPub S3 (ph == 5)
  have d19:=S3.cell 19
  have hne:x≠w.heap.size:=Nat.ne_of_lt hlt
  have hne2:x≠w.heap.size+1:=by omega
  simp only[aH,HFV.out,gA,gZ,gS]at d19
  have hbx:=fun j=>(S3.pull [_,_,_,_,_,_,_]).cell j
  have b0:=hbx 0
  have b2:=hbx 2
  simp only[gA,gZ,gS]at b0 b2
  have HCC:=kH (fun q=>HCL.out _ _ _ _ _ _ _ _ _ av (S4.drewN q) hok hw hl hv)
  have HS4:=kH S4
  clear S2 S3 S4 hbx
  go_wp2_with fail
  generalize hW2:w1.setCell ⟨x,14,none⟩ (.bool (ph == 5))=W2 at *
  have HW2:=kH hW2
  clear hW2
  have e19:=HS4.out.cell 19
  have c2:=(HS4.out.pull [_,_,_,_,_,_,_]).cell 2
  simp only[aH,HFV.out,gA,gZ,gS]at e19 c2
  go_region_held3 (fun w'=>w'.cell? ⟨x,19,none⟩=some (.func (.func n) #[] #[])/\w'.cell? ⟨w.heap.size,2,none⟩=some (.int .i64 av)) (first|(go_keep;done)|((try dsimp only);(refine⟨?_,?_⟩<;>(first|(go_keep;done)|(simp[*,jw];done))))) ((refine(HCC.out _).mono ?_;rintro e5 w5 ⟨rfl,sv,at_,wd,st',hok',hwd,S5⟩;have k19:=S5.cell 19;have k23:=S5.cell 23;have j23:=S5.froz 23;have hby:=fun j=>(S5.pull [_,_,_,_,_,_,_]).cell j;have y2:=hby 2;simp only[aH,HFV.out,gA,gZ,gS]at k19 k23 y2;have HS5:=kH S5;have HOK5:=kH hok';have HWD5:=kH hwd;clear S5 hby hok' hwd))
  have S6:=HS5.out.pOver fn
  generalize w5.setCell ⟨x,23,none⟩ (.bool fn)=w6 at *
  have k23':=S6.cell 23
  have hby:=fun j=>(S6.pull [_,_,_,_,_,_,_]).cell j
  have hbf:=fun j=>(S6.pull [_,_,_,_,_,_,_]).froz j
  have y0:=hby 0
  have y1:=hby 1
  have y2':=hby 2
  have y3:=hby 3
  have z0:=hbf 0
  have z2:=hbf 2
  simp only[aH,gA,gZ,gS]at k23' y0 y1 y2' y3
  obtain⟨⟨a0,a1,a2,a3⟩,⟨i0,i1,i2,i3⟩⟩:=(S6.pull [_,_,_,_,_,_,_,_]).ansBox
  have HS6:=kH S6
  clear S6 hby hbf
  cases fn
  ·go_wp2
   have hq:=HFN.out
   have S7:ah w0 X (pC x k _ st' cs ts (bW f.ov (bb old)::jQ f.tx t _::ag w.heap.size _::ag (w.heap.size+1) aB::Cs)) _:=HS6.out
   have S8:=(((S7.pull [_,_,_,_,_,_,_]).set 0 (.int .i64 2)).set 2 (.int .i64 0)).drop.pull [_,_,_,_,_,_,_]
   refine ah.ret ⟨2,ae,0,aac⟩ rfl S8 rfl rfl fun W' SF=>?_
   unfold dC
   rw[hq]
   refine⟨by simp[bL],.on ⟨t,true,false,old⟩,.on (by simp) (by simp),{f with published:=(ph == 5),at_:=at_,sv:=sv,word:=wd,over:=false},st',cs,ts,_,⟨⟨HOK5.out.1,hb,fun _=>⟨hq,hcm⟩,HWD5.out,hnth,fun _ h=>absurd hway h,rfl,fun h=>by simp at h⟩,rfl⟩,.inl ⟨rfl,rfl,HOK5.out.2⟩,SF⟩
  ·go_wp2
   have hq:=HFN.out
   have S7:ah w0 X (pC x k _ st' cs ts (bW f.ov (bb old)::jQ f.tx t _::ag w.heap.size _::ag (w.heap.size+1) aB::Cs)) _:=HS6.out
   have S8:=((S7.pull [_,_,_,_,_,_,_]).set 2 (.int .i64 0)).drop.pull [_,_,_,_,_,_,_]
   refine ah.ret ⟨3,ae,0,aac⟩ rfl S8 rfl rfl fun W' SF=>?_
   unfold dC
   rw[hq]
   exact⟨by simp[bL],.over,.done rfl rfl,{f with published:=(ph == 5),at_:=at_,sv:=sv,word:=wd,over:=true},st',cs,ts,_,⟨rfl,HOK5.out.1.tsl⟩,SF⟩
 ·go_enter Tryz.func43,Tryz.ntmps43
  go_wp2_with fail
  have S4:ah w0 X (jC x k {f with published:=true} st cs ts old t F (ag w.heap.size (aS ⟨3,ae,av,aac⟩)::ag (w.heap.size+1) aB::Cs)) (((w.setCell ⟨x,14,none⟩ (.bool true)).alloc (aS ⟨3,ae,av,aac⟩)).alloc aB):=by
   have h:=(((ah.pPub HS0.out true).new (aS ⟨3,ae,av,aac⟩)).new aB).sw
   rw[show((w.setCell ⟨x,14,none⟩ (.bool true)).alloc (aS ⟨3,ae,av,aac⟩)).heap.size=w.heap.size+1 by simp,show(w.setCell ⟨x,14,none⟩ (.bool true)).heap.size=w.heap.size by simp]at h
   exact ah.turn [_,_] [_,_,_,_,_,_,_] h
  have hne:x≠w.heap.size:=Nat.ne_of_lt hlt
  have hne2:x≠w.heap.size+1:=by omega
  have d19:=HS0.out.cell 19
  simp only[aH,HFV.out,gA,gZ,gS]at d19
  have HCC:=kH (fun q=>HCL.out _ _ _ _ _ _ _ _ _ av (S4.drewN q) hok hw hl hv)
  have HS4:=kH S4
  unfold aS aB at HS4 HCC
  simp only at HS4 HCC
  clear S4
  generalize hW2:((w.setCell ⟨x,14,none⟩ (.bool true)).alloc (.cells #[.int .i64 3,.int .i64 ae,.int .i64 av,.bool aac] 35 (0,0))).alloc (.cells #[.int .i64 0,.int .i64 0,.int .i64 0,.bool false] 35 (0,0))=W2 at *
  have HW2:=kH hW2
  clear hW2
  have e19:=HS4.out.cell 19
  have c2:=(HS4.out.pull [_,_,_,_,_,_,_]).cell 2
  simp only[aH,HFV.out,gA,gZ,gS]at e19 c2
  go_region_held3 (fun w'=>w'.cell? ⟨x,19,none⟩=some (.func (.func n) #[] #[])/\w'.cell? ⟨w.heap.size,2,none⟩=some (.int .i64 av)) (first|(go_keep;done)|((try dsimp only);(refine⟨?_,?_⟩<;>(first|(go_keep;done)|(simp[*,jw];done))))) ((refine(HCC.out _).mono ?_;rintro e5 w5 ⟨rfl,sv,at_,wd,st',hok',hwd,S5⟩;have k19:=S5.cell 19;have k23:=S5.cell 23;have j23:=S5.froz 23;have hby:=fun j=>(S5.pull [_,_,_,_,_,_,_]).cell j;have y2:=hby 2;simp only[aH,HFV.out,gA,gZ,gS]at k19 k23 y2;have HS5:=kH S5;have HOK5:=kH hok';have HWD5:=kH hwd;clear S5 hby hok' hwd))
  have S6:=HS5.out.pOver fn
  generalize w5.setCell ⟨x,23,none⟩ (.bool fn)=w6 at *
  have k23':=S6.cell 23
  have hby:=fun j=>(S6.pull [_,_,_,_,_,_,_]).cell j
  have hbf:=fun j=>(S6.pull [_,_,_,_,_,_,_]).froz j
  have y0:=hby 0
  have y1:=hby 1
  have y2':=hby 2
  have y3:=hby 3
  have z0:=hbf 0
  have z2:=hbf 2
  simp only[aH,gA,gZ,gS]at k23' y0 y1 y2' y3
  obtain⟨⟨a0,a1,a2,a3⟩,⟨i0,i1,i2,i3⟩⟩:=(S6.pull [_,_,_,_,_,_,_,_]).ansBox
  have HS6:=kH S6
  clear S6 hby hbf
  cases fn
  ·go_wp2
   have hq:=HFN.out
   have S7:ah w0 X (pC x k _ st' cs ts (bW f.ov (bb old)::jQ f.tx t _::ag w.heap.size _::ag (w.heap.size+1) aB::Cs)) _:=HS6.out
   have S8:=(((S7.pull [_,_,_,_,_,_,_]).set 0 (.int .i64 2)).set 2 (.int .i64 0)).drop.pull [_,_,_,_,_,_,_]
   refine ah.ret ⟨2,ae,0,aac⟩ rfl S8 rfl rfl fun W' SF=>?_
   unfold dC
   rw[hq]
   refine⟨by simp[bL],.on ⟨t,true,false,old⟩,.on (by simp) (by simp),{f with published:=true,at_:=at_,sv:=sv,word:=wd,over:=false},st',cs,ts,_,⟨⟨HOK5.out.1,hb,fun _=>⟨hq,hcm⟩,HWD5.out,hnth,fun _ h=>absurd hway h,rfl,fun h=>by simp at h⟩,rfl⟩,.inl ⟨rfl,rfl,HOK5.out.2⟩,SF⟩
  ·go_wp2
   have hq:=HFN.out
   have S7:ah w0 X (pC x k _ st' cs ts (bW f.ov (bb old)::jQ f.tx t _::ag w.heap.size _::ag (w.heap.size+1) aB::Cs)) _:=HS6.out
   have S8:=((S7.pull [_,_,_,_,_,_,_]).set 2 (.int .i64 0)).drop.pull [_,_,_,_,_,_,_]
   refine ah.ret ⟨3,ae,0,aac⟩ rfl S8 rfl rfl fun W' SF=>?_
   unfold dC
   rw[hq]
   exact⟨by simp[bL],.over,.done rfl rfl,{f with published:=true,at_:=at_,sv:=sv,word:=wd,over:=true},st',cs,ts,_,⟨rfl,HOK5.out.1.tsl⟩,SF⟩
end
section
variable {w0:World}{X:List Nat}{Cs:List aw}{w:World}{x:Nat}{k:cl}{f:PF}{st cs ts:List Int}{t:bZ}{F:List Nat}{old:List bM}
theorem nK(hS:ah w0 X (jQ x t F::Cs) w)(h:t.told=[]) :
  Calls Tryz.prog 54 #[ptr x,.int .i64 0] w (fun e w'=>e=.returned (.slice none 0 0)/\∃ F',ah w0 X (jQ x t F'::Cs) w'):=by
 obtain⟨q,a,j,lv,tv,h1,h2,hS⟩:=hS.txOpen
 have e:(t.told.length:Int)=0:=by rw[h];rfl
 have hT:=sW hS (by rw[h];decide)
 rw[e]at hT
 refine hT.mono ?_
 rintro e w' ⟨rfl,S⟩
 exact⟨rfl,ah.txClose h1 h2 S⟩
theorem BA(hS:ah w0 X (jC x k f st cs ts old t F Cs) w)(n:Nat)(h1:old.length<=n)(h2:n<=old.length+t.told.length)(hn:old.length+t.told.length<=1073741824) :
  Calls Tryz.prog 46 #[ptr x,.int .i64 n] w (fun e w'=>∃ ev F',e=.returned ev/\ah w0 X (bW ev (bb ((old++t.told).drop n))::jC x k f st cs ts old t F' Cs) w'):=by
 have c12:=hS.cell 12
 have c22:=hS.cell 22
 simp only[aH,gA,gZ,gS]at c12 c22
 have hr:aD w 44 19 f.ov (bb old).length (aL (bb old)):=(hS.pull [_,_,_,_,_]).h0
 obtain⟨a,cap,hv,hcn,hcm⟩:=hr.slice
 rw[bE]at hv hcn
 rw[hv]at c22
 have HV:=kH hv
 have HT:=kH (fun q=>nJ ((hS.drewN q).pull [_,_,_,_,_,_]) (n-old.length) (by omega) (by omega))
 have HT0:=kH (nJ (hS.pull [_,_,_,_,_,_]) (n-old.length) (by omega) (by omega))
 have hlt:=af hS.h0
 have hsub:IntKind.i64.wrap ((n:Int)-(old.length:Int))=((n-old.length:Nat):Int):=by
  rw[show((n-old.length:Nat):Int)=(n:Int)-(old.length:Int) by omega]
  exact IntWalk.i64_in _ (by omega)
 have HD:=kH (show(old++t.told).drop n=t.told.drop (n-old.length) by
  rw[List.drop_append,List.drop_eq_nil_of_le h1]
  rfl)
 have hge:(old.length:Int)<=(n:Int):=by omega
 have hmax:max (n:Int) 0=n:=by omega
 clear hS hr hv
 unfold ptr at *
 obtain⟨N,hN⟩:∃ N,old.length=N:=⟨_,rfl⟩
 rw[hN]at HV c22 hsub hge HT HT0 HD hcn
 clear hN h1 h2 hn
 go_enter Tryz.func46,Tryz.ntmps46
 go_wp2_with fail
 go_region_held3 (fun w'=>w'.cell? ⟨x,12,none⟩=some (.pointer (some ⟨f.tx,0,none⟩))/\w'.cell? ⟨x,22,none⟩=some (.slice a N cap)) (go_keep) (first|(go_at_call 54;(first|refine(HT.out _).mono ?_|refine HT0.out.mono ?_);rintro e1 w1 ⟨ev,F',rfl,S1⟩;have S2:=S1.pull [_];have S3:=S1.sw.pull [_,_];have d12:=S3.cell 12;have d22:=S3.cell 22;simp only[aH,gA,gZ,gS,HV.out]at d12 d22;unfold ptr at d12;have HS1:=kH S1;clear S1 S2 S3))
 go_wp2
 go_ret
 rw[HD.out]
 exact⟨_,F',rfl,HS1.out.sw.push [_,_,_,_,_,_,_]⟩
theorem Bz(hS:ah w0 X (jC x k f st cs ts old t F Cs) w)(n:Nat)(h1:n<old.length)(h0:t.told=[])(hn:old.length<=1073741824) :
  Calls Tryz.prog 46 #[ptr x,.int .i64 n] w (fun e w'=>∃ ev F',e=.returned ev/\ah w0 X (bW ev (bb ((old++t.told).drop n))::jC x k f st cs ts old t F' Cs) w'):=by
 have c12:=hS.cell 12
 have c22:=hS.cell 22
 simp only[aH,gA,gZ,gS]at c12 c22
 have hr:aD w 44 19 f.ov (bb old).length (aL (bb old)):=(hS.pull [_,_,_,_,_]).h0
 rw[bE]at hr
 obtain⟨g,cap,hv,hcn,hcm,hg,hrf,hcell,hfz⟩:=hr.read (by omega)
 rw[hv]at c22
 have HV:=kH hv
 have HT:=kH (fun q=>nK ((hS.drewN q).pull [_,_,_,_,_,_]) h0)
 have HT0:=kH (nK (hS.pull [_,_,_,_,_,_]) h0)
 have hlt:=af hS.h0
 have hge:¬(old.length:Int)<=(n:Int):=by omega
 have hmax:max (n:Int) 0=n:=by omega
 have h0n:(0:Int)<=n:=by omega
 have hle:(n:Int)<=(old.length:Int):=by omega
 have hlc:(old.length:Int)<=(cap:Int):=by omega
 have H0:=kH h0
 have H1:=kH h1
 have HN:=kH hn
 clear hS hr hv hcell hfz h0 h1 hn
 unfold ptr at *
 obtain⟨N,hN⟩:∃ N,old.length=N:=⟨_,rfl⟩
 have HNN:=kH hN
 have HOV:=kH (show bW f.ov (bb old)=aN 44 19 (.slice (some ⟨g,0,none⟩) N cap) N (aL (bb old)) by unfold bW;rw[HV.out,bE,hN])
 rw[hN]at c22 hge hle hlc hcn
 clear hN
 go_enter Tryz.func46,Tryz.ntmps46
 go_wp2_with fail
 go_region_held3 (fun w'=>w'.cell? ⟨x,12,none⟩=some (.pointer (some ⟨f.tx,0,none⟩))/\w'.cell? ⟨x,22,none⟩=some (.slice (some ⟨g,0,none⟩) N cap)) (go_keep) (first|(go_at_call 54;(first|refine(HT.out _).mono ?_|refine HT0.out.mono ?_);rintro e1 w1 ⟨rfl,F',S1⟩;have S3:=S1.pull [_];have d12:=S3.cell 12;have d22:=S3.cell 22;simp only[aH,gA,gZ,gS,HV.out,HNN.out]at d12 d22;unfold ptr at d12;have HS1:=kH S1;clear S1 S3)|(go_at_call 71;have S4:=((HS1.out.new (.cells #[.slice (some ⟨g,n*19,none⟩) (N-n) (cap-n),.slice none 0 0] 37 (0,0))).pull [_,_,_,_,_,_,_]).sw;rw[HOV.out]at S4;refine(BQ S4 (by rw[<-HNN.out];exact H1.out) (by rw[<-HNN.out];exact HN.out) (fJ _)).mono ?_;rintro e2 w2 ⟨ev,rfl,S5⟩;have S6:=S5.pull [_,_,_];have d12:=S6.cell 12;have d22:=S6.cell 22;simp only[aH,gA,gZ,gS,HV.out,HNN.out]at d12 d22;unfold ptr at d12;have HS5:=kH S5;clear S4 S5 S6))
 go_wp2
 go_ret
 have S6:=(HS5.out.turn [_,_,_] [_,_,_,_,_]).pull [_,_,_,_,_]
 rw[<-HOV.out]at S6
 refine⟨ev,F',rfl,?_⟩
 rw[H0.out,List.append_nil,oJ]
 unfold bW
 rw[fQ,List.length_drop,bE,HNN.out]
 unfold bW at S6
 rw[bE,HNN.out]at S6
 unfold jC
 unfold bW
 rw[bE,HNN.out]
 exact S6
theorem By(hS:ah w0 X (jC x k f st cs ts old t F Cs) w)(n:Nat)(h1:n<old.length)(h0:0<t.told.length)(hn:old.length+t.told.length<=1073741824) :
  Calls Tryz.prog 46 #[ptr x,.int .i64 n] w (fun e w'=>∃ ev F',e=.returned ev/\ah w0 X (bW ev (bb ((old++t.told).drop n))::jC x k f st cs ts old t F' Cs) w'):=by
 have c12:=hS.cell 12
 have c22:=hS.cell 22
 simp only[aH,gA,gZ,gS]at c12 c22
 have hr:aD w 44 19 f.ov (bb old).length (aL (bb old)):=(hS.pull [_,_,_,_,_]).h0
 rw[bE]at hr
 obtain⟨g,cap,hv,hcn,hcm,hg,hrf,hcell,hfz⟩:=hr.read (by omega)
 rw[hv]at c22
 have HV:=kH hv
 have HT:=kH (fun q=>nJ ((hS.drewN q).pull [_,_,_,_,_,_]) 0 (Nat.zero_le _) (by omega))
 have HT0:=kH (nJ (hS.pull [_,_,_,_,_,_]) 0 (Nat.zero_le _) (by omega))
 have hlt:=af hS.h0
 have hge:¬(old.length:Int)<=(n:Int):=by omega
 have hmax:max (n:Int) 0=n:=by omega
 have h0n:(0:Int)<=n:=by omega
 have hle:(n:Int)<=(old.length:Int):=by omega
 have hlc:(old.length:Int)<=(cap:Int):=by omega
 have H0:=kH h0
 have H1:=kH h1
 have HN:=kH hn
 clear hS hr hv hcell hfz h0 h1 hn
 unfold ptr at *
 obtain⟨N,hN⟩:∃ N,old.length=N:=⟨_,rfl⟩
 have HNN:=kH hN
 have HOV:=kH (show bW f.ov (bb old)=aN 44 19 (.slice (some ⟨g,0,none⟩) N cap) N (aL (bb old)) by unfold bW;rw[HV.out,bE,hN])
 have HEV:=kH (fun(g2 cap2:Nat)=>show bW (.slice (some ⟨g2,0,none⟩) t.told.length cap2) (bb (t.told.drop 0))=aN 44 19 (.slice (some ⟨g2,0,none⟩) t.told.length cap2) t.told.length (aL (bb t.told)) by unfold bW;rw[List.drop_zero,bE])
 rw[hN]at c22 hge hle hlc hcn
 clear hN
 go_enter Tryz.func46,Tryz.ntmps46
 go_wp2_with fail
 go_region_held3 (fun w'=>w'.cell? ⟨x,12,none⟩=some (.pointer (some ⟨f.tx,0,none⟩))/\w'.cell? ⟨x,22,none⟩=some (.slice (some ⟨g,0,none⟩) N cap)) (go_keep) (first|(go_at_call 54;(first|refine(HT.out _).mono ?_|refine HT0.out.mono ?_);rintro e1 w1 ⟨fd,F',rfl,S1⟩;obtain⟨g2,cap2,rfl,-,-,-,-,-,-⟩:=(u9 S1).read H0.out;have S3:=S1.pull [_,_];have d12:=S3.cell 12;have d22:=S3.cell 22;simp only[aH,gA,gZ,gS,HV.out,HNN.out]at d12 d22;unfold ptr at d12;have HS1:=kH S1;clear S1 S3)|(go_at_call 71;have S4:=((((HS1.out.new (.cells #[.slice (some ⟨g,n*19,none⟩) (N-n) (cap-n),.slice (some ⟨g2,0,none⟩) t.told.length cap2] 37 (0,0))).pull [_]).pull [_,_,_,_,_,_,_,_]).pull [_,_]);rw[HOV.out,HEV.out]at S4;refine(zd S4 (by rw[<-HNN.out];exact H1.out) H0.out (by rw[<-HNN.out];exact HN.out) (fJ _) (fJ _)).mono ?_;rintro e2 w2 ⟨ev,rfl,S5⟩;have S6:=S5.pull [_,_,_,_];have d12:=S6.cell 12;have d22:=S6.cell 22;simp only[aH,gA,gZ,gS,HV.out,HNN.out]at d12 d22;unfold ptr at d12;have HS5:=kH S5;clear S4 S5 S6))
 go_wp2
 go_ret
 have S6:=(((((((((HS5.out.pull [_,_,_]).pull [_,_]).pull [_,_,_,_,_,_,_,_]).pull [_,_,_,_,_,_,_,_]).pull [_,_,_,_,_,_,_,_]).pull [_,_,_,_,_,_,_,_]).pull [_,_,_,_,_,_,_,_]).pull [_,_,_,_,_,_,_]).pull [_,_,_,_,_,_,_,_]).drop
 rw[<-HOV.out]at S6
 refine⟨ev,F',rfl,?_⟩
 rw[List.drop_append_of_le_length (by have:=H1.out;omega),wI,oJ]
 unfold bW
 rw[o8,fQ,List.length_append,List.length_drop,bE,bE,HNN.out]
 unfold bW at S6
 rw[bE,HNN.out]at S6
 unfold jC
 unfold bW
 rw[bE,HNN.out]
 exact S6
theorem DM(hS:ah w0 X (jC x k f st cs ts old t F Cs) w)(n:Nat)(h1:n<=old.length+t.told.length)(hn:old.length+t.told.length<=1073741824) :
  Calls Tryz.prog 46 #[ptr x,.int .i64 n] w (fun e w'=>∃ ev F',e=.returned ev/\ah w0 X (bW ev (bb ((old++t.told).drop n))::jC x k f st cs ts old t F' Cs) w'):=by
 by_cases h:old.length<=n
 ·exact BA hS n h h1 hn
 ·by_cases h0:t.told=[]
  ·exact Bz hS n (by omega) h0 (by omega)
  ·exact By hS n (by omega) (List.length_pos_iff.2 h0) hn
end
section
variable {w0:World}{X:List Nat}{Cs:List aw}{w:World}{x:Nat}{k:cl}{f:PF}
def fY(k:cl)(f:PF):Array Value:=#[.int .i64 k.raw,.int .i64 k.c.ring,.int .i64 k.c.writes,.int .i64 k.c.stamps,.bool k.c.multi,.int .i64 k.tries,.slice none 0 0,.int .i64 k.cells,f.rv,.string k.code,f.av,.int .i64 f.nth,
 .pointer none,.bool f.begun,.bool f.published,.int .i64 f.at_,f.sv,f.cv,f.tv,f.came.val,f.ask,.int .i64 f.word,f.ov,.bool f.over,.int .i64 f.err]
def qx(k:cl)(f:PF):Obj:=.cells (fY k f) 100 (0,0)
theorem DL(n:Int)(w:World):Calls Tryz.prog 54 #[.pointer none,.int .i64 n] w (fun e w'=>e=.returned (.slice none 0 0)/\w=w'):=by
 go_enter Tryz.func54,Tryz.ntmps54
 go_wp2
 go_ret
 exact⟨rfl,rfl⟩
theorem AB(k:cl)(f:PF)(tx:Nat):(((((((((((fY k f).setIfInBounds 12 (ptr tx)).setIfInBounds 13 (.bool false)).setIfInBounds 14 (.bool false)).setIfInBounds 15 (.int .i64 0)).setIfInBounds 16 (.slice none 0 0)).setIfInBounds 17 (.slice none 0 0)).setIfInBounds 18 (.slice none 0 0)).setIfInBounds 19 .nilFunc).setIfInBounds 20 .nilIface).setIfInBounds 21 (.int .i64 0)).setIfInBounds 11 (.int .i64 (f.nth+1))=aH k (eS f tx f.ov):=by
 simp[fY,aH,eS,eb.val]
theorem ah.pTryN(h:ah w0 X (ag x (qx k f)::Cs) w)(tx:Nat):ah w0 X (ag x (bm k (eS f tx f.ov))::Cs)
  (((((((((((w.setCell ⟨x,12,none⟩ (ptr tx)).setCell ⟨x,13,none⟩ (.bool false)).setCell ⟨x,14,none⟩ (.bool false)).setCell ⟨x,15,none⟩ (.int .i64 0)).setCell ⟨x,16,none⟩ (.slice none 0 0)).setCell ⟨x,17,none⟩ (.slice none 0 0)).setCell ⟨x,18,none⟩ (.slice none 0 0)).setCell ⟨x,19,none⟩ .nilFunc).setCell ⟨x,20,none⟩ .nilIface).setCell ⟨x,21,none⟩ (.int .i64 0)).setCell ⟨x,11,none⟩ (.int .i64 (f.nth+1))):=by
 have h6:=((((((((((h.set 12 (ptr tx)).set 13 (.bool false)).set 14 (.bool false)).set 15 (.int .i64 0)).set 16 (.slice none 0 0)).set 17 (.slice none 0 0)).set 18 (.slice none 0 0)).set 19 .nilFunc).set 20 .nilIface).set 21 (.int .i64 0)).set 11 (.int .i64 (f.nth+1))
 rw[AB]at h6
 exact h6
theorem ah.pOvN(h:ah w0 X (ag x (qx k f)::Cs) w)(hov:f.ov=.slice none 0 0):ah w0 X (ag x (qx k f)::Cs) (w.setCell ⟨x,22,none⟩ (.slice none 0 0)):=by
 have h6:=h.set 22 (.slice none 0 0)
 have e:(fY k f).setIfInBounds 22 (.slice none 0 0)=fY k f:=by rw[<-hov];simp[fY]
 rw[e]at h6
 exact h6
theorem Bp(hS:ah w0 X (ag x (qx k f)::Cs) w)(hc:co k.c)(hov:f.ov=.slice none 0 0)(hnth:0<=f.nth/\f.nth<=1000) :
  Calls Tryz.prog 38 #[ptr x] w (fun e w'=>e=.returned (.tuple #[])/\∃ tx F',ah w0 X (ag x (bm k (eS f tx f.ov))::jQ tx (cZ k.c.ring k.c.writes k.c.stamps k.c.multi) F'::Cs) w'):=by
 obtain⟨i0,yi,yz0,yz1,yz2⟩:=info_parts gf
 have hlt:=af hS.h0
 have c12:=hS.cell 12
 have c22:=hS.cell 22
 have f22:=hS.froz 22
 have hp12:(fY k f)[12]?=some (.pointer none):=by simp[fY]
 have hp22:(fY k f)[22]?=some (.slice none 0 0):=by rw[<-hov];simp[fY]
 rw[hp12]at c12
 rw[hp22]at c22
 have hap:∀ (ty:TypeId) (b:Option Addr) (c:Nat) (W:World),(Builtin.append_ #[37,37] ty #[.slice none 0 0,.slice b 0 c]).run Tryz.prog W=.ok (.slice none 0 0) W:=fun ty b c W=>nG _ ty _ i0 Tryz.underlying37 yi b c
 have S7:=hS.pOvN hov
 have e12:=S7.drew.cell 12
 have e22:=S7.drew.cell 22
 have e12':=S7.cell 12
 have e22':=S7.cell 22
 rw[hp12]at e12 e12'
 rw[hp22]at e22 e22'
 have HS7:=kH S7
 have HS:=kH hS
 have HC:=kH hc
 have HOV:=kH hov
 clear hS hc hov hp12 hp22 S7
 unfold ptr at *
 go_enter Tryz.func38,Tryz.ntmps38
 go_wp2_with fail
 go_region_held3 (fun w'=>w'.cell? ⟨x,12,none⟩=some (.pointer none)/\w'.cell? ⟨x,22,none⟩=some (.slice none 0 0)) (first|exact⟨e12,e22⟩|exact⟨e12',e22'⟩|go_keep) ((go_at_call 54;refine(DL _ _).mono ?_;rintro e1 w1 ⟨rfl,rfl⟩))
 have S7:=HS7.out.drew
 clear e12 e22 e12' e22' c12 c22 f22 hlt
 generalize (w.setCell ⟨x,22,none⟩ (.slice none 0 0)).drew=w6 at *
 have hk:=fun j=>S7.cell j
 have d0:=hk 0
 have d1:=hk 1
 have d2:=hk 2
 have d3:=hk 3
 have d4:=hk 4
 have d5:=hk 5
 have d6:=hk 6
 simp only[fY,gA,gZ,gS]at d0 d1 d2 d3 d4 d5 d6
 have HN:=kH (DZ S7 k.raw k.tries none 0 0 k.c HC.out)
 unfold rU at HN
 clear S7 hk
 go_wp2_with fail
 refine HN.out.mono ?_
 rintro e7 w7 ⟨tx',q',rfl,hm,hR,S8⟩
 have S9:=ah.txOutN [_] S8
 have hk:=fun j=>S9.cell j
 have c11:=hk 11
 have c12':=hk 12
 have c13:=hk 13
 have c14:=hk 14
 have c15:=hk 15
 have c16:=hk 16
 have c17:=hk 17
 have c18:=hk 18
 have c19:=hk 19
 have c20:=hk 20
 have c21:=hk 21
 have f11:=S9.froz 11
 have f12:=S9.froz 12
 have f13:=S9.froz 13
 have f14:=S9.froz 14
 have f15:=S9.froz 15
 have f16:=S9.froz 16
 have f17:=S9.froz 17
 have f18:=S9.froz 18
 have f19:=S9.froz 19
 have f20:=S9.froz 20
 have f21:=S9.froz 21
 simp only[fY,gA,gZ,gS]at c11 c12' c13 c14 c15 c16 c17 c18 c19 c20 c21
 have HS9:=kH S9
 have HM:=kH hm
 have HR:=kH hR
 have hnth':0<=f.nth+1/\f.nth+1<=1001:=by omega
 have HNT:=kH (show IntKind.i64.wrap (f.nth+1)=f.nth+1 from IntWalk.i64_in _ (by omega))
 clear S8 S9 hk hm hR d0 d1 d2 d3 d4 d5 d6
 unfold ptr at *
 go_wp2
 go_end0
 have A:=HS9.out.pTryN tx'
 have B1:ah w0 X (eK tx' q' (ez (cZ k.c.ring k.c.writes k.c.stamps k.c.multi).way 0) (.slice none 0 0) (cZ k.c.ring k.c.writes k.c.stamps k.c.multi) (qa 0 0 .nilFunc (cZ k.c.ring k.c.writes k.c.stamps k.c.multi).way ([_]++Cs))) _:=ah.txInN [_] A
 obtain⟨F',B2⟩:=ah.txClose (by rw[HM.out];rfl) HR.out B1
 exact⟨rfl,tx',F',B2.sw⟩
end
end Go.Proofs.YtgfogfciobmmpaaGreatDoor
