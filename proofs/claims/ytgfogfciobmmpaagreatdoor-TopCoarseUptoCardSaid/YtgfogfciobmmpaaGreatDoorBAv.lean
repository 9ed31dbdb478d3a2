/- A part of the proof of a law of carouseltop: Do4 Do5 DoAll Prg Dop Dop2 Dop3 Dop4 Dop5 Wrk. -/
import Derived.Test.YtgfogfciobmmpaaGreatDoorBAt
import Derived.Laws.CopyOwn
import Derived.Deep.RegionLaw
import Derived.Deep.RegionHeld3
set_option linter.unusedSimpArgs false
set_option linter.unusedVariables false
set_option maxRecDepth 100000
set_option maxHeartbeats 8000000
namespace Go.Proofs.YtgfogfciobmmpaaGreatDoor
open Go.RowKit
section
variable {w0:World}{X:List Nat}{Cs:List aw}{w:World}{x p L:Nat}{wv tv:Value}{t:bZ}{q:dX}{F:List Nat}{m:au}{y:es}
theorem Do_put(hS:ah w0 X (eK x q .nilIface tv t (aG p m L F::Cs)) w)(hw:t.way=.no)(hf:cz m t y=true)(hk:y.kind=3)(hc:0<=y.cell/\y.cell<1024)(hv:aI y.value)(hd:(t.list.map (·.1)).Nodup)(hm:(q.most:Int)=t.writes)(hr:q.R t.list)(hwr:aU t.wrote)(hrd:t.reads.length=8)(hn:t.told.length<=1073741824)(th:Int) :
  Calls Tryz.prog 56 #[ptr x,ptr p,.int .i64 th,dE y] w (iu w0 X Cs x p L (cB m t y)):=by
 obtain⟨kind,cell,value,code⟩:=y
 simp only at hk hc hv
 subst hk
 have hdo:cB m t ⟨3,cell,value,code⟩=(if(eR t.list cell).isNone=true/\(t.list.length:Int)=t.writes then((de t 5 false).1,(de t 5 false).2,m)
  else(⟨3,0,0,false⟩,bO {t with list:=fT t.list cell value,wrote:=be t.wrote cell} {fd with kind:=3,cell:=cell,value:=value},m)):=by
  unfold cB
  rw[if_neg (by rw[hf];simp)]
  simp
 rw[hdo]
 generalize hRR:(if(eR t.list cell).isNone=true/\(t.list.length:Int)=t.writes then((de t 5 false).1,(de t 5 false).2,m)
  else((⟨3,0,0,false⟩:aM),bO {t with list:=fT t.list cell value,wrote:=be t.wrote cell} {fd with kind:=3,cell:=cell,value:=value},m))=RR
 have HRR:=kH hRR
 have HF:=kH (iq hS hf)
 have hlt:=af hS.h0
 have HR:=kH hr
 have HN:=kH hn
 have HM:=kH hm
 have HD:=kH hd
 have HC:=kH hc
 have HW:=kH hw
 have HWR:=kH hwr
 have HRD:=kH hrd
 have HV:=kH hv
 clear hS hf hdo hr hn hm hd hc hw hRR hwr hrd hv
 unfold dE fK aB ptr at *
 go_enter Tryz.func56,Tryz.ntmps56
 go_wp2_with fail
 refine HF.out.mono ?_
 rintro e w1 ⟨rfl,S1⟩
 have HO:=kH (fun r=>Bv (ah.logFront (S1.drewN r)) HR.out HD.out HWR.out cell value HC.out HV.out)
 have hkw:=fun j=>((ah.txOutN [_,_,_] S1).pull [_,_]).cell j
 have b0:=hkw 0
 have b1:=hkw 1
 have b2:=hkw 2
 have k7:=S1.cell 7
 simp only[fu,gA,gZ,gS]at b0 b1 b2 k7
 clear S1 hkw
 unfold ptr at *
 go_wp2_with fail
 refine wp_region_still_tail 8 (by kernel_rfl) (by kernel_rfl) ?_
 change wpStill _ _ (World.drew _) (fun a'=>wpList _ _ _ _ a' (World.drew _)) _ _
 simp only[List.take_succ_cons,List.take_zero,List.drop_succ_cons,List.drop_zero]
 repeat still_step
 refine wpStill_nil ?_
 go_wp2_with fail
 refine(HO.out 1).mono ?_
 intro e2 w2 h2
 rcases h2 with⟨he,hno,q',hg,hmo,hR2,S2⟩|⟨he,hyes,q',hg,hmo,hR2,S2⟩
 ·subst he
  have S3:=ah.logBack S2
  rw[<-hg]at S3
  have S3:ah w0 X (eK x q' .nilIface tv {t with list:=fT t.list cell value,wrote:=be t.wrote cell} (aG p m L F::_::_::Cs)) w2:=S3
  have hkw:=fun j=>((ah.txOutN [_,_,_] S3).pull [_,_]).cell j
  have c1:=hkw 1
  have c2:=hkw 2
  simp only[gA,gZ,gS]at c1 c2
  have HT:=kH (iK S3 {fd with kind:=3,cell:=cell,value:=value} HN.out)
  unfold wa fO du fd bQ ptr at HT
  simp only[List.getD_cons_zero,List.getD_cons_succ]at HT
  have HNO:=kH hno
  have HG:=kH hg
  have HMO:=kH hmo
  have HR2:=kH hR2
  clear S2 S3 hkw b0 b1 b2 k7 hno hg hmo hR2
  go_wp2_with fail
  refine HT.out.mono ?_
  rintro e3 w3 ⟨rfl,tv',S4⟩
  have S4':ah w0 X (eK x q' .nilIface tv' (bO {t with list:=fT t.list cell value,wrote:=be t.wrote cell} {fd with kind:=3,cell:=cell,value:=value}) (aG p m L F::_::_::Cs)) w3:=S4
  have S5:=(ah.txOutN [_,_,_] S4').pull [_]
  have HS5:=kH S5
  obtain⟨⟨d0,d1,d2,d3⟩,⟨i0,i1,i2,i3⟩⟩:=S5.ansBox
  clear S4 S4' S5 c1 c2
  go_wp2
  have hR:=HRR.out
  rw[if_neg (by have h1:=HNO.out;have h2:=HM.out;exact fun h=>h1 ⟨h.1,by omega⟩)]at hR
  subst hR
  refine ah.ret ⟨3,0,0,false⟩ rfl HS5.out rfl rfl fun W' SF=>?_
  have S6:ah w0 X (eK x q' .nilIface tv' (bO {t with list:=fT t.list cell value,wrote:=be t.wrote cell} {fd with kind:=3,cell:=cell,value:=value}) (aG p m L F::Cs)) W':=ah.txInN [_] ((SF.pull [_]).drop)
  have hwy:(bO {t with list:=fT t.list cell value,wrote:=be t.wrote cell} {fd with kind:=3,cell:=cell,value:=value}).way=.no:=HW.out
  obtain⟨F',S7⟩:=ah.txClose (t:=bO {t with list:=fT t.list cell value,wrote:=be t.wrote cell} {fd with kind:=3,cell:=cell,value:=value}) (a:=0) (k:=0) (lv:=.nilFunc) (by rw[HMO.out];exact HM.out) HR2.out (by rw[hwy];exact S6)
  exact⟨rfl,F',F,L,by omega,S7⟩
 ·subst he
  have S3:=ah.logBack S2
  rw[<-hg]at S3
  have S3:ah w0 X (eK x q' .nilIface tv t (aG p m L F::_::_::Cs)) w2:=S3
  have HE:=kH (nr S3 hR2 HRD.out HN.out 5 false)
  have HYES:=kH hyes
  have HG:=kH hg
  have HMO:=kH hmo
  unfold ptr at HE
  clear S2 S3 b0 b1 b2 k7 hyes hg hmo hR2
  go_wp2_with fail
  refine HE.out.mono ?_
  rintro e3 w3 ⟨rfl,q2,tv',hg2,hq2,hR2,S4⟩
  have S5:=(ah.txOutN [_,_,_] S4).pull [_]
  have HS5:=kH S5
  obtain⟨⟨d0,d1,d2,d3⟩,⟨i0,i1,i2,i3⟩⟩:=S5.ansBox
  have HQ:=kH hq2
  have HR2:=kH hR2
  unfold aM.val
  clear S4 S5 hg2 hq2 hR2
  go_wp2
  have hR:=HRR.out
  rw[if_pos (by have h1:=HYES.out;have h2:=HM.out;exact⟨h1.1,by omega⟩)]at hR
  subst hR
  refine ah.ret (de t 5 false).1 rfl HS5.out rfl rfl fun W' SF=>?_
  have S6:ah w0 X (eK x q2 .nilIface tv' (de t 5 false).2 (aG p m L F::Cs)) W':=ah.txInN [_] ((SF.pull [_]).drop)
  have hwr:(de t 5 false).2.writes=t.writes:=rfl
  obtain⟨F',S7⟩:=ah.txClose (t:=(de t 5 false).2) (a:=0) (k:=0) (lv:=.nilFunc) (by rw[HQ.out,HMO.out,hwr];exact HM.out) HR2.out S6
  exact⟨rfl,F',F,L,by omega,S7⟩
end
section
variable {w0:World}{X:List Nat}{Cs:List aw}{w:World}{x p L:Nat}{wv tv:Value}{t:bZ}{q:dX}{F:List Nat}{m:au}{y:es}
theorem D7(hS:ah w0 X (eK x q .nilIface tv t (aG p m L F::Cs)) w)(hf:cz m t y=true)(hk:y.kind=4)(hl:t.list=[])(hm:(q.most:Int)=t.writes)(hr:q.R t.list)(hrd:t.reads.length=8)(hn:t.told.length<=1073741824)(th:Int) :
  Calls Tryz.prog 56 #[ptr x,ptr p,.int .i64 th,dE y] w (iu w0 X Cs x p L (cB m t y)):=by
 obtain⟨kind,cell,value,code⟩:=y
 simp only at hk
 subst hk
 have hdo:cB m t ⟨4,cell,value,code⟩=((de t 0 false).1,(de t 0 false).2,m):=by
  unfold cB
  rw[if_neg (by rw[hf];simp)]
  simp[hl]
 rw[hdo]
 have HF:=kH (iq hS hf)
 have hlt:=af hS.h0
 have HR:=kH hr
 have HRD:=kH hrd
 have HN:=kH hn
 have HM:=kH hm
 have HL:=kH hl
 clear hS hf hdo hr hrd hn hm hl
 unfold dE fK aB ptr at *
 go_enter Tryz.func56,Tryz.ntmps56
 go_wp2_with fail
 refine HF.out.mono ?_
 rintro e w1 ⟨rfl,S1⟩
 have HO:=kH (my (ah.logFront S1) (by rw[HL.out];decide))
 have hkw:=fun j=>((ah.txOutN [_,_,_] S1).pull [_,_]).cell j
 have b0:=hkw 0
 have k7:=S1.cell 7
 simp only[fu,gA,gZ,gS]at b0 k7
 clear S1 hkw
 unfold ptr at *
 go_wp2_with fail
 refine HO.out.mono ?_
 rintro e2 w2 ⟨g,rfl,S2⟩
 have S3:=ah.logBack S2.drop
 have S3:ah w0 X (eK x q .nilIface tv t (aG p m L F::_::_::Cs)) w2:=S3
 have HE:=kH (nr S3 HR.out HRD.out HN.out 0 false)
 have hl0:(t.list.length:Int)=0:=by rw[HL.out];rfl
 have hl1:t.list.length=0:=by rw[HL.out];rfl
 generalize t.list.length=n at hl0 hl1 ⊢
 subst hl1
 clear S2 S3 b0 k7 hl0
 unfold ptr at *
 go_wp2_with fail
 refine HE.out.mono ?_
 rintro e2 w3 ⟨rfl,q',tv',hg,hq,hR2,S4⟩
 have S5:=(ah.txOutN [_,_,_] S4).pull [_]
 have HS5:=kH S5
 obtain⟨⟨d0,d1,d2,d3⟩,⟨i0,i1,i2,i3⟩⟩:=S5.ansBox
 have HQ:=kH hq
 have HR2:=kH hR2
 unfold aM.val
 clear S4 S5 hg hq hR2
 go_wp2
 refine ah.ret (de t 0 false).1 rfl HS5.out rfl rfl fun W' SF=>?_
 have S6:ah w0 X (eK x q' .nilIface tv' (de t 0 false).2 (aG p m L F::Cs)) W':=ah.txInN [_] ((SF.pull [_]).drop)
 have hwr:(de t 0 false).2.writes=t.writes:=rfl
 obtain⟨F',S7⟩:=ah.txClose (t:=(de t 0 false).2) (a:=0) (k:=0) (lv:=.nilFunc) (by rw[HQ.out,hwr];exact HM.out) HR2.out S6
 exact⟨rfl,F',F,L,by omega,S7⟩
theorem Do_com(hS:ah w0 X (eK x q .nilIface tv t (aG p m L F::Cs)) w)(hf:cz m t y=true)(hk:y.kind=4)(hl:0<t.list.length/\t.list.length<=24)(hlo:∀ y∈t.list,0<=y.1/\y.1<1024)(hm:(q.most:Int)=t.writes)(hr:q.R t.list)(hrd:aU t.reads)(hwr:t.wrote.length=8)(hmr:t.ring=m.ring)(hrg:1<=t.ring/\t.ring<=16)(hsp:1<=t.stamps/\t.stamps<=1099511627776)(hst:0<=t.start/\aI t.start)(hn:t.told.length<=1073741824)(hL:L<=1073741824)(th:Int) :
  Calls Tryz.prog 56 #[ptr x,ptr p,.int .i64 th,dE y] w (iu w0 X Cs x p L (cB m t y)):=by
 obtain⟨kind,cell,value,code⟩:=y
 simp only at hk
 subst hk
 have hdo:cB m t ⟨4,cell,value,code⟩=aP m {t with way:=.com ⟨t.ring,t.stamps,t.multi,t.start,0,t.reads,bJ t.ring t.start t.reads false,0,0⟩,phase:=4}:=by
  unfold cB
  rw[if_neg (by rw[hf];simp)]
  simp only[show ¬(4:Int)=1 by decide,show ¬(4:Int)=2 by decide,show ¬(4:Int)=3 by decide,if_true,if_false]
  rw[if_neg (fun e=>by rw[e]at hl;simp at hl)]
 rw[hdo]
 have HF:=kH (iq hS hf)
 have hlt:=af hS.h0
 have HR:=kH hr
 have HRD:=kH hrd
 have HN:=kH hn
 have HM:=kH hm
 have HL:=kH hl
 have HLO:=kH hlo
 have HWR:=kH hwr
 have HMR:=kH hmr
 have HRG:=kH hrg
 have HSP:=kH hsp
 have HST:=kH hst
 have HLL:=kH hL
 obtain⟨r0,r1,r2,r3,r4,r5,r6,r7,hq,hv⟩:=pB hrd.1
 have HQ:=kH hq
 have HV:=kH hv
 clear hS hf hdo hr hrd hn hm hl hlo hwr hmr hrg hsp hst hL hq hv
 unfold dE fK aB ptr at *
 go_enter Tryz.func56,Tryz.ntmps56
 go_wp2_with fail
 refine HF.out.mono ?_
 rintro e w1 ⟨rfl,S1⟩
 have HO:=kH (my (ah.logFront S1) HL.out.2)
 have hkw:=fun j=>((ah.txOutN [_,_,_] S1).pull [_,_]).cell j
 have b0:=hkw 0
 have k7:=S1.cell 7
 simp only[fu,gA,gZ,gS]at b0 k7
 clear S1 hkw
 unfold ptr at *
 go_wp2_with fail
 refine HO.out.mono ?_
 rintro e2 w2 ⟨g,rfl,S2⟩
 have S3:=ah.logBack S2.drop
 have S3:ah w0 X (eK x q .nilIface tv t (aG p m L F::_::_::Cs)) w2:=S3
 have hkk:=fun j=>S3.cell j
 have k0:=hkk 0
 have k1:=hkk 1
 have k2:=hkk 2
 have k3:=hkk 3
 have k4:=hkk 4
 have k5:=hkk 5
 have k6:=hkk 6
 have k9:=hkk 9
 have j0:=hkk 11
 have j1:=hkk 12
 have j2:=hkk 13
 have j3:=hkk 14
 have j4:=hkk 15
 have j5:=hkk 16
 have j6:=hkk 17
 have j7:=hkk 18
 simp only[fu,HQ.out,gA,gZ,gS,List.getD_cons_zero,List.getD_cons_succ]at k0 k1 k2 k3 k4 k5 k6 k9 j0 j1 j2 j3 j4 j5 j6 j7
 have HT:=kH (fun r=>New_com (S3.drewN r) 0 t.ring t.writes t.stamps t.multi 0 none 0 0 t.start t.reads HRG.out HST.out.1 HRD.out HSP.out)
 rw[HV.out]at HT
 unfold rU at HT
 have hl0:=HL.out.1
 have hl1:(t.list.length == 0)=false:=beq_eq_false_iff_ne.2 (by omega)
 have hl2:((t.list.length:Int) == 0)=false:=beq_eq_false_iff_ne.2 (by omega)
 clear S2 S3 b0 k7 hkk
 unfold ptr at *
 go_wp2_with fail
 go_region_held3 (fun w'=>w'.cell? ⟨x,0,none⟩=some (.int .i64 0)/\w'.cell? ⟨x,1,none⟩=some (.int .i64 t.ring)/\w'.cell? ⟨x,2,none⟩=some (.int .i64 t.writes)/\w'.cell? ⟨x,3,none⟩=some (.int .i64 t.stamps)/\w'.cell? ⟨x,4,none⟩=some (.bool t.multi)/\w'.cell? ⟨x,5,none⟩=some (.int .i64 0)/\w'.cell? ⟨x,6,none⟩=some (.slice none 0 0)/\w'.cell? ⟨x,9,none⟩=some (.int .i64 t.start)/\w'.cell? ⟨x,11,none⟩=some (.int .u64 r0)/\w'.cell? ⟨x,12,none⟩=some (.int .u64 r1)/\w'.cell? ⟨x,13,none⟩=some (.int .u64 r2)/\w'.cell? ⟨x,14,none⟩=some (.int .u64 r3)/\w'.cell? ⟨x,15,none⟩=some (.int .u64 r4)/\w'.cell? ⟨x,16,none⟩=some (.int .u64 r5)/\w'.cell? ⟨x,17,none⟩=some (.int .u64 r6)/\w'.cell? ⟨x,18,none⟩=some (.int .u64 r7)) (first|go_keep|simp[*,jw]) (first|(go_at_call 91;refine(HT.out _).mono ?_;rintro e3 w3 ⟨a,k,rfl,S4⟩;have S5:=ah.txInN (t:=t) [_,_] S4;have hkk:=fun j=>S5.cell j;have i0:=hkk 0;have i1:=hkk 1;have i2:=hkk 2;have i3:=hkk 3;have i4:=hkk 4;have i5:=hkk 5;have i6:=hkk 6;have i9:=hkk 9;have i11:=hkk 11;have i12:=hkk 12;have i13:=hkk 13;have i14:=hkk 14;have i15:=hkk 15;have i16:=hkk 16;have i17:=hkk 17;have i18:=hkk 18;have i21:=hkk 21;have i8:=hkk 8;have g21:=S5.froz 21;have g8:=S5.froz 8;simp only[fu,HQ.out,gA,gZ,gS,List.getD_cons_zero,List.getD_cons_succ]at i0 i1 i2 i3 i4 i5 i6 i8 i9 i11 i12 i13 i14 i15 i16 i17 i18 i21;have HS5:=kH S5;clear S4 S5 hkk))
 have S7:=(HS5.out.txWay (.iface 167 (ptr a))).txPhase 4
 have S7:ah w0 X (eK x q (ez (.com ⟨t.ring,t.stamps,t.multi,t.start,0,t.reads,bJ t.ring t.start t.reads false,0,0⟩) a) tv {t with way:=.com ⟨t.ring,t.stamps,t.multi,t.start,0,t.reads,bJ t.ring t.start t.reads false,0,0⟩,phase:=4} (ag a (iC a k ⟨t.ring,t.stamps,t.multi,t.start,0,t.reads,bJ t.ring t.start t.reads false,0,0⟩)::ag k (fU (bJ t.ring t.start t.reads false))::aG p m L F::_::_::Cs)) _:=S7
 have HSTP:=kH (pm S7 rfl HRD.out.1 HWR.out HR.out HRG.out HL.out HLO.out th ⟨HMR.out,HSP.out,HST.out.1,HST.out.2,HRD.out,(by show(0:Int)<=0/\(0:Int)<=2;decide),fun _=>HMR.out▸jP false HST.out.1 HST.out.2 HRD.out,fun h=>absurd rfl h⟩ HN.out HLL.out)
 generalize hRR:aP m {t with way:=.com ⟨t.ring,t.stamps,t.multi,t.start,0,t.reads,bJ t.ring t.start t.reads false,0,0⟩,phase:=4}=RR at *
 have hRW:RR.2.1.writes=t.writes:=by rw[<-hRR,gn]
 have HRW:=kH hRW
 unfold ptr at HSTP
 clear S7 hRR hRW k0 k1 k2 k3 k4 k5 k6 k9 j0 j1 j2 j3 j4 j5 j6 j7 HT HO
 go_wp2_with fail
 refine HSTP.out.mono ?_
 intro e4 w4 h4
 obtain⟨he,F',F2,L',hL',S8⟩:=lW (iM (by rw[HRW.out];exact HM.out) h4)
 subst he
 obtain⟨⟨d0,d1,d2,d3⟩,⟨n0,n1,n2,n3⟩⟩:=S8.ansBox
 have HS8:=kH S8
 unfold aM.val
 clear S8 h4
 go_wp2
 refine ah.ret RR.1 rfl HS8.out rfl rfl fun W' SF=>⟨rfl,F',F2,L',hL',SF⟩
end
section
variable {w0:World}{X:List Nat}{Cs:List aw}{w:World}{x p L:Nat}{t:bZ}{F F2:List Nat}{m:au}{y:es}
theorem zZ{c:cN}(hc:co c)(hS:ah w0 X (jQ x t F::aG p m L F2::Cs) w)(hok:dM c t m)(hw:t.way=.no)(hf:cz m t y=true)(hv:aI y.value)(th:Int)(hn:t.told.length<=1073741823)(hL:L<=1073741824) :
  Calls Tryz.prog 56 #[ptr x,ptr p,.int .i64 th,dE y] w (iu w0 X Cs x p L (cB m t y)):=by
 have hmem:aY m:=(hS.h1:dk _ p m L F2).ok
 obtain⟨q,a,k,lv,tv,hm,hr,hS⟩:=hS.txOpen
 rw[hw]at hS
 have hS:ah w0 X (eK x q .nilIface tv t (aG p m L F2::Cs)) w:=hS
 have hcl:=hmem.cells
 have hmr:t.ring=m.ring:=hok.cfg.1.trans hok.mring.symm
 have hrg:1<=t.ring/\t.ring<=16:=by have:=hc.ring;have:=hok.cfg.1;omega
 have hn1:t.told.length<=1073741824:=by omega
 have hf0:=hf
 unfold cz at hf0
 simp only[Bool.and_eq_true,decide_eq_true_eq]at hf0
 obtain⟨-,hf0⟩:=hf0
 by_cases h1:y.kind=1
 ·exact Do_beg hS hf h1 hm hr hmr hrg hn hL th
 rw[if_neg h1]at hf0
 by_cases h2:y.kind=2
 ·rw[if_pos (.inl h2)]at hf0
  simp only[decide_eq_true_eq]at hf0
  obtain⟨-,hc0,hc1⟩:=hf0
  cases ho:eR t.list y.cell with
  | some v=>exact Do_own hS hw hf h2 ho ⟨hc0,by omega⟩ hok.nodup hm hr hn1 th
  | none=>exact Do_read hS hf h2 ho ⟨hc0,by omega⟩ hc1 hok.nodup hm hr hok.reads hmr hrg hok.start hn1 hL th
 by_cases h3:y.kind=3
 ·rw[if_pos (.inr h3)]at hf0
  simp only[decide_eq_true_eq]at hf0
  obtain⟨-,hc0,hc1⟩:=hf0
  exact Do_put hS hw hf h3 ⟨hc0,by omega⟩ hv hok.nodup hm hr hok.wrote hok.reads.1 hn1 th
 rw[if_neg (by omega)]at hf0
 by_cases h4:y.kind=4
 ·by_cases hl:t.list=[]
  ·exact D7 hS hf h4 hl hm hr hok.reads.1 hn1 th
  ·have hlen:=hok.len
   have hwr:=hc.writes
   have hcw:=hok.cfg.2.1
   have hsp:1<=t.stamps/\t.stamps<=1099511627776:=by have:=hc.stamps;have:=hok.cfg.2.2.1;omega
   exact Do_com hS hf h4 ⟨List.length_pos_iff.2 hl,by omega⟩ (fun y hy=>by have h:=hok.list y hy;omega) hm hr hok.reads hok.wrote.1 hmr hrg hsp hok.start hn1 hL th
 rw[if_neg h4]at hf0
 by_cases h5:y.kind=5
 ·exact D8 hS hw hf h5 hm hr hok.reads.1 hn1 th
 ·rw[if_neg h5]at hf0
  simp at hf0
end
section
variable {w0:World}{X:List Nat}{Cs:List aw}{w:World}{x:Nat}
structure cl where
 c:cN
 raw:Int
 tries:Int
 cells:Int
 code:ByteArray
 regs:List (Int×Int×Int)
 args:List Int
inductive eb
 | no
 | nothing
 | ends
 | loaded
 | heard
def eb.val:eb->Value
 | .no=>.nilFunc
 | .nothing=>.func (.func 41) #[] #[]
 | .ends=>.func (.func 66) #[] #[]
 | .loaded=>.func (.func 69) #[] #[]
 | .heard=>.func (.func 61) #[] #[]
def eb.fin:eb->Bool
 | .ends=>true
 | _=>false
structure PF where
 rv:Value
 av:Value
 nth:Int
 tx:Nat
 begun:Bool
 published:Bool
 at_:Int
 sv:Value
 cv:Value
 tv:Value
 came:eb
 ask:Value
 word:Int
 ov:Value
 over:Bool
 err:Int
def aH(k:cl)(f:PF):Array Value:=#[.int .i64 k.raw,.int .i64 k.c.ring,.int .i64 k.c.writes,.int .i64 k.c.stamps,.bool k.c.multi,.int .i64 k.tries,.slice none 0 0,.int .i64 k.cells,f.rv,.string k.code,f.av,.int .i64 f.nth,
 ptr f.tx,.bool f.begun,.bool f.published,.int .i64 f.at_,f.sv,f.cv,f.tv,f.came.val,f.ask,.int .i64 f.word,f.ov,.bool f.over,.int .i64 f.err]
def bm(k:cl)(f:PF):Obj:=.cells (aH k f) 100 (0,0)
def cE(l:List (Int×Int×Int)):List Value:=l.flatMap fun r=>[.int .i64 r.1,.int .i64 r.2.1,.int .i64 r.2.2]
def cx(v:Value)(l:List (Int×Int×Int)):aw:=aN 103 3 v l.length (cE l)
theorem vN(xs:List Int):(bz xs).length=xs.length:=by simp[bz]
theorem vM(xs:List Int):∀ v∈bz xs,v.oneCell'=true:=fun v hv=>by
 unfold bz at hv
 obtain⟨y,_,rfl⟩:=List.mem_map.1 hv
 rfl
theorem mZ(xs:List Int)(v:Int):bz xs++[.int .i64 v]=bz (xs++[v]):=by simp[bz]
theorem AZ(xs:List Int)(k:Nat):(bz xs).drop k=bz (xs.drop k):=by simp[bz,List.map_drop]
theorem oE(xs:List Int)(k:Nat):(bz xs).take k=bz (xs.take k):=by simp[bz,List.map_take]
theorem pJ{xs:List Int}{j:Nat}(h:j<xs.length):(bz xs)[j]?=some (.int .i64 (xs.getD j 0)):=by
 unfold bz
 rw[List.getElem?_map,List.getElem?_eq_getElem h,List.getD_eq_getElem?_getD,List.getElem?_eq_getElem h]
 rfl
theorem ah.pset{k:cl}{f f':PF}(h:ah w0 X (ag x (bm k f)::Cs) w)(i:Nat)(v:Value)(he:(aH k f).setIfInBounds i v=aH k f'):ah w0 X (ag x (bm k f')::Cs) (w.setCell ⟨x,i,none⟩ v):=by
 have h6:=h.set i v
 rw[he]at h6
 exact h6
theorem pK:(Tryz.prog.info? 2).map (fun i=>(i.zero,i.size,i.bytes))=some (some (.int .i64 0),1,8):=by kernel_rfl
theorem oq{k:cl}{f:PF}{st:List Int}(hS:ah w0 X (ag x (bm k f)::cI f.sv st::Cs) w)(v:Int)(hn:st.length<=1000) :
  Calls Tryz.prog 60 #[ptr x,.int .i64 v] w (fun e w'=>e=.returned (.tuple #[])/\∃ sv',ah w0 X (ag x (bm k {f with sv:=sv' })::cI sv' (st++[v])::Cs) w'):=by
 obtain⟨i0,yi,yz0,yz1,yz2⟩:=info_parts pK
 have c16:=hS.cell 16
 simp only[aH,gA,gZ,gS]at c16
 have hlt:=af hS.h0
 have hr:aD w 2 1 f.sv st.length (bz st):=hS.h1
 have HS:=kH hS
 have HR:=kH hr
 have HA:=kH (mZ st v)
 have hone:=vM st
 clear hS hr hone
 unfold ptr at *
 go_enter Tryz.func60,Tryz.ntmps60
 go_wp2_with(at_builtin;refine wpList_append_lies _ rfl (.tmp 9) (.tmp 11) 66 rfl 0 2 i0 _ 1 8 Tryz.underlying66 yi yz0 yz1 yz2 rfl (by decide) f.sv st.length (bz st) rfl (World.ownsRow.alloc HR.out _) ⟨w.heap.size,0,none⟩ 1 1 [.int .i64 v] rfl rfl (fun j u hu=>cG (ar rfl) j u hu) (by simp[Value.oneCell']) (by decide) (by unfold maxLen;omega) (by omega) (Nat.zero_le _) _ rfl ?_;intro g cap w5 hown5 hgrow5 hat5 hgl5;have S5:=((HS.out.alloc _).sw.append hgrow5 hown5 hat5 (Nat.le_refl _)).sw;have hcf5:=S5.froz 16;have hcc5:=S5.cell 16;simp only[aH,gA,gZ,gS]at hcc5;have HS5:=kH S5;clear S5 hown5 hgrow5 hat5)
 have S6:=HS5.out.pset (f':={f with sv:=.slice (some ⟨g,0,none⟩) (st.length+1) cap}) 16 (.slice (some ⟨g,0,none⟩) (st.length+1) cap) (by simp[aH])
 go_end0
 refine⟨rfl,.slice (some ⟨g,0,none⟩) (st.length+1) cap,?_⟩
 show ah w0 X (_::aN _ _ _ (st++[v]).length (bz (st++[v]))::Cs) _
 rw[show(st++[v]).length=st.length+1 by simp,<-HA.out]
 exact S6
theorem aD.take{e:TypeId}{sz:Nat}{g n cap:Nat}{xs:List Value}(h:aD w e sz (.slice (some ⟨g,0,none⟩) n cap) n xs){m:Nat}(hm:m<=n):aD w e sz (.slice (some ⟨g,0,none⟩) m cap) m (xs.take (m*sz)):=by
 obtain⟨h1,h2⟩:=h
 rcases h2 with⟨h2,_⟩|⟨g',cap',cur,h2,hb,hg,hnc,hcm,hcs,ht⟩
 ·simp at h2
 ·simp only[Value.slice.injEq,Option.some.injEq,Addr.mk.injEq,and_true,true_and]at h2
  obtain⟨rfl,rfl⟩:=h2
  have hms:m*sz<=n*sz:=Nat.mul_le_mul_right _ hm
  refine⟨by rw[List.length_take,h1];omega,.inr ⟨g,cap,cur,rfl,hb,hg,by omega,hcm,hcs,?_⟩⟩
  rw[<-ht,List.take_take,Nat.min_eq_left hms]
theorem aD.parts{e:TypeId}{sz:Nat}{v:Value}{n:Nat}{xs:List Value}(h:aD w e sz v n xs):(v=.slice none 0 0/\n=0/\xs=[])\/∃ g cap,v=.slice (some ⟨g,0,none⟩) n cap/\n<=cap/\cap<=maxLen/\g<w.heap.size/\(∀ j u,xs[j]?=some u->w.cell? ⟨g,j,none⟩=some u):=by
 rcases h.2 with⟨rfl,rfl⟩|⟨g,cap,cur,rfl,hb,hg,hnc,hcm,hcs,ht⟩
 ·exact .inl ⟨rfl,rfl,List.eq_nil_of_length_eq_zero (by simpa using h.1)⟩
 ·refine .inr ⟨g,cap,rfl,hnc,hcm,af hg,fun j u hu=>?_⟩
  rw[cell_of_row w g j _ _ _ hg]
  rw[<-ht,List.getElem?_take]at hu
  split at hu
  ·simpa using hu
  ·simp at hu
theorem ah.cut{e:TypeId}{sz:Nat}{g n cap:Nat}{xs:List Value}(h:ah w0 X (aN e sz (.slice (some ⟨g,0,none⟩) n cap) n xs::Cs) w){m:Nat}(hm:m<=n):ah w0 X (aN e sz (.slice (some ⟨g,0,none⟩) m cap) m (xs.take (m*sz))::Cs) w:=by
 have hr:aD w e sz (.slice (some ⟨g,0,none⟩) n cap) n xs:=h.h0
 exact h.call1 (C3:=[aN e sz (.slice (some ⟨g,0,none⟩) m cap) m (xs.take (m*sz))]) ⟨aQ.refl _ _,fun c hc=>by rw[List.mem_singleton.1 hc];exact hr.take hm,by simp[cu,aN,bR],fun x hx=>by simp[cu,aN,bR]at hx;exact .inl (by simp[aN,bR,hx])⟩
theorem ah.gotRow{W':World}{e:TypeId}{sz:Nat}{v:Value}{n:Nat}{xs:List Value}(h:ah w0 X Cs w)(hb:Below w.heap.size w W')(hr:W'.ownsRow w.heap.size e sz v n xs):ah w0 X (aN e sz v n xs::Cs) W':=by
 have h0:aD W' e sz v n xs:=by
  refine⟨hr.1,?_⟩
  rcases hr.2 with h|⟨g,cap,cur,h1,h2,h3⟩
  ·exact .inl h
  ·exact .inr ⟨g,cap,cur,h1,Nat.zero_le _,h3⟩
 refine h.more (C3:=[aN e sz v n xs]) ⟨aQ.of_below hb _,fun c hc=>by rw[List.mem_singleton.1 hc];exact h0,?_,fun x hx=>?_⟩
 ·rcases hr.2 with⟨rfl,_⟩|⟨g,cap,cur,rfl,_⟩<;>simp[cu,aN,bR]
 ·rcases hr.2 with⟨rfl,_⟩|⟨g,cap,cur,rfl,h2,_⟩
  ·simp[cu,aN,bR]at hx
  ·simp[cu,aN,bR]at hx
   subst hx
   exact .inr h2
theorem sizeI64(w:World):(Go.sizeOf 2).run Tryz.prog w=.ok 1 w:=by kernel_rfl
theorem jY(hS:ah w0 X Cs w)(g off n c:Nat)(xs:List Int)(hl:xs.length=n)(hn:n<=1000000)(hc:∀ (j:Nat) (u:Value),(bz xs)[j]?=some u->w.cell? ⟨g,off+j,none⟩=some u) :
  Calls Tryz.prog 35 #[.slice (some ⟨g,off,none⟩) n c] w (fun e w'=>∃ v',e=.returned v'/\ah w0 X (cI v' xs::Cs) w'):=by
 obtain⟨i0,yi,yz0,yz1,yz2⟩:=info_parts pK
 refine(Tryz.Clone_i64 i0 _ 1 8 yi yz0 yz1 yz2 rfl (by decide) sizeI64 g off n c (bz xs) w (by rw[vN,hl];omega) (by unfold maxLen;omega) (by omega) hc (vM xs)).mono ?_
 rintro e w' ⟨v',rfl,hr,-,hb⟩
 refine⟨v',rfl,?_⟩
 subst hl
 exact hS.gotRow hb hr
def zT(w0:World)(X:List Nat)(Cs:List aw)(x:Nat)(k:cl)(f:PF)(st:List Int)(m:Nat)(e:Ending)(w':World):Prop :=
 ∃ lv sv',e=.returned lv/\ah w0 X (cI lv (st.drop m)::ag x (bm k {f with sv:=sv' })::cI sv' (st.take m)::Cs) w'
theorem mM{k:cl}{f:PF}{st:List Int}(hS:ah w0 X (ag x (bm k f)::cI f.sv st::Cs) w)(m n:Nat)(hmn:st.length=m+n)(hn:st.length<=1000) :
  Calls Tryz.prog 67 #[ptr x,.int .i64 n] w (zT w0 X Cs x k f st m):=by
 have c16:=hS.cell 16
 have f16:=hS.froz 16
 simp only[aH,gA,gZ,gS]at c16
 have hlt:=af hS.h0
 have hr:aD w 2 1 f.sv st.length (bz st):=hS.h1
 have hsub:IntKind.i64.wrap ((st.length:Int)-(n:Int))=(m:Int):=by rw[IntWalk.i64_in _ (by omega)];omega
 rcases hr.parts with⟨hv,h0,-⟩|⟨g,cap,hv,hnc,hcm,hg,hcell⟩
 ·have hst:st=[]:=List.eq_nil_of_length_eq_zero h0
  subst hst
  obtain rfl:m=0:=by simp at hmn;omega
  obtain rfl:n=0:=by simp at hmn;omega
  rw[hv]at c16
  have S1:ah w0 X (cI (.slice none 0 0) []::ag x (bm k f)::cI f.sv []::Cs) w:=hS.nilRow _ _
  have HS:=kH S1
  have HV:=kH hv
  clear hS hr hmn hn hsub S1 hv h0
  unfold ptr at *
  go_enter Tryz.func67,Tryz.ntmps67
  go_wp2_with(go_at_call 35;refine(Tryz.Clone_i64_nil _ _ _).mono ?_;rintro e w' ⟨rfl,rfl⟩)
  go_ret
  refine⟨_,.slice none 0 0,rfl,?_⟩
  have h:=((HS.out).sw.pset (f':={f with sv:=.slice none 0 0}) 16 (.slice none 0 0) (by simp[aH])).sw
  rw[HV.out]at h
  exact h
 ·have hmc:m<=cap:=by omega
  have hdl:(st.drop m).length=n:=by rw[List.length_drop];omega
  have hsrc:∀ (j:Nat) (u:Value),(bz (st.drop m))[j]?=some u->w.cell? ⟨g,m+j,none⟩=some u:=fun j u hu=>by
   rw[<-AZ,List.getElem?_drop]at hu
   exact hcell _ u hu
  have HC:=kH (fun c=>jY hS g m n c (st.drop m) hdl (by omega) hsrc)
  have hsrc0:m=cap->∀ (j:Nat) (u:Value),(bz (st.drop m))[j]?=some u->w.cell? ⟨g,0+j,none⟩=some u:=fun e j u hu=>by
   rw[List.eq_nil_of_length_eq_zero (show(st.drop m).length=0 by rw[List.length_drop];omega)]at hu
   simp[bz]at hu
  have HV:=kH hv
  rw[hv]at c16
  have hn1:st.length-m=n:=by omega
  have hml:m<=st.length:=by omega
  have hn0:m=cap->n=0:=by omega
  by_cases hcap:cap=m
  ·have HC0:=kH (fun c=>jY hS g 0 n c (st.drop m) hdl (by omega) (hsrc0 hcap.symm))
   obtain rfl:n=0:=hn0 hcap.symm
   obtain rfl:m=cap:=hcap.symm
   have HSUB:=kH hsub
   clear HC hS hr hsrc hsrc0 hcell hdl hv hn0 hsub
   unfold ptr at *
   go_enter Tryz.func67,Tryz.ntmps67
   go_wp2_with fail
   refine(HC0.out _).mono ?_
   rintro e w1 ⟨v',rfl,S1⟩
   have d16:=S1.cell1 16
   have g16:=S1.froz1 16
   simp only[aH,gA,gZ,gS,HV.out]at d16
   have HS1:=kH S1
   clear S1 c16 f16
   go_wp2
   go_ret
   refine⟨_,.slice (some ⟨g,0,none⟩) m m,rfl,?_⟩
   have S2:ah w0 X (aN 2 1 f.sv st.length (bz st)::cI v' (st.drop m)::ag x (bm k f)::Cs) w1:=HS1.out.f2
   rw[HV.out]at S2
   have S3:=(S2.cut hml).b2.sw.pset (f':={f with sv:=.slice (some ⟨g,0,none⟩) m m}) 16 (.slice (some ⟨g,0,none⟩) m m) (by simp[aH])
   rw[Nat.mul_one,oE]at S3
   show ah w0 X (cI v' (st.drop m)::ag x _::aN _ _ _ (st.take m).length (bz (st.take m))::Cs) _
   rw[show(st.take m).length=m by rw[List.length_take];omega]
   exact S3.sw
  ·have HSUB:=kH hsub
   clear hS hr hsrc hsrc0 hcell hdl hv hn0 hsub
   unfold ptr at *
   go_enter Tryz.func67,Tryz.ntmps67
   go_wp2_with fail
   refine(HC.out _).mono ?_
   rintro e w1 ⟨v',rfl,S1⟩
   have d16:=S1.cell1 16
   have g16:=S1.froz1 16
   simp only[aH,gA,gZ,gS,HV.out]at d16
   have HS1:=kH S1
   clear S1 c16 f16
   go_wp2
   go_ret
   refine⟨_,.slice (some ⟨g,0,none⟩) m cap,rfl,?_⟩
   have S2:ah w0 X (aN 2 1 f.sv st.length (bz st)::cI v' (st.drop m)::ag x (bm k f)::Cs) w1:=HS1.out.f2
   rw[HV.out]at S2
   have S3:=(S2.cut hml).b2.sw.pset (f':={f with sv:=.slice (some ⟨g,0,none⟩) m cap}) 16 (.slice (some ⟨g,0,none⟩) m cap) (by simp[aH])
   rw[Nat.mul_one,oE]at S3
   show ah w0 X (cI v' (st.drop m)::ag x _::aN _ _ _ (st.take m).length (bz (st.take m))::Cs) _
   rw[show(st.take m).length=m by rw[List.length_take];omega]
   exact S3.sw
end
section
variable {w0:World}{X:List Nat}{Cs:List aw}{w:World}{x:Nat}{k:cl}{f:PF}{st cs ts:List Int}{lv:Value}
def pC(x:Nat)(k:cl)(f:PF)(st cs ts:List Int)(Cs:List aw):List aw:=ag x (bm k f)::cI f.sv st::cI f.cv cs::cI f.tv ts::cI f.av k.args::Cs
structure bX(st cs ts:List Int):Prop where
 stl:st.length<=32
 csl:cs.length<=8
 tsl:ts.length<=16
 i64:∀ v∈st,aI v
def aX(w0:World)(X:List Nat)(Cs:List aw)(x:Nat)(k:cl)(f:PF)(e:Ending)(w':World):Prop :=
 e=.returned (.tuple #[])/\∃ sv cv tv at_ st cs ts,bX st cs ts/\ah w0 X (pC x k {f with sv:=sv,cv:=cv,tv:=tv,at_:=at_} st cs ts Cs) w'
def ew(c n:Int):Value:=.agg #[.int .i64 c,.int .i64 n]
def fa(c n:Int):Obj:=.cells #[.int .i64 c,.int .i64 n] 135 (0,0)
theorem ah.intAt(As:List aw){g n cap:Nat}{xs:List Int}(h:ah w0 X (As++cI (.slice (some ⟨g,0,none⟩) n cap) xs::Cs) w){j:Nat}(hj:j<xs.length):w.cell? ⟨g,j,none⟩=some (.int .i64 (xs.getD j 0)):=by
 have hr:aD w 2 1 (.slice (some ⟨g,0,none⟩) n cap) xs.length (bz xs):=(h.pull As).h0
 rcases hr.parts with⟨h1,h2,h3⟩|⟨g2,cap2,h1,h2,h3,h4,h5⟩
 ·omega
 ·simp only[Value.slice.injEq,Option.some.injEq,Addr.mk.injEq,and_true,true_and]at h1
  obtain⟨rfl,-,-⟩:=h1
  exact h5 j _ (pJ hj)
theorem ah.intForm(As:List aw){xs:List Int}(h:ah w0 X (As++cI lv xs::Cs) w)(hx:0<xs.length):∃ g cap,lv=.slice (some ⟨g,0,none⟩) xs.length cap/\xs.length<=cap/\g<w.heap.size:=by
 have hr:aD w 2 1 lv xs.length (bz xs):=(h.pull As).h0
 rcases hr.parts with⟨h1,h2,h3⟩|⟨g2,cap2,h1,h2,h3,h4,h5⟩
 ·omega
 ·exact⟨g2,cap2,h1,h2,h4⟩
theorem dQ(h:bX st cs ts){v:Int}(hl:st.length+1<=32)(hv:aI v):bX (st++[v]) cs ts :=
 ⟨by simp;omega,h.csl,h.tsl,fun y hy=>by
  rcases List.mem_append.1 hy with hy|hy
  ·exact h.i64 y hy
  ·rw[List.mem_singleton.1 hy];exact hv⟩
theorem eE(hS:ah w0 X (pC x k f st cs ts Cs) w)(v:Int)(hn:st.length<=1000) :
  Calls Tryz.prog 60 #[ptr x,.int .i64 v] w (fun e w'=>e=.returned (.tuple #[])/\∃ sv',ah w0 X (pC x k {f with sv:=sv' } (st++[v]) cs ts Cs) w'):=oq hS v hn
theorem kC(hS:ah w0 X (pC x k f st cs ts (cI lv []::Cs)) w)(hok:bX st cs ts)(hl:st.length+1<=32)(c o:Int)(ho:aI o) :
  Calls Tryz.prog 120 #[ptr x,ew c o,lv] w (aX w0 X (cI lv []::Cs) x k f):=by
 have HP:=kH (eE (hS.alloc (fa c o)) o (by omega))
 have HOK:=kH (dQ hok hl ho)
 have hlt:=af hS.h0
 unfold ew fa ptr at *
 clear hS hok ho
 go_enter Tryz.func120,Tryz.ntmps120
 go_wp2_with fail
 refine HP.out.mono ?_
 rintro e w1 ⟨rfl,sv',S1⟩
 go_wp2
 go_end0
 exact⟨rfl,sv',_,_,_,_,_,_,HOK.out,S1⟩
theorem Bb{a:Int}(hS:ah w0 X (pC x k f st cs ts (cI lv [a]::Cs)) w)(hok:bX st cs ts)(hl:st.length+2<=32)(c o:Int)(ha:aI a) :
  Calls Tryz.prog 121 #[ptr x,ew c o,lv] w (aX w0 X (cI lv [a]::Cs) x k f):=by
 obtain⟨g,cap,rfl,hcap,hg⟩:=ah.intForm [_,_,_,_,_] hS (by simp)
 have HP:=kH (eE (hS.alloc (fa c o)) a (by omega))
 have HOK:=kH (dQ (dQ hok (by omega) ha) (by simp;omega) ha)
 have c0:=ah.intAt [_,_,_,_,_] hS (j:=0) (by simp)
 simp only[List.getD_cons_zero]at c0
 have hlt:=af hS.h0
 have HL:st.length+2<=32:=hl
 unfold ew fa ptr at *
 clear hS hok ha hcap
 go_enter Tryz.func121,Tryz.ntmps121
 go_wp2_with fail
 refine HP.out.mono ?_
 rintro e w1 ⟨rfl,sv1,S1⟩
 have HP2:=kH (eE S1 a (by simp;omega))
 have d0:=ah.intAt [_,_,_,_,_] S1 (j:=0) (by simp)
 simp only[List.getD_cons_zero]at d0
 unfold ptr at HP2
 clear S1 c0
 go_wp2_with fail
 refine HP2.out.mono ?_
 rintro e w2 ⟨rfl,sv2,S2⟩
 go_wp2
 go_end0
 exact⟨rfl,sv2,_,_,_,_,_,_,HOK.out,S2⟩
end
section
variable {w0:World}{X:List Nat}{Cs:List aw}{w:World}{x:Nat}{k:cl}{f:PF}{st cs ts:List Int}{lv:Value}
theorem cO(v:Int):aI (IntKind.i64.wrap v):=by rw[IntKind.wrap_i64];unfold aI;omega
theorem cd(v:Int):aI (wrap64 v):=by unfold wrap64 aI;omega
theorem ah.pAt(h:ah w0 X (ag x (bm k f)::Cs) w)(v:Int):ah w0 X (ag x (bm k {f with at_:=v})::Cs) (w.setCell ⟨x,15,none⟩ (.int .i64 v)):=h.pset 15 _ (by simp[aH])
theorem ep(op:BinOp)(a b:Int):aI (bits op .i64 a b):=by unfold bits;exact cO _
theorem yx{xs:List Int}(hS:ah w0 X (pC x k f st cs ts (cI lv xs::Cs)) w)(hok:bX st cs ts)(c o:Int) :
  Calls Tryz.prog 122 #[ptr x,ew c o,lv] w (aX w0 X (cI lv xs::Cs) x k f):=by
 have HS:=kH (hS.alloc (fa c o))
 have HOK:=kH hok
 unfold ew fa ptr at *
 clear hS hok
 go_enter Tryz.func122,Tryz.ntmps122
 go_wp2
 go_end0
 exact⟨rfl,f.sv,f.cv,f.tv,f.at_,_,_,_,HOK.out,HS.out⟩
theorem xy{a b:Int}(hS:ah w0 X (pC x k f st cs ts (cI lv [a,b]::Cs)) w)(hok:bX st cs ts)(hl:st.length+2<=32)(c o:Int)(ha:aI a)(hb:aI b) :
  Calls Tryz.prog 123 #[ptr x,ew c o,lv] w (aX w0 X (cI lv [a,b]::Cs) x k f):=by
 obtain⟨g,cap,rfl,hcap,hg⟩:=ah.intForm [_,_,_,_,_] hS (by simp)
 have HP:=kH (eE (hS.alloc (fa c o)) b (by omega))
 have HOK:=kH (dQ (dQ hok (by omega) hb) (by simp;omega) ha)
 have c1:=ah.intAt [_,_,_,_,_] hS (j:=1) (by simp)
 simp only[List.getD_cons_zero,List.getD_cons_succ]at c1
 have hlt:=af hS.h0
 have HL:st.length+2<=32:=hl
 unfold ew fa ptr at *
 clear hS hok ha hb hcap
 go_enter Tryz.func123,Tryz.ntmps123
 go_wp2_with fail
 refine HP.out.mono ?_
 rintro e w1 ⟨rfl,sv1,S1⟩
 have HP2:=kH (eE S1 a (by simp;omega))
 have d0:=ah.intAt [_,_,_,_,_] S1 (j:=0) (by simp)
 simp only[List.getD_cons_zero]at d0
 unfold ptr at HP2
 clear S1 c1
 go_wp2_with fail
 refine HP2.out.mono ?_
 rintro e w2 ⟨rfl,sv2,S2⟩
 go_wp2
 go_end0
 exact⟨rfl,sv2,_,_,_,_,_,_,HOK.out,S2⟩
theorem xL{a b:Int}(hS:ah w0 X (pC x k f st cs ts (cI lv [a,b]::Cs)) w)(hok:bX st cs ts)(hl:st.length+3<=32)(c o:Int)(ha:aI a)(hb:aI b) :
  Calls Tryz.prog 124 #[ptr x,ew c o,lv] w (aX w0 X (cI lv [a,b]::Cs) x k f):=by
 obtain⟨g,cap,rfl,hcap,hg⟩:=ah.intForm [_,_,_,_,_] hS (by simp)
 have HP:=kH (eE (hS.alloc (fa c o)) a (by omega))
 have HOK:=kH (dQ (dQ (dQ hok (by omega) ha) (by simp;omega) hb) (by simp;omega) ha)
 have c0:=ah.intAt [_,_,_,_,_] hS (j:=0) (by simp)
 simp only[List.getD_cons_zero,List.getD_cons_succ]at c0
 have hlt:=af hS.h0
 have HL:st.length+3<=32:=hl
 unfold ew fa ptr at *
 clear hS hok ha hb hcap
 go_enter Tryz.func124,Tryz.ntmps124
 go_wp2_with fail
 refine HP.out.mono ?_
 rintro e w1 ⟨rfl,sv1,S1⟩
 have HP2:=kH (eE S1 b (by simp;omega))
 have d0:=ah.intAt [_,_,_,_,_] S1 (j:=1) (by simp)
 simp only[List.getD_cons_zero,List.getD_cons_succ]at d0
 unfold ptr at HP2
 clear S1 c0
 go_wp2_with fail
 refine HP2.out.mono ?_
 rintro e w2 ⟨rfl,sv2,S2⟩
 have HP3:=kH (eE S2 a (by simp;omega))
 have e0:=ah.intAt [_,_,_,_,_] S2 (j:=0) (by simp)
 simp only[List.getD_cons_zero,List.getD_cons_succ]at e0
 unfold ptr at HP3
 clear S2 d0
 go_wp2_with fail
 refine HP3.out.mono ?_
 rintro e w3 ⟨rfl,sv3,S3⟩
 go_wp2
 go_end0
 exact⟨rfl,sv3,_,_,_,_,_,_,HOK.out,S3⟩
theorem AI{a:Int}(hS:ah w0 X (pC x k f st cs ts (cI lv [a]::Cs)) w)(hok:bX st cs ts)(hl:st.length+1<=32)(c o:Int) :
  Calls Tryz.prog 134 #[ptr x,ew c o,lv] w (aX w0 X (cI lv [a]::Cs) x k f):=by
 obtain⟨g,cap,rfl,hcap,hg⟩:=ah.intForm [_,_,_,_,_] hS (by simp)
 have HP:=kH (fun v=>eE (hS.alloc (fa c o)) v (by omega))
 have HOK:=kH (fun v (hv:aI v)=>dQ hok (by omega) hv)
 have c0:=ah.intAt [_,_,_,_,_] hS (j:=0) (by simp)
 simp only[List.getD_cons_zero]at c0
 have hlt:=af hS.h0
 unfold ew fa ptr at *
 clear hS hok hcap
 go_enter Tryz.func134,Tryz.ntmps134
 go_wp2_with fail
 refine(HP.out _).mono ?_
 rintro e w1 ⟨rfl,sv1,S1⟩
 go_wp2
 go_end0
 exact⟨rfl,sv1,_,_,_,_,_,_,HOK.out _ (by first|exact cO _|exact cd _|exact ep _ _ _),S1⟩
theorem yg{xs:List Int}(hS:ah w0 X (pC x k f st cs ts (cI lv xs::Cs)) w)(hok:bX st cs ts)(c o:Int) :
  Calls Tryz.prog 143 #[ptr x,ew c o,lv] w (aX w0 X (cI lv xs::Cs) x k f):=by
 have HS:=kH hS
 have HOK:=kH hok
 have c15:=hS.cell 15
 have f15:=hS.froz 15
 simp only[aH,gA,gZ,gS]at c15
 have hlt:=af hS.h0
 generalize f.at_=at_ at c15
 unfold ew ptr at *
 clear hS hok
 go_enter Tryz.func143,Tryz.ntmps143
 go_wp2_with fail
 go_region
 go_wp2
 go_end0
 have S9:=((ah.pAt HS.out (wrap64 (at_+o))).alloc (.cells #[.int .i64 c,.int .i64 o] 135 (0,0))).drew
 exact⟨rfl,f.sv,f.cv,f.tv,wrap64 (at_+o),st,cs,ts,HOK.out,S9⟩
theorem vI{a:Int}(hS:ah w0 X (pC x k f st cs ts (cI lv [a]::Cs)) w)(hok:bX st cs ts)(c o:Int) :
  Calls Tryz.prog 144 #[ptr x,ew c o,lv] w (aX w0 X (cI lv [a]::Cs) x k f):=by
 obtain⟨g,cap,rfl,hcap,hg⟩:=ah.intForm [_,_,_,_,_] hS (by simp)
 have HS:=kH hS
 have HOK:=kH hok
 have c0:=ah.intAt [_,_,_,_,_] hS (j:=0) (by simp)
 simp only[List.getD_cons_zero]at c0
 have c15:=hS.cell 15
 have f15:=hS.froz 15
 simp only[aH,gA,gZ,gS]at c15
 have hlt:=af hS.h0
 generalize f.at_=at_ at c15
 unfold ew ptr at *
 clear hS hok hcap
 by_cases h0:a=0
 ·subst h0
  go_enter Tryz.func144,Tryz.ntmps144
  go_wp2_with fail
  go_region
  go_wp2
  go_end0
  have S9:=((ah.pAt HS.out (wrap64 (at_+o))).alloc (.cells #[.int .i64 c,.int .i64 o] 135 (0,0))).drew
  exact⟨rfl,f.sv,f.cv,f.tv,wrap64 (at_+o),st,cs,ts,HOK.out,S9⟩
 ·have h0':(a == 0)=false:=beq_eq_false_iff_ne.2 h0
  go_enter Tryz.func144,Tryz.ntmps144
  go_wp2
  go_end0
  exact⟨rfl,f.sv,f.cv,f.tv,f.at_,_,_,_,HOK.out,HS.out.alloc _⟩
end
section
variable {w0:World}{X:List Nat}{Cs:List aw}{w:World}{x:Nat}{k:cl}{f:PF}{st cs ts:List Int}{lv:Value}
theorem ah.pCv(h:ah w0 X (ag x (bm k f)::Cs) w)(v:Value):ah w0 X (ag x (bm k {f with cv:=v})::Cs) (w.setCell ⟨x,17,none⟩ v):=h.pset 17 _ (by simp[aH])
theorem ah.pTv(h:ah w0 X (ag x (bm k f)::Cs) w)(v:Value):ah w0 X (ag x (bm k {f with tv:=v})::Cs) (w.setCell ⟨x,18,none⟩ v):=h.pset 18 _ (by simp[aH])
theorem Dz{v:Value}{n:Nat}{xs:List Int}{vs:List Value}(hn:n=xs.length)(hv:vs=bz xs):aN 2 1 v n vs=cI v xs:=by subst hn hv;rfl
theorem yF{xs:List Int}(hS:ah w0 X (pC x k f st cs ts (cI lv xs::Cs)) w)(hok:bX st cs ts)(hl:cs.length<=7)(c o:Int) :
  Calls Tryz.prog 145 #[ptr x,ew c o,lv] w (aX w0 X (cI lv xs::Cs) x k f):=by
 obtain⟨i0,yi,yz0,yz1,yz2⟩:=info_parts pK
 have S1:ah w0 X (pC x k f st cs ts (ag w.heap.size (fa c o)::cI lv xs::Cs)) (w.alloc (fa c o)):=(hS.new (fa c o)).push [_,_,_,_,_]
 have HOK:=kH (show bX st (cs++[f.at_]) ts from⟨hok.stl,by simp;omega,hok.tsl,hok.i64⟩)
 have c15:=hS.cell 15
 have f15:=hS.froz 15
 have c17:=hS.cell 17
 have f17:=hS.froz 17
 simp only[aH,gA,gZ,gS]at c15 c17
 have hlt:=af hS.h0
 have hr:aD w 2 1 f.cv cs.length (bz cs):=hS.h2
 have hbx:=ar (w:=w) (o:=fa c o) rfl
 have HR:Hid (∀ q,aD ((w.alloc (fa c o)).drewN q) 2 1 f.cv cs.length (bz cs)):=fun q=>((S1.drewN q).h2:aD _ _ _ _ _ _)
 have HS1:=kH S1
 have HA:=kH (mZ cs f.at_)
 have k15:=S1.cell 15
 have k17:=S1.cell 17
 have j15:=S1.froz 15
 have j17:=S1.froz 17
 have b1:(w.alloc (fa c o)).cell? ⟨w.heap.size,1,none⟩=some (.int .i64 o):=by
  have h:=cell_of_row (w.alloc (fa c o)) w.heap.size 1 _ _ _ hbx
  simpa using h
 simp only[aH,gA,gZ,gS]at k15 k17
 clear hS S1 hok hr hbx
 unfold ew ptr at *
 generalize f.at_=at_ at *
 go_enter Tryz.func145,Tryz.ntmps145
 go_wp2_with fail
 generalize hW1:w.alloc (.cells #[.int .i64 c,.int .i64 o] 135 (0,0))=W1 at *
 have HW1:Hid (w.alloc (fa c o)=W1):=hW1
 clear hW1
 rw[HW1.out]at HS1 HR k15 k17 j15 j17 b1
 clear c15 f15 c17 f17
 have HNW:Hid (∀ (W:World) (n:Nat) (u:Value),[Value.int .i64 at_][n]?=some u->(W.alloc (.cells #[.int .i64 at_] 2 (0,0))).cell? ((⟨W.heap.size,0,none⟩:Addr).add n)=some u):=fun W n u hu=>cG (ar rfl) n u (by simpa using hu)
 have hlt1:=af HS1.out.h0
 go_region_law(refine step_append_lies _ rfl (.tmp 11) (.tmp 17) 66 rfl 0 2 i0 _ 1 8 Tryz.underlying66 yi yz0 yz1 yz2 rfl (by decide) f.cv cs.length (bz cs) rfl (World.ownsRow.alloc (HR.out _) _) ⟨W1.heap.size,0,none⟩ 1 1 [.int .i64 at_] rfl rfl (HNW.out _) (by simp[Value.oneCell']) (by decide) (by unfold maxLen;omega) (by omega) (Nat.zero_le _) _ rfl ?_;intro g cap w5 hown5 hgrow5 hat5 hgl5;have S5:=(((HS1.out.drewN _).alloc _).pull [_,_]).append hgrow5 hown5 hat5 (Nat.le_refl _);have S6:=S5.push [_,_];have hcf5:=S6.froz 17;have hcc5:=S6.cell 17;have hcf15:=S6.froz 15;have hcc15:=S6.cell 15;simp only[aH,gA,gZ,gS]at hcc5 hcc15;have HS6:=kH S6;clear S5 S6 hown5 hgrow5 hat5)
 all_goals
  have S7:=HS6.out.pCv (.slice (some ⟨g,0,none⟩) (cs.length+1) cap)
  have hb1:=(S7.pull [_,_,_,_,_]).cell 1
  simp only[gA,gZ,gS]at hb1
  have j15':=S7.froz 15
  have k15':=S7.cell 15
  simp only[aH,gA,gZ,gS]at k15'
  generalize w5.setCell ⟨x,17,none⟩ (.slice (some ⟨g,0,none⟩) (cs.length+1) cap)=w6 at *
  have HS7:=kH S7
  clear S7
  go_wp2
  go_end0
  have S8:ah w0 X (ag x _::cI f.sv st::aN 2 1 _ (cs.length+1) _::cI f.tv ts::cI f.av k.args::ag w.heap.size (fa c o)::cI lv xs::Cs) _:=HS7.out.pAt o
  have S9:=((S8.pull [_,_,_,_,_]).drop).pull [_,_]
  rw[Dz (xs:=cs++[at_]) (by simp) HA.out]at S9
  exact⟨rfl,f.sv,_,f.tv,o,_,_,_,HOK.out,S9.push [_,_]⟩
end
section
variable {w0:World}{X:List Nat}{Cs:List aw}{w:World}{x:Nat}{k:cl}{f:PF}{st cs ts:List Int}{lv:Value}
theorem Ay{xs:List Int}(hS:ah w0 X (pC x k f st cs ts (cI lv xs::Cs)) w)(hok:bX st cs ts)(hl:0<cs.length)(c o:Int) :
  Calls Tryz.prog 146 #[ptr x,ew c o,lv] w (aX w0 X (cI lv xs::Cs) x k f):=by
 have hr:aD w 2 1 f.cv cs.length (bz cs):=hS.h2
 obtain⟨m,hm⟩:∃ m,cs.length=m+1:=⟨cs.length-1,by omega⟩
 rcases hr.parts with⟨h1,h2,h3⟩|⟨g,cap,hv,hnc,hcm,hg,hcell⟩
 ·omega
 have hS':ah w0 X (ag x (bm k f)::cI f.sv st::aN 2 1 f.cv cs.length (bz cs)::cI f.tv ts::cI f.av k.args::cI lv xs::Cs) w:=hS
 rw[hv]at hS'
 have HS:=kH hS'
 have HOK:=kH (show bX st (cs.take m) ts from⟨hok.stl,by rw[List.length_take];have:=hok.csl;omega,hok.tsl,hok.i64⟩)
 have cm:=hcell m _ (pJ (xs:=cs) (j:=m) (by omega))
 have c15:=hS.cell 15
 have f15:=hS.froz 15
 have c17:=hS.cell 17
 have f17:=hS.froz 17
 simp only[aH,hv,gA,gZ,gS]at c15 c17
 have hlt:=af hS.h0
 have HM:=kH hm
 have hcl:=hok.csl
 rw[hm]at c17 hnc hcl
 have HIT:=kH (oE cs m)
 have hxg:x≠g:=fun e=>by
  have ha:=HS.out.apart
  subst e
  simp[cu,ag,aN,bR]at ha
 clear hS hS' hok hr hv hcell hm hl
 generalize f.at_=at_ at *
 generalize cs.getD m 0=rt at *
 unfold ew ptr at *
 go_enter Tryz.func146,Tryz.ntmps146
 go_wp2
 go_end0
 have S2:=(((HS.out.pAt rt).pCv (.slice (some ⟨g,0,none⟩) m cap)).pull [_,_]).cut (m:=m) (by have:=HM.out;omega)
 rw[Nat.mul_one,Dz (xs:=cs.take m) (by have:=HM.out;rw[List.length_take];omega) HIT.out]at S2
 exact⟨rfl,f.sv,_,f.tv,rt,_,_,_,HOK.out,(S2.push [_,_]).alloc _⟩
theorem xu{a:Int}(hS:ah w0 X (pC x k f st cs ts (cI lv [a]::Cs)) w)(hok:bX st cs ts)(hl:ts.length<=15)(c o:Int) :
  Calls Tryz.prog 148 #[ptr x,ew c o,lv] w (aX w0 X (cI lv [a]::Cs) x k f):=by
 obtain⟨i0,yi,yz0,yz1,yz2⟩:=info_parts pK
 obtain⟨g0,cap0,rfl,hcap0,hg0⟩:=ah.intForm [_,_,_,_,_] hS (by simp)
 have S1:=hS.alloc (fa c o)
 have HOK:=kH (show bX st cs (ts++[a])from⟨hok.stl,hok.csl,by simp;omega,hok.i64⟩)
 have hlt:=af hS.h0
 have HR:Hid (∀ q,aD ((w.alloc (fa c o)).drewN q) 2 1 f.tv ts.length (bz ts)):=fun q=>((S1.drewN q).h3:aD _ _ _ _ _ _)
 have HA:=kH (mZ ts a)
 have k18:=S1.cell 18
 have j18:=S1.froz 18
 have c0:=ah.intAt [_,_,_,_,_] S1 (j:=0) (by simp)
 simp only[aH,gA,gZ,gS,List.getD_cons_zero]at k18 c0
 have HS1:=kH S1
 clear hS S1 hok hcap0
 unfold ew ptr at *
 go_enter Tryz.func148,Tryz.ntmps148
 go_wp2_with fail
 generalize hW1:w.alloc (.cells #[.int .i64 c,.int .i64 o] 135 (0,0))=W1 at *
 have HW1:Hid (w.alloc (fa c o)=W1):=hW1
 clear hW1
 rw[HW1.out]at HS1 HR k18 j18 c0
 have HNW:Hid (∀ (W:World) (n:Nat) (u:Value),[Value.int .i64 a][n]?=some u->(W.alloc (.cells #[.int .i64 a] 2 (0,0))).cell? ((⟨W.heap.size,0,none⟩:Addr).add n)=some u):=fun W n u hu=>cG (ar rfl) n u (by simpa using hu)
 have hlt1:=af HS1.out.h0
 go_region_law(refine step_append_lies _ rfl (.tmp 11) (.tmp 15) 66 rfl 0 2 i0 _ 1 8 Tryz.underlying66 yi yz0 yz1 yz2 rfl (by decide) f.tv ts.length (bz ts) rfl (World.ownsRow.alloc (HR.out _) _) ⟨W1.heap.size,0,none⟩ 1 1 [.int .i64 a] rfl rfl (HNW.out _) (by simp[Value.oneCell']) (by decide) (by unfold maxLen;omega) (by omega) (Nat.zero_le _) _ rfl ?_;intro g cap w5 hown5 hgrow5 hat5 hgl5;have S5:=(((HS1.out.drewN _).alloc _).pull [_,_,_]).append hgrow5 hown5 hat5 (Nat.le_refl _);have S6:=S5.push [_,_,_];have hcf5:=S6.froz 18;have hcc5:=S6.cell 18;simp only[aH,gA,gZ,gS]at hcc5;have HS6:=kH S6;clear S5 S6 hown5 hgrow5 hat5)
 all_goals
  have S7:=HS6.out.pTv (.slice (some ⟨g,0,none⟩) (ts.length+1) cap)
  have HS7:=kH S7
  clear S7
  go_wp2
  go_end0
  have S8:ah w0 X (ag x _::cI f.sv st::cI f.cv cs::aN 2 1 _ (ts.length+1) _::cI f.av k.args::_::Cs) _:=HS7.out
  have S9:=S8.pull [_,_,_]
  rw[Dz (xs:=ts++[a]) (by simp) HA.out]at S9
  exact⟨rfl,f.sv,f.cv,_,f.at_,_,_,_,HOK.out,S9.push [_,_,_]⟩
theorem wJ{xs:List Int}(hS:ah w0 X (pC x k f st cs ts (cI lv xs::Cs)) w)(hok:bX st cs ts)(hl:st.length+1<=32)(c o:Int)(ho:0<=o/\o<=255)(ha:k.args.length<=4)(hai:∀ v∈k.args,aI v) :
  Calls Tryz.prog 147 #[ptr x,ew c o,lv] w (aX w0 X (cI lv xs::Cs) x k f):=by
 obtain⟨j,rfl⟩:=Int.eq_ofNat_of_zero_le ho.1
 have HP:=kH (fun q r v=>eE (((hS.alloc (fa c (j:Int))).drewN q).drewN r) v (by omega))
 have HP1:=kH (fun q v=>eE ((hS.alloc (fa c (j:Int))).drewN q) v (by omega))
 have HOK:=kH (fun v (hv:aI v)=>dQ hok (by omega) hv)
 have hlt:=af hS.h0
 have c10:=hS.cell 10
 simp only[aH,gA,gZ,gS]at c10
 have hr:aD w 2 1 f.av k.args.length (bz k.args):=(ah.pull [_,_,_,_] hS).h0
 unfold ew fa ptr at *
 obtain⟨ho0,ho1⟩:=ho
 by_cases hj:j<k.args.length
 ·rcases hr.parts with⟨h1,h2,h3⟩|⟨g,cap,hv,hnc,hcm,hg,hcell⟩
  ·omega
  have cj:=hcell j _ (pJ hj)
  have hvi:aI (k.args.getD j 0):=by
   rw[List.getD_eq_getElem?_getD,List.getElem?_eq_getElem hj]
   exact hai _ (List.getElem_mem hj)
  have HVI:=kH hvi
  rw[hv]at c10
  clear hS hok hr hcell hv hai hvi
  generalize k.args.getD j 0=v at *
  generalize k.args.length=n at *
  go_enter Tryz.func147,Tryz.ntmps147
  go_wp2_with fail
  go_quiet(fail)
  go_wp2_with fail
  go_quiet(fail)
  go_wp2_with fail
  refine(HP1.out _ v).mono ?_
  rintro e w1 ⟨rfl,sv1,S1⟩
  go_wp2
  go_end0
  exact⟨rfl,sv1,_,_,_,_,_,_,HOK.out _ HVI.out,S1⟩
 ·obtain⟨a,cap,hv,hnc,hcm⟩:=hr.slice
  rw[hv]at c10
  clear hS hok hr hv hai
  generalize k.args.length=n at *
  go_enter Tryz.func147,Tryz.ntmps147
  go_wp2_with fail
  go_quiet(fail)
  go_wp2_with fail
  refine(HP1.out _ 0).mono ?_
  rintro e w1 ⟨rfl,sv1,S1⟩
  go_wp2
  go_end0
  exact⟨rfl,sv1,_,_,_,_,_,_,HOK.out _ aK,S1⟩
theorem yB{a:Int}(hS:ah w0 X (pC x k f st cs ts (cI lv [a]::Cs)) w)(hok:bX st cs ts)(hl:st.length+1<=32)(c o:Int) :
  Calls Tryz.prog 142 #[ptr x,ew c o,lv] w (aX w0 X (cI lv [a]::Cs) x k f):=by
 obtain⟨g,cap,rfl,hcap,hg⟩:=ah.intForm [_,_,_,_,_] hS (by simp)
 have HP:=kH (fun v=>eE (hS.alloc (fa c o)) v (by omega))
 have HOK:=kH (fun v (hv:aI v)=>dQ hok (by omega) hv)
 have c0:=ah.intAt [_,_,_,_,_] hS (j:=0) (by simp)
 simp only[List.getD_cons_zero]at c0
 have hlt:=af hS.h0
 unfold ew fa ptr at *
 clear hS hok hcap
 rcases(show o=0\/o=1\/o=2\/o=3\/o=4\/(o≠0/\o≠1/\o≠2/\o≠3/\o≠4) by omega)with rfl|rfl|rfl|rfl|rfl|⟨h0,h1,h2,h3,h4⟩
 ·go_enter Tryz.func142,Tryz.ntmps142
  go_wp2_with fail
  refine(HP.out _).mono ?_
  rintro e w1 ⟨rfl,sv1,S1⟩
  go_wp2
  go_end0
  exact⟨rfl,sv1,_,_,_,_,_,_,HOK.out _ (by first|exact cd _|exact cO _|(unfold aI;omega)),S1⟩
 ·go_enter Tryz.func142,Tryz.ntmps142
  go_wp2_with fail
  refine(HP.out _).mono ?_
  rintro e w1 ⟨rfl,sv1,S1⟩
  go_wp2
  go_end0
  exact⟨rfl,sv1,_,_,_,_,_,_,HOK.out _ (by first|exact cd _|exact cO _|(unfold aI;omega)),S1⟩
 ·go_enter Tryz.func142,Tryz.ntmps142
  go_wp2_with fail
  refine(HP.out _).mono ?_
  rintro e w1 ⟨rfl,sv1,S1⟩
  go_wp2
  go_end0
  exact⟨rfl,sv1,_,_,_,_,_,_,HOK.out _ (by first|exact cd _|exact cO _|(unfold aI;omega)),S1⟩
 ·go_enter Tryz.func142,Tryz.ntmps142
  go_wp2_with fail
  refine(HP.out _).mono ?_
  rintro e w1 ⟨rfl,sv1,S1⟩
  go_wp2
  go_end0
  exact⟨rfl,sv1,_,_,_,_,_,_,HOK.out _ (by first|exact cd _|exact cO _|(unfold aI;omega)),S1⟩
 ·go_enter Tryz.func142,Tryz.ntmps142
  go_wp2_with fail
  refine(HP.out _).mono ?_
  rintro e w1 ⟨rfl,sv1,S1⟩
  go_wp2
  go_end0
  exact⟨rfl,sv1,_,_,_,_,_,_,HOK.out _ (by first|exact cd _|exact cO _|(unfold aI;omega)),S1⟩
 ·have e0:(o == 0)=false:=beq_eq_false_iff_ne.2 h0
  have e1:(o == 1)=false:=beq_eq_false_iff_ne.2 h1
  have e2:(o == 2)=false:=beq_eq_false_iff_ne.2 h2
  have e3:(o == 3)=false:=beq_eq_false_iff_ne.2 h3
  have e4:(o == 4)=false:=beq_eq_false_iff_ne.2 h4
  clear h0 h1 h2 h3 h4
  go_enter Tryz.func142,Tryz.ntmps142
  go_wp2_with fail
  refine(HP.out _).mono ?_
  rintro e w1 ⟨rfl,sv1,S1⟩
  go_wp2
  go_end0
  exact⟨rfl,sv1,_,_,_,_,_,_,HOK.out _ (by first|exact cd _|exact cO _|(unfold aI;omega)),S1⟩
end
section
variable {w0:World}{X:List Nat}{Cs:List aw}{w:World}{x:Nat}{k:cl}{f:PF}{st cs ts:List Int}{lv:Value}
structure fA(n:Nat):Prop where
 run:∀ (args:Array Value) (w:World),(callFunc n args).run Tryz.prog w=.ok (.enter n args) w
 call:∀ (a b:Int) (w:World),aI a->aI b->Calls Tryz.prog n #[.int .i64 a,.int .i64 b] w (fun e w'=>∃ v,aI v/\e=.returned (.int .i64 v)/\w=w')
theorem vL(b:Bool)(w:World):Calls Tryz.prog 139 #[.bool b] w (dm (.int .i64 (if b=true then 1 else 0)) w):=by
 cases b
 all_goals
  go_enter Tryz.func139,Tryz.ntmps139
  go_wp2
  go_ret
  exact⟨rfl,rfl⟩
theorem is_t(w:World):Calls Tryz.prog 139 #[.bool true] w (dm (.int .i64 1) w):=vL true w
theorem is_f(w:World):Calls Tryz.prog 139 #[.bool false] w (dm (.int .i64 0) w):=vL false w
theorem eO{a b:Int}(ha:aI a):aI (a.tmod b):=by
 unfold aI at *
 have h1:(a.tmod b).natAbs<=a.natAbs:=by rw[Int.natAbs_tmod];exact Nat.mod_le _ _
 rcases Int.le_total 0 a with h|h
 ·have:=Int.tmod_nonneg b h;omega
 ·have h2:0<=(-a).tmod b:=Int.tmod_nonneg b (by omega)
  rw[Int.neg_tmod]at h2
  omega
theorem yO(h:Int):0<=bits .and .u64 h 63/\bits .and .u64 h 63<=63:=by
 have h1:(BitVec.ofInt 64 63).toNat=2 ^ 6-1:=by decide
 have key:(BitVec.ofInt 64 h &&& BitVec.ofInt 64 63).toNat=(h%((2 ^ 64:Nat):Int)).toNat%2 ^ 6:=by
  rw[BitVec.toNat_and,BitVec.toNat_ofInt,h1,Nat.and_two_pow_sub_one_eq_mod]
 have e:bits .and .u64 h 63=IntKind.u64.wrap ((BitVec.ofInt 64 h &&& BitVec.ofInt 64 63).toNat:Nat):=rfl
 rw[e,key,IntKind.wrap_u64]
 omega
theorem tX{a:Int}(ha:aI a)(n:Nat):aI (a/2 ^ n):=by
 unfold aI at *
 have hp:(1:Int)<=2 ^ n:=by
  have h:=Nat.one_le_two_pow (n:=n)
  have e:((2 ^ n:Nat):Int)=(2:Int) ^ n:=by simp
  omega
 rcases Int.le_total 0 a with h|h
 ·have h1:=Int.ediv_nonneg h (show(0:Int)<=2 ^ n by omega)
  have h2:=Int.ediv_le_self (2 ^ n:Int) h
  omega
 ·have h1:a<=a/2 ^ n:=Int.le_ediv_of_mul_le (by omega) (by
   have h3:a*2 ^ n<=a*1:=Int.mul_le_mul_of_nonpos_left h hp
   omega)
  have h2:a/2 ^ n<=0:=by
   have h3:=Int.ediv_le_ediv (show(0:Int)<2 ^ n by omega) h
   simpa using h3
  omega
theorem DH(a b:Int)(w:World)(ha:aI a)(hb:aI b):Calls Tryz.prog 126 #[.int .i64 a,.int .i64 b] w (fun e w'=>∃ v,aI v/\e=.returned (.int .i64 v)/\w=w'):=by
 go_enter Tryz.func126,Tryz.ntmps126
 go_wp2
 go_ret
 exact⟨_,by first|exact cd _|exact cO _|exact ep _ _ _|exact eO ha,rfl,rfl⟩
theorem Cj(a b:Int)(w:World)(ha:aI a)(hb:aI b):Calls Tryz.prog 127 #[.int .i64 a,.int .i64 b] w (fun e w'=>∃ v,aI v/\e=.returned (.int .i64 v)/\w=w'):=by
 go_enter Tryz.func127,Tryz.ntmps127
 go_wp2
 go_ret
 exact⟨_,by first|exact cd _|exact cO _|exact ep _ _ _|exact eO ha,rfl,rfl⟩
theorem CG(a b:Int)(w:World)(ha:aI a)(hb:aI b):Calls Tryz.prog 128 #[.int .i64 a,.int .i64 b] w (fun e w'=>∃ v,aI v/\e=.returned (.int .i64 v)/\w=w'):=by
 go_enter Tryz.func128,Tryz.ntmps128
 go_wp2
 go_ret
 exact⟨_,by first|exact cd _|exact cO _|exact ep _ _ _|exact eO ha,rfl,rfl⟩
theorem Df(a b:Int)(w:World)(ha:aI a)(hb:aI b):Calls Tryz.prog 129 #[.int .i64 a,.int .i64 b] w (fun e w'=>∃ v,aI v/\e=.returned (.int .i64 v)/\w=w'):=by
 by_cases h:b=0
 ·subst h
  go_enter Tryz.func129,Tryz.ntmps129
  go_wp2
  go_ret
  exact⟨_,aK,rfl,rfl⟩
 ·have h':(b == 0)=false:=beq_eq_false_iff_ne.2 h
  go_enter Tryz.func129,Tryz.ntmps129
  go_wp2
  go_ret
  exact⟨_,by first|exact cd _|exact cO _|exact ep _ _ _|exact eO ha,rfl,rfl⟩
theorem Cw(a b:Int)(w:World)(ha:aI a)(hb:aI b):Calls Tryz.prog 130 #[.int .i64 a,.int .i64 b] w (fun e w'=>∃ v,aI v/\e=.returned (.int .i64 v)/\w=w'):=by
 by_cases h:b=0
 ·subst h
  go_enter Tryz.func130,Tryz.ntmps130
  go_wp2
  go_ret
  exact⟨_,aK,rfl,rfl⟩
 ·have h':(b == 0)=false:=beq_eq_false_iff_ne.2 h
  go_enter Tryz.func130,Tryz.ntmps130
  go_wp2
  go_ret
  exact⟨_,by first|exact cd _|exact cO _|exact ep _ _ _|exact eO ha,rfl,rfl⟩
theorem DG(a b:Int)(w:World)(ha:aI a)(hb:aI b):Calls Tryz.prog 131 #[.int .i64 a,.int .i64 b] w (fun e w'=>∃ v,aI v/\e=.returned (.int .i64 v)/\w=w'):=by
 go_enter Tryz.func131,Tryz.ntmps131
 go_wp2
 go_ret
 exact⟨_,by first|exact cd _|exact cO _|exact ep _ _ _|exact eO ha,rfl,rfl⟩
theorem or_two0(a b:Int)(w:World)(ha:aI a)(hb:aI b):Calls Tryz.prog 132 #[.int .i64 a,.int .i64 b] w (fun e w'=>∃ v,aI v/\e=.returned (.int .i64 v)/\w=w'):=by
 go_enter Tryz.func132,Tryz.ntmps132
 go_wp2
 go_ret
 exact⟨_,by first|exact cd _|exact cO _|exact ep _ _ _|exact eO ha,rfl,rfl⟩
theorem BV(a b:Int)(w:World)(ha:aI a)(hb:aI b):Calls Tryz.prog 133 #[.int .i64 a,.int .i64 b] w (fun e w'=>∃ v,aI v/\e=.returned (.int .i64 v)/\w=w'):=by
 go_enter Tryz.func133,Tryz.ntmps133
 go_wp2
 go_ret
 exact⟨_,by first|exact cd _|exact cO _|exact ep _ _ _|exact eO ha,rfl,rfl⟩
theorem Ct(a b:Int)(w:World)(ha:aI a)(hb:aI b):Calls Tryz.prog 135 #[.int .i64 a,.int .i64 b] w (fun e w'=>∃ v,aI v/\e=.returned (.int .i64 v)/\w=w'):=by
 obtain⟨h1,h2⟩:=yO (IntKind.u64.wrap b)
 have h3:bits .and .u64 (IntKind.u64.wrap b) 63<=64:=by omega
 go_enter Tryz.func135,Tryz.ntmps135
 go_wp2
 go_ret
 exact⟨_,by first|exact cd _|exact cO _|exact ep _ _ _|exact tX ha _|exact eO ha,rfl,rfl⟩
theorem Cr(a b:Int)(w:World)(ha:aI a)(hb:aI b):Calls Tryz.prog 136 #[.int .i64 a,.int .i64 b] w (fun e w'=>∃ v,aI v/\e=.returned (.int .i64 v)/\w=w'):=by
 obtain⟨h1,h2⟩:=yO (IntKind.u64.wrap b)
 have h3:bits .and .u64 (IntKind.u64.wrap b) 63<=64:=by omega
 go_enter Tryz.func136,Tryz.ntmps136
 go_wp2
 go_ret
 exact⟨_,by first|exact cd _|exact cO _|exact ep _ _ _|exact tX ha _|exact eO ha,rfl,rfl⟩
theorem Ak(a b:Int)(w:World)(ha:aI a)(hb:aI b):Calls Tryz.prog 137 #[.int .i64 a,.int .i64 b] w (fun e w'=>∃ v,aI v/\e=.returned (.int .i64 v)/\w=w'):=by
 obtain⟨h1,h2⟩:=yO (IntKind.u64.wrap b)
 have h3:bits .and .u64 (IntKind.u64.wrap b) 63<=64:=by omega
 go_enter Tryz.func137,Tryz.ntmps137
 go_wp2
 go_ret
 exact⟨_,by first|exact cd _|exact cO _|exact ep _ _ _|exact tX ha _|exact eO ha,rfl,rfl⟩
theorem eq_two0(a b:Int)(w:World)(ha:aI a)(hb:aI b):Calls Tryz.prog 138 #[.int .i64 a,.int .i64 b] w (fun e w'=>∃ v,aI v/\e=.returned (.int .i64 v)/\w=w'):=by
 by_cases h:a=b
 ·subst h
  go_enter Tryz.func138,Tryz.ntmps138
  go_wp2_with fail
  refine(is_t _).mono ?_
  rintro e w' ⟨rfl,rfl⟩
  go_wp2
  go_ret
  exact⟨1,by simp[aI],rfl,rfl⟩
 ·have h1:(a == b)=false:=beq_eq_false_iff_ne.2 h
  go_enter Tryz.func138,Tryz.ntmps138
  go_wp2_with fail
  refine(is_f _).mono ?_
  rintro e w' ⟨rfl,rfl⟩
  go_wp2
  go_ret
  exact⟨0,by simp[aI],rfl,rfl⟩
theorem lt_two0(a b:Int)(w:World)(ha:aI a)(hb:aI b):Calls Tryz.prog 140 #[.int .i64 a,.int .i64 b] w (fun e w'=>∃ v,aI v/\e=.returned (.int .i64 v)/\w=w'):=by
 by_cases h:a<b
 ·have h1:decide (a<b)=true:=decide_eq_true h
  go_enter Tryz.func140,Tryz.ntmps140
  go_wp2_with fail
  refine(is_t _).mono ?_
  rintro e w' ⟨rfl,rfl⟩
  go_wp2
  go_ret
  exact⟨1,by simp[aI],rfl,rfl⟩
 ·have h1:decide (a<b)=false:=decide_eq_false h
  go_enter Tryz.func140,Tryz.ntmps140
  go_wp2_with fail
  refine(is_f _).mono ?_
  rintro e w' ⟨rfl,rfl⟩
  go_wp2
  go_ret
  exact⟨0,by simp[aI],rfl,rfl⟩
theorem B9(a b:Int)(w:World)(ha:aI a)(hb:aI b):Calls Tryz.prog 141 #[.int .i64 a,.int .i64 b] w (fun e w'=>∃ v,aI v/\e=.returned (.int .i64 v)/\w=w'):=by
 by_cases h:IntKind.u64.wrap a<IntKind.u64.wrap b
 ·have h1:decide (IntKind.u64.wrap a<IntKind.u64.wrap b)=true:=decide_eq_true h
  go_enter Tryz.func141,Tryz.ntmps141
  go_wp2_with fail
  refine(is_t _).mono ?_
  rintro e w' ⟨rfl,rfl⟩
  go_wp2
  go_ret
  exact⟨1,by simp[aI],rfl,rfl⟩
 ·have h1:decide (IntKind.u64.wrap a<IntKind.u64.wrap b)=false:=decide_eq_false h
  go_enter Tryz.func141,Tryz.ntmps141
  go_wp2_with fail
  refine(is_f _).mono ?_
  rintro e w' ⟨rfl,rfl⟩
  go_wp2
  go_ret
  exact⟨0,by simp[aI],rfl,rfl⟩
theorem add_two:fA 126:=⟨fun _ _=>by kernel_rfl,DH⟩
theorem sub_two:fA 127:=⟨fun _ _=>by kernel_rfl,Cj⟩
theorem mul_two:fA 128:=⟨fun _ _=>by kernel_rfl,CG⟩
theorem div_two:fA 129:=⟨fun _ _=>by kernel_rfl,Df⟩
theorem rem_two:fA 130:=⟨fun _ _=>by kernel_rfl,Cw⟩
theorem and_two:fA 131:=⟨fun _ _=>by kernel_rfl,DG⟩
theorem or_two:fA 132:=⟨fun _ _=>by kernel_rfl,or_two0⟩
theorem xor_two:fA 133:=⟨fun _ _=>by kernel_rfl,BV⟩
theorem shl_two:fA 135:=⟨fun _ _=>by kernel_rfl,Ct⟩
theorem shr_two:fA 136:=⟨fun _ _=>by kernel_rfl,Cr⟩
theorem B7:fA 137:=⟨fun _ _=>by kernel_rfl,Ak⟩
theorem eq_two:fA 138:=⟨fun _ _=>by kernel_rfl,eq_two0⟩
theorem lt_two:fA 140:=⟨fun _ _=>by kernel_rfl,lt_two0⟩
theorem ult_two:fA 141:=⟨fun _ _=>by kernel_rfl,B9⟩
end
section
variable {w0:World}{X:List Nat}{Cs:List aw}{w:World}{x:Nat}{k:cl}{f:PF}{st cs ts:List Int}{lv:Value}
def fj(v:Value):Obj:=.cells #[v] 223 (0,0)
theorem dJ{n bf:Nat}{a b:Int}(hT:fA n)(hS:ah w0 X (pC x k f st cs ts (cI lv [a,b]::ag bf (fj (.func (.func n) #[] #[]))::Cs)) w)(hok:bX st cs ts)(hl:st.length+1<=32)(c o:Int)(ha:aI a)(hb:aI b) :
  Calls Tryz.prog 180 #[ptr x,ew c o,lv,ptr bf] w (aX w0 X (cI lv [a,b]::ag bf (fj (.func (.func n) #[] #[]))::Cs) x k f):=by
 obtain⟨g,cap,rfl,hcap,hg⟩:=ah.intForm [_,_,_,_,_] hS (by simp)
 have S1:=hS.alloc (fa c o)
 have HP:=kH (fun q v=>eE (S1.drewN q) v (by omega))
 have HOK:=kH (fun v (hv:aI v)=>dQ hok (by omega) hv)
 have c0:=ah.intAt [_,_,_,_,_] S1 (j:=0) (by simp)
 have c1:=ah.intAt [_,_,_,_,_] S1 (j:=1) (by simp)
 have cf:=(S1.pull [_,_,_,_,_,_]).cell 0
 simp only[List.getD_cons_zero,List.getD_cons_succ,gA,gZ]at c0 c1 cf
 have hlt:=af hS.h0
 have HTT:=kH (fun W=>hT.call a b W ha hb)
 have hrun:=hT.run
 have HS1:=kH S1
 clear hS S1 hok hcap hT
 unfold ew ptr at *
 go_enter Tryz.func180,Tryz.ntmps180
 go_wp2_with fail
 generalize hW1:w.alloc (.cells #[.int .i64 c,.int .i64 o] 135 (0,0))=W1 at *
 have HW1:Hid (w.alloc (fa c o)=W1):=hW1
 clear hW1
 rw[HW1.out]at HS1 HP c0 c1 cf
 go_region_held3 (fun w'=>w'.cell? ⟨bf,0,none⟩=some (.func (.func n) #[] #[])/\w'.cell? ⟨g,0,none⟩=some (.int .i64 a)/\w'.cell? ⟨g,1,none⟩=some (.int .i64 b)) (go_keep) (first|(go_at_call 60;refine(HP.out _ _).mono ?_;rintro e2 w2 ⟨rfl,sv1,S2⟩;have d0:=ah.intAt [_,_,_,_,_] S2 (j:=0) (by simp);have d1:=ah.intAt [_,_,_,_,_] S2 (j:=1) (by simp);have df:=(S2.pull [_,_,_,_,_,_]).cell 0;simp only[List.getD_cons_zero,List.getD_cons_succ,gA,gZ]at d0 d1 df;have HS2:=kH S2;clear S2)|(refine(HTT.out _).mono ?_;rintro e w' ⟨v,hv,rfl,rfl⟩;have HV:=kH hv;clear hv))
 go_wp2
 go_end0
 exact⟨rfl,sv1,_,_,_,_,_,_,HOK.out _ HV.out,HS2.out⟩
theorem na:(Tryz.prog.info? 140).map (·.size)=some 3:=by kernel_rfl
theorem ug(hS:ah w0 X Cs w)(n:Nat) :
  Calls Tryz.prog 125 #[.func (.func n) #[] #[]] w (fun e w'=>∃ b,e=.returned (.agg #[.int .i64 2,.int .i64 1,.func (.func 180) #[] #[ptr b]])/\ah w0 X (ag b (fj (.func (.func n) #[] #[]))::Cs) w'):=by
 have HS:=kH (hS.new (fj (.func (.func n) #[] #[])))
 clear hS
 unfold fj ptr at *
 go_enter Tryz.func125,Tryz.ntmps125
 go_wp2
 refine bodyPost_ret (results_cell_row rfl _ _ _ _ _ _ _ rfl (ar (o:=.cells #[.int .i64 2,.int .i64 1,.func (.func 180) #[] #[.pointer (some ⟨w.heap.size,0,none⟩)]] 140 (0,0)) (by simp)) Tryz.underlying140 rfl na) rfl ⟨w.heap.size,rfl,HS.out.alloc _⟩
def td(b0 b1 b2 b3 b4 b5 b6 b7 b8 b9 b10 b11 b12 b13:Nat):List Value:=[.int .i64 0,.int .i64 0,.nilFunc,
 .int .i64 0,.int .i64 1,.func (.func 120) #[] #[],
 .int .i64 0,.int .i64 1,.func (.func 120) #[] #[],
 .int .i64 0,.int .i64 1,.func (.func 120) #[] #[],
 .int .i64 1,.int .i64 2,.func (.func 121) #[] #[],
 .int .i64 1,.int .i64 0,.func (.func 122) #[] #[],
 .int .i64 2,.int .i64 2,.func (.func 123) #[] #[],
 .int .i64 2,.int .i64 3,.func (.func 124) #[] #[],
 .int .i64 2,.int .i64 1,.func (.func 180) #[] #[ptr b0],
 .int .i64 2,.int .i64 1,.func (.func 180) #[] #[ptr b1],
 .int .i64 2,.int .i64 1,.func (.func 180) #[] #[ptr b2],
 .int .i64 2,.int .i64 1,.func (.func 180) #[] #[ptr b3],
 .int .i64 2,.int .i64 1,.func (.func 180) #[] #[ptr b4],
 .int .i64 2,.int .i64 1,.func (.func 180) #[] #[ptr b5],
 .int .i64 2,.int .i64 1,.func (.func 180) #[] #[ptr b6],
 .int .i64 2,.int .i64 1,.func (.func 180) #[] #[ptr b7],
 .int .i64 1,.int .i64 1,.func (.func 134) #[] #[],
 .int .i64 2,.int .i64 1,.func (.func 180) #[] #[ptr b8],
 .int .i64 2,.int .i64 1,.func (.func 180) #[] #[ptr b9],
 .int .i64 2,.int .i64 1,.func (.func 180) #[] #[ptr b10],
 .int .i64 2,.int .i64 1,.func (.func 180) #[] #[ptr b11],
 .int .i64 2,.int .i64 1,.func (.func 180) #[] #[ptr b12],
 .int .i64 2,.int .i64 1,.func (.func 180) #[] #[ptr b13],
 .int .i64 1,.int .i64 1,.func (.func 142) #[] #[],
 .int .i64 0,.int .i64 0,.func (.func 143) #[] #[],
 .int .i64 1,.int .i64 0,.func (.func 144) #[] #[],
 .int .i64 0,.int .i64 0,.func (.func 145) #[] #[],
 .int .i64 0,.int .i64 0,.func (.func 146) #[] #[],
 .int .i64 0,.int .i64 1,.func (.func 147) #[] #[],
 .int .i64 1,.int .i64 0,.func (.func 148) #[] #[],
 .int .i64 0,.int .i64 0,.nilFunc,
 .int .i64 1,.int .i64 1,.nilFunc,
 .int .i64 2,.int .i64 0,.nilFunc]
theorem ah.blkAt{g:Nat}{cs:Array Value}{t:TypeId}(h:ah w0 X Cs w)(hm:ag g (.cells cs t (0,0))∈Cs)(i:Nat):w.cell? ⟨g,i,none⟩=cs[i]?:=cell_of_row w g i _ _ _ (h.holds _ hm)
theorem oN(hS:ah w0 X Cs w) :
  Calls Tryz.prog 100 #[] w (fun e w'=>∃ g b0 b1 b2 b3 b4 b5 b6 b7 b8 b9 b10 b11 b12 b13,e=.returned (.slice (some ⟨g,0,none⟩) 33 33)/\ah w0 X (ag g (.cells (td b0 b1 b2 b3 b4 b5 b6 b7 b8 b9 b10 b11 b12 b13).toArray 140 (0,0)) ::
   ag b13 (fj (.func (.func 141) #[] #[]))::ag b12 (fj (.func (.func 140) #[] #[]))::ag b11 (fj (.func (.func 138) #[] #[]))::ag b10 (fj (.func (.func 137) #[] #[]))::ag b9 (fj (.func (.func 136) #[] #[]))::ag b8 (fj (.func (.func 135) #[] #[]))::ag b7 (fj (.func (.func 133) #[] #[]))::ag b6 (fj (.func (.func 132) #[] #[]))::ag b5 (fj (.func (.func 131) #[] #[]))::ag b4 (fj (.func (.func 130) #[] #[]))::ag b3 (fj (.func (.func 129) #[] #[]))::ag b2 (fj (.func (.func 128) #[] #[]))::ag b1 (fj (.func (.func 127) #[] #[]))::ag b0 (fj (.func (.func 126) #[] #[]))::Cs) w'):=by
 have S0:=(hS.new (.cells #[.int .i64 0,.int .i64 1,.func (.func 120) #[] #[]] 140 (0,0))).drew
 have HS:=kH S0
 clear S0 hS
 go_enter Tryz.func100,Tryz.ntmps100
 go_wp2_with fail
 have hq0:=ar (w:=w) (o:=.cells #[.int .i64 0,.int .i64 1,.func (.func 120) #[] #[]] 140 (0,0)) rfl
 generalize w.alloc (.cells #[.int .i64 0,.int .i64 1,.func (.func 120) #[] #[]] 140 (0,0))=W1 at *
 have q0:=cell_of_row W1 w.heap.size 0 _ _ _ hq0
 have q1:=cell_of_row W1 w.heap.size 1 _ _ _ hq0
 have q2:=cell_of_row W1 w.heap.size 2 _ _ _ hq0
 simp only[gA,gZ,gS]at q0 q1 q2
 clear hq0
 unfold ptr at *
 go_region_held3 (fun w'=>w'.cell? ⟨w.heap.size,0,none⟩=some (.int .i64 0)/\w'.cell? ⟨w.heap.size,1,none⟩=some (.int .i64 1)/\w'.cell? ⟨w.heap.size,2,none⟩=some (.func (.func 120) #[] #[])) (go_keep) (first|(go_at_call 125;refine(ug HS.out _).mono ?_;rintro e w2 ⟨b,rfl,S2⟩;have q0:=S2.blkAt (g:=w.heap.size) (cs:=#[.int .i64 0,.int .i64 1,.func (.func 120) #[] #[]]) (t:=140) (by repeat(first|exact List.mem_cons_self|apply List.mem_cons_of_mem)) 0;have q1:=S2.blkAt (g:=w.heap.size) (cs:=#[.int .i64 0,.int .i64 1,.func (.func 120) #[] #[]]) (t:=140) (by repeat(first|exact List.mem_cons_self|apply List.mem_cons_of_mem)) 1;have q2:=S2.blkAt (g:=w.heap.size) (cs:=#[.int .i64 0,.int .i64 1,.func (.func 120) #[] #[]]) (t:=140) (by repeat(first|exact List.mem_cons_self|apply List.mem_cons_of_mem)) 2;simp only[gA,gZ,gS]at q0 q1 q2;have HS:=kH S2;clear S2))
 go_wp2
 go_ret
 exact⟨_,_,_,_,_,_,_,_,_,_,_,_,_,_,_,rfl,((HS.out.new _).pull [_,_,_,_,_,_,_,_,_,_,_,_,_,_,_]).drop⟩
end
end Go.Proofs.YtgfogfciobmmpaaGreatDoor
