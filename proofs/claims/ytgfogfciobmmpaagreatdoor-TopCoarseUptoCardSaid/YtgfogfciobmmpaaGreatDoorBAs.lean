/- A part of the proof of a law of carouseltop: Stp Thr3 Stp3 Stp4 Thr4. -/
import Derived.Test.YtgfogfciobmmpaaGreatDoorBAq
import Derived.Deep.RegionHeld3
set_option linter.unusedSimpArgs false
set_option linter.unusedVariables false
set_option maxRecDepth 100000
set_option maxHeartbeats 8000000
namespace Go.Proofs.YtgfogfciobmmpaaGreatDoor
open Go.RowKit
section
variable {w0:World}{X:List Nat}{Cs:List aw}{w:World}{x p L:Nat}{wv tv:Value}{t:bZ}{q:dX}{F:List Nat}{m:au}
def qa(a k:Nat)(lv:Value):WayD->List aw->List aw
 | .no,Cs=>Cs
 | .beg b,Cs=>ag a (uh b)::Cs
 | .fet f,Cs=>ag a (jM k f)::ag k (fU f.chk)::Cs
 | .com c,Cs=>ag a (iC a k c)::ag k (fU c.chk)::Cs
 | .bak b,Cs=>ag a (dy a lv b)::gy lv b.l::Cs
def oL(w0:World)(X:List Nat)(Cs:List aw)(x p L:Nat)(q:dX)(r:aM×bZ×au)(e:Ending)(w':World):Prop :=
 e=.returned r.1.val/\∃ q' a k lv tv' F' L',q'.g=q.g/\q'.most=q.most/\dX.R q' r.2.1.list/\L'<=L+1/\ah w0 X (eK x q' (ez r.2.1.way a) tv' r.2.1 (qa a k lv r.2.1.way (aG p r.2.2 L' F'::Cs))) w'
theorem po{a:Nat}{b:nT}(hS:ah w0 X (eK x q (ez (.beg b) a) tv t (ag a (uh b)::aG p m L F::Cs)) w)(hw:t.way=.beg b)(hr:q.R t.list)(th:Int)(hok:wZ b m.ring)(hn:t.told.length<=1073741824)(hL:L<=1073741824) :
  Calls Tryz.prog 42 #[ptr x,ptr p,.int .i64 th] w (oL w0 X Cs x p L q (aP m t)):=by
 have c21:=hS.cell 21
 simp only[fu,ez,gA,gZ,gS]at c21
 have hlt:=af hS.h0
 have hi:=uV (ptr a)
 have S0:=((ah.txOutN [_,_] hS).new aB).b2
 have hmem:aY m:=(S0.h1:dk _ p m L F).ok
 have hbs:=nE hmem hok
 have HC:=kH (ah.step (o':=uh (bU m b).2) S0 (fun hrep hx=>DU _ a p th b m L F S0.h0 hrep hx hok hL) (fun W' h=>h))
 have hstep:aP m t=(let r:=eF {t with way:=.beg (bU m b).2} (bU m b).1 fun t =>
   ((bU m b).1,bO {t with start:=(bU m b).2.at_,seen:=(bU m b).2.seen,phase:=2,way:=.no} {fd with kind:=1,start:=(bU m b).2.at_,seen:=(bU m b).2.seen})
  (r.1,r.2,m)):=by unfold aP;rw[hw]
 generalize aP m t=R at hstep ⊢
 generalize bU m b=B at *
 obtain⟨an,b'⟩:=B
 simp only at HC hstep hbs
 have HSTEP:=kH hstep
 have HBS:=kH hbs
 have HR:=kH hr
 have HN:=kH hn
 clear hS S0 hw hr hok hn hL hmem hbs hstep
 unfold ptr at *
 go_enter Tryz.func42,Tryz.ntmps42
 go_wp2_with fail
 refine HC.out.mono ?_
 rintro e w1 ⟨rfl,F',S1⟩
 unfold aM.val
 have SA:=S1.alloc (aS an)
 have S2:=S1.f2
 obtain⟨⟨a0,a1,a2,a3⟩,⟨g0,g1,g2,g3⟩⟩:=S2.ansBox
 have hlt1:=af S1.h2
 have hbx:=ar (w:=w1) (o:=aS an) rfl
 have HSA:=kH SA
 rcases HBS.out with⟨rfl,hok'⟩|⟨rfl,h2,h3,h4,h5⟩
 ·have HOK:=kH hok'
  have HS2:=kH S2
  clear S1 SA S2 hok' c21 hbx
  unfold moved aS at *
  simp only at *
  go_wp2
  have hR:=HSTEP.out
  subst hR
  refine ah.retA moved rfl HS2.out rfl rfl _ fun W' SF=>⟨rfl,q,a,0,.nilFunc,tv,F',L+1,rfl,rfl,HR.out,Nat.le_refl _,?_⟩
  exact ah.txInN [_,_] SF
 ·have HT:=kH (uN (b:=b') (ah.txInN [_,_,_] SA) h2 HN.out (aW 0))
  clear S1 SA S2 c21 hbx
  have hR:=HSTEP.out
  subst hR
  unfold aW aS aM.val at *
  simp only at *
  go_wp2_with fail
  refine HT.out.mono ?_
  rintro e2 w2 ⟨rfl,tv',S4⟩
  have S5:=ah.txOutN [_,_] S4
  have S6:=S5.sw
  obtain⟨⟨d0,d1,d2,d3⟩,⟨i0,i1,i2,i3⟩⟩:=S6.ansBox
  have HS6:=kH S6
  clear S4 S5 S6 a0 a1 a2 a3 g0 g1 g2 g3
  go_wp2
  refine ah.ret (aW 0) rfl HS6.out rfl rfl fun W' SF=>⟨rfl,q,a,0,.nilFunc,tv',F',L+1,rfl,rfl,HR.out,Nat.le_refl _,?_⟩
  exact ah.txInN [_] SF
end
section
variable {w0:World}{X:List Nat}{Cs:List aw}{w:World}{x p L:Nat}{wv tv:Value}{t:bZ}{q:dX}{F:List Nat}{m:au}
theorem uO{a:Nat}{b:cR}(hS:ah w0 X (eK x q (ez (.bak b) a) tv t Cs) w)(hr:q.R t.list)(hn:t.told.length<=1073741824)(an:aM) :
  Calls Tryz.prog 58 #[ptr x,an.val] w (fun e w'=>e=.returned an.val/\∃ q' tv',q'.g=q.g/\q'.most=q.most/\dX.R q' []/\ah w0 X (eK x q' .nilIface tv' (gu (bO t {fd with kind:=5,stamp:=t.stamp})) Cs) w'):=by
 have S0:=(hS.new (aS an)).new aB
 rw[show(w.alloc (aS an)).heap.size=w.heap.size+1 by simp]at S0
 have S1:=ah.txInN [_,_] S0
 have c21:=hS.cell 21
 have c20:=hS.cell 20
 simp only[fu,ez,gA,gZ,gS]at c20 c21
 have hlt:=af hS.h0
 have ta:=yq a
 have ta2:=yo a
 have ta3:=yp a
 have ta4:=yr a
 have HT:=kH (iK S1 {fd with kind:=5,stamp:=t.stamp} hn)
 have HR:=kH hr
 unfold aM.val
 clear hS S0 S1 hr hn
 unfold aS wa fO du fd bQ at HT
 simp only[List.getD_cons_zero,List.getD_cons_succ]at HT
 obtain⟨st,hst⟩:∃ st,t.stamp=st:=⟨_,rfl⟩
 rw[hst]at c20 HT
 have HST:=kH hst
 clear hst
 unfold ptr at *
 go_enter Tryz.func58,Tryz.ntmps58
 go_wp2_with fail
 refine HT.out.mono ?_
 rintro e1 w1 ⟨rfl,tv',S2⟩
 have S3:ah w0 X (eK x q (ez (.bak b) a) tv' (bO t {fd with kind:=5,stamp:=t.stamp}) ([ag (w.heap.size+1) aB,ag w.heap.size (aS an)]++Cs)) w1:=by
  rw[HST.out]
  exact S2
 have HO:=kH (zw S3 HR.out)
 clear S2 S3 c20 c21
 go_wp2_with fail
 refine HO.out.mono ?_
 rintro e2 w2 ⟨rfl,q',hg,hm,hR,S4⟩
 have S5:=ah.txOutN [_,_] S4
 obtain⟨⟨a0,a1,a2,a3⟩,⟨g0,g1,g2,g3⟩⟩:=S5.ansBox
 have b0:=S5.cell1 0
 have b1:=S5.cell1 1
 have b2:=S5.cell1 2
 have b3:=S5.cell1 3
 simp only[gA,gZ,gS]at b0 b1 b2 b3
 have HS5:=kH S5
 have HG:=kH hg
 have HM:=kH hm
 have HR2:=kH hR
 clear S4 S5 hg hm hR
 go_wp2
 refine ah.ret an rfl HS5.out rfl rfl fun W' SF=>⟨rfl,q',tv',HG.out,HM.out,HR2.out,SF.drop⟩
end
section
variable {w0:World}{X:List Nat}{Cs:List aw}{w:World}{x p L:Nat}{wv tv:Value}{t:bZ}{q:dX}{F:List Nat}{m:au}
theorem te(b:cR)(j:Nat):(cV b j).l=b.l:=by
 unfold cV dj cW
 repeat' split
 all_goals rfl
theorem DF(m:au)(b:cR):(aR m b).2.1.l=b.l:=by
 unfold aR
 repeat' split
 all_goals first|rfl|exact te _ _|(unfold dj cW;repeat' split)
 all_goals rfl
theorem wO{a:Nat}{lv:Value}{f:cR}(hS:ah w0 X (eK x q (ez (.bak f) a) tv t (ag a (dy a lv f)::gy lv f.l::aG p m L F::Cs)) w)(hw:t.way=.bak f)(hr:q.R t.list)(th:Int)(hok:fo f m m.ring)(hn:t.told.length<=1073741824)(hL:L<=1073741824) :
  Calls Tryz.prog 42 #[ptr x,ptr p,.int .i64 th] w (oL w0 X Cs x p L q (aP m t)):=by
 have c21:=hS.cell 21
 simp only[fu,ez,gA,gZ,gS]at c21
 have hlt:=af hS.h0
 have hi:=uW (ptr a)
 have S0:=(((ah.txOutN [_,_,_] hS).new aB).perm (List.perm_append_comm_assoc [_] [_,_,_] _))
 simp only[List.cons_append,List.nil_append]at S0
 have S0:=S0.s23
 have hmem:aY m:=(S0.h1:dk _ p m L F).ok
 have hbs:=nF hmem hok
 have hds:=DF m f
 have HC:=kH (DV S0 th hok hL)
 have hstep:aP m t=(let r:=eF {t with way:=.bak (aR m f).2.1} (aR m f).1 fun t =>
   ((aR m f).1,gu (bO t {fd with kind:=5,stamp:=t.stamp}))
  (r.1,r.2,(aR m f).2.2)):=by unfold aP;rw[hw]
 generalize aP m t=R at hstep ⊢
 generalize aR m f=B at *
 obtain⟨an,b',m'⟩:=B
 simp only at HC hstep hbs hds
 have HSTEP:=kH hstep
 have HBS:=kH hbs
 have HR:=kH hr
 have HN:=kH hn
 have HDS:=kH hds
 clear hds hS S0 hw hr hok hn hL hmem hbs hstep
 unfold ptr at *
 go_enter Tryz.func42,Tryz.ntmps42
 go_wp2_with fail
 refine HC.out.mono ?_
 rintro e w1 ⟨rfl,F',S1⟩
 unfold aM.val
 have SA:=S1.alloc (aS an)
 have S2:=S1.f3
 obtain⟨⟨a0,a1,a2,a3⟩,⟨g0,g1,g2,g3⟩⟩:=S2.ansBox
 have hlt1:=af S1.h3
 have hbx:=ar (w:=w1) (o:=aS an) rfl
 have HSA:=kH SA
 cases HBS.out with
 | moved hk q1 q2 q3 q4 =>
  have HS2:=kH S2
  clear S1 SA S2 c21 hbx
  unfold moved aS at *
  simp only at *
  go_wp2
  have hR:=HSTEP.out
  subst hR
  refine ah.retA moved rfl HS2.out rfl rfl _ fun W' SF=>⟨rfl,q,a,0,lv,tv,F',L+1,rfl,rfl,HR.out,Nat.le_refl _,?_⟩
  have h:=ah.txInN [_,_,_] SF.s23
  rw[<-HDS.out]at h
  exact h
 | waits hk =>
  have HS2:=kH S2
  clear S1 SA S2 c21 hbx
  unfold waits aS at *
  simp only at *
  go_wp2
  have hR:=HSTEP.out
  subst hR
  refine ah.retA waits rfl HS2.out rfl rfl _ fun W' SF=>⟨rfl,q,a,0,lv,tv,F',L+1,rfl,rfl,HR.out,Nat.le_refl _,?_⟩
  have h:=ah.txInN [_,_,_] SF.s23
  rw[<-HDS.out]at h
  exact h
 | done q1 q2 q3 =>
  have HT:=kH (uO (b:=b') (ah.txInN [_,_,_,_] SA) HR.out HN.out (aW 0))
  clear S1 SA S2 c21 hbx
  have hR:=HSTEP.out
  subst hR
  unfold aW aS aM.val at *
  simp only at *
  go_wp2_with fail
  refine HT.out.mono ?_
  rintro e2 w2 ⟨rfl,q',tv',hg,hm,hR2,S4⟩
  have S6:=(ah.txOutN [_,_,_,_] S4).drop.sw.drop.sw
  obtain⟨⟨d0,d1,d2,d3⟩,⟨i0,i1,i2,i3⟩⟩:=S6.ansBox
  have HS6:=kH S6
  have HG:=kH hg
  have HM:=kH hm
  have HR2:=kH hR2
  clear S4 S6 a0 a1 a2 a3 g0 g1 g2 g3 hg hm hR2
  go_wp2
  refine ah.ret (aW 0) rfl HS6.out rfl rfl fun W' SF=>⟨rfl,q',a,0,lv,tv',F',L+1,HG.out,HM.out,HR2.out,Nat.le_refl _,?_⟩
  exact ah.txInN [_] SF
end
section
variable {w0:World}{X:List Nat}{Cs:List aw}{w:World}{x p L:Nat}{tv:Value}{t:bZ}{q:dX}{F:List Nat}{m:au}
theorem yW(hS:ah w0 X (eK x q .nilIface tv t (aG p m L F::Cs)) w)(hw:t.way=.no)(hr:q.R t.list)(th:Int) :
  Calls Tryz.prog 42 #[ptr x,ptr p,.int .i64 th] w (oL w0 X Cs x p L q (aP m t)):=by
 have c21:=hS.cell 21
 simp only[fu,gA,gZ,gS]at c21
 have hlt:=af hS.h0
 have S0:=hS.new aB
 have hstep:aP m t=(db,t,m):=by unfold aP;rw[hw]
 rw[hstep]
 have HS0:=kH S0
 have HR:=kH hr
 have HW:=kH hw
 clear hS S0 hr hw hstep
 unfold ptr at *
 go_enter Tryz.func42,Tryz.ntmps42
 go_wp2
 refine bodyPost_ret (results_cell_row rfl _ _ _ _ _ _ _ rfl HS0.out.h0 Tryz.underlying35 rfl cK) rfl ⟨rfl,q,0,0,.nilFunc,tv,F,L,rfl,rfl,HR.out,by omega,?_⟩
 simp only[HW.out]
 exact HS0.out.drop
end
section
variable {w0:World}{X:List Nat}{Cs:List aw}{w:World}{x p L:Nat}{wv tv:Value}{t:bZ}{q:dX}{F:List Nat}{m:au}
theorem ah.txStamp{lg:Nat}(h:ah w0 X (ag x (lM lg wv tv t)::Cs) w)(s:Int):ah w0 X (ag x (lM lg wv tv {t with stamp:=s})::Cs) (w.setCell ⟨x,20,none⟩ (.int .i64 s)):=by
 have h6:=h.set 20 (.int .i64 s)
 rw[show(fu lg wv tv t).setIfInBounds 20 (.int .i64 s)=fu lg wv tv {t with stamp:=s} by simp[fu]]at h6
 exact h6
theorem ah.txWay{lg:Nat}(h:ah w0 X (ag x (lM lg wv tv t)::Cs) w)(v:Value):ah w0 X (ag x (lM lg v tv t)::Cs) (w.setCell ⟨x,21,none⟩ v):=by
 have h6:=h.set 21 v
 rw[show(fu lg wv tv t).setIfInBounds 21 v=fu lg v tv t by simp[fu]]at h6
 exact h6
theorem ah.txPhase{lg:Nat}(h:ah w0 X (ag x (lM lg wv tv t)::Cs) w)(s:Int):ah w0 X (ag x (lM lg wv tv {t with phase:=s})::Cs) (w.setCell ⟨x,8,none⟩ (.int .i64 s)):=by
 have h6:=h.set 8 (.int .i64 s)
 rw[show(fu lg wv tv t).setIfInBounds 8 (.int .i64 s)=fu lg wv tv {t with phase:=s} by simp[fu]]at h6
 exact h6
theorem uM{a:Nat}{c:iG}(hS:ah w0 X (eK x q (ez (.com c) a) tv t Cs) w)(hr:q.R t.list)(hwr:t.wrote.length=8)(hcfg:1<=t.ring/\t.ring<=16)(hn:t.told.length<=1073741824)(hl:0<t.list.length/\t.list.length<=24)(hok:∀ y∈t.list,0<=y.1/\y.1<1024)(an:aM)(hv:1<=an.value/\an.value<=1099511627776) :
  Calls Tryz.prog 58 #[ptr x,an.val] w (fun e w'=>e=.returned (⟨2,0,0,an.access⟩:aM).val/\∃ a' lv' tv',ah w0 X (eK x q (ez (.bak (cX t.ring t.multi an.value t.list)) a') tv' (bO {t with stamp:=an.value,way:=.bak (cX t.ring t.multi an.value t.list),phase:=5} {fd with kind:=4,stamp:=an.value,sig:=t.wrote}) (ag a' (dy a' lv' (cX t.ring t.multi an.value t.list))::gy lv' t.list::Cs)) w'):=by
 obtain⟨ak,ae,av,aac⟩:=an
 obtain⟨ring,writes,stamps,multi,list,wrote,phase,start,seen,reads,cell,stamp,way,told⟩:=t
 simp only at hv hr hwr hcfg hn hl hok ⊢
 obtain⟨b0,b1,b2,b3,b4,b5,b6,b7,rfl⟩:=lT hwr
 have S0:=((ah.txStamp hS av).new (aS ⟨ak,ae,av,aac⟩)).new aB
 rw[show((w.setCell ⟨x,20,none⟩ (.int .i64 av)).alloc (aS ⟨ak,ae,av,aac⟩)).heap.size=w.heap.size+1 by simp,show(w.setCell ⟨x,20,none⟩ (.int .i64 av)).heap.size=w.heap.size by simp]at S0
 have S1:=ah.txInN (t:=⟨ring,writes,stamps,multi,list,[b0,b1,b2,b3,b4,b5,b6,b7],phase,start,seen,reads,cell,av,way,told⟩) [_,_] S0
 have c21:=hS.cell 21
 have k20:=hS.cell 20
 have f20:=hS.froz 20
 simp only[fu,ez,gA,gZ,gS]at c21 k20
 have hlt:=af hS.h0
 have ta:=ym a
 have ta2:=yk a
 have ta3:=yl a
 have HR:=kH hr
 have HS1:=kH S1
 have HW:=kH (fun r=>my (ah.logFront (S1.drewN r)) hl.2)
 have HL:=kH hl
 have HOK:=kH hok
 have HV:=kH hv
 have HC:=kH hcfg
 have HWR:=kH hwr
 have HN:=kH hn
 unfold aM.val
 have hk:=fun j=>S1.cell j
 have k0:=hk 0
 have k1:=hk 1
 have k2:=hk 2
 have k3:=hk 3
 have k4:=hk 4
 have k5:=hk 5
 have k6:=hk 6
 have k7:=hk 7
 have l20:=hk 20
 simp only[fu,gA,gZ,gS]at k0 k1 k2 k3 k4 k5 k6 k7 l20
 clear hS S0 S1 hl hok hv hcfg hwr hn hk hr
 unfold ptr aS aB at *
 go_enter Tryz.func58,Tryz.ntmps58
 go_wp2_with fail
 generalize hW1:((w.setCell ⟨x,20,none⟩ (.int .i64 av)).alloc (.cells #[.int .i64 ak,.int .i64 ae,.int .i64 av,.bool aac] 35 (0,0))).alloc (.cells #[.int .i64 0,.int .i64 0,.int .i64 0,.bool false] 35 (0,0))=W1 at *
 have HW1:=kH hW1
 clear hW1 c21 k20 f20 ta ta2 ta3
 go_region_held3 (fun w'=>w'.cell? ⟨x,0,none⟩=some (.int .i64 0)/\w'.cell? ⟨x,1,none⟩=some (.int .i64 ring)/\w'.cell? ⟨x,2,none⟩=some (.int .i64 writes)/\w'.cell? ⟨x,3,none⟩=some (.int .i64 stamps)/\w'.cell? ⟨x,4,none⟩=some (.bool multi)/\w'.cell? ⟨x,5,none⟩=some (.int .i64 0)/\w'.cell? ⟨x,6,none⟩=some (.slice none 0 0)/\w'.cell? ⟨x,7,none⟩=some (.pointer (some ⟨q.g,0,none⟩))/\w'.cell? ⟨x,20,none⟩=some (.int .i64 av)) (first|go_keep|simp[*,jw]) (first|(go_at_call 90;refine(HW.out _).mono ?_;rintro e2 w2 ⟨g,rfl,S2⟩;have S3:=ah.turn [_,_,_,_,_] [_,_] S2;have hkk:=fun j=>S3.cell j;have i0:=hkk 0;have i1:=hkk 1;have i2:=hkk 2;have i3:=hkk 3;have i4:=hkk 4;have i5:=hkk 5;have i6:=hkk 6;have i7:=hkk 7;have i20:=hkk 20;simp only[fu,gA,gZ,gS]at i0 i1 i2 i3 i4 i5 i6 i7 i20;unfold ptr at i7;have HB:=kH (New_bak list _ S2 0 ring writes stamps multi 0 none 0 0 av HC.out HV.out HL.out HOK.out);unfold rU at HB;clear S2 S3 hkk)|(go_at_call 95;refine HB.out.mono ?_;rintro e3 w3 ⟨a',lv',rfl,S4⟩;have S5:=ah.turn [_,_,_,_,_,_,_] [_,_] S4;have hkk:=fun j=>S5.cell j;have g21:=S5.froz 21;have i21:=hkk 21;have i8:=hkk 8;have g8:=S5.froz 8;have i0:=hkk 0;have i1:=hkk 1;have i2:=hkk 2;have i3:=hkk 3;have i4:=hkk 4;have i5:=hkk 5;have i6:=hkk 6;have i7:=hkk 7;have i20:=hkk 20;simp only[fu,gA,gZ,gS]at i0 i1 i2 i3 i4 i5 i6 i7 i8 i20 i21;unfold ptr at i7;have HS4:=kH S5;clear S4 S5 hkk))
 have S6:=ah.turn [_,_,_,_] [_,_] (ah.turn [_,_,_,_,_] [_,_,_,_] HS4.out)
 have S7:=(S6.txWay (.iface 172 (ptr a'))).txPhase 5
 have S7:ah w0 X (eK x q (ez (.bak (cX ring multi av list)) a') tv ⟨ring,writes,stamps,multi,list,[b0,b1,b2,b3,b4,b5,b6,b7],5,start,seen,reads,cell,av,.bak (cX ring multi av list),told⟩ (ag a' (dy a' lv' (cX ring multi av list))::gy lv' list::_::_::_::Cs)) _:=S7
 have HSG:=kH (fun r=>Sig_log (ah.logFront (S7.drewN r)) rfl)
 unfold dR bH at HSG
 simp only[List.getD_cons_zero,List.getD_cons_succ]at HSG
 have HS7:=kH S7
 have k7:=S7.cell 7
 have k20:=S7.cell 20
 simp only[fu,gA,gZ,gS]at k7 k20
 clear S6 S7 k0 k1 k2 k3 k4 k5 k6 l20 HW
 unfold ptr at *
 go_wp2_with fail
 generalize hW2:(w3.setCell ⟨x,21,none⟩ (.iface 172 (.pointer (some ⟨a',0,none⟩)))).setCell ⟨x,8,none⟩ (.int .i64 5)=W2 at *
 clear hW2
 go_region_held3 (fun w'=>w'.cell? ⟨x,7,none⟩=some (.pointer (some ⟨q.g,0,none⟩))/\w'.cell? ⟨x,20,none⟩=some (.int .i64 av)) (first|go_keep|simp[*,jw]) (first|(go_at_call 96;refine(HSG.out _).mono ?_;rintro e4 w4 ⟨rfl,S8⟩;have S9:=ah.logBack S8;have i7:=S9.cell 7;have i20:=S9.cell 20;simp only[fu,gA,gZ,gS]at i7 i20;unfold ptr at i7;have HT:=kH (iK S9 {fd with kind:=4,stamp:=av,sig:=[b0,b1,b2,b3,b4,b5,b6,b7]} HN.out);unfold wa fO du fd ptr at HT;simp only[List.getD_cons_zero,List.getD_cons_succ]at HT;clear S8 S9)|(go_at_call 85;refine HT.out.mono ?_;rintro e5 w5 ⟨rfl,tv',SA⟩;have i7:=SA.cell 7;have i20:=SA.cell 20;simp only[fu,gA,gZ,gS]at i7 i20;unfold ptr at i7;have HSA:=kH SA;clear SA))
 have SA:ah w0 X (eK x q (ez (.bak (cX ring multi av list)) a') tv' (bO ⟨ring,writes,stamps,multi,list,[b0,b1,b2,b3,b4,b5,b6,b7],5,start,seen,reads,cell,av,.bak (cX ring multi av list),told⟩ {fd with kind:=4,stamp:=av,sig:=[b0,b1,b2,b3,b4,b5,b6,b7]}) (ag a' (dy a' lv' (cX ring multi av list))::gy lv' list::_::_::_::Cs)) w5:=HSA.out
 have S9:=(ah.txOutN [_,_,_,_,_] SA).pull [_,_,_]
 clear SA
 obtain⟨⟨a0,a1,a2,a3⟩,⟨g0,g1,g2,g3⟩⟩:=S9.ansBox
 have hbx:=fun j=>(S9.pull [_,_,_,_]).cell j
 have d0:=hbx 0
 have d1:=hbx 1
 have d2:=hbx 2
 have d3:=hbx 3
 simp only[gA,gZ,gS]at d0 d1 d2 d3
 have HS9:=kH S9
 clear S9 hbx
 go_wp2
 refine ah.ret ⟨2,0,0,aac⟩ rfl HS9.out rfl rfl fun W' SF=>⟨rfl,a',lv',tv',?_⟩
 exact ah.txInN [_,_] ((((SF.pull [_,_,_]).drop).pull [_,_]).drop)
end
end Go.Proofs.YtgfogfciobmmpaaGreatDoor
