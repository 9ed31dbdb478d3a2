/- A part of the proof of a law of carouseltop: Stp2 Stp5 Txc Do Do2 Do3. -/
import Derived.Test.YtgfogfciobmmpaaGreatDoorBAr
import Derived.Test.YtgfogfciobmmpaaGreatDoorBAs
import Derived.Deep.RegionHeld3
set_option linter.unusedSimpArgs false
set_option linter.unusedVariables false
set_option maxRecDepth 100000
set_option maxHeartbeats 8000000
namespace Go.Proofs.YtgfogfciobmmpaaGreatDoor
open Go.RowKit
section
variable {w0:World}{X:List Nat}{Cs:List aw}{w:World}{x p L:Nat}{wv tv:Value}{t:bZ}{q:dX}{F:List Nat}{m:au}
theorem rb(m:au)(c:eD):(aE m c).1.kind=3->(aE m c).2.state=4:=by
 unfold aE
 repeat' split
 all_goals first|(intro h;rfl)|(intro h;first|exact absurd (show(0:Int)=3 from h) (by decide)|exact absurd (show(1:Int)=3 from h) (by decide)|exact absurd (show(2:Int)=3 from h) (by decide)|exact absurd (show(4:Int)=3 from h) (by decide))
theorem qU(m:au)(f:lL):(bj m f).1.kind=3->(bj m f).2.chk.state=4:=by
 have hc:=rb m f.chk
 unfold bj
 split
 ·intro h
  exact absurd (show(2:Int)=3 from h) (by decide)
 ·split
  ·rename_i h3
   exact fun _=>hc h3
  ·rename_i h3
   exact fun h=>absurd h h3
theorem pl{a k:Nat}{f:lL}(hS:ah w0 X (eK x q (ez (.fet f) a) tv t (ag a (jM k f)::ag k (fU f.chk)::aG p m L F::Cs)) w)(hw:t.way=.fet f)(hrd:t.reads.length=8)(hr:q.R t.list)(th:Int)(hok:ry f m m.ring)(hn:t.told.length<=1073741824)(hL:L<=1073741824) :
  Calls Tryz.prog 42 #[ptr x,ptr p,.int .i64 th] w (oL w0 X Cs x p L q (aP m t)):=by
 have c21:=hS.cell 21
 simp only[fu,ez,gA,gZ,gS]at c21
 have hlt:=af hS.h0
 have hi:=uT (ptr a)
 have S0:=(((ah.txOutN [_,_,_] hS).new aB).perm (List.perm_append_comm_assoc [_] [_,_,_] _))
 simp only[List.cons_append,List.nil_append]at S0
 have hmem:aY m:=(S0.h2:dk _ p m L F).ok
 have hbs:=qT hmem hok
 have hds:=qU m f
 have HC:=kH (DS S0 th hok hL)
 have hstep:aP m t=(let r:=eF {t with way:=.fet (bj m f).2} (bj m f).1 fun t =>
   ((bj m f).1,bO {t with start:=(bj m f).2.chk.start,seen:=(bj m f).2.chk.seen,phase:=2,way:=.no} {fd with kind:=2,cell:=t.cell,value:=(bj m f).1.value,start:=(bj m f).2.chk.start,seen:=(bj m f).2.chk.seen})
  (r.1,r.2,m)):=by unfold aP;rw[hw]
 generalize aP m t=R at hstep ⊢
 generalize bj m f=B at *
 obtain⟨an,b'⟩:=B
 simp only at HC hstep hbs hds
 have HSTEP:=kH hstep
 have HBS:=kH hbs
 have HR:=kH hr
 have HN:=kH hn
 have HDS:=kH hds
 have HRD:=kH hrd
 clear hds hrd hS S0 hw hr hok hn hL hmem hbs hstep
 unfold ptr at *
 go_enter Tryz.func42,Tryz.ntmps42
 go_wp2_with fail
 refine HC.out.mono ?_
 rintro e w1 ⟨rfl,F',S1⟩
 unfold aM.val
 have SA:=S1.alloc (aS an)
 have S2:=S1.f3
 obtain⟨⟨a0,a1,a2,a3⟩,⟨g0,g1,g2,g3⟩⟩:=S2.ansBox
 have hlt1:=af S1.h3
 have hbx:=ar (w:=w1) (o:=aS an) rfl
 have HSA:=kH SA
 cases HBS.out with
 | moved hk =>
  have HS2:=kH S2
  clear S1 SA S2 c21 hbx
  unfold moved aS at *
  simp only at *
  go_wp2
  have hR:=HSTEP.out
  subst hR
  refine ah.retA moved rfl HS2.out rfl rfl _ fun W' SF=>⟨rfl,q,a,k,.nilFunc,tv,F',L+1,rfl,rfl,HR.out,Nat.le_refl _,?_⟩
  exact ah.txInN [_,_,_] SF
 | waits hk =>
  have HS2:=kH S2
  clear S1 SA S2 c21 hbx
  unfold waits aS at *
  simp only at *
  go_wp2
  have hR:=HSTEP.out
  subst hR
  refine ah.retA waits rfl HS2.out rfl rfl _ fun W' SF=>⟨rfl,q,a,k,.nilFunc,tv,F',L+1,rfl,rfl,HR.out,Nat.le_refl _,?_⟩
  exact ah.txInN [_,_,_] SF
 | done v h1 h2 h3 h4 =>
  have HT:=kH (uL (f:=b') (ah.txInN [_,_,_,_] SA) (HDS.out rfl) HN.out (aW v))
  clear S1 SA S2 c21 hbx
  have hR:=HSTEP.out
  subst hR
  unfold aW aS aM.val at *
  simp only at *
  go_wp2_with fail
  refine HT.out.mono ?_
  rintro e2 w2 ⟨rfl,tv',S4⟩
  have S6:=(ah.txOutN [_,_] S4).sw
  obtain⟨⟨d0,d1,d2,d3⟩,⟨i0,i1,i2,i3⟩⟩:=S6.ansBox
  have HS6:=kH S6
  clear S4 S6 a0 a1 a2 a3 g0 g1 g2 g3
  go_wp2
  refine ah.ret (aW v) rfl HS6.out rfl rfl fun W' SF=>⟨rfl,q,a,k,.nilFunc,tv',F',L+1,rfl,rfl,HR.out,Nat.le_refl _,?_⟩
  exact ah.txInN [_] SF
 | @fail er _ he =>
  have HT:=kH (nr (ah.txInN [_,_,_,_] SA) HR.out HRD.out HN.out er true)
  clear S1 SA S2 c21 hbx
  have hR:=HSTEP.out
  subst hR
  unfold bi aS aM.val at *
  simp only at *
  go_wp2_with fail
  refine HT.out.mono ?_
  rintro e2 w2 ⟨rfl,q',tv',hg,hm,hR2,S4⟩
  have S6:=(ah.txOutN [_,_,_,_] S4).drop.drop.sw
  obtain⟨⟨d0,d1,d2,d3⟩,⟨i0,i1,i2,i3⟩⟩:=S6.ansBox
  have HS6:=kH S6
  have HG:=kH hg
  have HM:=kH hm
  have HR2:=kH hR2
  clear S4 S6 a0 a1 a2 a3 g0 g1 g2 g3 hg hm hR2
  go_wp2
  refine ah.ret (de t er true).1 rfl HS6.out rfl rfl fun W' SF=>⟨rfl,q',a,k,.nilFunc,tv',F',L+1,HG.out,HM.out,HR2.out,Nat.le_refl _,?_⟩
  exact ah.txInN [_] SF
end
section
variable {w0:World}{X:List Nat}{Cs:List aw}{w:World}{x p L:Nat}{wv tv:Value}{t:bZ}{q:dX}{F:List Nat}{m:au}
theorem pm{a k:Nat}{f:iG}(hS:ah w0 X (eK x q (ez (.com f) a) tv t (ag a (iC a k f)::ag k (fU f.chk)::aG p m L F::Cs)) w)(hw:t.way=.com f)(hrd:t.reads.length=8)(hwr:t.wrote.length=8)(hr:q.R t.list)(hcfg:1<=t.ring/\t.ring<=16)(hl:0<t.list.length/\t.list.length<=24)(hlo:∀ y∈t.list,0<=y.1/\y.1<1024)(th:Int)(hok:kU f m.ring)(hn:t.told.length<=1073741824)(hL:L<=1073741824) :
  Calls Tryz.prog 42 #[ptr x,ptr p,.int .i64 th] w (oL w0 X Cs x p L q (aP m t)):=by
 have c21:=hS.cell 21
 simp only[fu,ez,gA,gZ,gS]at c21
 have hlt:=af hS.h0
 have hi:=uU (ptr a)
 have S0:=(((ah.txOutN [_,_,_] hS).new aB).perm (List.perm_append_comm_assoc [_] [_,_,_] _))
 simp only[List.cons_append,List.nil_append]at S0
 have hmem:aY m:=(S0.h2:dk _ p m L F).ok
 have hbs:=qY hmem hok
 have HC:=kH (DT S0 th hok hL)
 have hstep:aP m t=(let r:=eF {t with way:=.com (aT m f).2.1} (aT m f).1 fun t =>
   (⟨2,0,0,(aT m f).1.access⟩,bO {t with stamp:=(aT m f).1.value,way:=.bak (cX t.ring t.multi (aT m f).1.value t.list),phase:=5} {fd with kind:=4,stamp:=(aT m f).1.value,sig:=t.wrote})
  (r.1,r.2,(aT m f).2.2)):=by unfold aP;rw[hw]
 generalize aP m t=R at hstep ⊢
 generalize aT m f=B at *
 obtain⟨an,b',m'⟩:=B
 simp only at HC hstep hbs
 have HSTEP:=kH hstep
 have HBS:=kH hbs
 have HR:=kH hr
 have HN:=kH hn
 have HRD:=kH hrd
 have HWR:=kH hwr
 have HCF:=kH hcfg
 have HL:=kH hl
 have HLO:=kH hlo
 clear hrd hwr hcfg hl hlo hS S0 hw hr hok hn hL hmem hbs hstep
 unfold ptr at *
 go_enter Tryz.func42,Tryz.ntmps42
 go_wp2_with fail
 refine HC.out.mono ?_
 rintro e w1 ⟨rfl,k',F',S1⟩
 unfold aM.val
 have SA:=S1.alloc (aS an)
 have S2:=S1.f3
 obtain⟨⟨a0,a1,a2,a3⟩,⟨g0,g1,g2,g3⟩⟩:=S2.ansBox
 have hlt1:=af S1.h3
 have hbx:=ar (w:=w1) (o:=aS an) rfl
 have HSA:=kH SA
 cases HBS.out with
 | moved hk =>
  have HS2:=kH S2
  clear S1 SA S2 c21 hbx
  unfold moved aS at *
  simp only at *
  go_wp2
  have hR:=HSTEP.out
  subst hR
  refine ah.retA moved rfl HS2.out rfl rfl _ fun W' SF=>⟨rfl,q,a,k',.nilFunc,tv,F',L+1,rfl,rfl,HR.out,Nat.le_refl _,?_⟩
  exact ah.txInN [_,_,_] SF
 | waits hk =>
  have HS2:=kH S2
  clear S1 SA S2 c21 hbx
  unfold waits aS at *
  simp only at *
  go_wp2
  have hR:=HSTEP.out
  subst hR
  refine ah.retA waits rfl HS2.out rfl rfl _ fun W' SF=>⟨rfl,q,a,k',.nilFunc,tv,F',L+1,rfl,rfl,HR.out,Nat.le_refl _,?_⟩
  exact ah.txInN [_,_,_] SF
 | done s h1 h2 h3 h4 =>
  have HT:=kH (uM (c:=b') (ah.txInN [_,_,_,_] SA) HR.out HWR.out HCF.out HN.out HL.out HLO.out (aW s) ⟨h1,h3⟩)
  clear S1 SA S2 c21 hbx h4
  have hR:=HSTEP.out
  subst hR
  unfold aW aS aM.val at *
  simp only at *
  go_wp2_with fail
  refine HT.out.mono ?_
  rintro e2 w2 ⟨rfl,a',lv',tv',S4⟩
  have S5:=(((ah.txOutN [_,_,_,_,_,_] S4).perm (List.perm_append_comm_assoc [_,_] [_,_] _)).drop.drop).perm (List.perm_append_comm_assoc [_,_,_] [_] _)
  simp only[List.cons_append,List.nil_append]at S5
  obtain⟨⟨d0,d1,d2,d3⟩,⟨i0,i1,i2,i3⟩⟩:=S5.ansBox
  have HS6:=kH S5
  clear S4 S5 a0 a1 a2 a3 g0 g1 g2 g3
  go_wp2
  refine ah.ret moved rfl HS6.out rfl rfl fun W' SF=>⟨rfl,q,a',0,lv',tv',F',L+1,rfl,rfl,HR.out,Nat.le_refl _,?_⟩
  exact ah.txInN [_,_,_] SF
 | @fail er _ he =>
  have HT:=kH (nr (ah.txInN [_,_,_,_] SA) HR.out HRD.out HN.out er true)
  clear S1 SA S2 c21 hbx
  have hR:=HSTEP.out
  subst hR
  unfold bi aS aM.val at *
  simp only at *
  go_wp2_with fail
  refine HT.out.mono ?_
  rintro e2 w2 ⟨rfl,q',tv',hg,hm,hR2,S4⟩
  have S6:=(ah.txOutN [_,_,_,_] S4).drop.drop.sw
  obtain⟨⟨d0,d1,d2,d3⟩,⟨i0,i1,i2,i3⟩⟩:=S6.ansBox
  have HS6:=kH S6
  have HG:=kH hg
  have HM:=kH hm
  have HR2:=kH hR2
  clear S4 S6 a0 a1 a2 a3 g0 g1 g2 g3 hg hm hR2
  go_wp2
  refine ah.ret (de t er true).1 rfl HS6.out rfl rfl fun W' SF=>⟨rfl,q',a,k',.nilFunc,tv',F',L+1,HG.out,HM.out,HR2.out,Nat.le_refl _,?_⟩
  exact ah.txInN [_] SF
end
section
variable {w0:World}{X:List Nat}{Cs:List aw}{w:World}{x p L:Nat}{wv tv:Value}{t:bZ}{q:dX}{F:List Nat}{m:au}
def TxP(x:Nat)(t:bZ)(Ds:List aw):Prop:=∃ q a k lv tv,(q.most:Int)=t.writes/\q.R t.list/\Ds=eK x q (ez t.way a) tv t (qa a k lv t.way [])
def jQ(x:Nat)(t:bZ)(F:List Nat):aw:=zP (TxP x t) F
theorem zk(x:Nat)(q:dX)(wv tv:Value)(t:bZ)(As Cs:List aw):eK x q wv tv t As++Cs=eK x q wv tv t (As++Cs):=rfl
theorem uC(a k:Nat)(lv:Value)(y:WayD)(Cs:List aw):qa a k lv y []++Cs=qa a k lv y Cs:=by cases y<;>rfl
theorem ah.txOpen(h:ah w0 X (jQ x t F::Cs) w):∃ q a k lv tv,(q.most:Int)=t.writes/\q.R t.list/\ah w0 X (eK x q (ez t.way a) tv t (qa a k lv t.way Cs)) w:=by
 obtain⟨Ds,⟨q,a,k,lv,tv,h1,h2,rfl⟩,-,hS⟩:=h.unpack
 rw[zk,uC]at hS
 exact⟨q,a,k,lv,tv,h1,h2,hS⟩
theorem ah.txClose{a k:Nat}{lv:Value}(h1:(q.most:Int)=t.writes)(h2:q.R t.list)(h:ah w0 X (eK x q (ez t.way a) tv t (qa a k lv t.way Cs)) w):∃ F,ah w0 X (jQ x t F::Cs) w:=by
 rw[<-uC,<-zk]at h
 exact⟨_,h.pack ⟨q,a,k,lv,tv,h1,h2,rfl⟩⟩
def iu(w0:World)(X:List Nat)(Cs:List aw)(x p L:Nat)(r:aM×bZ×au)(e:Ending)(w':World):Prop :=
 e=.returned r.1.val/\∃ F' F2 L',L'<=L+1/\ah w0 X (jQ x r.2.1 F'::aG p r.2.2 L' F2::Cs) w'
theorem vV(t:bZ)(a:aM)(f:bZ->aM×bZ)(h:(f t).2.writes=t.writes):(eF t a f).2.writes=t.writes:=by
 unfold eF de
 repeat' split
 all_goals first|rfl|exact h
theorem gn(m:au)(t:bZ):(aP m t).2.1.writes=t.writes:=by
 unfold aP
 split
 ·rfl
 all_goals exact vV {t with way:=_} _ _ rfl
theorem iM{r:aM×bZ×au}(hm:(q.most:Int)=r.2.1.writes){e:Ending}{w':World}(h:oL w0 X Cs x p L q r e w'):iu w0 X Cs x p L r e w':=by
 obtain⟨h1,q',a,k,lv,tv,F',L',-,hq,hR,hL,hS⟩:=h
 obtain⟨F2,hS⟩:=ah.txClose (by rw[hq];exact hm) hR hS
 exact⟨h1,F2,F',L',hL,hS⟩
theorem uj{F2:List Nat}{c:cN}(hc:co c)(hS:ah w0 X (jQ x t F::aG p m L F2::Cs) w)(hok:dM c t m)(th:Int)(hn:t.told.length<=1073741824)(hL:L<=1073741824) :
  Calls Tryz.prog 42 #[ptr x,ptr p,.int .i64 th] w (iu w0 X Cs x p L (aP m t)):=by
 obtain⟨q,a,k,lv,tv,hm,hr,hS⟩:=hS.txOpen
 have hm':(q.most:Int)=(aP m t).2.1.writes:=by rw[gn];exact hm
 have hrr:t.ring=m.ring:=hok.cfg.1.trans hok.mring.symm
 have hw:=hok.way
 unfold kc at hw
 refine Calls.mono ?_ (fun e w' h=>iM hm' h)
 split at hw
 ·rename_i e
  rw[e]at hS
  exact yW hS e hr th
 ·rename_i b e
  rw[e]at hS
  rw[hrr]at hw
  exact po hS e hr th hw.2 hn hL
 ·rename_i f e
  rw[e]at hS
  rw[hrr]at hw
  exact pl hS e hok.reads.1 hr th hw.2.1 hn hL
 ·rename_i f e
  rw[e]at hS
  rw[hrr]at hw
  have hrg:=hc.ring
  have hcf:=hok.cfg.1
  have hlen:=hok.len
  have hwr:=hc.writes
  have hcw:=hok.cfg.2.1
  have hmem:aY m:=((ah.txOutN [_,_,_] hS).h2:dk _ p m L F2).ok
  have hcl:=hmem.cells
  refine pm hS e hok.reads.1 hok.wrote.1 hr (by omega) ⟨List.length_pos_iff.2 hw.2.2.2.2.2.2.2,by omega⟩ (fun y hy=>?_) th hw.2.1 hn hL
  have h:=hok.list y hy
  omega
 ·rename_i b e
  rw[e]at hS
  rw[hrr]at hw
  exact wO hS e hr th hw.2.1 hn hL
end
section
variable {w0:World}{X:List Nat}{Cs:List aw}{w:World}{x p L:Nat}{wv tv:Value}{t:bZ}{q:dX}{F:List Nat}{m:au}{y:es}
def fK(y:es):Obj:=.cells #[.int .i64 y.kind,.int .i64 y.cell,.int .i64 y.value,.int .i64 y.code] 109 (0,0)
theorem lW{r:aM×bZ×au}{an wn:aw}{e:Ending}{w':World}(h:iu w0 X (an::wn::Cs) x p L r e w') :
  e=.returned r.1.val/\∃ F' F2 L',L'<=L+1/\ah w0 X (an::jQ x r.2.1 F'::aG p r.2.2 L' F2::Cs) w':=by
 obtain⟨h1,F',F2,L',hL,hS⟩:=h
 exact⟨h1,F',F2,L',hL,((hS.pull [_,_,_]).drop).pull [_,_]⟩
theorem iq(hS:ah w0 X (eK x q .nilIface tv t (aG p m L F::Cs)) w)(hf:cz m t y=true) :
  Calls Tryz.prog 83 #[ptr x,ptr p,dE y] ((w.alloc (fK y)).alloc aB) (fun e w'=>e=.returned (.bool true)/\ah w0 X (eK x q .nilIface tv t (aG p m L F::ag (w.heap.size+1) aB::ag w.heap.size (fK y)::Cs)) w'):=by
 have S1:=(hS.new (fK y)).new aB
 rw[show(w.alloc (fK y)).heap.size=w.heap.size+1 by simp]at S1
 have S2:=((S1.pull [_,_,_,_,_,_,_,_]).pull [_,_,_])
 refine(fits_tx S2 y).mono ?_
 rintro e w1 ⟨rfl,S3⟩
 rw[hf]
 refine⟨rfl,?_⟩
 have S4:ah w0 X ([_,_,_,_]++([_,_,_,_,_]++Cs)) w1:=S3
 exact(S4.turn).pull [_,_,_,_,_]
theorem D8(hS:ah w0 X (eK x q .nilIface tv t (aG p m L F::Cs)) w)(hw:t.way=.no)(hf:cz m t y=true)(hk:y.kind=5)(hm:(q.most:Int)=t.writes)(hr:q.R t.list)(hrd:t.reads.length=8)(hn:t.told.length<=1073741824)(th:Int) :
  Calls Tryz.prog 56 #[ptr x,ptr p,.int .i64 th,dE y] w (iu w0 X Cs x p L (cB m t y)):=by
 obtain⟨kind,cell,value,code⟩:=y
 simp only at hk
 subst hk
 have hdo:cB m t ⟨5,cell,value,code⟩=((de t code false).1,(de t code false).2,m):=by
  unfold cB
  rw[if_neg (by rw[hf];simp)]
  simp
 rw[hdo]
 have HF:=kH (iq hS hf)
 have hlt:=af hS.h0
 have HR:=kH hr
 have HRD:=kH hrd
 have HN:=kH hn
 have HM:=kH hm
 clear hS hf hdo hr hrd hn hm hw
 unfold dE fK aB ptr at *
 go_enter Tryz.func56,Tryz.ntmps56
 go_wp2_with fail
 refine HF.out.mono ?_
 rintro e w1 ⟨rfl,S1⟩
 have HE:=kH (nr S1 HR.out HRD.out HN.out code false)
 have hkw:=fun j=>((ah.txOutN [_,_,_] S1).pull [_,_]).cell j
 have b0:=hkw 0
 have b3:=hkw 3
 simp only[gA,gZ,gS]at b0 b3
 clear S1 hkw
 unfold ptr at *
 go_wp2_with fail
 refine HE.out.mono ?_
 rintro e2 w2 ⟨rfl,q',tv',hg,hq,hR2,S4⟩
 have S5:=(ah.txOutN [_,_,_] S4).pull [_]
 have HS5:=kH S5
 obtain⟨⟨d0,d1,d2,d3⟩,⟨i0,i1,i2,i3⟩⟩:=S5.ansBox
 have HQ:=kH hq
 have HR2:=kH hR2
 unfold aM.val
 clear S4 S5 hg hq hR2 b0 b3
 go_wp2
 refine ah.ret (de t code false).1 rfl HS5.out rfl rfl fun W' SF=>?_
 have S6:ah w0 X (eK x q' .nilIface tv' (de t code false).2 (aG p m L F::Cs)) W':=ah.txInN [_] ((SF.pull [_]).drop)
 have hwr:(de t code false).2.writes=t.writes:=rfl
 obtain⟨F',S7⟩:=ah.txClose (t:=(de t code false).2) (a:=0) (k:=0) (lv:=.nilFunc) (by rw[HQ.out,hwr];exact HM.out) HR2.out S6
 exact⟨rfl,F',F,L,by omega,S7⟩
theorem Do_beg(hS:ah w0 X (eK x q .nilIface tv t (aG p m L F::Cs)) w)(hf:cz m t y=true)(hk:y.kind=1)(hm:(q.most:Int)=t.writes)(hr:q.R t.list)(hmr:t.ring=m.ring)(hrg:1<=t.ring/\t.ring<=16)(hn:t.told.length<=1073741823)(hL:L<=1073741824)(th:Int) :
  Calls Tryz.prog 56 #[ptr x,ptr p,.int .i64 th,dE y] w (iu w0 X Cs x p L (cB m t y)):=by
 obtain⟨kind,cell,value,code⟩:=y
 simp only at hk
 subst hk
 have hdo:cB m t ⟨1,cell,value,code⟩=aP m (bO {t with way:=.beg ⟨t.ring,0,0,0⟩,phase:=1} {fd with kind:=7}):=by
  unfold cB
  rw[if_neg (by rw[hf];simp)]
  simp
 rw[hdo]
 have HF:=kH (iq hS hf)
 have hlt:=af hS.h0
 have HR:=kH hr
 have HN:=kH hn
 have HM:=kH hm
 have HMR:=kH hmr
 have HRG:=kH hrg
 have HL:=kH hL
 clear hS hf hdo hr hn hm hmr hrg hL
 unfold dE fK aB ptr at *
 go_enter Tryz.func56,Tryz.ntmps56
 go_wp2_with fail
 refine HF.out.mono ?_
 rintro e w1 ⟨rfl,S1⟩
 have HE:=kH (New_beg S1 t.ring HRG.out)
 have hkw:=fun j=>((ah.txOutN [_,_,_] S1).pull [_,_]).cell j
 have b0:=hkw 0
 have k1:=S1.cell 1
 simp only[fu,gA,gZ,gS]at b0 k1
 clear S1 hkw
 unfold ptr at *
 go_wp2_with fail
 refine HE.out.mono ?_
 rintro e2 w2 ⟨a,rfl,S4⟩
 have S5:=ah.txInN (t:=t) [_] S4
 have k8:=S5.cell 8
 have k21:=S5.cell 21
 have f8:=S5.froz 8
 have f21:=S5.froz 21
 simp only[fu,gA,gZ,gS]at k8 k21
 have S6:=(S5.txWay (ez (.beg ⟨t.ring,0,0,0⟩) a)).txPhase 1
 have S6:ah w0 X (eK x q (ez (.beg ⟨t.ring,0,0,0⟩) a) tv {t with phase:=1} (ag a (uh ⟨t.ring,0,0,0⟩)::aG p m L F::_::_::Cs)) _:=S6
 have HT:=kH (iK S6 {fd with kind:=7} (by have:=HN.out;show t.told.length<=_;omega))
 unfold wa fO du fd bQ at HT
 simp only[List.getD_cons_zero,List.getD_cons_succ,ez]at HT
 clear S4 S5 S6
 unfold ptr at *
 go_wp2_with fail
 refine HT.out.mono ?_
 rintro e3 w3 ⟨rfl,tv',S7⟩
 have S7:ah w0 X (eK x q (ez (.beg ⟨t.ring,0,0,0⟩) a) tv' (bO {t with way:=.beg ⟨t.ring,0,0,0⟩,phase:=1} {fd with kind:=7}) (ag a (uh ⟨t.ring,0,0,0⟩)::aG p m L F::_::_::Cs)) w3:=S7
 have HST:=kH (po S7 rfl HR.out th ⟨HMR.out,.inl rfl,aK,aK,fun h=>by simp at h⟩ (by have:=HN.out;simp[bO];omega) HL.out)
 clear S7 k8 k21 f8 f21
 go_wp2_with fail
 refine HST.out.mono ?_
 intro e4 w4 h4
 obtain⟨he,F',F2,L',hL',S8⟩:=lW (iM (by rw[gn];exact HM.out) h4)
 subst he
 obtain⟨⟨d0,d1,d2,d3⟩,⟨i0,i1,i2,i3⟩⟩:=S8.ansBox
 have HS8:=kH S8
 unfold aM.val
 clear S8 h4
 go_wp2
 refine ah.ret (aP m (bO {t with way:=.beg ⟨t.ring,0,0,0⟩,phase:=1} {fd with kind:=7})).1 rfl HS8.out rfl rfl fun W' SF=>⟨rfl,F',F2,L',hL',SF⟩
end
section
variable {w0:World}{X:List Nat}{Cs:List aw}{w:World}{x p L:Nat}{wv tv:Value}{t:bZ}{q:dX}{F:List Nat}{m:au}{y:es}
theorem Do_own(hS:ah w0 X (eK x q .nilIface tv t (aG p m L F::Cs)) w)(hw:t.way=.no)(hf:cz m t y=true)(hk:y.kind=2){v:Int}(ho:eR t.list y.cell=some v)(hc:0<=y.cell/\y.cell<=1024)(hd:(t.list.map (·.1)).Nodup)(hm:(q.most:Int)=t.writes)(hr:q.R t.list)(hn:t.told.length<=1073741824)(th:Int) :
  Calls Tryz.prog 56 #[ptr x,ptr p,.int .i64 th,dE y] w (iu w0 X Cs x p L (cB m t y)):=by
 obtain⟨kind,cell,value,code⟩:=y
 simp only at hk ho hc
 subst hk
 have hdo:cB m t ⟨2,cell,value,code⟩=(⟨3,0,v,false⟩,bO t {fd with kind:=2,cell:=cell,value:=v,own:=true,start:=t.start,seen:=t.seen},m):=by
  unfold cB
  rw[if_neg (by rw[hf];simp)]
  simp[ho]
 rw[hdo]
 have HF:=kH (iq hS hf)
 have hlt:=af hS.h0
 have HR:=kH hr
 have HN:=kH hn
 have HM:=kH hm
 have HO0:=kH ho
 have HD:=kH hd
 have HC:=kH hc
 have HW:=kH hw
 clear hS hf hdo hr hn hm ho hd hc hw
 unfold dE fK aB ptr at *
 go_enter Tryz.func56,Tryz.ntmps56
 go_wp2_with fail
 refine HF.out.mono ?_
 rintro e w1 ⟨rfl,S1⟩
 have HO:=kH (fun r=>zU (ah.logFront (S1.drewN r)) HR.out HD.out cell HC.out)
 rw[HO0.out]at HO
 unfold C7 at HO
 have hkw:=fun j=>((ah.txOutN [_,_,_] S1).pull [_,_]).cell j
 have b0:=hkw 0
 have b1:=hkw 1
 have k7:=S1.cell 7
 simp only[fu,gA,gZ,gS]at b0 b1 k7
 clear S1 hkw
 unfold ptr at *
 go_wp2_with fail
 go_region_held3 (fun w'=>w'.cell? ⟨x,7,none⟩=some (.pointer (some ⟨q.g,0,none⟩))/\w'.cell? ⟨w.heap.size,1,none⟩=some (.int .i64 cell)) (go_keep) (first|(go_at_call 86;refine(HO.out _).mono ?_;rintro e2 w2 ⟨rfl,S2⟩;have S3:=ah.logBack S2;have k7':=S3.cell 7;simp only[fu,gA,gZ,gS]at k7';have b1':=((ah.txOutN [_,_,_] S3).pull [_,_]).cell 1;simp only[gA,gZ,gS]at b1';unfold ptr at k7';have HS3:=kH S3;clear S2 S3))
 have S3:=HS3.out
 have hb1:=((ah.txOutN [_,_,_] S3).pull [_,_]).cell 1
 have hkk:=fun j=>S3.cell j
 have k9:=hkk 9
 have k10:=hkk 10
 simp only[fu,gA,gZ,gS]at hb1 k9 k10
 have HT:=kH (fun r=>iK (S3.drewN r) {fd with kind:=2,cell:=cell,value:=v,own:=true,start:=t.start,seen:=t.seen} HN.out)
 unfold wa fO du fd bQ at HT
 simp only[List.getD_cons_zero,List.getD_cons_succ]at HT
 clear hkk S3 b0 b1 k7
 unfold ptr at *
 go_wp2_with fail
 refine wp_region_still_tail 13 (by kernel_rfl) (by kernel_rfl) ?_
 change wpStill _ _ (World.drew _) (fun a'=>wpList _ _ _ _ a' (World.drew _)) _ _
 simp only[List.take_succ_cons,List.take_zero,List.drop_succ_cons,List.drop_zero]
 repeat still_step
 refine wpStill_nil ?_
 go_wp2_with fail
 refine(HT.out _).mono ?_
 rintro e2 w4 ⟨rfl,tv',S4⟩
 have S4':ah w0 X (eK x q .nilIface tv' (bO t {fd with kind:=2,cell:=cell,value:=v,own:=true,start:=t.start,seen:=t.seen}) (aG p m L F::_::_::Cs)) w4:=S4
 have S5:=(ah.txOutN [_,_,_] S4').pull [_]
 have HS5:=kH S5
 obtain⟨⟨d0,d1,d2,d3⟩,⟨i0,i1,i2,i3⟩⟩:=S5.ansBox
 clear S4 S4' S5
 go_wp2
 refine ah.ret ⟨3,0,v,false⟩ rfl HS5.out rfl rfl fun W' SF=>?_
 have S6:ah w0 X (eK x q .nilIface tv' (bO t {fd with kind:=2,cell:=cell,value:=v,own:=true,start:=t.start,seen:=t.seen}) (aG p m L F::Cs)) W':=ah.txInN [_] ((SF.pull [_]).drop)
 have hwy:(bO t {fd with kind:=2,cell:=cell,value:=v,own:=true,start:=t.start,seen:=t.seen}).way=.no:=HW.out
 obtain⟨F',S7⟩:=ah.txClose (t:=bO t {fd with kind:=2,cell:=cell,value:=v,own:=true,start:=t.start,seen:=t.seen}) (a:=0) (k:=0) (lv:=.nilFunc) HM.out HR.out (by rw[hwy];exact S6)
 exact⟨rfl,F',F,L,by omega,S7⟩
end
section
variable {w0:World}{X:List Nat}{Cs:List aw}{w:World}{x p L:Nat}{wv tv:Value}{t:bZ}{q:dX}{F:List Nat}{m:au}{y:es}
theorem Am(lg:Nat)(wv tv v:Value)(t:bZ)(b0 b1 b2 b3 b4 b5 b6 b7 c:Int):(((((((((((fu lg wv tv t).setIfInBounds 11 (.int .u64 b0)).setIfInBounds 12 (.int .u64 b1)).setIfInBounds 13 (.int .u64 b2)).setIfInBounds 14 (.int .u64 b3)).setIfInBounds 15 (.int .u64 b4)).setIfInBounds 16 (.int .u64 b5)).setIfInBounds 17 (.int .u64 b6)).setIfInBounds 18 (.int .u64 b7)).setIfInBounds 19 (.int .i64 c)).setIfInBounds 21 v).setIfInBounds 8 (.int .i64 3) =
  fu lg v tv {t with reads:=[b0,b1,b2,b3,b4,b5,b6,b7],cell:=c,phase:=3}:=by
 simp[fu]
theorem ah.txFetch{lg:Nat}(h:ah w0 X (ag x (lM lg wv tv t)::Cs) w)(v:Value)(b0 b1 b2 b3 b4 b5 b6 b7 c:Int):ah w0 X (ag x (lM lg v tv {t with reads:=[b0,b1,b2,b3,b4,b5,b6,b7],cell:=c,phase:=3})::Cs)
  (((((((((((w.setCell ⟨x,11,none⟩ (.int .u64 b0)).setCell ⟨x,12,none⟩ (.int .u64 b1)).setCell ⟨x,13,none⟩ (.int .u64 b2)).setCell ⟨x,14,none⟩ (.int .u64 b3)).setCell ⟨x,15,none⟩ (.int .u64 b4)).setCell ⟨x,16,none⟩ (.int .u64 b5)).setCell ⟨x,17,none⟩ (.int .u64 b6)).setCell ⟨x,18,none⟩ (.int .u64 b7)).setCell ⟨x,19,none⟩ (.int .i64 c)).setCell ⟨x,21,none⟩ v).setCell ⟨x,8,none⟩ (.int .i64 3)):=by
 have h6:=((((((((((h.set 11 (.int .u64 b0)).set 12 (.int .u64 b1)).set 13 (.int .u64 b2)).set 14 (.int .u64 b3)).set 15 (.int .u64 b4)).set 16 (.int .u64 b5)).set 17 (.int .u64 b6)).set 18 (.int .u64 b7)).set 19 (.int .i64 c)).set 21 v).set 8 (.int .i64 3)
 rw[Am]at h6
 exact h6
theorem Do_read(hS:ah w0 X (eK x q .nilIface tv t (aG p m L F::Cs)) w)(hf:cz m t y=true)(hk:y.kind=2)(ho:eR t.list y.cell=none)(hc:0<=y.cell/\y.cell<1024)(hcm:y.cell<m.cells.length)(hd:(t.list.map (·.1)).Nodup)(hm:(q.most:Int)=t.writes)(hr:q.R t.list)(hrd:aU t.reads)(hmr:t.ring=m.ring)(hrg:1<=t.ring/\t.ring<=16)(hst:0<=t.start/\aI t.start)(hn:t.told.length<=1073741824)(hL:L<=1073741824)(th:Int) :
  Calls Tryz.prog 56 #[ptr x,ptr p,.int .i64 th,dE y] w (iu w0 X Cs x p L (cB m t y)):=by
 obtain⟨kind,cell,value,code⟩:=y
 simp only at hk ho hc hcm
 subst hk
 have hdo:cB m t ⟨2,cell,value,code⟩=aP m {t with reads:=be t.reads cell,cell:=cell,way:=.fet ⟨bJ t.ring t.start (be t.reads cell) true,cell,false,0⟩,phase:=3}:=by
  unfold cB
  rw[if_neg (by rw[hf];simp)]
  simp[ho]
 rw[hdo]
 have HF:=kH (iq hS hf)
 have hlt:=af hS.h0
 have HR:=kH hr
 have HN:=kH hn
 have HM:=kH hm
 have HO0:=kH ho
 have HD:=kH hd
 have HC:=kH hc
 have HCM:=kH hcm
 have HMR:=kH hmr
 have HRG:=kH hrg
 have HST:=kH hst
 have HL:=kH hL
 have HRD:=kH hrd
 have hwd:=cF hrd cell
 have HWD:=kH hwd
 obtain⟨r0,r1,r2,r3,r4,r5,r6,r7,hq,hv⟩:=pB hrd.1
 have HQ:=kH hq
 have HV:=kH hv
 obtain⟨b0,b1,b2,b3,b4,b5,b6,b7,hqb,hvb⟩:=pB hwd.1
 have HQB:=kH hqb
 have HVB:=kH hvb
 clear hS hf hdo hr hn hm ho hd hc hcm hmr hrg hst hL hrd hwd hq hv hqb hvb
 unfold dE fK aB ptr at *
 go_enter Tryz.func56,Tryz.ntmps56
 go_wp2_with fail
 refine HF.out.mono ?_
 rintro e w1 ⟨rfl,S1⟩
 have HO:=kH (fun r=>zU (ah.logFront (S1.drewN r)) HR.out HD.out cell ⟨HC.out.1,Int.le_of_lt HC.out.2⟩)
 rw[HO0.out]at HO
 unfold C7 at HO
 have hkw:=fun j=>((ah.txOutN [_,_,_] S1).pull [_,_]).cell j
 have e0:=hkw 0
 have e1:=hkw 1
 have k7:=S1.cell 7
 simp only[fu,gA,gZ,gS]at e0 e1 k7
 clear S1 hkw
 unfold ptr at *
 go_wp2_with fail
 go_region_held3 (fun w'=>w'.cell? ⟨x,7,none⟩=some (.pointer (some ⟨q.g,0,none⟩))/\w'.cell? ⟨w.heap.size,1,none⟩=some (.int .i64 cell)) (go_keep) (first|(go_at_call 86;refine(HO.out _).mono ?_;rintro e2 w2 ⟨rfl,S2⟩;have S3:=ah.logBack S2;have k7':=S3.cell 7;simp only[fu,gA,gZ,gS]at k7';have b1':=((ah.txOutN [_,_,_] S3).pull [_,_]).cell 1;simp only[gA,gZ,gS]at b1';unfold ptr at k7';have HS3:=kH S3;clear S2 S3))
 have S3:=HS3.out
 have hb1:=((ah.txOutN [_,_,_] S3).pull [_,_]).cell 1
 have hkk:=fun j=>S3.cell j
 have k1:=hkk 1
 have k9:=hkk 9
 have j0:=hkk 11
 have j1:=hkk 12
 have j2:=hkk 13
 have j3:=hkk 14
 have j4:=hkk 15
 have j5:=hkk 16
 have j6:=hkk 17
 have j7:=hkk 18
 simp only[fu,HQ.out,gA,gZ,gS,List.getD_cons_zero,List.getD_cons_succ]at hb1 k1 k9 j0 j1 j2 j3 j4 j5 j6 j7
 have HT:=kH (fun r=>New_fet (S3.drewN r) t.ring t.start t.reads cell HRG.out HST.out.1 HRD.out HC.out)
 rw[HV.out]at HT
 clear hkk S3 e0 e1 k7 HO
 unfold ptr at *
 go_wp2_with fail
 go_region_held3 (fun w'=>w'.cell? ⟨x,1,none⟩=some (.int .i64 t.ring)/\w'.cell? ⟨x,9,none⟩=some (.int .i64 t.start)/\w'.cell? ⟨x,11,none⟩=some (.int .u64 r0)/\w'.cell? ⟨x,12,none⟩=some (.int .u64 r1)/\w'.cell? ⟨x,13,none⟩=some (.int .u64 r2)/\w'.cell? ⟨x,14,none⟩=some (.int .u64 r3)/\w'.cell? ⟨x,15,none⟩=some (.int .u64 r4)/\w'.cell? ⟨x,16,none⟩=some (.int .u64 r5)/\w'.cell? ⟨x,17,none⟩=some (.int .u64 r6)/\w'.cell? ⟨x,18,none⟩=some (.int .u64 r7)/\w'.cell? ⟨w.heap.size,1,none⟩=some (.int .i64 cell)) (go_keep) (first|(go_at_call 87;refine(HT.out _).mono ?_;rintro e2 w2 ⟨a,k,rfl,S2⟩;have S3:=ah.txInN (t:=t) [_,_] S2;have hkk:=fun j=>S3.cell j;have i1:=hkk 1;have i9:=hkk 9;have i11:=hkk 11;have i12:=hkk 12;have i13:=hkk 13;have i14:=hkk 14;have i15:=hkk 15;have i16:=hkk 16;have i17:=hkk 17;have i18:=hkk 18;simp only[fu,HQ.out,gA,gZ,gS,List.getD_cons_zero,List.getD_cons_succ]at i1 i9 i11 i12 i13 i14 i15 i16 i17 i18;have b1':=((ah.txOutN [_,_,_,_,_] S3).pull [_,_,_,_]).cell 1;simp only[gA,gZ,gS]at b1';have HS4:=kH S3;clear S2 S3 hkk))
 have S4:=HS4.out
 have HRS:=kH (fun r=>BL ((ah.txOutN [_,_,_,_,_] S4).drewN r) HWD.out.1)
 simp only[bJ,HVB.out]at HRS
 have b1'':=((ah.txOutN [_,_,_,_,_] S4).pull [_,_,_,_]).cell 1
 simp only[gA,gZ,gS]at b1''
 have hne:x≠w.heap.size:=Nat.ne_of_lt hlt
 clear S4 HT k1 k9 j0 j1 j2 j3 j4 j5 j6 j7 hb1
 go_wp2_with fail
 go_region_held3 (fun w'=>w'.cell? ⟨w.heap.size,1,none⟩=some (.int .i64 cell)) (first|go_keep|simp[*,jw]) (first|(go_at_call 88;refine(HRS.out _).mono ?_;rintro e3 w3 ⟨rfl,S5⟩;have b1':=((S5.pull [_,_,_,_]).cell 1);simp only[gA,gZ,gS]at b1';have S6:=ah.txInN (t:=t) [_,_,_,_,_] S5;have hkk:=fun j=>S6.cell j;have i11:=hkk 11;have i12:=hkk 12;have i13:=hkk 13;have i14:=hkk 14;have i15:=hkk 15;have i16:=hkk 16;have i17:=hkk 17;have i18:=hkk 18;have i19:=hkk 19;have g11:=S6.froz 11;have g12:=S6.froz 12;have g13:=S6.froz 13;have g14:=S6.froz 14;have g15:=S6.froz 15;have g16:=S6.froz 16;have g17:=S6.froz 17;have g18:=S6.froz 18;have g19:=S6.froz 19;have i21:=hkk 21;have i8:=hkk 8;have g21:=S6.froz 21;have g8:=S6.froz 8;simp only[fu,HQ.out,gA,gZ,gS,List.getD_cons_zero,List.getD_cons_succ]at i8 i11 i12 i13 i14 i15 i16 i17 i18 i19 i21;have HS6:=kH S6;clear S5 S6 hkk))
 have S7:=HS6.out.txFetch (.iface 160 (ptr a)) b0 b1 b2 b3 b4 b5 b6 b7 cell
 rw[<-HQB.out]at S7
 have S7:ah w0 X (eK x q (ez (.fet ⟨bJ t.ring t.start (be t.reads cell) true,cell,false,0⟩) a) tv {t with reads:=be t.reads cell,cell:=cell,way:=.fet ⟨bJ t.ring t.start (be t.reads cell) true,cell,false,0⟩,phase:=3} (ag a (jM k ⟨bJ t.ring t.start (be t.reads cell) true,cell,false,0⟩)::ag k (fU (bJ t.ring t.start (be t.reads cell) true))::aG p m L F::_::_::Cs)) _:=S7
 have HSTP:=kH (pl S7 rfl HWD.out.1 HR.out th ⟨HMR.out▸jP true HST.out.1 HST.out.2 HWD.out,⟨HC.out.1,HCM.out⟩,aK,fun _=>rfl⟩ HN.out HL.out)
 generalize hRR:aP m {t with reads:=be t.reads cell,cell:=cell,way:=.fet ⟨bJ t.ring t.start (be t.reads cell) true,cell,false,0⟩,phase:=3}=RR at *
 have hRW:RR.2.1.writes=t.writes:=by rw[<-hRR,gn]
 have HRW:=kH hRW
 unfold ptr at HSTP
 clear S7 hRR hRW b1' b1''
 go_wp2_with fail
 refine HSTP.out.mono ?_
 intro e4 w4 h4
 obtain⟨he,F',F2,L',hL',S8⟩:=lW (iM (by rw[HRW.out];exact HM.out) h4)
 subst he
 obtain⟨⟨d0,d1,d2,d3⟩,⟨n0,n1,n2,n3⟩⟩:=S8.ansBox
 have HS8:=kH S8
 unfold aM.val
 clear S8 h4
 go_wp2
 refine ah.ret RR.1 rfl HS8.out rfl rfl fun W' SF=>⟨rfl,F',F2,L',hL',SF⟩
end
end Go.Proofs.YtgfogfciobmmpaaGreatDoor
