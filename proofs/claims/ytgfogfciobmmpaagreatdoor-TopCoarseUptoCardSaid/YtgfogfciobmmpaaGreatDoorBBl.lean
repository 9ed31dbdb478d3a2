/- A part of the proof of a law of carouseltop: Sch4. -/
import Derived.Test.YtgfogfciobmmpaaGreatDoorBBk
import Derived.Deep.CutRange
import Derived.Deep.RegionHeld3
set_option linter.unusedSimpArgs false
set_option linter.unusedVariables false
set_option maxRecDepth 100000
set_option maxHeartbeats 8000000
namespace Go.Proofs.YtgfogfciobmmpaaGreatDoor
open Go.RowKit
section
variable {w0:World}{X:List Nat}{Cs:List aw}{w:World}{p L:Nat}{F F2:List Nat}{m:au}
theorem sq{W:World}{e:TypeId}{sz:Nat}{v:Value}{n:Nat}{xs:List Value}{g cap:Nat}(h:aD W e sz v n xs)(hv:v=.slice (some ⟨g,0,none⟩) n cap)(hn:0<n):g<W.heap.size/\∀ j u,xs[j]?=some u->W.cell? ⟨g,j,none⟩=some u:=by
 rcases h.parts with⟨-,h2,-⟩|⟨g',cap',hv',-,-,hg,hcell⟩
 ·omega
 ·rw[hv]at hv'
  injection hv' with h1 _ _
  injection h1 with h1
  injection h1 with h1 _ _
  subst h1
  exact⟨hg,hcell⟩
attribute [local go_sem] ip
theorem DR{f:iE}{s:SW}{u0:ST}{l:List dh}{tb i no:Nat}{ol:List Value}{jl:List (Int×List Int×Value)}(hf:wX w0 X f)
  (hS:ah w0 X (aG s.mp m L F2::ag f.wb (eH s)::bW s.ev l::ag tb (fD u0)::aN 74 3 u0.ov no ol::Cs) w) (hsw:s=f.sw s.ev s.opened s.steps) (hm:aY m) (hmr:m.ring=f.cfg.ring) (hcells:(m.cells.length:Int)=f.hi)
  (hL:L<=1073000000) (hl:l.length<=1073000000) (hnob:no<=1000) (hjp:u0.jp=.pointer none) (hjv:f.jvs[i]?=some u0.jv) (hjl:f.jobs[i]?=some jl) (hno:no<jl.length) (htb:f.tbs[i]?=some tb)
  (hs:(0<=s.opened/\s.opened<=1073741824)/\(0<=s.steps/\s.steps<=1073741824)/\(0<=u0.steps/\u0.steps<=1073741824)/\(0<=u0.waits/\u0.waits<=1073741824)) :
  Calls Tryz.prog 7 #[ptr f.wb,.int .i64 (i:Int)] w (fun e w'=>∃ x k rv u2,k.c=f.cfg/\KOk k f.hi/\k.cells<=m.cells.length/\u2.jv=u0.jv/\u2.tx=u0.tx/\u2.stamp=u0.stamp/\u2.steps=u0.steps/\u2.waits=u0.waits /\
   pT w0 X Cs f.wb tb s u2 l no ol x k rv f.hi (me f.cfg) m L (i:Int) e w'):=by
 have S1:ah w0 X (aG s.mp m L F2::ag f.wb (eH s)::bW s.ev l::ag tb (fD u0)::aN 74 3 u0.ov no ol::ag w.heap.size aB::Cs) (w.alloc aB):=(hS.new aB).push [_,_,_,_,_]
 obtain⟨wb,hwbe⟩:∃ wb,f.wb=wb:=⟨_,rfl⟩
 rw[hwbe]at S1 ⊢
 have c8:=(S1.pull [_]).cell 8
 have c9:=(S1.pull [_]).cell 9
 have d0:=(S1.pull [_,_,_]).cell 0
 have d1:=(S1.pull [_,_,_]).cell 1
 have d5:=(S1.pull [_,_,_]).cell 5
 simp only[lX,gt,gA,gZ,gS,hjp]at c8 c9 d0 d1 d5
 have hlt:=af (S1.pull [_]).h0
 have hltt:=af (S1.pull [_,_,_]).h0
 have hjm:jl∈f.jobs:=List.mem_of_getElem? hjl
 obtain⟨jd,hjd⟩:∃ jd,jl[no]?=some jd:=⟨jl[no],List.getElem?_eq_getElem hno⟩
 obtain⟨⟨hp0,hp1⟩,hxl,hx64,hargs⟩:=hf.job jl hjm jd (List.mem_of_getElem? hjd)
 obtain⟨hj32,hjrow⟩:=hf.jobs i jl u0.jv hjl hjv
 obtain⟨pg,pxs,pav⟩:=jd
 dsimp only at hp0 hp1 hxl hx64 hargs
 obtain⟨pn,rfl⟩:∃ n:Nat,pg=n:=⟨pg.toNat,by omega⟩
 obtain⟨code,hcode⟩:∃ code,f.progs[pn]?=some code:=⟨f.progs[pn]'(by omega),List.getElem?_eq_getElem _⟩
 have hcsz:=hf.plen code (List.mem_of_getElem? hcode)
 rcases(hf.thr _ S1.kept).parts with⟨-,h2,-⟩|⟨g,cap,hv,hnc,hcm,hg,hcell⟩
 ·have:=(List.getElem?_eq_some_iff.1 htb).1
  omega
 have g0:=hcell i (ptr tb) (by rw[List.getElem?_map,htb];rfl)
 rcases(hjrow _ S1.kept).parts with⟨-,h2,-⟩|⟨gj,jcap,hjvv,hjnc,hjcm,hgj,hjcell⟩
 ·omega
 have hjat:(gN jl)[no*2]?=some (.int .i64 (pn:Int))/\(gN jl)[no*2+1]?=some pav:=by
  have h:=lm jl no _ hjd
  exact h
 rcases(hf.progs _ S1.kept).parts with⟨-,h2,-⟩|⟨gp,pcap,hpv,hpnc,hpcm,hgp,hpcell⟩
 ·omega
 have hil:i<f.tbs.length:=(List.getElem?_eq_some_iff.1 htb).1
 have hilI:(i:Int)<(f.tbs.length:Int):=by omega
 have hcapI:(f.tbs.length:Int)<=(cap:Int):=by omega
 have hi0:¬(i:Int)<0:=by omega
 have hnn:((no:Int) == (jl.length:Int))=false:=by simp;omega
 have hnoI:(no:Int)<(jl.length:Int):=by omega
 have hjcI:(jl.length:Int)<=(jcap:Int):=by omega
 have hpnI:(pn:Int)<(f.progs.length:Int):=hp1
 have hpcI:(f.progs.length:Int)<=(pcap:Int):=by omega
 obtain⟨oa,oc,hov,-,-⟩:=(show aD _ _ 3 u0.ov no ol from(S1.pull [_,_,_,_]).h0).slice
 have hsv:s.raw=f.c.raw/\s.ring=f.c.ring/\s.writes=f.c.writes/\s.stamps=f.c.stamps/\s.multi=f.c.multi/\s.tries=f.c.tries/\s.rv=f.rv/\s.pv=f.pv/\s.mp=f.mp/\s.tv=f.tv:=by rw[hsw];exact⟨rfl,rfl,rfl,rfl,rfl,rfl,rfl,rfl,rfl,rfl⟩
 have hkk:=yf (code:=code) (xs:=pxs) hf.check hcsz hxl hx64
 obtain⟨rc,rcap,hrv,-,-⟩:=(hf.regs _ S1.kept).slice
 obtain⟨hs1,hs2,hs3,hs4,hs5,hs6,hs7,hs8,hs9,hs10⟩:=hsv
 have HJC:Hid (∀ W,aQ X w0 W->gj<W.heap.size/\W.cell? ⟨gj,no*2,none⟩=some (.int .i64 (pn:Int))/\W.cell? ⟨gj,no*2+1,none⟩=some pav):=fun W hk=>by
  obtain⟨q1,q2⟩:=sq (hjrow W hk) hjvv (by omega)
  exact⟨q1,q2 _ _ hjat.1,q2 _ _ hjat.2⟩
 have HPC:Hid (∀ W,aQ X w0 W->gp<W.heap.size/\W.cell? ⟨gp,pn,none⟩=some (.string code)):=fun W hk=>by
  obtain⟨q1,q2⟩:=sq (hf.progs W hk) hpv (by omega)
  exact⟨q1,q2 _ _ (by rw[List.getElem?_map,hcode];rfl)⟩
 rw[hs10,hv]at c9
 rw[hjvv]at d0
 rw[hov]at d5
 have HNEW:=kH (fun(W:World) (B:aw) (S:ah w0 X (aG s.mp m L F2::ag wb (eH s)::bW s.ev l::ag tb (fD u0)::aN 74 3 u0.ov no ol::ag w.heap.size aB::B::Cs) W)=>Cy S f.c f.rv f.rs code pav pxs hf.regs hargs hf.check hcsz hxl)
 have HS1:=kH S1
 have HKK:=kH hkk
 have HU0:=kH (And.intro hjvv (And.intro hov hjp))
 have HF:=kH hf
 have HM:=kH (And.intro hm (And.intro hmr hcells))
 have HRV:=kH (And.intro hrv (And.intro hpv hjvv))
 have HSV:=kH (And.intro hs1 (And.intro hs2 (And.intro hs3 (And.intro hs4 (And.intro hs5 (And.intro hs6 (And.intro hs7 (And.intro hs8 (And.intro hs9 hs10)))))))))
 obtain⟨av0,an0,ac0,hav0⟩:∃ a n c,pav=.slice a n c:=by
  obtain⟨a,c,h,-,-⟩:=(hargs _ S1.kept).slice
  exact⟨a,_,c,h⟩
 rw[hav0]at HJC HNEW
 have HHI:Hid (f.hi<=1024):=(zJ hf.check).2
 clear hsw hS S1 hf hjvv hov hjp hv hpv hrv hjl hjv htb hcell hjcell hpcell hjat hargs hjm hjd hcode hkk hm hmr hcells hjrow hs1 hs2 hs3 hs4 hs5 hs6 hs7 hs8 hs9 hs10
 unfold aB ptr at *
 go_enter Tryz.func7,Tryz.ntmps7
 go_wp2_with fail
 go_quiet(fail)
 go_upto_region 7 with(fail)
 have S2:=HS1.out.drewN nq
 generalize (w.alloc (.cells #[.int .i64 0,.int .i64 0,.int .i64 0,.bool false] 35 (0,0))).drewN nq=W1 at *
 obtain⟨hgj1,j0,j1⟩:=HJC.out _ S2.kept
 have e0:=(S2.pull [_,_,_]).cell 0
 have e5:=(S2.pull [_,_,_]).cell 5
 simp only[gt,gA,gZ,gS,HU0.out.1,HU0.out.2.1]at e0 e5
 have hlt1:=af (S2.pull [_,_,_]).h0
 have HS2:=kH S2
 clear S2 c8 c9 d0 d1 d5 hlt hltt g0 HS1
 go_region
 have S3:=(HS2.out.new (.cells #[.int .i64 (pn:Int),.slice av0 an0 ac0] 68 (0,0))).drew
 generalize (W1.alloc (.cells #[.int .i64 (pn:Int),.slice av0 an0 ac0] 68 (0,0))).drew=W2 at *
 generalize W1.heap.size=bx at *
 clear hgj1 j0 j1 e0 e5 hlt1 HS2
 obtain⟨hgp2,p0⟩:=HPC.out _ S3.kept
 have c0:=(S3.pull [_,_]).cell 0
 have c1:=(S3.pull [_,_]).cell 1
 have c2:=(S3.pull [_,_]).cell 2
 have c3:=(S3.pull [_,_]).cell 3
 have c4:=(S3.pull [_,_]).cell 4
 have c5:=(S3.pull [_,_]).cell 5
 have c6:=(S3.pull [_,_]).cell 6
 have c7:=(S3.pull [_,_]).cell 7
 have x0:=S3.cell 0
 have x1:=S3.cell 1
 simp only[lX,gA,gZ,gS,HSV.out.1,HSV.out.2.1,HSV.out.2.2.1,HSV.out.2.2.2.1,HSV.out.2.2.2.2.1,HSV.out.2.2.2.2.2.1,HSV.out.2.2.2.2.2.2.1,HSV.out.2.2.2.2.2.2.2.1,HRV.out.1,HRV.out.2.1]at c0 c1 c2 c3 c4 c5 c6 c7 x0 x1
 have hlt2:=af (S3.pull [_,_]).h0
 have hltx:=af S3.h0
 have hne1:tb≠wb:=fun e=>by
  have h1:=(S3.pull [_,_,_,_]).h0
  have h2:=(S3.pull [_,_]).h0
  simp only[ag]at h1 h2
  rw[e,h2]at h1
  simp[eH,fD]at h1
 have hne2:tb≠bx:=fun e=>by
  have h1:=(S3.pull [_,_,_,_]).h0
  have h2:=S3.h0
  simp only[ag]at h1 h2
  rw[e,h2]at h1
  simp[fD]at h1
 have hne3:tb≠gp:=fun e=>by
  have h1:=(S3.pull [_,_,_,_]).cell pn
  rw[e,p0]at h1
  simp only[gt,HU0.out.1,HU0.out.2.1,HU0.out.2.2]at h1
  rcases pn with _|_|_|_|_|_|_|_|n<;>simp at h1
 have S3b:=S3.push [_,_,_,_,_,_]
 have HN0:=kH (HNEW.out _ _ S3b)
 have HND:=kH (fun q=>HNEW.out _ _ (S3b.drewN q))
 unfold Plc.Cfg.val Plc.Cfg.cells at HN0 HND
 rw[HRV.out.1]at HN0 HND
 clear S3 S3b HNEW
 go_upto_region 8 with(fail)
 go_region_held3 (fun w'=>w'.cell? ⟨wb,0,none⟩=some (.int .i64 f.c.raw)/\w'.cell? ⟨wb,1,none⟩=some (.int .i64 f.c.ring)/\w'.cell? ⟨wb,2,none⟩=some (.int .i64 f.c.writes)/\w'.cell? ⟨wb,3,none⟩=some (.int .i64 f.c.stamps)/\w'.cell? ⟨wb,4,none⟩=some (.bool f.c.multi)/\w'.cell? ⟨wb,5,none⟩=some (.int .i64 f.c.tries)/\w'.cell? ⟨wb,6,none⟩=some (.slice rc f.rs.length rcap)/\w'.cell? ⟨wb,7,none⟩=some (.slice (some ⟨gp,0,none⟩) f.progs.length pcap)/\w'.cell? ⟨bx,0,none⟩=some (.int .i64 (pn:Int))/\w'.cell? ⟨bx,1,none⟩=some (.slice av0 an0 ac0)/\w'.cell? ⟨gp,pn,none⟩=some (.string code)) (go_keep) (first|(go_at_call 18;(first|refine HN0.out.mono ?_|refine(HND.out _).mono ?_);rintro e2 w2 ⟨x,rv,av',tx,F,rfl,S4⟩;clear c0 c1 c2 c3 c4 c5 c6 c7 x0 x1 p0;have c0:=(S4.pull [_,_,_,_,_,_,_,_,_]).cell 0;have c1:=(S4.pull [_,_,_,_,_,_,_,_,_]).cell 1;have c2:=(S4.pull [_,_,_,_,_,_,_,_,_]).cell 2;have c3:=(S4.pull [_,_,_,_,_,_,_,_,_]).cell 3;have c4:=(S4.pull [_,_,_,_,_,_,_,_,_]).cell 4;have c5:=(S4.pull [_,_,_,_,_,_,_,_,_]).cell 5;have c6:=(S4.pull [_,_,_,_,_,_,_,_,_]).cell 6;have c7:=(S4.pull [_,_,_,_,_,_,_,_,_]).cell 7;have x0:=(S4.pull [_,_,_,_,_,_,_,_,_,_,_,_,_,_]).cell 0;have x1:=(S4.pull [_,_,_,_,_,_,_,_,_,_,_,_,_,_]).cell 1;have t1:=(S4.pull [_,_,_,_,_,_,_,_,_,_,_]).cell 1;have tf1:=(S4.pull [_,_,_,_,_,_,_,_,_,_,_]).froz 1;simp only[lX,gt,gA,gZ,gS,HSV.out.1,HSV.out.2.1,HSV.out.2.2.1,HSV.out.2.2.2.1,HSV.out.2.2.2.2.1,HSV.out.2.2.2.2.2.1,HSV.out.2.2.2.2.2.2.1,HSV.out.2.2.2.2.2.2.2.1,HRV.out.1,HRV.out.2.1,HU0.out.2.2]at c0 c1 c2 c3 c4 c5 c6 c7 x0 x1 t1;obtain⟨hgp3,p0⟩:=HPC.out _ S4.kept;have hltt:=af (S4.pull [_,_,_,_,_,_,_,_,_,_,_]).h0;have HS4:=kH S4;clear S4;unfold ptr))
 have JA:=new_at (told:=([]:List bM)) (hi:=f.hi) HS4.out
 have JB:aZ w0 X (aG s.mp m L F2::cx rv (BT f.c f.rs code pxs).regs::ag wb (eH s)::bW s.ev l::ag tb (fD u0)::aN 74 3 u0.ov no ol::ag w.heap.size aB::ag bx (.cells #[.int .i64 (pn:Int),.slice av0 an0 ac0] 68 (0,0))::Cs) x (BT f.c f.rs code pxs) rv f.hi ([]:List bM) (.on (me f.cfg)) w2:=JA.sub fun Ps W h=>h.perm (List.Perm.append_left Ps (List.Perm.swap _ _ _))
 have JD:aZ w0 X (aG s.mp m L F2::cx rv (BT f.c f.rs code pxs).regs::ag wb (eH s)::bW s.ev l::ag tb (fD u0)::aN 74 3 u0.ov no ol::ag w.heap.size aB::Cs) x (BT f.c f.rs code pxs) rv f.hi ([]:List bM) (.on (me f.cfg)) w2:=JB.sub fun Ps W h=>by
  have h2:=ah.dropN (Ps++[_,_,_,_,_,_,_]) [_] (Bs:=Cs) (by rw[List.append_assoc];exact h)
  rw[List.append_assoc]at h2
  exact h2
 have JE:=aZ.setT [_,_,_,_] (s':={u0 with jp:=ptr x}) JD 1 (ptr x) (by simp[gt])
 clear JA JB JD
 unfold ptr at JE
 generalize w2.setCell ⟨tb,1,none⟩ (.pointer (some ⟨x,0,none⟩))=W3 at *
 have t2:=cell_of_row W3 tb 2 _ _ _ (JE.blkN [_,_,_,_])
 have tf2:=frozen_of_row W3 tb 2 _ _ (JE.blkN [_,_,_,_])
 simp only[gt,gA,gZ,gS]at t2
 have hltt3:=af (JE.blkN [_,_,_,_])
 have HJE:=kH JE
 clear JE c0 c1 c2 c3 c4 c5 c6 c7 x0 x1 p0 hgp3 HS4 HN0 HND hne1 hne2 hne3 hltt hlt2 hltx
 go_upto_region 10 with(fail)
 have J2:=aZ.setT [_,_,_,_] (s':={u0 with jp:=ptr x,taken:=0}) HJE.out 2 (.int .i64 0) (by simp[gt,ptr])
 generalize W3.setCell ⟨tb,2,none⟩ (.int .i64 0)=W1 at *
 clear t2 tf2 hltt3 HJE
 have hk:=HKK.out
 have HKC:Hid ((BT f.c f.rs code pxs).c=f.cfg/\(BT f.c f.rs code pxs).cells=f.hi):=⟨rfl,rfl⟩
 generalize BT f.c f.rs code pxs=k at *
 obtain⟨u,hu⟩:∃ u:ST,({u0 with jp:=ptr x,taken:=0}:ST)=u:=⟨_,rfl⟩
 rw[hu]at J2
 have hov0:u0.ov=u.ov:=by rw[<-hu]
 rw[hov0]at J2
 obtain⟨j,hjd⟩:∃ j,me f.cfg=j:=⟨_,rfl⟩
 rw[hjd]at J2
 have HJD:=kH hjd
 have hkc:k.cells<=m.cells.length:=by rw[HKC.out.2,HM.out.2.2];exact Int.le_refl _
 have HU:Hid (k.c=f.cfg/\KOk k f.hi/\k.cells<=m.cells.length/\u.jv=u0.jv/\u.tx=u0.tx/\u.stamp=u0.stamp/\u.steps=u0.steps/\u.waits=u0.waits):=by
  rw[<-hu]
  exact⟨HKC.out.1,hk,hkc,rfl,rfl,rfl,rfl,rfl⟩
 have HJ:Hid (u.jp=ptr x/\u.taken=(j.told.length:Nat)/\u.jv=.slice (some ⟨gj,0,none⟩) jl.length jcap/\u.ov=.slice oa no oc):=by
  rw[<-hu,<-hjd]
  exact⟨rfl,by simp[me,dY.told,cZ],HU0.out.1,HU0.out.2.1⟩
 have HJO:Hid (ix k.c j m):=by
  rw[<-hjd,<-HKC.out.1]
  exact zA hk.cfg (by rw[HM.out.2.1,HKC.out.1])
 have HMEM:Hid (aY m):=HM.out.1
 have ht:=HF.out.tabled
 have hX:=HF.out.low
 have hhi:f.hi<=m.cells.length/\f.hi<=1024:=⟨by rw[HM.out.2.2];exact Int.le_refl _,HHI.out⟩
 have hn:j.told.length<=1073000000:=by rw[<-hjd];simp[me,dY.told,cZ]
 have hs':(0<=s.opened/\s.opened<=1073741824)/\(0<=s.steps/\s.steps<=1073741824)/\(0<=u.steps/\u.steps<=1073741824)/\(0<=u.waits/\u.waits<=1073741824):=by rw[<-hu];exact hs
 have hst0:u.steps=u0.steps/\u.waits=u0.waits:=⟨HU.out.2.2.2.2.2.2.1,HU.out.2.2.2.2.2.2.2⟩
 have HST:=kH (fun(W:World) (J:aZ w0 X (aG s.mp m L F2::cx rv k.regs::ag wb (eH s)::bW s.ev l::ag tb (fD u)::aN 74 3 u.ov no ol::ag w.heap.size aB::Cs) x k rv f.hi ([]:List bM) (.on j) W)=>lJ J HJO.out hk ht hX hkc hhi (by omega) (by omega) (i:Int))
 have HST0:=kH hst0
 clear hs hu hov0 hjd hst0
 have hs:=hs'
 clear hs' HKC HKK HU0 HM
 have hwb:=J2.blkN [_,_]
 have htbk:=J2.blkN [_,_,_,_]
 have e8:=cell_of_row W1 wb 8 _ _ _ hwb
 have e1:=cell_of_row W1 tb 1 _ _ _ htbk
 simp only[lX,gt,gA,gZ,gS,HJ.out.1]at e8 e1
 unfold ptr at e8
 have hlt1:=af hwb
 have hlt2:=af htbk
 have HS0:=kH (HST.out _ J2)
 have HSD:=kH (fun q=>HST.out _ (J2.drewN q))
 have HSN:=kH (fun q (JJ:aZ w0 X (aG s.mp m L F2::cx rv k.regs::ag wb (eH s)::bW s.ev l::ag tb (fD u)::aN 74 3 u.ov no ol::ag w.heap.size aB::ag W1.heap.size aB::Cs) x k rv f.hi ([]:List bM) (.on j) ((W1.alloc aB).drewN q))=>lJ JJ HJO.out hk ht hX hkc hhi (by omega) (by omega) (i:Int))
 have HJN:=kH (fun q=>((J2.new aB).drewN q).sub (Cs':=aG s.mp m L F2::cx rv k.regs::ag wb (eH s)::bW s.ev l::ag tb (fD u)::aN 74 3 u.ov no ol::ag w.heap.size aB::ag W1.heap.size aB::Cs) fun Ps W h=>h.perm (List.Perm.append_left Ps (List.perm_append_comm_assoc [_] [_,_,_,_,_,_,_] Cs)))
 clear J2 hwb htbk
 go_cut[7]from 10 to 145 (fun v7 wc=>∃ a new m' nx F3 L' abx,v7=.pointer (some ⟨abx,0,none⟩)/\L'<=L+100/\gx k.c m j a new m' nx/\aZ w0 X (aG s.mp m' L' F3::cx rv k.regs::ag wb (eH s)::bW s.ev l::ag tb (fD u)::aN 74 3 u.ov no ol::ag w.heap.size aB::ag abx (aS a)::Cs) x k rv f.hi (j.told++new) nx wc)
 case first =>
  unfold aB ptr at *
  go_region_with(first|(go_at_call 19;(first|refine HS0.out.mono ?_|refine(HSD.out _).mono ?_);rintro e2 w2 ⟨a,new,m',nx,F3,L',hL',rfl,hstep,J3⟩;unfold aM.val;have HJ3:=kH J3;have HSTP:=kH hstep;clear J3 hstep)|(go_at_call 19;refine(HSN.out _ (HJN.out _)).mono ?_;rintro e2 w2 ⟨a,new,m',nx,F3,L',hL',rfl,hstep,J3⟩;unfold aM.val;obtain⟨⟨a0,a1,a2,a3⟩,⟨g0,g1,g2,g3⟩⟩:=cw (J3.blkN [_,_,_,_,_,_,_]);have HJ4:=kH J3;have HSTP:=kH hstep;clear J3 hstep))
  all_goals
   go_wp2
   go_meet
   case rel =>
    first
     | exact⟨a,new,m',nx,F3,L',_,rfl,hL',HSTP.out,(HJ3.out.new (aS a)).sub fun Ps W h=>h.perm (List.Perm.append_left Ps (List.perm_append_comm_assoc [_] [_,_,_,_,_,_,_] Cs))⟩
     | exact⟨a,new,m',nx,F3,L',_,rfl,hL',HSTP.out,aZ.set4 [_,_,_,_,_,_,_] a HJ4.out⟩
 case rest =>
  clear e8 e1 hlt1 hlt2 HS0 HSD HSN HJN
  obtain⟨a,new,m',nx,F3,L',abx,rfl,hL',hstep,J3⟩:=hcut
  have hlen:=oD hk.cfg HMEM.out HJO.out hstep
  obtain⟨pf,st,cs,ts,t,F,old,E,htl,hts,hov,hS,hcl⟩:=J3.open (fun j' e=>by subst e;exact fz hstep)
  have hll:(old++t.told).length=j.told.length+new.length:=by rw[htl,List.length_append]
  have hll2:old.length+t.told.length=j.told.length+new.length:=by rw[<-hll,List.length_append]
  have HTK:=kH (se hS (n:=j.told.length) HJ.out.1 HJ.out.2.1 (by omega) (by omega) (by omega) (by omega) ⟨hs.1.1,by omega⟩ (i:Int))
  rw[htl,show(j.told++new).drop j.told.length=new by simp]at HTK
  have HCL:=kH hcl
  have HSTP:=kH hstep
  have HNX:=kH (And.intro hts hov)
  have HLL:=kH (And.intro hlen hll)
  have hltw3:=af (J3.blkN [_,_])
  have hltt3:=af (J3.blkN [_,_,_,_])
  have hlta3:=af (J3.blkN [_,_,_,_,_,_,_])
  clear J3 hS hcl hstep htl hts hov hll hll2 hlen
  unfold ptr at HTK
  go_wp2_with fail
  refine HTK.out.mono ?_
  rintro e3 w3 ⟨rfl,ev',F',S4⟩
  have J5:=HCL.out _ _ _ S4
  obtain⟨σ,hσ⟩:∃ σ,new.foldl eu ⟨s.opened,u.tx,u.stamp⟩=σ:=⟨_,rfl⟩
  rw[hσ]at J5
  have HSG:=kH hσ
  obtain⟨tl,htl⟩:∃ tl,dF s.steps (i:Int) ⟨s.opened,u.tx,u.stamp⟩ new=tl:=⟨_,rfl⟩
  rw[htl]at J5
  have HTL:=kH htl
  have htbk:=J5.blkN [_,_,_,_]
  have hwbk:=J5.blkN [_,_]
  have habk:=J5.blkN [_,_,_,_,_,_,_]
  have d6:=cell_of_row w3 tb 6 _ _ _ htbk
  have q6:=frozen_of_row w3 tb 6 _ _ htbk
  have y0:=cell_of_row w3 abx 0 _ _ _ habk
  simp only[gt,gA,gZ,gS]at d6 y0
  have hltw:=af hwbk
  have hltt:=af htbk
  have hlta:=af habk
  have J6:=J5.setT [_,_,_,_] (s':={u with taken:=((j.told++new).length:Int),tx:=σ.tx,stamp:=σ.stamp,steps:=u.steps+1}) 6 (.int .i64 (u.steps+1)) (by simp[gt])
  have HJ6:=kH J6
  have hw6:IntKind.i64.wrap (u.steps+1)=u.steps+1:=IntWalk.i64_in _ (by omega)
  have hw7:IntKind.i64.wrap (u.waits+1)=u.waits+1:=IntWalk.i64_in _ (by omega)
  have hw12:IntKind.i64.wrap (s.steps+1)=s.steps+1:=IntWalk.i64_in _ (by omega)
  have hnet:tb≠abx:=fun e=>by rw[e,habk]at htbk;simp[aS,fD]at htbk
  clear J5 J6 S4 HTK HCL hσ htl htbk hwbk habk hltw3 hltt3 hlta3
  go_upto_if 108 with(fail)
  have J7:=HJ6.out
  generalize w3.setCell ⟨tb,6,none⟩ (.int .i64 (u.steps+1))=W4 at *
  have htbk:=J7.blkN [_,_,_,_]
  have d7:=cell_of_row W4 tb 7 _ _ _ htbk
  have q7:=frozen_of_row W4 tb 7 _ _ htbk
  simp only[gt,gA,gZ,gS]at d7
  have hltt4:=af htbk
  clear htbk d6 q6 y0 J7
  go_cut[]from 10 to 145 (fun wd=>∃ wt:Int,(0<=wt/\wt<=u.waits+1)/\aZ w0 X (aG s.mp m' L' F3::cx rv k.regs::ag wb (eH {s with ev:=ev',opened:=σ.opened})::bW ev' (l++tl)::ag tb (fD {u with taken:=((j.told++new).length:Int),tx:=σ.tx,stamp:=σ.stamp,steps:=u.steps+1,waits:=wt})::aN 74 3 u.ov no ol::ag w.heap.size aB::ag abx (aS a)::Cs) x k rv f.hi (j.told++new) nx wd)
  case first =>
   by_cases ha1:a.kind=1
   ·have ha1':(a.kind == 1)=true:=by simp[ha1]
    clear ha1
    go_wp2
    go_meet
    case rel=>exact⟨u.waits+1,by omega,aZ.setT [_,_,_,_] (s':={u with taken:=((j.told++new).length:Int),tx:=σ.tx,stamp:=σ.stamp,steps:=u.steps+1,waits:=u.waits+1}) HJ6.out 7 (.int .i64 (u.waits+1)) (by simp[gt])⟩
   ·have ha1':(a.kind == 1)=false:=by simp[ha1]
    clear ha1
    go_wp2
    go_meet
    case rel=>exact⟨u.waits,by omega,HJ6.out⟩
  case rest =>
   obtain⟨wt,hwt,J8⟩:=hcut
   clear HJ6 d7 q7 hltt4 hltw hltt hlta hnet
   have hwbk:=J8.blkN [_,_]
   have d12:=cell_of_row wc wb 12 _ _ _ hwbk
   have q12:=frozen_of_row wc wb 12 _ _ hwbk
   simp only[lX,gA,gZ,gS]at d12
   have hltw:=af hwbk
   have J9:=J8.setW [_,_] (s':={s with ev:=ev',opened:=σ.opened,steps:=s.steps+1}) 12 (.int .i64 (s.steps+1)) (by simp[lX])
   have HJ9:=kH J9
   clear J8 J9 hwbk
   go_upto_region 16 with(fail)
   have J9:=HJ9.out
   generalize wc.setCell ⟨wb,12,none⟩ (.int .i64 (s.steps+1))=W9 at *
   have htbk:=J9.blkN [_,_,_,_]
   have d1:=cell_of_row W9 tb 1 _ _ _ htbk
   simp only[gt,gA,gZ,gS,HJ.out.1]at d1
   have hltt:=af htbk
   obtain⟨pf,st,cs,ts,t,F,old,E,htl,hts,hov,hS,hcl⟩:=J9.open (fun j' e=>by subst e;exact fz HSTP.out)
   have HCL:=kH hcl
   clear J9 htbk d12 q12 hltw HJ9 htl hcl HNX
   cases nx with
   | on j' =>
    have HO:=kH (rp hS hov)
    clear hS hov hts
    unfold AE ptr at HO
    go_wp2_with fail
    refine HO.out.mono ?_
    rintro e5 w5 ⟨rfl,S5⟩
    have J10:=HCL.out _ _ _ S5
    obtain⟨⟨x0,x1,x2,x3⟩,-⟩:=cw (J10.blkN [_,_,_,_,_,_,_])
    obtain⟨⟨y0,y1,y2,y3⟩,⟨z0,z1,z2,z3⟩⟩:=cw (J10.blkN [_,_,_,_,_,_])
    have hlta:=af (J10.blkN [_,_,_,_,_,_,_])
    have hltr:=af (J10.blkN [_,_,_,_,_,_])
    have HJ10:=kH J10
    clear J10 S5 HO HCL d1
    go_wp2
    have J11:=(aZ.set4 [_,_,_,_,_,_] a HJ10.out).alloc (.cells #[.int .i64 0,.int .i64 0,.slice none 0 0] 74 (0,0))
    have hJT:=fz HSTP.out
    refine bodyPost_ret (results_cell_row rfl _ _ _ _ _ _ _ rfl (J11.blkN [_,_,_,_,_,_]) Tryz.underlying35 rfl cK) rfl ⟨x,k,rv,u,HU.out.1,HU.out.2.1,HU.out.2.2.1,HU.out.2.2.2.1,HU.out.2.2.2.2.1,HU.out.2.2.2.2.2.1,HU.out.2.2.2.2.2.2.1,HU.out.2.2.2.2.2.2.2,a,new,m',.on j',F3,L',ev',{u with taken:=((j.told++new).length:Int),tx:=σ.tx,stamp:=σ.stamp,steps:=u.steps+1,waits:=wt},hL',rfl,(by rw[HJD.out];exact HSTP.out),rfl,by rw[HSG.out],by rw[HSG.out],by dsimp only;omega,hwt,HJ.out.1,by rw[hJT],?_⟩
    rw[HSG.out,HTL.out]
    exact J11.sub fun Ps W h=>by
     have h2:=ah.dropN (Ps++[_,_,_,_,_,_]) [_,_] (Bs:=Cs) (by rw[List.append_assoc];exact h)
     rw[List.append_assoc]at h2
     exact h2
   | over =>
    have HO:=kH (nO hS hov (by omega))
    clear hS hov hts HCL
    unfold AE ptr at HO
    obtain⟨on1,hon⟩:∃ z,pf.nth=z:=⟨_,rfl⟩
    obtain⟨oe1,hoe⟩:∃ z,pf.err=z:=⟨_,rfl⟩
    rw[hon,hoe]at HO
    clear hon hoe
    go_wp2_with fail
    refine HO.out.mono ?_
    rintro e5 w5 ⟨oa2,on2,oc2,rfl,S5⟩
    have S6:ah w0 X (aG s.mp m' L' F3::cx rv k.regs::ag wb (eH {s with ev:=ev',opened:=σ.opened,steps:=s.steps+1})::bW ev' (l++tl)::ag tb (fD {u with taken:=((j.told++new).length:Int),tx:=σ.tx,stamp:=σ.stamp,steps:=u.steps+1,waits:=wt})::aN 74 3 u.ov no ol::ag w.heap.size aB::ag abx (aS a)::Cs) w5 :=
     ah.dropN [] (jC x k pf st cs ts old t F E) (by rw[List.nil_append];simpa[jC,pC]using S5)
    have d5:=(S6.pull [_,_,_,_]).cell 5
    have d1':=(S6.pull [_,_,_,_]).cell 1
    have q5:=(S6.pull [_,_,_,_]).froz 5
    have q1:=(S6.pull [_,_,_,_]).froz 1
    simp only[gt,gA,gZ,gS,HJ.out.1]at d5 d1'
    have hltt5:=af (S6.pull [_,_,_,_]).h0
    have HRO:Hid (aD w5 74 3 u.ov no ol):=(S6.pull [_,_,_,_,_]).h0
    have HS6:=kH S6
    obtain⟨i0,yi,yz0,yz1,yz2⟩:=info_parts vQ
    clear S5 S6 HO d1
    go_wp2_with fail
    have S7:=HS6.out.new (.cells #[.int .i64 on1,.int .i64 oe1,.slice oa2 on2 oc2] 74 (0,0))
    generalize hbx:w5.heap.size=bx at *
    generalize w5.alloc (.cells #[.int .i64 on1,.int .i64 oe1,.slice oa2 on2 oc2] 74 (0,0))=W6 at *
    clear hbx d5 d1' q5 q1 hltt5 HRO
    have x0:=S7.cell 0
    have x1:=S7.cell 1
    have x2:=S7.cell 2
    simp only[gA,gZ,gS]at x0 x1 x2
    have d5:=(S7.pull [_,_,_,_,_]).cell 5
    have q5:=(S7.pull [_,_,_,_,_]).froz 5
    simp only[gt,gA,gZ,gS]at d5
    have hltb:=af S7.h0
    have hltt5:=af (S7.pull [_,_,_,_,_]).h0
    have HRO:Hid (aD W6 74 3 u.ov no ol):=(S7.pull [_,_,_,_,_,_]).h0
    have HS7:=kH S7
    clear S7 HS6
    go_region_law(refine step_append_lies _ rfl (.tmp 136) (.tmp 138) 63 rfl 0 74 i0 _ 3 40 Tryz.underlying63 yi yz0 yz1 yz2 rfl (by decide) u.ov no ol rfl (World.ownsRow.alloc (w:=W6.drewN _) HRO.out _) ⟨W6.heap.size,0,none⟩ 1 1 [.int .i64 on1,.int .i64 oe1,.slice oa2 on2 oc2] rfl rfl (fun j u hu=>cG (ar rfl) j u hu) (by simp[Value.oneCell']) (by decide) (by unfold maxLen;omega) (by omega) (Nat.zero_le _) _ rfl ?_;intro g5 cap5 w7 hown5 hgrow5 hat5 hgl5;have S8:=(((HS7.out.drewN _).alloc _).pull [_,_,_,_,_,_]).append hgrow5 hown5 hat5 (Nat.le_refl _);have k5:=(S8.pull [_,_,_,_,_,_]).cell 5;have r5:=(S8.pull [_,_,_,_,_,_]).froz 5;simp only[gt,gA,gZ,gS]at k5;have HS8:=kH S8;clear S8)
    all_goals
     have S9:=(HS8.out.pull [_,_,_,_,_,_]).tset (s':={u with taken:=((j.told++new).length:Int),tx:=σ.tx,stamp:=σ.stamp,steps:=u.steps+1,waits:=wt,ov:=.slice (some ⟨g5,0,none⟩) (no+1) cap5}) 5 (.slice (some ⟨g5,0,none⟩) (no+1) cap5) (by simp[gt])
     generalize w7.setCell ⟨tb,5,none⟩ (.slice (some ⟨g5,0,none⟩) (no+1) cap5)=W8 at *
     have m1:=S9.cell 1
     have r1:=S9.froz 1
     simp only[gt,gA,gZ,gS,HJ.out.1]at m1
     have hltt8:=af S9.h0
     obtain⟨⟨y0,y1,y2,y3⟩,-⟩:=cw (S9.pull [_,_,_,_,_,_,_,_]).h0
     obtain⟨⟨z0,z1,z2,z3⟩,⟨v0,v1,v2,v3⟩⟩:=cw (S9.pull [_,_,_,_,_,_,_]).h0
     have hlta8:=af (S9.pull [_,_,_,_,_,_,_,_]).h0
     have hltr8:=af (S9.pull [_,_,_,_,_,_,_]).h0
     have hne1:tb≠abx:=fun e=>by
      have h1:W8.heap[tb]?=some (fD _):=S9.h0
      have h2:W8.heap[abx]?=some (aS a):=(S9.pull [_,_,_,_,_,_,_,_]).h0
      rw[e,h2]at h1
      simp[aS,fD]at h1
     have hne2:tb≠w.heap.size:=fun e=>by
      have h1:W8.heap[tb]?=some (fD _):=S9.h0
      have h2:W8.heap[w.heap.size]?=some (.cells #[.int .i64 0,.int .i64 0,.int .i64 0,.bool false] 35 (0,0)):=(S9.pull [_,_,_,_,_,_,_]).h0
      rw[e,h2]at h1
      simp[fD]at h1
     have S10:=S9.tset (s':={u with taken:=((j.told++new).length:Int),tx:=σ.tx,stamp:=σ.stamp,steps:=u.steps+1,waits:=wt,ov:=.slice (some ⟨g5,0,none⟩) (no+1) cap5,jp:=.pointer none}) 1 (.pointer none) (by simp[gt])
     have HS10:=kH S10
     clear S9 S10 HS8 k5 r5 hown5 hgrow5 hat5 x0 x1 x2 d5 q5 HRO
     go_wp2
     refine ah.ret a rfl (HS10.out.pull [_,_,_,_,_,_,_]) rfl rfl fun W' SF=>⟨x,k,rv,u,HU.out.1,HU.out.2.1,HU.out.2.2.1,HU.out.2.2.2.1,HU.out.2.2.2.2.1,HU.out.2.2.2.2.2.1,HU.out.2.2.2.2.2.2.1,HU.out.2.2.2.2.2.2.2,a,new,m',.over,F3,L',ev',{u with taken:=((j.told++new).length:Int),tx:=σ.tx,stamp:=σ.stamp,steps:=u.steps+1,waits:=wt,ov:=.slice (some ⟨g5,0,none⟩) (no+1) cap5,jp:=.pointer none},hL',rfl,(by rw[HJD.out];exact HSTP.out),rfl,by rw[HSG.out],by rw[HSG.out],by dsimp only;omega,hwt,rfl,ol++[.int .i64 on1,.int .i64 oe1,.slice oa2 on2 oc2],?_⟩
     have T0:ah w0 X (_::_::_::_::_::_::_::_::Cs) W':=SF
     have T1:ah w0 X (_::_::_::_::_::_::_::_::Cs) W':=ah.pull [_] T0
     clear T0
     have T2:ah w0 X (_::_::_::_::_::_::_::_::Cs) W':=ah.pull [_] T1
     clear T1
     have T3:ah w0 X (_::_::_::_::_::_::_::_::Cs) W':=ah.pull [_,_,_,_,_,_] T2
     clear T2
     have T4:ah w0 X (_::_::_::_::_::_::_::_::Cs) W':=ah.pull [_,_,_,_,_,_] T3
     clear T3
     have T5:ah w0 X (_::_::_::_::_::_::_::_::Cs) W':=ah.pull [_,_,_,_,_] T4
     clear T4
     have T6:ah w0 X (_::_::_::_::_::_::_::_::Cs) W':=ah.pull [_,_,_,_,_,_,_] T5
     clear T5
     have T7:ah w0 X (_::_::_::_::_::_::_::_::Cs) W':=ah.pull [_,_,_,_,_,_,_] T6
     clear T6
     have T8:ah w0 X (_::_::_::_::_::_::_::_::Cs) W':=ah.pull [_,_,_,_,_,_,_] T7
     clear T7
     have T9:=T8.drop.drop.drop
     rw[HSG.out,HTL.out]
     exact T9
end
end Go.Proofs.YtgfogfciobmmpaaGreatDoor
