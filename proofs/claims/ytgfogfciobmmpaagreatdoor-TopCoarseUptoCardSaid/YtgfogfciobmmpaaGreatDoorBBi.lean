/- A part of the proof of a law of carouseltop: Sch1. -/
import Derived.Test.YtgfogfciobmmpaaGreatDoorBBh
import Derived.Deep.CutRange
set_option linter.unusedSimpArgs false
set_option linter.unusedVariables false
set_option maxRecDepth 100000
set_option maxHeartbeats 8000000
namespace Go.Proofs.YtgfogfciobmmpaaGreatDoor
open Go.RowKit
section
variable {w0:World}{X:List Nat}{Cs:List aw}{w:World}{x p L:Nat}{k:cl}{f:PF}{st cs ts:List Int}{t:bZ}{F F2:List Nat}{old:List bM}{m:au}{rv:Value}{hi:Int}
theorem aZ.rowN(As:List aw){e:TypeId}{sz:Nat}{v:Value}{n:Nat}{xs:List Value}{Bs:List aw}{told:List bM}{nx:cM}(h:aZ w0 X (As++aN e sz v n xs::Bs) x k rv hi told nx w):aD w e sz v n xs:=by
 cases nx with
 | on j =>
  obtain⟨f',st,cs,ts,F',h1,h2,⟨h3,hS⟩|⟨K,pa,am,FA,h3,h4,h5,h6,hS⟩⟩:=h
  ·exact(ah.pull ([_,_,_,_,_,_,_]++As) hS).h0
  ·exact(ah.pull ([_,_,_,_,_,_,_,_]++As) hS).h0
 | over =>
  obtain⟨f',st,cs,ts,t,F',old,h1,h2,h3,hS⟩:=h
  exact(ah.pull ([_,_,_,_,_,_,_]++As) hS).h0
theorem aZ.set4(As:List aw){g:Nat}{a0 b0 c0 d0:Value}{Bs:List aw}{told:List bM}{nx:cM}(a:aM)(h:aZ w0 X (As++ag g (.cells #[a0,b0,c0,d0] 35 (0,0))::Bs) x k rv hi told nx w) :
  aZ w0 X (As++ag g (aS a)::Bs) x k rv hi told nx ((((w.setCell ⟨g,0,none⟩ (.int .i64 a.kind)).setCell ⟨g,1,none⟩ (.int .i64 a.err)).setCell ⟨g,2,none⟩ (.int .i64 a.value)).setCell ⟨g,3,none⟩ (.bool a.access)):=by
 cases nx with
 | on j =>
  obtain⟨f',st,cs,ts,F',h1,h2,⟨h3,hS⟩|⟨K,pa,am,FA,h3,h4,h5,h6,hS⟩⟩:=h
  ·exact⟨f',st,cs,ts,F',h1,h2,.inl ⟨h3,(((((((ah.pull ([ag x (bm k f'),cI f'.sv st,cI f'.cv cs,cI f'.tv ts,cI f'.av k.args,bW f'.ov (bb j.old),jQ f'.tx j.tx F']++As) hS).set 0 (.int .i64 a.kind)).set 1 (.int .i64 a.err)).set 2 (.int .i64 a.value)).set 3 (.bool a.access)).eqO (B:=#[.int .i64 a.kind,.int .i64 a.err,.int .i64 a.value,.bool a.access]) (by simp)).push ([ag x (bm k f'),cI f'.sv st,cI f'.cv cs,cI f'.tv ts,cI f'.av k.args,bW f'.ov (bb j.old),jQ f'.tx j.tx F']++As))⟩⟩
  ·exact⟨f',st,cs,ts,F',h1,h2,.inr ⟨K,pa,am,FA,h3,h4,h5,h6,(((((((ah.pull ([ag x (bm k f'),cI f'.sv st,cI f'.cv cs,cI f'.tv ts,cI f'.av k.args,bW f'.ov (bb j.old),jQ f'.tx j.tx F',fV K pa am FA]++As) hS).set 0 (.int .i64 a.kind)).set 1 (.int .i64 a.err)).set 2 (.int .i64 a.value)).set 3 (.bool a.access)).eqO (B:=#[.int .i64 a.kind,.int .i64 a.err,.int .i64 a.value,.bool a.access]) (by simp)).push ([ag x (bm k f'),cI f'.sv st,cI f'.cv cs,cI f'.tv ts,cI f'.av k.args,bW f'.ov (bb j.old),jQ f'.tx j.tx F',fV K pa am FA]++As))⟩⟩
 | over =>
  obtain⟨f',st,cs,ts,t,F',old,h1,h2,h3,hS⟩:=h
  exact⟨f',st,cs,ts,t,F',old,h1,h2,h3,(((((((ah.pull ([ag x (bm k f'),cI f'.sv st,cI f'.cv cs,cI f'.tv ts,cI f'.av k.args,bW f'.ov (bb old),jQ f'.tx t F']++As) hS).set 0 (.int .i64 a.kind)).set 1 (.int .i64 a.err)).set 2 (.int .i64 a.value)).set 3 (.bool a.access)).eqO (B:=#[.int .i64 a.kind,.int .i64 a.err,.int .i64 a.value,.bool a.access]) (by simp)).push ([ag x (bm k f'),cI f'.sv st,cI f'.cv cs,cI f'.tv ts,cI f'.av k.args,bW f'.ov (bb old),jQ f'.tx t F']++As))⟩
theorem aZ.set(As:List aw){g:Nat}{A:Array Value}{ty:TypeId}{Bs:List aw}{told:List bM}{nx:cM}(h:aZ w0 X (As++ag g (.cells A ty (0,0))::Bs) x k rv hi told nx w)(i:Nat)(v:Value) :
  aZ w0 X (As++ag g (.cells (A.setIfInBounds i v) ty (0,0))::Bs) x k rv hi told nx (w.setCell ⟨g,i,none⟩ v):=by
 cases nx with
 | on j =>
  obtain⟨f',st,cs,ts,F',h1,h2,⟨h3,hS⟩|⟨K,pa,am,FA,h3,h4,h5,h6,hS⟩⟩:=h
  ·exact⟨f',st,cs,ts,F',h1,h2,.inl ⟨h3,((ah.pull ([ag x (bm k f'),cI f'.sv st,cI f'.cv cs,cI f'.tv ts,cI f'.av k.args,bW f'.ov (bb j.old),jQ f'.tx j.tx F']++As) hS).set i v).push ([ag x (bm k f'),cI f'.sv st,cI f'.cv cs,cI f'.tv ts,cI f'.av k.args,bW f'.ov (bb j.old),jQ f'.tx j.tx F']++As)⟩⟩
  ·exact⟨f',st,cs,ts,F',h1,h2,.inr ⟨K,pa,am,FA,h3,h4,h5,h6,((ah.pull ([ag x (bm k f'),cI f'.sv st,cI f'.cv cs,cI f'.tv ts,cI f'.av k.args,bW f'.ov (bb j.old),jQ f'.tx j.tx F',fV K pa am FA]++As) hS).set i v).push ([ag x (bm k f'),cI f'.sv st,cI f'.cv cs,cI f'.tv ts,cI f'.av k.args,bW f'.ov (bb j.old),jQ f'.tx j.tx F',fV K pa am FA]++As)⟩⟩
 | over =>
  obtain⟨f',st,cs,ts,t,F',old,h1,h2,h3,hS⟩:=h
  exact⟨f',st,cs,ts,t,F',old,h1,h2,h3,((ah.pull ([ag x (bm k f'),cI f'.sv st,cI f'.cv cs,cI f'.tv ts,cI f'.av k.args,bW f'.ov (bb old),jQ f'.tx t F']++As) hS).set i v).push ([ag x (bm k f'),cI f'.sv st,cI f'.cv cs,cI f'.tv ts,cI f'.av k.args,bW f'.ov (bb old),jQ f'.tx t F']++As)⟩
theorem aZ.setW(As:List aw){wb:Nat}{s s':SW}{Bs:List aw}{told:List bM}{nx:cM}(h:aZ w0 X (As++ag wb (eH s)::Bs) x k rv hi told nx w)(i:Nat)(v:Value)(he:(lX s).setIfInBounds i v=lX s') :
  aZ w0 X (As++ag wb (eH s')::Bs) x k rv hi told nx (w.setCell ⟨wb,i,none⟩ v):=by
 have h6:=aZ.set As (A:=lX s) h i v
 rw[he]at h6
 exact h6
theorem aZ.setT(As:List aw){tb:Nat}{s s':ST}{Bs:List aw}{told:List bM}{nx:cM}(h:aZ w0 X (As++ag tb (fD s)::Bs) x k rv hi told nx w)(i:Nat)(v:Value)(he:(gt s).setIfInBounds i v=gt s') :
  aZ w0 X (As++ag tb (fD s')::Bs) x k rv hi told nx (w.setCell ⟨tb,i,none⟩ v):=by
 have h6:=aZ.set As (A:=gt s) h i v
 rw[he]at h6
 exact h6
theorem aZ.memOk{told:List bM}{nx:cM}(h:aZ w0 X (aG p m L F2::Cs) x k rv hi told nx w):aY m:=by
 cases nx with
 | on j =>
  obtain⟨f',st,cs,ts,F',h1,h2,⟨h3,hS⟩|⟨K,pa,am,FA,h3,h4,h5,h6,hS⟩⟩:=h
  ·exact(ah.turn [_,_,_,_,_,_,_] [_] hS).h0.ok
  ·exact(ah.turn [_,_,_,_,_,_,_,_] [_] hS).h0.ok
 | over =>
  obtain⟨f',st,cs,ts,t,F',old,h1,h2,h3,hS⟩:=h
  exact(ah.turn [_,_,_,_,_,_,_] [_] hS).h0.ok
theorem oD{c:cN}{j:dY}{a:aM}{new:List bM}{m m':au}{nx:cM}(hc:co c)(hm:aY m)(hj:ix c j m)(h:gx c m j a new m' nx):new.length<=300:=by
 cases h with
 | @begin a new t' m' nx hb hd ht hcm =>
  obtain⟨hw,hp⟩:=hj.fresh hb
  have hf:cz m j.tx ⟨1,0,0,0⟩=true:=by
   unfold cz
   simp[hp,hj.tx.mring.trans hj.tx.cfg.1.symm]
  have h1:=(nv hc hm hj.tx hw hf aK).len
  rw[hd]at h1
  simp only[ht,List.length_append]at h1
  omega
 | @go a new t' m' nx hb hw hd ht hcm =>
  have h1:=(qi hc hm hj.tx hw).len
  rw[hd]at h1
  simp only[ht,List.length_append]at h1
  omega
 | @quiet n t' new fin hb hw hq hn ht =>
  obtain⟨add,k1,k2,k3,k4,k5,k6⟩:=eQ hc hm hq hj.tx hw (hj.runs hb)
  obtain rfl:new=add:=List.append_cancel_left (ht.symm.trans k1)
  unfold most at hn
  omega
 | @want n t1 x a t' m' new nx hb hw hq hn hf hx1 hv hd ht hcm =>
  obtain⟨add,k1,k2,k3,k4,k5,k6⟩:=eQ hc hm hq hj.tx hw (hj.runs hb)
  have h1:=(nv hc hm k4 k5 hf hv).len
  rw[hd]at h1
  simp only[ht,k1,List.length_append]at h1
  unfold most at hn
  omega
theorem vQ:(Tryz.prog.info? 74).map (fun i=>(i.zero,i.size,i.bytes))=some (some (.agg #[.int .i64 0,.int .i64 0,.slice none 0 0]),3,40):=by kernel_rfl
def pT(w0:World)(X:List Nat)(Cs:List aw)(wb tb:Nat)(s:SW)(u:ST)(l:List dh)(no:Nat)(ol:List Value)(x:Nat)(k:cl)(rv:Value)(hi:Int)(j:dY)(m:au)(L:Nat)(th:Int)(e:Ending)(w':World):Prop :=
 ∃ (a:aM) (new:List bM) (m':au) (nx:cM) (F2:List Nat) (L':Nat) (ev':Value) (u':ST),L'<=L+100/\e=.returned a.val/\gx k.c m j a new m' nx/\u'.jv=u.jv /\
  u'.tx=(new.foldl eu ⟨s.opened,u.tx,u.stamp⟩).tx/\u'.stamp=(new.foldl eu ⟨s.opened,u.tx,u.stamp⟩).stamp/\(0<=u'.steps/\u'.steps<=u.steps+1)/\(0<=u'.waits/\u'.waits<=u.waits+1) /\
  (match nx with
  | .on j'=>u'.jp=ptr x/\u'.taken=((j'.told.length:Nat):Int)/\aZ w0 X (aG s.mp m' L' F2::cx rv k.regs::ag wb (eH {s with ev:=ev',opened:=(new.foldl eu ⟨s.opened,u.tx,u.stamp⟩).opened,steps:=s.steps+1})::bW ev' (l++dF s.steps th ⟨s.opened,u.tx,u.stamp⟩ new)::ag tb (fD u')::aN 74 3 u'.ov no ol::Cs) x k rv hi j'.told (.on j') w'
  | .over=>u'.jp=.pointer none/\∃ ol',ah w0 X (aG s.mp m' L' F2::ag wb (eH {s with ev:=ev',opened:=(new.foldl eu ⟨s.opened,u.tx,u.stamp⟩).opened,steps:=s.steps+1})::bW ev' (l++dF s.steps th ⟨s.opened,u.tx,u.stamp⟩ new)::ag tb (fD u')::aN 74 3 u'.ov (no+1) ol'::Cs) w')
attribute [local go_sem] ip
theorem Step_on{s:SW}{u:ST}{l:List dh}{wb tb i no nj:Nat}{ol:List Value}{tbs:List Nat}{j:dY}{told:List bM}(hJ:aZ w0 X (aG s.mp m L F2::cx rv k.regs::ag wb (eH s)::bW s.ev l::ag tb (fD u)::aN 74 3 u.ov no ol::Cs) x k rv hi told (.on j) w)
  (hj:ix k.c j m) (hk:KOk k hi) (ht:Cod.Tabled w0) (hX:0∉X) (hkc:k.cells<=m.cells.length) (hhi:hi<=m.cells.length/\hi<=1024) (hn:j.told.length<=1073000000) (hL:L<=1073000000) (hl:l.length<=1073000000) (hnob:no<=1000)
  (hjp:u.jp=ptr x) (htk:u.taken=(j.told.length:Nat)) (hjv:∃ a c,u.jv=.slice a nj c) (hno:no<nj) (hthr:∀ W,aQ X w0 W->aD W 60 1 s.tv tbs.length (tbs.map ptr)) (hil:i<tbs.length) (htb:tbs[i]?=some tb)
  (hs:(0<=s.opened/\s.opened<=1073741824)/\(0<=s.steps/\s.steps<=1073741824)/\(0<=u.steps/\u.steps<=1073741824)/\(0<=u.waits/\u.waits<=1073741824)) :
  Calls Tryz.prog 7 #[ptr wb,.int .i64 (i:Int)] w (pT w0 X Cs wb tb s u l no ol x k rv hi j m L (i:Int)):=by
 have J1:aZ w0 X (aG s.mp m L F2::cx rv k.regs::ag wb (eH s)::bW s.ev l::ag tb (fD u)::aN 74 3 u.ov no ol::ag w.heap.size aB::Cs) x k rv hi told (.on j) (w.alloc aB) :=
  (hJ.new aB).sub fun Ps W h=>h.perm (List.Perm.append_left Ps (List.perm_append_comm_assoc [_] [_,_,_,_,_,_] Cs))
 have hwb:=J1.blkN [_,_]
 have htbk:=J1.blkN [_,_,_,_]
 have hwc:=fun q=>cell_of_row (w.alloc aB) wb q _ _ _ hwb
 have htc:=fun q=>cell_of_row (w.alloc aB) tb q _ _ _ htbk
 have c8:=hwc 8
 have c9:=hwc 9
 have d0:=htc 0
 have d1:=htc 1
 have d5:=htc 5
 simp only[lX,gt,gA,gZ,gS,hjp]at c8 c9 d0 d1 d5
 have hlt:=af hwb
 have hltt:=af htbk
 obtain⟨ja,jc,hjv⟩:=hjv
 obtain⟨oa,oc,hov,-,-⟩:=(aZ.rowN [_,_,_,_,_] J1).slice
 rcases(hthr _ J1.kept).parts with⟨-,h2,-⟩|⟨g,cap,hv,hnc,hcm,hg,hcell⟩
 ·omega
 have g0:=hcell i (ptr tb) (by rw[List.getElem?_map,htb];rfl)
 rw[hv]at c9
 rw[hjv]at d0
 rw[hov]at d5
 have hilI:(i:Int)<(tbs.length:Int):=by omega
 have hcapI:(tbs.length:Int)<=(cap:Int):=by omega
 have hi0:¬(i:Int)<0:=by omega
 have hnn:((no:Int) == (nj:Int))=false:=by simp;omega
 have HST:=kH (fun(W:World) (J:aZ w0 X (aG s.mp m L F2::cx rv k.regs::ag wb (eH s)::bW s.ev l::ag tb (fD u)::aN 74 3 u.ov no ol::ag w.heap.size aB::Cs) x k rv hi told (.on j) W)=>lJ J hj hk ht hX hkc hhi (by omega) (by omega) (i:Int))
 have HJ1:=kH J1
 have HJ:=kH (And.intro hjp (And.intro htk (And.intro hjv hov)))
 have HJO:=kH hj
 have HMEM:=kH J1.memOk
 have HTH:=kH hthr
 clear hJ hj J1 hwb htbk hwc htc hjp htk hjv hov hthr hcell hv htb
 unfold aB ptr at *
 go_enter Tryz.func7,Tryz.ntmps7
 go_wp2_with fail
 go_quiet(fail)
 go_upto_region 10 with(fail)
 have J2:=HJ1.out.drewN nq
 generalize (w.alloc (.cells #[.int .i64 0,.int .i64 0,.int .i64 0,.bool false] 35 (0,0))).drewN nq=W1 at *
 have hwb:=J2.blkN [_,_]
 have htbk:=J2.blkN [_,_,_,_]
 have e8:=cell_of_row W1 wb 8 _ _ _ hwb
 have e1:=cell_of_row W1 tb 1 _ _ _ htbk
 simp only[lX,gt,gA,gZ,gS,HJ.out.1]at e8 e1
 unfold ptr at e8
 have hlt1:=af hwb
 have hlt2:=af htbk
 have HS0:=kH (HST.out _ J2)
 have HSD:=kH (fun q=>HST.out _ (J2.drewN q))
 have HSN:=kH (fun q (JJ:aZ w0 X (aG s.mp m L F2::cx rv k.regs::ag wb (eH s)::bW s.ev l::ag tb (fD u)::aN 74 3 u.ov no ol::ag w.heap.size aB::ag W1.heap.size aB::Cs) x k rv hi told (.on j) ((W1.alloc aB).drewN q))=>lJ JJ HJO.out hk ht hX hkc hhi (by omega) (by omega) (i:Int))
 have HJN:=kH (fun q=>((J2.new aB).drewN q).sub (Cs':=aG s.mp m L F2::cx rv k.regs::ag wb (eH s)::bW s.ev l::ag tb (fD u)::aN 74 3 u.ov no ol::ag w.heap.size aB::ag W1.heap.size aB::Cs) fun Ps W h=>h.perm (List.Perm.append_left Ps (List.perm_append_comm_assoc [_] [_,_,_,_,_,_,_] Cs)))
 clear J2 hwb htbk c8 c9 d0 d1 d5 hlt hltt g0 HJ1 HST
 go_cut[7]from 10 to 145 (fun v7 wc=>∃ a new m' nx F3 L' abx,v7=.pointer (some ⟨abx,0,none⟩)/\L'<=L+100/\gx k.c m j a new m' nx/\aZ w0 X (aG s.mp m' L' F3::cx rv k.regs::ag wb (eH s)::bW s.ev l::ag tb (fD u)::aN 74 3 u.ov no ol::ag w.heap.size aB::ag abx (aS a)::Cs) x k rv hi (j.told++new) nx wc)
 case first =>
  unfold aB ptr at *
  go_region_with(first|(go_at_call 19;(first|refine HS0.out.mono ?_|refine(HSD.out _).mono ?_);rintro e2 w2 ⟨a,new,m',nx,F3,L',hL',rfl,hstep,J3⟩;unfold aM.val;have HJ3:=kH J3;have HSTP:=kH hstep;clear J3 hstep)|(go_at_call 19;refine(HSN.out _ (HJN.out _)).mono ?_;rintro e2 w2 ⟨a,new,m',nx,F3,L',hL',rfl,hstep,J3⟩;unfold aM.val;obtain⟨⟨a0,a1,a2,a3⟩,⟨g0,g1,g2,g3⟩⟩:=cw (J3.blkN [_,_,_,_,_,_,_]);have HJ4:=kH J3;have HSTP:=kH hstep;clear J3 hstep))
  all_goals
   go_wp2
   go_meet
   case rel =>
    first
     | exact⟨a,new,m',nx,F3,L',_,rfl,hL',HSTP.out,(HJ3.out.new (aS a)).sub fun Ps W h=>h.perm (List.Perm.append_left Ps (List.perm_append_comm_assoc [_] [_,_,_,_,_,_,_] Cs))⟩
     | exact⟨a,new,m',nx,F3,L',_,rfl,hL',HSTP.out,aZ.set4 [_,_,_,_,_,_,_] a HJ4.out⟩
 case rest =>
  clear e8 e1 hlt1 hlt2 HS0 HSD HSN HJN
  obtain⟨a,new,m',nx,F3,L',abx,rfl,hL',hstep,J3⟩:=hcut
  have hlen:=oD hk.cfg HMEM.out HJO.out hstep
  obtain⟨f,st,cs,ts,t,F,old,E,htl,hts,hov,hS,hcl⟩:=J3.open (fun j' e=>by subst e;exact fz hstep)
  have hll:(old++t.told).length=j.told.length+new.length:=by rw[htl,List.length_append]
  have hll2:old.length+t.told.length=j.told.length+new.length:=by rw[<-hll,List.length_append]
  have HTK:=kH (se hS (n:=j.told.length) HJ.out.1 HJ.out.2.1 (by omega) (by omega) (by omega) (by omega) ⟨hs.1.1,by omega⟩ (i:Int))
  rw[htl,show(j.told++new).drop j.told.length=new by simp]at HTK
  have HCL:=kH hcl
  have HSTP:=kH hstep
  have HNX:=kH (And.intro hts hov)
  have HLL:=kH (And.intro hlen hll)
  have hltw3:=af (J3.blkN [_,_])
  have hltt3:=af (J3.blkN [_,_,_,_])
  have hlta3:=af (J3.blkN [_,_,_,_,_,_,_])
  clear J3 hS hcl hstep htl hts hov hll hll2 hlen
  unfold ptr at HTK
  go_wp2_with fail
  refine HTK.out.mono ?_
  rintro e3 w3 ⟨rfl,ev',F',S4⟩
  have J5:=HCL.out _ _ _ S4
  obtain⟨σ,hσ⟩:∃ σ,new.foldl eu ⟨s.opened,u.tx,u.stamp⟩=σ:=⟨_,rfl⟩
  rw[hσ]at J5
  have HSG:=kH hσ
  obtain⟨tl,htl⟩:∃ tl,dF s.steps (i:Int) ⟨s.opened,u.tx,u.stamp⟩ new=tl:=⟨_,rfl⟩
  rw[htl]at J5
  have HTL:=kH htl
  have htbk:=J5.blkN [_,_,_,_]
  have hwbk:=J5.blkN [_,_]
  have habk:=J5.blkN [_,_,_,_,_,_,_]
  have d6:=cell_of_row w3 tb 6 _ _ _ htbk
  have q6:=frozen_of_row w3 tb 6 _ _ htbk
  have y0:=cell_of_row w3 abx 0 _ _ _ habk
  simp only[gt,gA,gZ,gS]at d6 y0
  have hltw:=af hwbk
  have hltt:=af htbk
  have hlta:=af habk
  have J6:=J5.setT [_,_,_,_] (s':={u with taken:=((j.told++new).length:Int),tx:=σ.tx,stamp:=σ.stamp,steps:=u.steps+1}) 6 (.int .i64 (u.steps+1)) (by simp[gt])
  have HJ6:=kH J6
  have hw6:IntKind.i64.wrap (u.steps+1)=u.steps+1:=IntWalk.i64_in _ (by omega)
  have hw7:IntKind.i64.wrap (u.waits+1)=u.waits+1:=IntWalk.i64_in _ (by omega)
  have hw12:IntKind.i64.wrap (s.steps+1)=s.steps+1:=IntWalk.i64_in _ (by omega)
  have hnet:tb≠abx:=fun e=>by rw[e,habk]at htbk;simp[aS,fD]at htbk
  clear J5 J6 S4 HTK HCL hσ htl htbk hwbk habk hltw3 hltt3 hlta3
  go_upto_if 108 with(fail)
  have J7:=HJ6.out
  generalize w3.setCell ⟨tb,6,none⟩ (.int .i64 (u.steps+1))=W4 at *
  have htbk:=J7.blkN [_,_,_,_]
  have d7:=cell_of_row W4 tb 7 _ _ _ htbk
  have q7:=frozen_of_row W4 tb 7 _ _ htbk
  simp only[gt,gA,gZ,gS]at d7
  have hltt4:=af htbk
  clear htbk d6 q6 y0 J7
  go_cut[]from 10 to 145 (fun wd=>∃ wt:Int,(0<=wt/\wt<=u.waits+1)/\aZ w0 X (aG s.mp m' L' F3::cx rv k.regs::ag wb (eH {s with ev:=ev',opened:=σ.opened})::bW ev' (l++tl)::ag tb (fD {u with taken:=((j.told++new).length:Int),tx:=σ.tx,stamp:=σ.stamp,steps:=u.steps+1,waits:=wt})::aN 74 3 u.ov no ol::ag w.heap.size aB::ag abx (aS a)::Cs) x k rv hi (j.told++new) nx wd)
  case first =>
   by_cases ha1:a.kind=1
   ·have ha1':(a.kind == 1)=true:=by simp[ha1]
    clear ha1
    go_wp2
    go_meet
    case rel=>exact⟨u.waits+1,by omega,aZ.setT [_,_,_,_] (s':={u with taken:=((j.told++new).length:Int),tx:=σ.tx,stamp:=σ.stamp,steps:=u.steps+1,waits:=u.waits+1}) HJ6.out 7 (.int .i64 (u.waits+1)) (by simp[gt])⟩
   ·have ha1':(a.kind == 1)=false:=by simp[ha1]
    clear ha1
    go_wp2
    go_meet
    case rel=>exact⟨u.waits,by omega,HJ6.out⟩
  case rest =>
   obtain⟨wt,hwt,J8⟩:=hcut
   clear HJ6 d7 q7 hltt4 hltw hltt hlta hnet
   have hwbk:=J8.blkN [_,_]
   have d12:=cell_of_row wc wb 12 _ _ _ hwbk
   have q12:=frozen_of_row wc wb 12 _ _ hwbk
   simp only[lX,gA,gZ,gS]at d12
   have hltw:=af hwbk
   have J9:=J8.setW [_,_] (s':={s with ev:=ev',opened:=σ.opened,steps:=s.steps+1}) 12 (.int .i64 (s.steps+1)) (by simp[lX])
   have HJ9:=kH J9
   clear J8 J9 hwbk
   go_upto_region 16 with(fail)
   have J9:=HJ9.out
   generalize wc.setCell ⟨wb,12,none⟩ (.int .i64 (s.steps+1))=W9 at *
   have htbk:=J9.blkN [_,_,_,_]
   have d1:=cell_of_row W9 tb 1 _ _ _ htbk
   simp only[gt,gA,gZ,gS,HJ.out.1]at d1
   have hltt:=af htbk
   obtain⟨f,st,cs,ts,t,F,old,E,htl,hts,hov,hS,hcl⟩:=J9.open (fun j' e=>by subst e;exact fz HSTP.out)
   have HCL:=kH hcl
   clear J9 htbk d12 q12 hltw HJ9 htl hcl HNX
   cases nx with
   | on j' =>
    have HO:=kH (rp hS hov)
    clear hS hov hts
    unfold AE ptr at HO
    go_wp2_with fail
    refine HO.out.mono ?_
    rintro e5 w5 ⟨rfl,S5⟩
    have J10:=HCL.out _ _ _ S5
    obtain⟨⟨x0,x1,x2,x3⟩,-⟩:=cw (J10.blkN [_,_,_,_,_,_,_])
    obtain⟨⟨y0,y1,y2,y3⟩,⟨z0,z1,z2,z3⟩⟩:=cw (J10.blkN [_,_,_,_,_,_])
    have hlta:=af (J10.blkN [_,_,_,_,_,_,_])
    have hltr:=af (J10.blkN [_,_,_,_,_,_])
    have HJ10:=kH J10
    clear J10 S5 HO HCL d1
    go_wp2
    have J11:=(aZ.set4 [_,_,_,_,_,_] a HJ10.out).alloc (.cells #[.int .i64 0,.int .i64 0,.slice none 0 0] 74 (0,0))
    have hJT:=fz HSTP.out
    refine bodyPost_ret (results_cell_row rfl _ _ _ _ _ _ _ rfl (J11.blkN [_,_,_,_,_,_]) Tryz.underlying35 rfl cK) rfl ⟨a,new,m',.on j',F3,L',ev',{u with taken:=((j.told++new).length:Int),tx:=σ.tx,stamp:=σ.stamp,steps:=u.steps+1,waits:=wt},hL',rfl,HSTP.out,rfl,by rw[HSG.out],by rw[HSG.out],by dsimp only;omega,hwt,HJ.out.1,by rw[hJT],?_⟩
    rw[HSG.out,HTL.out]
    exact J11.sub fun Ps W h=>by
     have h2:=ah.dropN (Ps++[_,_,_,_,_,_]) [_,_] (Bs:=Cs) (by rw[List.append_assoc];exact h)
     rw[List.append_assoc]at h2
     exact h2
   | over =>
    have HO:=kH (nO hS hov (by omega))
    clear hS hov hts HCL
    unfold AE ptr at HO
    obtain⟨on1,hon⟩:∃ z,f.nth=z:=⟨_,rfl⟩
    obtain⟨oe1,hoe⟩:∃ z,f.err=z:=⟨_,rfl⟩
    rw[hon,hoe]at HO
    clear hon hoe
    go_wp2_with fail
    refine HO.out.mono ?_
    rintro e5 w5 ⟨oa2,on2,oc2,rfl,S5⟩
    have S6:ah w0 X (aG s.mp m' L' F3::cx rv k.regs::ag wb (eH {s with ev:=ev',opened:=σ.opened,steps:=s.steps+1})::bW ev' (l++tl)::ag tb (fD {u with taken:=((j.told++new).length:Int),tx:=σ.tx,stamp:=σ.stamp,steps:=u.steps+1,waits:=wt})::aN 74 3 u.ov no ol::ag w.heap.size aB::ag abx (aS a)::Cs) w5 :=
     ah.dropN [] (jC x k f st cs ts old t F E) (by rw[List.nil_append];simpa[jC,pC]using S5)
    have d5:=(S6.pull [_,_,_,_]).cell 5
    have d1':=(S6.pull [_,_,_,_]).cell 1
    have q5:=(S6.pull [_,_,_,_]).froz 5
    have q1:=(S6.pull [_,_,_,_]).froz 1
    simp only[gt,gA,gZ,gS,HJ.out.1]at d5 d1'
    have hltt5:=af (S6.pull [_,_,_,_]).h0
    have HRO:Hid (aD w5 74 3 u.ov no ol):=(S6.pull [_,_,_,_,_]).h0
    have HS6:=kH S6
    obtain⟨i0,yi,yz0,yz1,yz2⟩:=info_parts vQ
    clear S5 S6 HO d1
    go_wp2_with fail
    have S7:=HS6.out.new (.cells #[.int .i64 on1,.int .i64 oe1,.slice oa2 on2 oc2] 74 (0,0))
    generalize hbx:w5.heap.size=bx at *
    generalize w5.alloc (.cells #[.int .i64 on1,.int .i64 oe1,.slice oa2 on2 oc2] 74 (0,0))=W6 at *
    clear hbx d5 d1' q5 q1 hltt5 HRO
    have x0:=S7.cell 0
    have x1:=S7.cell 1
    have x2:=S7.cell 2
    simp only[gA,gZ,gS]at x0 x1 x2
    have d5:=(S7.pull [_,_,_,_,_]).cell 5
    have q5:=(S7.pull [_,_,_,_,_]).froz 5
    simp only[gt,gA,gZ,gS]at d5
    have hltb:=af S7.h0
    have hltt5:=af (S7.pull [_,_,_,_,_]).h0
    have HRO:Hid (aD W6 74 3 u.ov no ol):=(S7.pull [_,_,_,_,_,_]).h0
    have HS7:=kH S7
    clear S7 HS6
    go_region_law(refine step_append_lies _ rfl (.tmp 136) (.tmp 138) 63 rfl 0 74 i0 _ 3 40 Tryz.underlying63 yi yz0 yz1 yz2 rfl (by decide) u.ov no ol rfl (World.ownsRow.alloc (w:=W6.drewN _) HRO.out _) ⟨W6.heap.size,0,none⟩ 1 1 [.int .i64 on1,.int .i64 oe1,.slice oa2 on2 oc2] rfl rfl (fun j u hu=>cG (ar rfl) j u hu) (by simp[Value.oneCell']) (by decide) (by unfold maxLen;omega) (by omega) (Nat.zero_le _) _ rfl ?_;intro g5 cap5 w7 hown5 hgrow5 hat5 hgl5;have S8:=(((HS7.out.drewN _).alloc _).pull [_,_,_,_,_,_]).append hgrow5 hown5 hat5 (Nat.le_refl _);have k5:=(S8.pull [_,_,_,_,_,_]).cell 5;have r5:=(S8.pull [_,_,_,_,_,_]).froz 5;simp only[gt,gA,gZ,gS]at k5;have HS8:=kH S8;clear S8)
    all_goals
     have S9:=(HS8.out.pull [_,_,_,_,_,_]).tset (s':={u with taken:=((j.told++new).length:Int),tx:=σ.tx,stamp:=σ.stamp,steps:=u.steps+1,waits:=wt,ov:=.slice (some ⟨g5,0,none⟩) (no+1) cap5}) 5 (.slice (some ⟨g5,0,none⟩) (no+1) cap5) (by simp[gt])
     generalize w7.setCell ⟨tb,5,none⟩ (.slice (some ⟨g5,0,none⟩) (no+1) cap5)=W8 at *
     have m1:=S9.cell 1
     have r1:=S9.froz 1
     simp only[gt,gA,gZ,gS,HJ.out.1]at m1
     have hltt8:=af S9.h0
     obtain⟨⟨y0,y1,y2,y3⟩,-⟩:=cw (S9.pull [_,_,_,_,_,_,_,_]).h0
     obtain⟨⟨z0,z1,z2,z3⟩,⟨v0,v1,v2,v3⟩⟩:=cw (S9.pull [_,_,_,_,_,_,_]).h0
     have hlta8:=af (S9.pull [_,_,_,_,_,_,_,_]).h0
     have hltr8:=af (S9.pull [_,_,_,_,_,_,_]).h0
     have hne1:tb≠abx:=fun e=>by
      have h1:W8.heap[tb]?=some (fD _):=S9.h0
      have h2:W8.heap[abx]?=some (aS a):=(S9.pull [_,_,_,_,_,_,_,_]).h0
      rw[e,h2]at h1
      simp[aS,fD]at h1
     have hne2:tb≠w.heap.size:=fun e=>by
      have h1:W8.heap[tb]?=some (fD _):=S9.h0
      have h2:W8.heap[w.heap.size]?=some (.cells #[.int .i64 0,.int .i64 0,.int .i64 0,.bool false] 35 (0,0)):=(S9.pull [_,_,_,_,_,_,_]).h0
      rw[e,h2]at h1
      simp[fD]at h1
     have S10:=S9.tset (s':={u with taken:=((j.told++new).length:Int),tx:=σ.tx,stamp:=σ.stamp,steps:=u.steps+1,waits:=wt,ov:=.slice (some ⟨g5,0,none⟩) (no+1) cap5,jp:=.pointer none}) 1 (.pointer none) (by simp[gt])
     have HS10:=kH S10
     clear S9 S10 HS8 k5 r5 hown5 hgrow5 hat5 x0 x1 x2 d5 q5 HRO
     go_wp2
     refine ah.ret a rfl (HS10.out.pull [_,_,_,_,_,_,_]) rfl rfl fun W' SF=>⟨a,new,m',.over,F3,L',ev',{u with taken:=((j.told++new).length:Int),tx:=σ.tx,stamp:=σ.stamp,steps:=u.steps+1,waits:=wt,ov:=.slice (some ⟨g5,0,none⟩) (no+1) cap5,jp:=.pointer none},hL',rfl,HSTP.out,rfl,by rw[HSG.out],by rw[HSG.out],by dsimp only;omega,hwt,rfl,ol++[.int .i64 on1,.int .i64 oe1,.slice oa2 on2 oc2],?_⟩
     have T0:ah w0 X (_::_::_::_::_::_::_::_::Cs) W':=SF
     have T1:ah w0 X (_::_::_::_::_::_::_::_::Cs) W':=ah.pull [_] T0
     clear T0
     have T2:ah w0 X (_::_::_::_::_::_::_::_::Cs) W':=ah.pull [_] T1
     clear T1
     have T3:ah w0 X (_::_::_::_::_::_::_::_::Cs) W':=ah.pull [_,_,_,_,_,_] T2
     clear T2
     have T4:ah w0 X (_::_::_::_::_::_::_::_::Cs) W':=ah.pull [_,_,_,_,_,_] T3
     clear T3
     have T5:ah w0 X (_::_::_::_::_::_::_::_::Cs) W':=ah.pull [_,_,_,_,_] T4
     clear T4
     have T6:ah w0 X (_::_::_::_::_::_::_::_::Cs) W':=ah.pull [_,_,_,_,_,_,_] T5
     clear T5
     have T7:ah w0 X (_::_::_::_::_::_::_::_::Cs) W':=ah.pull [_,_,_,_,_,_,_] T6
     clear T6
     have T8:ah w0 X (_::_::_::_::_::_::_::_::Cs) W':=ah.pull [_,_,_,_,_,_,_] T7
     clear T7
     have T9:=T8.drop.drop.drop
     rw[HSG.out,HTL.out]
     exact T9
end
end Go.Proofs.YtgfogfciobmmpaaGreatDoor
