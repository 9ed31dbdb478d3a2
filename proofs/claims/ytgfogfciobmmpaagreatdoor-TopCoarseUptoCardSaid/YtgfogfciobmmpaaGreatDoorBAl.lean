/- A part of the proof of a law of carouseltop: Bak3 Bak4 Bak5. -/
import Derived.Test.YtgfogfciobmmpaaGreatDoorBAh
import Derived.Test.YtgfogfciobmmpaaGreatDoorBAj
import Derived.BigRegion
set_option linter.unusedSimpArgs false
set_option linter.unusedVariables false
set_option maxRecDepth 100000
set_option maxHeartbeats 8000000
namespace Go.Proofs.YtgfogfciobmmpaaGreatDoor
open Go.RowKit
section
variable {w0:World}{X:List Nat}{Cs:List aw}{w:World}{x p L:Nat}{lv:Value}{F:List Nat}{m:au}{b:cR}
theorem rH{size:Int}{multi:Bool}{stamp:Int}{l:List (Int×Int)}{sig:List Int}{most:Int}{left laid:Nat}{at_ word word':Int}{known:Bool}{next:Nat}{j:Nat} :
  cV ⟨size,multi,stamp,l,sig,most,left,laid,at_,word,known,next⟩ j=cV ⟨size,multi,stamp,l,sig,most,left,laid,at_,word',known,next⟩ j:=rfl
theorem AV(hS:ah w0 X (ag x (dy x lv b)::aG p m L F::Cs) w)(th:Int)(hok:fo b m m.ring)(h0:b.next=1)(hL:L<=1073741824) :
  Calls Tryz.prog 222 #[ptr x,ptr p,.int .i64 th] w (gQ w0 X Cs x p L lv (aR m b)):=by
 obtain⟨size,multi,stamp,l,sig,most,left,laid,at_,word,known,next⟩:=b
 obtain⟨hm,hr1,hr2⟩:=jS hS
 obtain⟨k1,k2,k3,-,k5,-,k7,k8,-,ka,ka64,kw,kw2,kwr⟩:=hok
 simp only at k1 k2 k3 k5 k7 k8 h0 ka ka64 kw kw2 kwr
 subst h0
 obtain⟨k2a,k2b⟩:=k2
 have kat:=ka (.inl rfl)
 have hstep:aR m ⟨size,multi,stamp,l,sig,most,left,laid,at_,word,known,1⟩ =
  (if dq (m.head at_) at_=true then(moved,su ⟨size,multi,stamp,l,sig,most,left,laid,at_,word,known,1⟩,m)else if bK (m.head at_)=at_ then(moved,cV ⟨size,multi,stamp,l,sig,most,left,laid,at_,word,known,1⟩ 0,m)else(waits,⟨size,multi,stamp,l,sig,most,left,laid,at_,word,known,1⟩,m)):=rfl
 generalize aR m ⟨size,multi,stamp,l,sig,most,left,laid,at_,word,known,1⟩=R at hstep ⊢
 have HSTEP:=kH hstep
 have HS:=kH hS
 have c15:=hS.cell 15
 simp only[dA,gA,gZ,gS]at c15
 have hl24:left<=24:=by omega
 have HH:=kH (qR hS th at_ k1 ⟨hr1,hr2⟩ hL)
 have HO:=kH (fun W=>gm (m.head at_) at_ W)
 have HLD:=kH (fun W=>y7 (m.head at_) at_ W)
 clear hstep hS ka kw2 kwr
 generalize dq (m.head at_) at_=ov at *
 generalize hld:decide (bK (m.head at_)=at_)=ld at *
 have HLDE:=kH hld
 clear hld
 unfold ptr at *
 go_enter Tryz.func222,Tryz.ntmps222
 go_wp2_with fail
 refine HH.out.mono ?_
 rintro e w2 ⟨rfl,F2,S2⟩
 have HS2:=kH S2
 have l15:=S2.cell 15
 have l16:=S2.cell 16
 have g16:=S2.froz 16
 simp only[dA,gA,gZ,gS]at l15 l16
 clear S2 c15
 go_wp2_with fail
 refine(HO.out _).mono ?_
 rintro e w3 ⟨rfl,rfl⟩
 cases ov
 ·go_wp2_with fail
  refine(HLD.out _).mono ?_
  rintro e w3 ⟨rfl,rfl⟩
  cases ld
  ·go_wp2
   go_ret
   have hR:=HSTEP.out
   rw[if_neg (by simp),if_neg (by have:=HLDE.out;simpa using this)]at hR
   subst hR
   exact⟨rfl,F2,HS2.out⟩
  ·go_wp2_with fail
   refine Calls.mono (oO (b:=⟨size,multi,stamp,l,sig,most,left,laid,at_,-1,known,1⟩) (HS2.out.set 16 (.int .i64 (-1))) 0 (by omega) rfl hl24 ⟨ka64,by simp only;omega⟩ ⟨k2a,k2b⟩ (by simp only;omega)) ?_
   rintro e w3 ⟨rfl,S3⟩
   have HS3:=kH S3
   clear S3
   go_wp2
   go_ret
   have hR:=HSTEP.out
   rw[if_neg (by simp),if_pos (by have:=HLDE.out;simpa using this)]at hR
   subst hR
   exact⟨rfl,F2,by rw[rH]at HS3;exact HS3.out⟩
 ·go_wp2_with fail
  refine(vi HS2.out hl24 ⟨k2a,k2b⟩).mono ?_
  rintro e w3 ⟨rfl,S3⟩
  have HS3:=kH S3
  clear S3
  go_wp2
  go_ret
  have hR:=HSTEP.out
  rw[if_pos trivial]at hR
  subst hR
  exact⟨rfl,F2,HS3.out⟩
theorem Ah(hS:ah w0 X (ag x (dy x lv b)::aG p m L F::Cs) w)(th:Int)(hok:fo b m m.ring)(h0:b.next=3)(hL:L<=1073741824) :
  Calls Tryz.prog 249 #[ptr x,ptr p,.int .i64 th] w (gQ w0 X Cs x p L lv (aR m b)):=by
 obtain⟨size,multi,stamp,l,sig,most,left,laid,at_,word,known,next⟩:=b
 obtain⟨hm,hr1,hr2⟩:=jS hS
 obtain⟨k1,k2,k3,-,k5,-,k7,k8,-,ka,ka64,kw,kw2,kwr⟩:=hok
 simp only at k1 k2 k3 k5 k7 k8 h0 ka ka64 kw kw2 kwr
 subst h0
 obtain⟨k2a,k2b⟩:=k2
 have hstep:aR m ⟨size,multi,stamp,l,sig,most,left,laid,at_,word,known,3⟩ =
  (if dq (m.head at_) at_=true then(moved,su ⟨size,multi,stamp,l,sig,most,left,laid,at_,word,known,3⟩,m)else(waits,⟨size,multi,stamp,l,sig,most,left,laid,at_,word,known,3⟩,m)):=rfl
 generalize aR m ⟨size,multi,stamp,l,sig,most,left,laid,at_,word,known,3⟩=R at hstep ⊢
 have HSTEP:=kH hstep
 have HS:=kH hS
 have c15:=hS.cell 15
 simp only[dA,gA,gZ,gS]at c15
 have hl24:left<=24:=by omega
 have HH:=kH (fun q=>qR (hS.drewN q) th at_ k1 ⟨hr1,hr2⟩ hL)
 have HO:=kH (fun W=>gm (m.head at_) at_ W)
 clear hstep hS ka kw2 kwr
 generalize dq (m.head at_) at_=ov at *
 unfold ptr at *
 go_enter Tryz.func249,Tryz.ntmps249
 go_wp2_with fail
 go_region_held3 (fun w'=>w'.cell? ⟨x,15,none⟩=some (.int .i64 at_)) (go_keep) (first|(go_at_call 172;refine(HO.out _).mono ?_;rintro e w' ⟨rfl,rfl⟩)|(go_at_call 229;refine(HH.out _).mono ?_;rintro e2 w2 ⟨rfl,F2,S2⟩;have l15:=S2.cell 15;simp only[dA,gA,gZ,gS]at l15;have HS2:=kH S2;clear S2))
 cases ov
 ·go_wp2
  go_ret
  have hR:=HSTEP.out
  rw[if_neg (by simp)]at hR
  subst hR
  exact⟨rfl,F2,HS2.out⟩
 ·go_wp2_with fail
  refine(vi HS2.out hl24 ⟨k2a,k2b⟩).mono ?_
  rintro e w3 ⟨rfl,S3⟩
  have HS3:=kH S3
  clear S3
  go_wp2
  go_ret
  have hR:=HSTEP.out
  rw[if_pos trivial]at hR
  subst hR
  exact⟨rfl,F2,HS3.out⟩
theorem xO(hS:ah w0 X (ag x (dy x lv b)::aG p m L F::Cs) w)(th:Int)(hok:fo b m m.ring)(h0:b.next=5)(hL:L<=1073741824) :
  Calls Tryz.prog 220 #[ptr x,ptr p,.int .i64 th] w (gQ w0 X Cs x p L lv (aR m b)):=by
 obtain⟨size,multi,stamp,l,sig,most,left,laid,at_,word,known,next⟩:=b
 obtain⟨hm,hr1,hr2⟩:=jS hS
 obtain⟨k1,k2,k3,-,k5,-,k7,k8,-,ka,ka64,kw,kw2,kwr⟩:=hok
 simp only at k1 k2 k3 k5 k7 k8 h0 ka ka64 kw kw2 kwr
 subst h0
 obtain⟨k2a,k2b⟩:=k2
 have hstep:aR m ⟨size,multi,stamp,l,sig,most,left,laid,at_,word,known,5⟩ =
  (if dq (m.head (stamp-1)) (stamp-1)=true then(moved,cW ⟨size,multi,stamp,l,sig,most,left,laid,at_,word,true,5⟩,m)else(waits,⟨size,multi,stamp,l,sig,most,left,laid,at_,word,known,5⟩,m)):=rfl
 generalize aR m ⟨size,multi,stamp,l,sig,most,left,laid,at_,word,known,5⟩=R at hstep ⊢
 have HSTEP:=kH hstep
 have HS:=kH hS
 have c2:=hS.cell 2
 simp only[dA,gA,gZ,gS]at c2
 have hl24:left<=24:=by omega
 have HH:=kH (fun q=>qR (hS.drewN q) th (stamp-1) k1 ⟨hr1,hr2⟩ hL)
 have HO:=kH (fun W=>gm (m.head (stamp-1)) (stamp-1) W)
 have hw1:IntKind.i64.wrap (stamp-1)=stamp-1:=IntWalk.i64_in _ (by omega)
 clear hstep hS ka kw2 kwr
 generalize dq (m.head (stamp-1)) (stamp-1)=ov at *
 unfold ptr at *
 go_enter Tryz.func220,Tryz.ntmps220
 go_wp2_with fail
 go_region_held3 (fun w'=>w'.cell? ⟨x,2,none⟩=some (.int .i64 stamp)) (go_keep) (first|(go_at_call 172;refine(HO.out _).mono ?_;rintro e w' ⟨rfl,rfl⟩)|(go_at_call 229;refine(HH.out _).mono ?_;rintro e2 w2 ⟨rfl,F2,S2⟩;have l2:=S2.cell 2;simp only[dA,gA,gZ,gS]at l2;have HS2:=kH S2;clear S2))
 have l17:=HS2.out.cell 17
 have g17:=HS2.out.froz 17
 simp only[dA,gA,gZ,gS]at l17
 cases ov
 ·go_wp2
  go_ret
  have hR:=HSTEP.out
  rw[if_neg (by simp)]at hR
  subst hR
  exact⟨rfl,F2,HS2.out⟩
 ·go_wp2_with fail
  refine Calls.mono (gR (b:=⟨size,multi,stamp,l,sig,most,left,laid,at_,word,true,5⟩) (HS2.out.set 17 (.bool true)) hl24) ?_
  rintro e w3 ⟨rfl,S3⟩
  have HS3:=kH S3
  clear S3
  go_wp2
  go_ret
  have hR:=HSTEP.out
  rw[if_pos trivial]at hR
  subst hR
  exact⟨rfl,F2,HS3.out⟩
theorem De(hS:ah w0 X (ag x (dy x lv b)::aG p m L F::Cs) w)(th:Int)(hok:fo b m m.ring)(h0:b.next=6)(hL:L<=1073741824) :
  Calls Tryz.prog 221 #[ptr x,ptr p,.int .i64 th] w (gQ w0 X Cs x p L lv (aR m b)):=by
 obtain⟨size,multi,stamp,l,sig,most,left,laid,at_,word,known,next⟩:=b
 obtain⟨hm,hr1,hr2⟩:=jS hS
 obtain⟨k1,k2,k3,-,k5,-,k7,k8,-,ka,ka64,kw,kw2,kwr⟩:=hok
 simp only at k1 k2 k3 k5 k7 k8 h0 ka ka64 kw kw2 kwr
 subst h0
 obtain⟨k2a,k2b⟩:=k2
 have hstep:aR m ⟨size,multi,stamp,l,sig,most,left,laid,at_,word,known,6⟩ =
  (aW 0,⟨size,multi,stamp,l,sig,most,left,laid,at_,word,known,7⟩,m.setHead stamp (ea stamp true)):=rfl
 generalize aR m ⟨size,multi,stamp,l,sig,most,left,laid,at_,word,known,6⟩=R at hstep ⊢
 have HSTEP:=kH hstep
 have c2:=hS.cell 2
 simp only[dA,gA,gZ,gS]at c2
 have HSL:=kH (fun q=>mE (hS.drewN q) stamp (by simp only;omega))
 simp only[k1]at HSL
 have hh64:aI (ea stamp true):=by unfold ea aI;simp;omega
 have HHD:=kH (fun W=>ru stamp true (by omega) k2b W)
 have HST:=kH (fun q=>(hS.drewN q).sw.storeHead th stamp (ea stamp true) hh64 hL)
 generalize ea stamp true=hv at *
 clear hstep hS ka kw2 kwr hh64 k5
 unfold ptr at *
 go_enter Tryz.func221,Tryz.ntmps221
 go_wp2_with fail
 go_region_held3 (fun w'=>w'.cell? ⟨x,2,none⟩=some (.int .i64 stamp)) (go_keep) (first|(go_at_call 176;refine(HSL.out _).mono ?_;rintro e w' ⟨rfl,rfl⟩)|(go_at_call 177;refine(HHD.out _).mono ?_;rintro e w' ⟨rfl,rfl⟩)|(go_at_call 175;refine(HST.out _).mono ?_;rintro e2 w2 ⟨rfl,F2,S2⟩;have l2:=S2.sw.cell 2;simp only[dA,gA,gZ,gS]at l2;have HS2:=kH S2.sw;clear S2))
 have l18:=HS2.out.cell 18
 have g18:=HS2.out.froz 18
 simp only[dA,gA,gZ,gS,oX,ge]at l18
 clear c2
 go_wp2
 go_ret
 have hR:=HSTEP.out
 subst hR
 exact⟨rfl,F2,HS2.out.set 18 .nilFunc⟩
end
section
variable {w0:World}{X:List Nat}{Cs:List aw}{w:World}{x p L:Nat}{lv:Value}{F:List Nat}{m:au}{b:cR}
theorem Ac(hS:ah w0 X (ag x (dy x lv b)::aG p m L F::Cs) w)(th:Int)(hok:fo b m m.ring)(h0:b.next=2)(hL:L<=1073741824) :
  Calls Tryz.prog 243 #[ptr x,ptr p,.int .i64 th] w (gQ w0 X (Cs) x p L lv (aR m b)):=by
 obtain⟨size,multi,stamp,l,sig,most,left,laid,at_,word,known,next⟩:=b
 obtain⟨hm,hr1,hr2⟩:=jS hS
 obtain⟨k1,k2,k3,kl,k5,-,k7,k8,-,ka,ka64,kw,kw2,kwr⟩:=hok
 simp only at k1 k2 k3 kl k5 k7 k8 h0 ka ka64 kw kw2 kwr
 subst h0
 obtain⟨k2a,k2b⟩:=k2
 have kat:=ka (.inr (.inl rfl))
 obtain⟨kwa,kwb⟩:=kw2 rfl
 obtain⟨k,rfl⟩:=Int.eq_ofNat_of_zero_le kwa
 have hk8:k<8:=by omega
 have hstep:aR m ⟨size,multi,stamp,l,sig,most,left,laid,at_,(k:Int),known,2⟩ =
  (if ks (m.sig at_ k) (sig.getD k 0)=true then(moved,⟨size,multi,stamp,l,sig,most,left,laid,at_,(k:Int),known,3⟩,m)else(moved,cV ⟨size,multi,stamp,l,sig,most,left,laid,at_,(k:Int),known,2⟩ (k+1),m)):=rfl
 generalize aR m ⟨size,multi,stamp,l,sig,most,left,laid,at_,(k:Int),known,2⟩=R at hstep ⊢
 have HSTEP:=kH hstep
 have c15:=hS.cell 15
 have c16:=hS.cell 16
 simp only[dA,gA,gZ,gS]at c15 c16
 have hl24:left<=24:=by omega
 have HSL:=kH (fun q=>mE (hS.drewN q) at_ (by simp only;omega))
 simp only[k1]at HSL
 have HLD:=kH (fun q=>(hS.drewN q).sw.loadSig th at_ k ⟨by omega,by omega⟩ hL)
 have hsg:aI (m.sig at_ k):=nh hm.s64 _
 have hrd:=dx k5.2 k
 have hun:IntKind.u64.wrap (m.sig at_ k)=fZ (m.sig at_ k):=by rw[IntKind.wrap_u64];rfl
 have hshr:ks (m.sig at_ k) (sig.getD k 0)=(bits .and .u64 (fZ (m.sig at_ k)) (sig.getD k 0) != 0):=by
  unfold ks
  rw[Bool.eq_iff_iff,decide_eq_true_eq,bne_iff_ne]
 have HSHR:=kH hshr
 have HK8:=kH hk8
 generalize hy:sig.getD k 0=y at *
 have HY:=kH hy
 generalize hshb:(bits .and .u64 (fZ (m.sig at_ k)) y != 0)=sb at *
 unfold aI at hsg
 unfold uy at hrd
 clear hstep hS ka kw2 kwr k5 hshr hy
 unfold ptr at *
 go_enter Tryz.func243,Tryz.ntmps243
 go_wp2_with fail
 go_region_held3 (fun w'=>w'.cell? ⟨x,15,none⟩=some (.int .i64 at_)/\w'.cell? ⟨x,16,none⟩=some (.int .i64 (k:Int))) (go_keep) (first|(go_at_call 176;refine(HSL.out _).mono ?_;rintro e w' ⟨rfl,rfl⟩)|(go_at_call 215;refine(HLD.out _).mono ?_;rintro e2 w2 ⟨rfl,F2,S2⟩;have l15:=S2.sw.cell 15;have l16:=S2.sw.cell 16;simp only[dA,gA,gZ,gS]at l15 l16;have HS2:=kH S2.sw;clear S2))
 have lw:=lI HS2.out k HK8.out
 simp only[HY.out]at lw
 have l18:=HS2.out.cell 18
 have g18:=HS2.out.froz 18
 simp only[dA,gA,gZ,gS]at l18
 clear c15 c16
 go_wp2_with fail
 go_quiet(fail)
 cases sb
 ·go_wp2_with fail
  refine(oO (HS2.out.drewN _) (k+1) (by omega) (by simp only;omega) hl24 ⟨ka64,by simp only;omega⟩ ⟨k2a,k2b⟩ (by simp only;omega)).mono ?_
  rintro e w3 ⟨rfl,S3⟩
  have HS3:=kH S3
  clear S3
  go_wp2
  go_ret
  have hR:=HSTEP.out
  rw[HSHR.out,if_neg (by simp)]at hR
  subst hR
  exact⟨rfl,F2,HS3.out⟩
 ·go_wp2
  go_ret
  have hR:=HSTEP.out
  rw[HSHR.out,if_pos rfl]at hR
  subst hR
  exact⟨rfl,F2,(HS2.out.drewN _).set 18 (ge 249 x)⟩
theorem Bn(h:0<b.left):(dA x lv b).setIfInBounds 13 (.int .i64 ((b.left:Int)-1))=dA x lv {b with left:=b.left-1}:=by
 have e:((b.left-1:Nat):Int)=(b.left:Int)-1:=by omega
 unfold dA
 simp only[e]
 rfl
theorem xg{l0:List (Int×Int)}(hS:ah w0 X (ag x (dy x lv b)::aG p m L F::gy lv l0::Cs) w)(th:Int)(hl0:b.l=l0)(hok:fo b m m.ring)(h0:b.next=4)(hL:L<=1073741824) :
  Calls Tryz.prog 219 #[ptr x,ptr p,.int .i64 th] w (gQ w0 X (gy lv l0::Cs) x p L lv (aR m b)):=by
 obtain⟨size,multi,stamp,l,sig,most,left,laid,at_,word,known,next⟩:=b
 obtain⟨hm,hr1,hr2⟩:=jS hS
 obtain⟨k1,k2,k3,kl,k5,-,k7,k8,-,ka,ka64,kw,kw2,kwr⟩:=hok
 simp only at k1 k2 k3 kl k5 k7 k8 h0 ka ka64 kw kw2 kwr
 subst h0
 obtain⟨k2a,k2b⟩:=k2
 simp only at hl0
 subst hl0
 have hlp:=kwr rfl
 have hstep:aR m ⟨size,multi,stamp,l,sig,most,left,laid,at_,word,known,4⟩ =
  (moved,cW ⟨size,multi,stamp,l,sig,most,left-1,laid,at_,word,known,4⟩,m.setCell (l.getD (l.length-left) (0,0)).1 (l.getD (l.length-left) (0,0)).2):=rfl
 generalize aR m ⟨size,multi,stamp,l,sig,most,left,laid,at_,word,known,4⟩=R at hstep ⊢
 have HSTEP:=kH hstep
 have hrow:aD w _ _ _ _ _:=hS.h2
 obtain⟨g,cap,rfl,hcap,hcm,hg,hrf,hcell,hfz⟩:=hrow.read (by omega)
 obtain⟨i,hi⟩:∃ i,l.length-left=i:=⟨_,rfl⟩
 have hil:i<l.length:=by omega
 obtain⟨hc0,hc1⟩:=kX l i hil
 have d0:=hcell _ _ hc0
 have d1:=hcell _ _ hc1
 rw[Nat.mul_comm]at d0 d1
 have hmem:=kl _ (show l.getD i (0,0)∈l by rw[List.getD_eq_getElem?_getD,List.getElem?_eq_getElem hil];simp)
 rw[hi]at hstep
 generalize l.getD i (0,0)=cv at *
 obtain⟨cc,vv⟩:=cv
 simp only at d0 d1 hmem hstep
 obtain⟨hm0,hm1,hm2⟩:=hmem
 have HSTEP:=kH hstep
 have hll:(l.length:Int)-left=i:=by omega
 obtain⟨n,hn⟩:∃ n,l.length=n:=⟨_,rfl⟩
 have c3:=hS.cell 3
 have c13:=hS.cell 13
 simp only[dA,gA,gZ,gS]at c3 c13
 have HS:=kH hS
 have HG:=kH (⟨hm0,hm1,hm2⟩:0<=cc/\cc<m.cells.length/\aI vv)
 rw[hn]at c3 hll hil k3
 have hxl:=af hS.h0
 have HN:=kH hn
 have HI:=kH hi
 clear hstep hS ka kw2 kwr hrow hc0 hc1 hcell hfz hrf hn hi kl hm0 hm1 hm2 k5 hm
 unfold maxLen at hcm
 unfold ptr at *
 go_enter Tryz.func219,Tryz.ntmps219
 go_wp2_with fail
 go_region
 have hbx:(w.alloc (.cells #[.int .i64 cc,.int .i64 vv] 218 (0,0))).drew.heap[w.heap.size]?=some _:=ar (w:=w) rfl
 have S1:=(HS.out.alloc (.cells #[.int .i64 cc,.int .i64 vv] 218 (0,0))).drew
 have HS1:=kH S1
 clear S1
 have b0:=cell_of_row _ _ 0 _ _ _ hbx
 have b1:=cell_of_row _ _ 1 _ _ _ hbx
 simp only[gA,gZ,gS]at b0 b1
 clear hbx c3 c13 d0 d1
 generalize (w.alloc (.cells #[.int .i64 cc,.int .i64 vv] 218 (0,0))).drew=w1 at *
 go_wp2_with fail
 obtain⟨g1,g2,g3⟩:=HG.out
 refine(HS1.out.sw.storeCell th cc vv ⟨g1,g2⟩ g3 hL).mono ?_
 rintro e w2 ⟨rfl,F2,S2⟩
 have HS2:=kH S2.sw
 have l13:=S2.sw.cell 13
 have f13:=S2.sw.froz 13
 simp only[dA,gA,gZ,gS]at l13
 have hle:(left:Int)-1=((left-1:Nat):Int):=by omega
 have HLE:=kH hle
 clear S2 b0 b1 g1 g2 g3 hle
 go_wp2_with fail
 have S4:=HS2.out.set 13 (.int .i64 ((left:Int)-1))
 rw[Bn (b:=⟨size,multi,stamp,l,sig,most,left,laid,at_,word,known,4⟩) hlp]at S4
 refine(gR S4 (by simp only;omega)).mono ?_
 rintro e w3 ⟨rfl,S5⟩
 have HS5:=kH S5
 clear S4 S5
 go_wp2
 go_ret
 have hR:=HSTEP.out
 subst hR
 exact⟨rfl,F2,HS5.out⟩
end
section
variable {w0:World}{X:List Nat}{Cs:List aw}{w:World}{x p L:Nat}{lv:Value}{F:List Nat}{m:au}{b:cR}
theorem bak_ans(m:au)(b:cR)(h:b.next<=6):(aR m b).1=⟨(aR m b).1.kind,0,0,true⟩:=by
 rcases(show b.next=0\/b.next=1\/b.next=2\/b.next=3\/b.next=4\/b.next=5\/b.next=6 by omega)with e|e|e|e|e|e|e
 all_goals
  unfold aR
  rw[e]
  simp only
  repeat' split
  all_goals rfl
theorem zC:∀ (l:List (Int×Int)) (n:Int) (a:Int),a<n->(∀ y∈l,y.1<n)->l.foldl (fun s w=>if s<w.1 then w.1 else s) a<n
 | [],_,_,ha,_=>ha
 | y::l,n,a,ha,h=>zC l n _ (by
   show(if a<y.1 then y.1 else a)<n
   split
   ·exact h y List.mem_cons_self
   ·exact ha) (fun z hz=>h z (List.mem_cons_of_mem _ hz))
theorem rJ{P:Program}(w:World)(d:Nat)(t:TypeId)(ps rs:Array TypeId)(v:Bool)(h:P.underlying t=some (.func ps rs v))(f:Fn)(a c:Array Value):(Op.equalIn (d+1) t (.func f a c) .nilFunc).run P w=.ok false w:=by
 simp[Op.equalIn,run_underlying h]
theorem tw(w:World)(f:Fn)(a c:Array Value):(Op.equalIn 10000 214 (.func f a c) .nilFunc).run Tryz.prog w=.ok false w :=
 rJ w 9999 _ _ _ _ Tryz.underlying214 f a c
theorem oj(w:World)(f:Fn)(a c:Array Value):(binOp .eql 214 (.func f a c) .nilFunc).run Tryz.prog w=.ok (.bool false) w:=by
 have h:=tw w f a c
 simp[binOp,Op.equal,Op.maxDepth,h]
attribute [local go_sem] oj
theorem CE(hS:ah w0 X (ag x (dy x lv b)::aG p m L F::gy lv b.l::Cs) w)(th:Int)(hok:fo b m m.ring)(hL:L<=1073741824) :
  ∃ f,oX x b.next=ge f x/\Calls Tryz.prog f #[ptr x,ptr p,.int .i64 th] w (gQ w0 X (gy lv b.l::Cs) x p L lv (aR m b)):=by
 have hn:=hok.next
 rcases(show b.next=0\/b.next=1\/b.next=2\/b.next=3\/b.next=4\/b.next=5\/b.next=6 by omega)with e|e|e|e|e|e|e
 ·exact⟨_,by rw[e];rfl,CR hS th hok e hL⟩
 ·exact⟨_,by rw[e];rfl,AV hS th hok e hL⟩
 ·exact⟨_,by rw[e];rfl,Ac hS th hok e hL⟩
 ·exact⟨_,by rw[e];rfl,Ah hS th hok e hL⟩
 ·exact⟨_,by rw[e];rfl,xg hS th rfl hok e hL⟩
 ·exact⟨_,by rw[e];rfl,xO hS th hok e hL⟩
 ·exact⟨_,by rw[e];rfl,De hS th hok e hL⟩
theorem DV(hS:ah w0 X (ag x (dy x lv b)::aG p m L F::gy lv b.l::Cs) w)(th:Int)(hok:fo b m m.ring)(hL:L<=1073741824) :
  Calls Tryz.prog 284 #[ptr x,ptr p,.int .i64 th] w (fun e w'=>e=.returned (aR m b).1.val/\∃ F',ah w0 X (ag x (dy x lv (aR m b).2.1)::aG p (aR m b).2.2 (L+1) F'::gy lv b.l::Cs) w'):=by
 have ha:=bak_ans m b hok.next
 have HS0:=kH ((hS.new aB).sw.s23)
 have HNX:Hid (∀ {W:World} {F':List Nat} {C':List aw},ah w0 X (ag x (dy x lv b)::aG p m L F'::gy lv b.l::C') W->∃ f,oX x b.next=ge f x/\Calls Tryz.prog f #[ptr x,ptr p,.int .i64 th] W (gQ w0 X (gy lv b.l::C') x p L lv (aR m b))):=fun S=>CE S th hok hL
 have hsz:=hok.size
 have hrow:aD w _ _ _ _ _:=hS.h2
 obtain⟨la,lc,hlv,hlc,hlm⟩:=hrow.slice
 have hlen:=hok.len
 have hmost:0<b.l.length->b.most<m.cells.length:=fun h=>by
  rw[hok.most]
  have hm:aY m:=(hS.h1:dk w p m L F).ok
  have:=hm.cells
  exact zC _ _ _ (by omega) (fun y hy=>(hok.list y hy).2.1)
 generalize aR m b=R at *
 obtain⟨a,b',m'⟩:=R
 simp only at ha HNX
 generalize a.kind=kd at *
 subst ha
 have c0:=(hS.new aB).sw.cell 0
 have c3:=(hS.new aB).sw.cell 3
 have c12:=(hS.new aB).sw.cell 12
 have c18:=(hS.new aB).sw.cell 18
 simp only[dA,gA,gZ,gS,hsz,hlv,aB]at c0 c3 c12 c18
 have hnx:=hok.next
 generalize b.l.length=n at *
 have HLV:=kH hlv
 have HSZ:=kH hsz
 clear hS hok hrow hsz hlv
 generalize hbn:b.next=bn at *
 have HBN:=kH hbn
 clear hbn
 rcases(show bn=0\/bn=1\/bn=2\/bn=3\/bn=4\/bn=5\/bn=6 by omega)with rfl|rfl|rfl|rfl|rfl|rfl|rfl
 all_goals
  simp only[oX,ge]at c18
  unfold ptr at *
  go_enter Tryz.func284,Tryz.ntmps284
  go_wp2_with fail
  refine(HS0.out.sw.sizes).mono ?_
  rintro e w1 ⟨rfl,S1⟩
  have S2:=S1.sw
  have k0:=S2.cell 0
  have k3:=S2.cell 3
  have k12:=S2.cell 12
  have k18:=S2.cell 18
  simp only[dA,gA,gZ,gS,HSZ.out,HLV.out,HBN.out,oX,ge,ptr]at k0 k3 k12 k18
  obtain⟨f',hf',hcall⟩:=HNX.out S2.f3.b2
  simp only[oX,ge]at hf'
  injection hf' with h1 h2 h3
  injection h1 with h1
  subst h1
  have HC:=kH hcall
  clear hcall h2 h3 c0 c3 c12 c18 S1 S2
  rcases(show n=0\/0<n by omega)with hn|hn
  all_goals
   first
    | subst hn
    | (have hml:=hmost hn;have hn':(0:Int)<(n:Int):=by omega)
   clear hmost
   go_wp2_with fail
   refine HC.out.mono ?_
   rintro e w2 ⟨rfl,F2,S3⟩
   have HS3:=kH S3
   obtain⟨⟨a0,a1,a2,a3⟩,⟨g0,g1,g2,g3⟩⟩:=S3.f3.ansBox
   clear S3
   go_wp2
   refine HS3.out.f3.ret ⟨kd,0,0,true⟩ rfl rfl rfl (fun W' S=>?_)
   exact⟨rfl,F2,S⟩
end
end Go.Proofs.YtgfogfciobmmpaaGreatDoor
