/- A part of the proof of a law of carouseltop: CrsW. -/
import Derived.Test.YtgfogfciobmmpaaGreatDoorCAb
import Derived.BigQuiet
set_option linter.unusedSimpArgs false
set_option linter.unusedVariables false
set_option maxRecDepth 100000
set_option maxHeartbeats 8000000
namespace Go.Proofs.YtgfogfciobmmpaaGreatDoor
open Go.RowKit
section
variable {w0:World}{X:List Nat}{Cs:List aw}{w:World}
attribute [local go_sem] tV zN
attribute [local go_sem ↓] jJ iL
attribute [local go_sem] iN mW gI
theorem wY(w:World)(s:cQ)(lv:Value)(ls:List Int)(hs:cP w w.heap.size s)(hl:ct w w.heap.size lv ls.length 1 (bz ls))(hlen:ls.length<=1048576)(ht:Cod.Tabled w) :
  Calls Tryz.prog 3 #[s.val,lv] w (fun e w'=>e=.returned (.bool true)/\Below w.heap.size w w'):=by
 have HBG:=kH (fun o=>pi (w.alloc o) s ((hs.below (ai w o)).up (by simp)) (ht.below ht.1 (ai w o)))
 have HLR:=kH (fun(W:World) (hb:Below w.heap.size w W)=>hl.below hb)
 obtain⟨-,la,lc,hlv,hlc,-,-⟩:=hl
 subst hlv
 obtain⟨c,rv,rs,pv,progs,tv,tl⟩:=s
 unfold cQ.val at HBG ⊢
 dsimp only at HBG ⊢
 obtain⟨nl,hnl⟩:∃ n,ls.length=n:=⟨_,rfl⟩
 have HNL:=kH hnl
 rw[hnl]at hlen hlc HLR ⊢
 clear hs ht hnl
 go_enter Tryz.func3,Tryz.ntmps3
 go_wp2_with fail
 refine(HBG.out _).mono ?_
 rintro e1 w1 (⟨-,rfl,hb1⟩|⟨-,f,X',rfl,hbeg⟩)
 ·go_wp2
  go_ret
  exact⟨rfl,(ai w _).trans (hb1.mono (by simp))⟩
 ·have HBW:Hid (∀ W,aQ X' w1 W->Below w.heap.size w W):=fun W hk =>
   ((ai w _).trans (hbeg.below.mono (by simp))).trans ((hk.belowN (Nat.le_trans (by simp) hbeg.below.size) (fun x hx=>Nat.le_trans (by simp) (hbeg.new x hx))))
  have HFX:=kH hbeg.fix
  have HW0:=kH hbeg.at_
  have HG0:=kH (wF hbeg)
  have HCF:=kH (lH hbeg).1
  clear hbeg HBG
  unfold ptr
  go_wp2
  go_loopg[7] (nl+1) (fun n v7 wr=>∃ (i:Nat) (d:WD),i<=nl/\v7=.int .i64 i/\n+i=nl+1/\ke w1 X' f [] i d wr/\WG f.cfg d)
  case atStart=>exact⟨0,_,Nat.zero_le _,rfl,rfl,HW0.out,HG0.out⟩
  case round =>
   obtain⟨i,d,hi,rfl,hn,hW,hG⟩:=hrel
   have HN:=kH hn
   have HG:=kH hG
   have hin:(i:Int)<=(nl:Int):=by omega
   clear hn HW0 HG0 hG
   by_cases hlt:i<nl
   ·obtain⟨li,hli⟩:∃ li,ls[i]?=some li:=⟨ls[i]'(by have:=HNL.out;omega),List.getElem?_eq_getElem _⟩
    obtain⟨-,a0,c0,hv0,-,-,hc0⟩:=HLR.out _ (HBW.out _ hW.kept)
    injection hv0 with hv1 hv2 hv3
    rcases hc0 with h|⟨b,off,rfl,hbB,hcell⟩
    ·omega
    subst hv1
    have HLI:Hid (∀ W,aQ X' w1 W->b<W.heap.size/\W.cell? ⟨b,off+i,none⟩=some (.int .i64 li)):=fun W hk=>by
     have hbw:=HBW.out _ hk
     obtain⟨-,a0,c0,hv0,-,-,hc0⟩:=HLR.out _ hbw
     injection hv0 with hv1 hv2 hv3
     rcases hc0 with h|⟨b',off',h',hb',hcell⟩
     ·omega
     rw[h']at hv1
     injection hv1 with hv1
     injection hv1 with e1 e2 e3
     subst e1 e2
     exact⟨Nat.lt_of_lt_of_le hb' hbw.size,hcell i _ (by unfold bz;rw[List.getElem?_map,hli];rfl)⟩
    obtain⟨hbs,l0⟩:=HLI.out _ hW.kept
    have hlt':(i:Int)<(nl:Int):=by omega
    have hlcI:(nl:Int)<=(lc:Int):=by omega
    have HST:=kH (DK HFX.out hW (by omega) li)
    have HOK:=kH hW.wOk
    clear hcell hv2 hv3 hli hW
    unfold ptr at HST
    go_wp2_with fail
    refine HST.out.mono ?_
    rintro e2 w2 ⟨⟨ak,ae,av,aa⟩,d',rfl,hstep,hW2⟩
    have HG2:=kH (zi HCF.out HOK.out HG.out hstep)
    have HW2:=kH hW2
    unfold aM.val
    dsimp only
    clear hW2 hstep HST l0 hbs HLI
    go_wp2
    go_roundg (nl-i)
    case measure=>have:=HN.out;omega
    case rel=>exact⟨i+1,d',by omega,by go_num,by have:=HN.out;omega,HW2.out,HG2.out⟩
   ·obtain rfl:i=nl:=by omega
    have HH:Hid (∀ (i:Nat) (x:dh),d.ev[i]?=some x->(x.e.kind=6->CrsF (d.ev.take i) x)/\(x.e.kind=4->cn (bh x.tx (d.ev.take i))=x.e.sig/\aU x.e.sig)):=fun i x h=>crs_at HG.out.hist h
    have HPO:Hid (∀ i,∀ s∈bP (d.ev.take i),aU s):=fun i=>Ar HG.out.hist i
    have HEV:=kH (wM hW (by omega) 0 (Nat.zero_le _))
    have hel:=hW.evl
    unfold ptr at HEV
    clear HG hW HLR HNL
    go_wp2_with fail
    refine HEV.out.mono ?_
    rintro e3 w3 ⟨hv,rfl,hW3⟩
    rw[List.drop_zero]at hW3
    obtain⟨Ds,hS3⟩:=hW3.sep
    clear hW3 HEV
    generalize d.ev=H at *
    have hrow3:aD w3 44 19 hv H.length (aL H):=hS3.h0
    obtain⟨eo,ec,rfl,hec,-⟩:=hrow3.slice
    obtain⟨n,hnl⟩:∃ n,H.length=n:=⟨_,rfl⟩
    have HNL:=kH hnl
    have HS3:=kH (hS3.nilRow 42 8)
    have hnb:n<=1000000000:=by omega
    have hecI:(n:Int)<=(ec:Int):=by omega
    clear hrow3 hS3 hel HN hi hin
    rw[hnl]at HS3 ⊢
    clear hnl hec
    go_wp2
    go_loopg[9,10] (n+1) (fun m v9 v10 wr=>∃ i:Nat,i<=n/\v10=.int .i64 i/\m+i=n+1/\ah w1 X' (aN 42 8 v9 (bP (H.take i)).length (fh (bP (H.take i)))::bW (.slice eo n ec) H::Ds) wr)
    case atStart=>exact⟨0,Nat.zero_le _,rfl,rfl,HS3.out⟩
    case round =>
     obtain⟨i,hi,rfl,hm,hS⟩:=hrel
     have HM:=kH hm
     have HS:=kH hS
     have hiI:(i:Int)<=(n:Int):=by omega
     clear hm HS3 hS
     by_cases hlt:i<n
     ·obtain⟨x,hx⟩:∃ x,H[i]?=some x:=⟨H[i]'(by have:=HNL.out;omega),List.getElem?_eq_getElem _⟩
      have HX:=kH hx
      have HSN:Hid (bP (H.take (i+1))=if x.e.kind=4 then bP (H.take i)++[x.e.sig]else bP (H.take i)):=by show _=_;rw[tm hx,ib]
      obtain⟨g,rfl,hcap,hg,hcell⟩:=nm (show aD wr 44 19 (.slice eo n ec) H.length (aL H)from HS.out.h1) HNL.out (by omega)
      have i3:=hcell i 3 x _ hx rfl
      have HEC:Hid (∀ W,aD W 44 19 (.slice (some ⟨g,0,none⟩) n ec) H.length (aL H)->g<W.heap.size/\∀ (k j:Nat) (y:dh) (u:Value),H[k]?=some y->(fO y)[j]?=some u->W.cell? ⟨g,k*19+j,none⟩=some u):=fun W h=>by
       obtain⟨g',hg',-,q1,q2⟩:=nm h HNL.out (by omega)
       obtain rfl:g=g':=by
        injection hg' with hg'
        injection hg'
       exact⟨q1,q2⟩
      obtain⟨kd,hkd⟩:∃ z,x.e.kind=z:=⟨_,rfl⟩
      rw[hkd]at i3 HSN
      have HKD:=kH hkd
      have HHx:=kH (HH.out i x hx)
      have HPi:=kH (HPO.out i)
      have hltI:(i:Int)<(n:Int):=by omega
      obtain⟨P,hP⟩:∃ P,bP (H.take i)=P:=⟨_,rfl⟩
      have HPP:=kH hP
      rw[hP]at HS HSN HPi
      have hPl:P.length<=1000000000:=by
       rw[<-hP]
       have h1:=ql (H.take i)
       rw[List.length_take]at h1
       omega
      obtain⟨pa,pc,hpv,hpc,-⟩:=(show aD wr 42 8 _ P.length (fh P)from HS.out.h0).slice
      subst hpv
      obtain⟨np,hnp⟩:∃ z,P.length=z:=⟨_,rfl⟩
      have HNP:=kH hnp
      rw[hnp]at HS hPl hpc ⊢
      have hpcI:(np:Int)<=(pc:Int):=by omega
      clear hcell hcap hx hkd hP HH HPO hnp
      by_cases h4:kd=4
      ·subst h4
       obtain⟨hown,hxs⟩:=HHx.out.2 HKD.out
       have HOW:=kH hown
       have HXS:=kH hxs
       have HSN2:Hid (bP (H.take (i+1))=P++[x.e.sig]):=by show _=_;rw[HSN.out,if_pos rfl]
       clear HHx HSN hown hxs
       have hS4:=HS.out.new (.cells #[.int .u64 0,.int .u64 0,.int .u64 0,.int .u64 0,.int .u64 0,.int .u64 0,.int .u64 0,.int .u64 0] 42 (0,0))
       have j4:=hS4.sigAt rfl
       have hcz:fR #[.int .u64 0,.int .u64 0,.int .u64 0,.int .u64 0,.int .u64 0,.int .u64 0,.int .u64 0,.int .u64 0]:=by rw[<-fE];exact dp cD.1
       go_upto_region 15 with(fail)
       have HS5:Hid (ah w1 X' (ag wr.heap.size (.cells (bH bQ) 42 (0,0))::aN 42 8 (.slice pa np pc) np (fh P)::bW (.slice (some ⟨g,0,none⟩) n ec) H::Ds) _):=hS4.setSigRow #[.int .u64 0,.int .u64 0,.int .u64 0,.int .u64 0,.int .u64 0,.int .u64 0,.int .u64 0,.int .u64 0]
       generalize World.setRow _ _ _=W5 at *
       generalize wr.heap.size=bo at *
       clear hS4 j4 i3 hg hcz HS
       go_wp2
       go_loopg[12] (i+1) (fun m v12 ws=>∃ k:Nat,k<=i/\v12=.int .i64 k/\m+k=i+1/\ah w1 X' (ag bo (.cells (bH (cn (bh x.tx (H.take k)))) 42 (0,0))::aN 42 8 (.slice pa np pc) np (fh P)::bW (.slice (some ⟨g,0,none⟩) n ec) H::Ds) ws)
       case atStart=>exact⟨0,Nat.zero_le _,rfl,rfl,HS5.out⟩
       case round =>
        obtain⟨k,hk,rfl,hm3,hSk⟩:=hrel
        have HM3:=kH hm3
        have HSk:=kH hSk
        have hkI:(k:Int)<=(i:Int):=by omega
        have hokw:=xf (bh x.tx (H.take k))
        clear hm3 HS5
        by_cases hltk:k<i
        ·obtain⟨y,hy⟩:∃ y,H[k]?=some y:=⟨H[k]'(by have:=HNL.out;omega),List.getElem?_eq_getElem _⟩
         have HWN:Hid (cn (bh x.tx (H.take (k+1)))=if y.e.kind=3/\y.tx=x.tx then be (cn (bh x.tx (H.take k))) y.e.cell else cn (bh x.tx (H.take k))):=by show _=_;rw[tm hy];exact xe _ _ _
         obtain⟨hg,hcell⟩:=HEC.out wr hSk.h2
         have k3:=hcell k 3 y _ hy rfl
         have k2:=hcell k 2 y _ hy rfl
         have k4:=hcell k 4 y _ hy rfl
         have i2:=hcell i 2 x _ HX.out rfl
         obtain⟨ky,hky⟩:∃ z,y.e.kind=z:=⟨_,rfl⟩
         obtain⟨ty,hty⟩:∃ z,y.tx=z:=⟨_,rfl⟩
         obtain⟨tx,htx⟩:∃ z,x.tx=z:=⟨_,rfl⟩
         obtain⟨cy,hcy⟩:∃ z,y.e.cell=z:=⟨_,rfl⟩
         rw[hky]at k3 HWN
         rw[hty]at k2 HWN
         rw[hcy]at k4 HWN
         obtain⟨A0,hA0⟩:∃ z,cn (bh x.tx (H.take k))=z:=⟨_,rfl⟩
         obtain⟨A1,hA1⟩:∃ z,cn (bh x.tx (H.take (k+1)))=z:=⟨_,rfl⟩
         have HA1:=kH hA1
         rw[hA0]at HSk HWN hSk hokw
         rw[hA1,htx]at HWN
         rw[htx]at i2
         have HI:=kH hltk
         have hltkI:(k:Int)<(n:Int):=by omega
         have hltkI2:(k:Int)<(i:Int):=by omega
         have m0:=hSk.sigAt (dp hokw.1).len
         have HOK:=kH hokw
         clear hcell hy hky hty htx hcy hA0 hA1 hltk hSk hokw
         have HWI:=kH (fun w=>iW A0 cy HOK.out w)
         have hcs2:fR (bH (be A0 cy)):=dp (cF HOK.out cy).1
         unfold dR at HWI
         obtain⟨SR,hSR⟩:∃ z,bH (be A0 cy)=z:=⟨_,rfl⟩
         have HSR:=kH hSR
         rw[hSR]at hcs2 HWI
         clear hSR
         go_upto_region 18 with(fail)
         refine crs18 k3 k2 i2 hg hltkI hltI hecI ?_
         iterate 18 intro _
         intro nq
         have HS6:=kH (HSk.out.drewN nq)
         have d1:ck (wr.drewN nq) bo (bH A0):=⟨m0.at_,m0.len⟩
         have d4:(wr.drewN nq).cell? ⟨g,k*19+4,none⟩=some (.int .i64 cy):=k4
         have dg:g<(wr.drewN nq).heap.size:=hg
         clear k2 k3 i2 m0 k4 hg
         generalize wr.drewN nq=W6 at *
         by_cases hc:ky=3/\ty=tx
         ·have HE:Hid (A1=be A0 cy):=by show _=_;rw[HWN.out,if_pos hc]
          rw[decide_eq_true hc]
          clear HWN hc
          go_wp2_with fail
          have m1:ck (World.drew W6) bo (bH A0):=⟨d1.at_,d1.len⟩
          have c4:(World.drew W6).cell? ⟨g,k*19+4,none⟩=some (.int .i64 cy):=d4
          have hg:g<(World.drew W6).heap.size:=dg
          clear d1 d4 dg
          refine wp_region_still_tail 6 (by kernel_rfl) (by kernel_rfl) ?_
          change wpStill _ _ (World.drew _) (fun a'=>wpList _ _ _ _ a' (World.drew _)) _ _
          simp only[List.take_succ_cons,List.take_zero,List.drop_succ_cons,List.drop_zero]
          repeat still_step
          refine wpStill_nil ?_
          go_wp2_with fail
          refine(HWI.out _).mono ?_
          rintro e2 w6 ⟨rfl,hb6⟩
          have HS7:=kH ((HS6.out.drew).below hb6)
          have m2:ck w6 bo (bH A0):=HS7.out.sigAt m1.len
          clear hb6 m1 c4 HS6
          go_wp2
          go_roundg (i-k)
          case measure=>have:=HM3.out;omega
          case rel=>exact⟨k+1,by have:=HI.out;omega,by go_num,by have:=HM3.out;omega,by rw[HA1.out,HE.out,HSR.out];exact HS7.out.setSigRow SR⟩
         ·have HE:Hid (A1=A0):=by show _=_;rw[HWN.out,if_neg hc]
          rw[decide_eq_false hc]
          clear HWN hc d1 d4 dg
          go_wp2
          go_roundg (i-k)
          case measure=>have:=HM3.out;omega
          case rel=>exact⟨k+1,by have:=HI.out;omega,by go_num,by have:=HM3.out;omega,by rw[HA1.out,HE.out];exact HS6.out⟩
        ·obtain rfl:k=i:=by omega
         have HB6:Hid (ah w1 X' (ag bo (.cells (bH x.e.sig) 42 (0,0))::aN 42 8 (.slice pa np pc) np (fh P)::bW (.slice (some ⟨g,0,none⟩) n ec) H::Ds) wr):=by
          rw[<-HOW.out]
          exact hSk
         obtain⟨hg,hcell⟩:=HEC.out wr hSk.h2
         have i3:=hcell k 3 x _ HX.out rfl
         rw[HKD.out]at i3
         have hmid:eX wr g (k*19+10) (dG x.e.sig):=tN (fun j u hu=>hcell k j x u HX.out hu) HXS.out.1
         have m0:ck wr bo (bH x.e.sig):=HB6.out.sigAt (dp HXS.out.1).len
         have hsame:nM (bH x.e.sig) (dG x.e.sig).toArray:=tr HXS.out.1
         have hcs:fR (bH x.e.sig):=dp HXS.out.1
         have mq:∀ q,ck (wr.drewN q) bo (bH x.e.sig):=fun q=>⟨m0.at_,m0.len⟩
         have hmq:∀ q,eX (wr.drewN q) g (k*19+10) (dG x.e.sig):=fun q=>⟨hmid.at_,hmid.len⟩
         clear hcell hSk hokw HSk hltk
         go_upto_region 20 with(fail)
         go_quiet(fail)
         have HB7:=kH (HB6.out.drewN nq)
         have m1:ck (wr.drewN nq) bo (bH x.e.sig):=⟨m0.at_,m0.len⟩
         clear hmid m0 i3 hsame HB6 hg mq hmq
         obtain⟨b0,b1,b2,b3,b4,b5,b6,b7,hb⟩:=lT HXS.out.1
         have hA:bH x.e.sig=#[.int .u64 b0,.int .u64 b1,.int .u64 b2,.int .u64 b3,.int .u64 b4,.int .u64 b5,.int .u64 b6,.int .u64 b7]:=by rw[hb];rfl
         have HLB:Hid (dG x.e.sig=[.int .u64 b0,.int .u64 b1,.int .u64 b2,.int .u64 b3,.int .u64 b4,.int .u64 b5,.int .u64 b6,.int .u64 b7]):=by show _=_;rw[hb];rfl
         rw[hA]at m1
         clear hA hb hcs
         generalize wr.drewN nq=W6 at *
         have HRW:Hid (aD W6 42 8 (.slice pa np pc) np (fh P)):=HB7.out.h1
         obtain⟨i0,yi,yz0,yz1,yz2⟩:=info_parts CW
         go_wp2_with(at_builtin;refine wpList_append_lies _ rfl (.tmp 98) (.tmp 100) 39 rfl 0 42 i0 _ 8 64 Tryz.underlying39 yi yz0 yz1 yz2 rfl (by decide) (.slice pa np pc) np (fh P) rfl (World.ownsRow.alloc HRW.out _) ⟨W6.heap.size,0,none⟩ 1 1 [.int .u64 b0,.int .u64 b1,.int .u64 b2,.int .u64 b3,.int .u64 b4,.int .u64 b5,.int .u64 b6,.int .u64 b7] rfl rfl (fun j u hu=>cG (ar rfl) j u hu) (by simp[Value.oneCell']) (by decide) (by unfold maxLen;omega) (by omega) (Nat.zero_le _) _ rfl ?_;intro g5 cap5 w5 hown5 hgrow5 hat5 hgl5;have S5:=((HB7.out.drop.alloc _).append hgrow5 hown5 hat5 (Nat.le_refl _));have HS7:=kH S5;obtain⟨hg,hcell⟩:=HEC.out w5 S5.h1;have i3:=hcell k 3 x _ HX.out rfl;rw[HKD.out]at i3;clear S5 hown5 hgrow5 hat5 hcell)
         go_roundg (n-k)
         case measure=>have:=HM.out;omega
         case rel=>exact⟨k+1,by omega,by go_num,by have:=HM.out;omega,by rw[HSN2.out,<-At,HLB.out,show(P++[x.e.sig]).length=np+1 by rw[List.length_append,HNP.out];rfl];exact HS7.out⟩
      ·have h4':(kd == 4)=false:=by simp[h4]
       have HSN2:Hid (bP (H.take (i+1))=P):=by show _=_;rw[HSN.out,if_neg h4]
       by_cases h6:kd=6
       ·subst h6
        have HF:=kH (HHx.out.1 HKD.out)
        clear HHx HSN h4
        have HP8:Hid (∀ s∈P,s.length=8):=fun s h=>(HPi.out s h).1
        have hxs:=HF.out.ok.2
        have HXS:=kH hxs
        clear hxs
        go_wp2
        go_loopg[13,14] (np+1) (fun m v13 v14 ws=>∃ t:Nat,t<=np/\v13=.bool (kp P x.e.start x.e.sig t)/\v14=.int .i64 t/\m+t=np+1/\ah w1 X' (aN 42 8 (.slice pa np pc) np (fh P)::bW (.slice (some ⟨g,0,none⟩) n ec) H::Ds) ws)
        case atStart=>exact⟨0,Nat.zero_le _,rfl,rfl,rfl,HS.out⟩
        case round =>
         obtain⟨t,ht,rfl,rfl,hm3,hSt⟩:=hrel
         have HM3:=kH hm3
         have HSt:=kH hSt
         have htI:(t:Int)<=(np:Int):=by omega
         clear hm3 HS i3 hg
         by_cases hltt:t<np
         ·obtain⟨gk,hgk⟩:∃ y,P[t]?=some y:=⟨P[t]'(by have:=HNP.out;omega),List.getElem?_eq_getElem _⟩
          have HSF:=kH (sk P x.e.start x.e.sig t)
          have hgd:P.getD t []=gk:=by rw[List.getD_eq_getElem?_getD,hgk];rfl
          rw[hgd]at HSF
          have hgok:=HPi.out gk (List.mem_of_getElem? hgk)
          obtain⟨hg,hcell⟩:=HEC.out wr hSt.h1
          obtain⟨pg,hpa,hpc2,hpg,hmid⟩:=mid_row (show aD wr 42 8 (.slice pa np pc) P.length (fh P)from by rw[HNP.out];exact hSt.h0) HP8.out HNP.out (by omega)
          subst hpa
          have mP:eX wr pg (t*8) (dG gk):=hmid t gk hgk
          have mX:eX wr g (i*19+10) (dG x.e.sig):=tN (fun j u hu=>hcell i j x u HX.out hu) HXS.out.1
          have HME:Hid (∀ w,Calls Tryz.prog 10 #[.agg (dG gk).toArray,.agg (dG x.e.sig).toArray] w (dd (.bool (mU gk x.e.sig)) w)):=fun w=>qt gk x.e.sig hgok HXS.out w
          have hltI2:(t:Int)<(np:Int):=by omega
          have HI:=kH hltt
          obtain⟨mb,hmb⟩:∃ z,mU gk x.e.sig=z:=⟨_,rfl⟩
          obtain⟨M0,hM0⟩:∃ z,kp P x.e.start x.e.sig t=z:=⟨_,rfl⟩
          obtain⟨st,hst⟩:∃ z,x.e.start=z:=⟨_,rfl⟩
          rw[hmb]at HME HSF
          rw[hM0]at HSF ⊢
          have HST:=kH hst
          clear hgk hgd hgok hcell hmid hmb hM0 hst hSt hltt
          have HI7:Hid (∀ W,ah w1 X' (aN 42 8 (.slice (some ⟨pg,0,none⟩) np pc) np (fh P)::bW (.slice (some ⟨g,0,none⟩) n ec) H::Ds) W->g<W.heap.size/\W.cell? ⟨g,i*19+7,none⟩=some (.int .i64 st)):=fun W hW=>by
           obtain⟨q1,q2⟩:=HEC.out W hW.h1
           exact⟨q1,by rw[<-HST.out];exact q2 i 7 x _ HX.out rfl⟩
          generalize dG gk=lg at *
          obtain⟨lx,hlx⟩:∃ z,dG x.e.sig=z:=⟨_,rfl⟩
          rw[hlx]at mX HME
          clear hlx
          go_upto_region 28 with(fail)
          have m1:eX (World.drew wr) pg (t*8) lg:=⟨mP.at_,mP.len⟩
          have m2:eX (World.drew wr) g (i*19+10) lx:=⟨mX.at_,mX.len⟩
          have hg1:g<(World.drew wr).heap.size:=hg
          have hg2:pg<(World.drew wr).heap.size:=hpg
          refine wp_region_still_tail 9 (by kernel_rfl) (by kernel_rfl) ?_
          change wpStill _ _ (World.drew _) (fun a'=>wpList _ _ _ _ a' (World.drew _)) _ _
          simp only[List.take_succ_cons,List.take_zero,List.drop_succ_cons,List.drop_zero]
          repeat still_step
          refine wpStill_nil ?_
          go_wp2_with fail
          refine(HME.out _).mono ?_
          rintro e2 w6 ⟨rfl,hb6⟩
          have hS7:=(HSt.out.drew).below hb6
          obtain⟨hg,i7⟩:=HI7.out _ hS7
          have HS7:=kH hS7
          clear hb6 m1 m2 mP mX hg1 hg2 hS7 HME hpg
          cases M0 with
          | true =>
           have HR:Hid (kp P x.e.start x.e.sig (t+1)=true):=HSF.out
           go_wp2
           go_roundg (np-t)
           case measure=>have:=HM3.out;omega
           case rel=>exact⟨t+1,by have:=HI.out;omega,by rw[HR.out],by go_num,by have:=HM3.out;omega,HS7.out⟩
          | false =>
           by_cases hge:st<=(t:Int)
           ·have HR:Hid (kp P x.e.start x.e.sig (t+1)=mb):=by show _=_;rw[HSF.out,HST.out,decide_eq_true hge];rfl
            cases mb
            all_goals
             go_wp2
             go_roundg (np-t)
             case measure=>have:=HM3.out;omega
             case rel=>exact⟨t+1,by have:=HI.out;omega,by rw[HR.out],by go_num,by have:=HM3.out;omega,HS7.out⟩
           ·have HR:Hid (kp P x.e.start x.e.sig (t+1)=false):=by show _=_;rw[HSF.out,HST.out,decide_eq_false hge];rfl
            have hlt9:(t:Int)<st:=by omega
            clear hge
            go_wp2
            go_roundg (np-t)
            case measure=>have:=HM3.out;omega
            case rel=>exact⟨t+1,by have:=HI.out;omega,by rw[HR.out],by go_num,by have:=HM3.out;omega,HS7.out⟩
         ·obtain rfl:t=np:=by omega
          clear HM3 htI ht hltt
          obtain⟨SB,hSB⟩:∃ z,kp P x.e.start x.e.sig t=z:=⟨_,rfl⟩
          have HSB:=kH hSB
          rw[hSB]
          have hS4:=hSt.new (.cells #[.int .u64 0,.int .u64 0,.int .u64 0,.int .u64 0,.int .u64 0,.int .u64 0,.int .u64 0,.int .u64 0] 42 (0,0))
          have j4:=hS4.sigAt rfl
          have hcz:fR #[.int .u64 0,.int .u64 0,.int .u64 0,.int .u64 0,.int .u64 0,.int .u64 0,.int .u64 0,.int .u64 0]:=by rw[<-fE];exact dp cD.1
          clear hSB hSt
          go_upto_region 31 with(fail)
          have HS5:Hid (ah w1 X' (ag wr.heap.size (.cells (bH bQ) 42 (0,0))::aN 42 8 (.slice pa t pc) t (fh P)::bW (.slice (some ⟨g,0,none⟩) n ec) H::Ds) _):=hS4.setSigRow #[.int .u64 0,.int .u64 0,.int .u64 0,.int .u64 0,.int .u64 0,.int .u64 0,.int .u64 0,.int .u64 0]
          generalize World.setRow _ _ _=W5 at *
          generalize wr.heap.size=br at *
          clear hS4 j4 hcz HSt
          go_wp2
          go_loopg[17] (i+1) (fun m v17 ws=>∃ k:Nat,k<=i/\v17=.int .i64 k/\m+k=i+1/\ah w1 X' (ag br (.cells (bH (aV (bh x.tx (H.take k)))) 42 (0,0))::aN 42 8 (.slice pa t pc) t (fh P)::bW (.slice (some ⟨g,0,none⟩) n ec) H::Ds) ws)
          case atStart=>exact⟨0,Nat.zero_le _,rfl,rfl,HS5.out⟩
          case round =>
           obtain⟨k,hk,rfl,hm3,hSk⟩:=hrel
           have HM3:=kH hm3
           have HSk:=kH hSk
           have hkI:(k:Int)<=(i:Int):=by omega
           have hokw:=lY (bh x.tx (H.take k))
           clear hm3 HS5
           by_cases hltk:k<i
           ·obtain⟨y,hy⟩:∃ y,H[k]?=some y:=⟨H[k]'(by have:=HNL.out;omega),List.getElem?_eq_getElem _⟩
            have HWN:Hid (aV (bh x.tx (H.take (k+1)))=if y.e.kind=2/\y.tx=x.tx/\y.e.own=false then be (aV (bh x.tx (H.take k))) y.e.cell else aV (bh x.tx (H.take k))):=by show _=_;rw[tm hy];exact xI _ _ _
            obtain⟨hg,hcell⟩:=HEC.out wr hSk.h2
            have k3:=hcell k 3 y _ hy rfl
            have k2:=hcell k 2 y _ hy rfl
            have k4:=hcell k 4 y _ hy rfl
            have i2:=hcell i 2 x _ HX.out rfl
            obtain⟨ky,hky⟩:∃ z,y.e.kind=z:=⟨_,rfl⟩
            obtain⟨ty,hty⟩:∃ z,y.tx=z:=⟨_,rfl⟩
            obtain⟨tx,htx⟩:∃ z,x.tx=z:=⟨_,rfl⟩
            obtain⟨cy,hcy⟩:∃ z,y.e.cell=z:=⟨_,rfl⟩
            rw[hky]at k3 HWN
            rw[hty]at k2 HWN
            rw[hcy]at k4 HWN
            have k6:=hcell k 6 y _ hy rfl
            obtain⟨ow,how⟩:∃ z,y.e.own=z:=⟨_,rfl⟩
            rw[how]at k6 HWN
            obtain⟨A0,hA0⟩:∃ z,aV (bh x.tx (H.take k))=z:=⟨_,rfl⟩
            obtain⟨A1,hA1⟩:∃ z,aV (bh x.tx (H.take (k+1)))=z:=⟨_,rfl⟩
            have HA1:=kH hA1
            rw[hA0]at HSk HWN hSk hokw
            rw[hA1,htx]at HWN
            rw[htx]at i2
            have HI:=kH hltk
            have hltkI:(k:Int)<(n:Int):=by omega
            have hltkI2:(k:Int)<(i:Int):=by omega
            have m0:=hSk.sigAt (dp hokw.1).len
            have HOK:=kH hokw
            clear hcell hy hky hty htx hcy how hA0 hA1 hltk hSk hokw
            have HWI:=kH (fun w=>iW A0 cy HOK.out w)
            have hcs2:fR (bH (be A0 cy)):=dp (cF HOK.out cy).1
            unfold dR at HWI
            obtain⟨SR,hSR⟩:∃ z,bH (be A0 cy)=z:=⟨_,rfl⟩
            have HSR:=kH hSR
            rw[hSR]at hcs2 HWI
            clear hSR
            go_upto_region 34 with(fail)
            refine crs34 k3 k2 k6 i2 hg hltkI hltI hecI ?_
            iterate 26 intro _
            intro nq
            have HS6:=kH (HSk.out.drewN nq)
            have d1:ck (wr.drewN nq) br (bH A0):=⟨m0.at_,m0.len⟩
            have d4:(wr.drewN nq).cell? ⟨g,k*19+4,none⟩=some (.int .i64 cy):=k4
            have dg:g<(wr.drewN nq).heap.size:=hg
            clear k2 k3 i2 m0 k4 hg k6
            generalize wr.drewN nq=W6 at *
            by_cases hc:ky=2/\ty=tx/\ow=false
            ·have HE:Hid (A1=be A0 cy):=by show _=_;rw[HWN.out,if_pos hc]
             rw[decide_eq_true hc]
             clear HWN hc
             go_wp2_with fail
             have m1:ck (World.drew W6) br (bH A0):=⟨d1.at_,d1.len⟩
             have c4:(World.drew W6).cell? ⟨g,k*19+4,none⟩=some (.int .i64 cy):=d4
             have hg:g<(World.drew W6).heap.size:=dg
             clear d1 d4 dg
             refine wp_region_still_tail 6 (by kernel_rfl) (by kernel_rfl) ?_
             change wpStill _ _ (World.drew _) (fun a'=>wpList _ _ _ _ a' (World.drew _)) _ _
             simp only[List.take_succ_cons,List.take_zero,List.drop_succ_cons,List.drop_zero]
             repeat still_step
             refine wpStill_nil ?_
             go_wp2_with fail
             refine(HWI.out _).mono ?_
             rintro e2 w6 ⟨rfl,hb6⟩
             have HS7:=kH ((HS6.out.drew).below hb6)
             have m2:ck w6 br (bH A0):=HS7.out.sigAt m1.len
             clear hb6 m1 c4 HS6
             go_wp2
             go_roundg (i-k)
             case measure=>have:=HM3.out;omega
             case rel=>exact⟨k+1,by have:=HI.out;omega,by go_num,by have:=HM3.out;omega,by rw[HA1.out,HE.out,HSR.out];exact HS7.out.setSigRow SR⟩
            ·have HE:Hid (A1=A0):=by show _=_;rw[HWN.out,if_neg hc]
             rw[decide_eq_false hc]
             clear HWN hc d1 d4 dg
             go_wp2
             go_roundg (i-k)
             case measure=>have:=HM3.out;omega
             case rel=>exact⟨k+1,by have:=HI.out;omega,by go_num,by have:=HM3.out;omega,by rw[HA1.out,HE.out];exact HS6.out⟩
           ·obtain rfl:k=i:=by omega
            clear HM3 hltk
            have hall:=HF.out.all
            have hfew:=HF.out.few
            have hbl:=nD (aV (bh x.tx (H.take k))) 512
            have HMET:Hid (x.e.err=3->SB=true):=fun h3=>by
             have h:=HF.out.met h3
             rw[HPP.out,HNP.out,HSB.out]at h
             exact h
            have HSAME:=kH HF.out.same
            obtain⟨hg,hcell⟩:=HEC.out wr hSk.h2
            have i18:=hcell k 18 x _ HX.out rfl
            have HI18:Hid (∀ W,aD W 44 19 (.slice (some ⟨g,0,none⟩) n ec) H.length (aL H)->g<W.heap.size/\W.cell? ⟨g,k*19+18,none⟩=some (.int .i64 x.e.err)/\eX W g (k*19+10) (dG x.e.sig)):=fun W hW=>by
             obtain⟨q1,q2⟩:=HEC.out W hW
             exact⟨q1,q2 k 18 x _ HX.out rfl,tN (fun j u hu=>q2 k j x u HX.out hu) HXS.out.1⟩
            have mX:eX wr g (k*19+10) (dG x.e.sig):=tN (fun j u hu=>hcell k j x u HX.out hu) HXS.out.1
            obtain⟨R,hR⟩:∃ z,aV (bh x.tx (H.take k))=z:=⟨_,rfl⟩
            rw[hR]at hall hfew hbl HSAME hokw hSk
            have HUN:Hid (∀ w,Calls Tryz.prog 11 #[.agg (bH R),.agg (dG x.e.sig).toArray] w (dd (.agg (bH x.e.sig)) w)):=fun w=>by
             have h:=qs R x.e.sig hokw HXS.out w
             rw[hall]at h
             exact h
            have HB1:Hid (∀ w,Calls Tryz.prog 12 #[.agg (dG x.e.sig).toArray] w (iz x.e.sig w)):=fun w=>iX x.e.sig HXS.out w
            have HB2:Hid (∀ w,Calls Tryz.prog 12 #[.agg (bH R)] w (iz R w)):=fun w=>iX R hokw w
            have HS:=kH hSk
            have hsz:(bH R).size=8:=(dp hokw.1).len
            have hcsX:fR (bH x.e.sig):=dp HXS.out.1
            have m0:ck wr br (bH R):=hSk.sigAt hsz
            have HS1:Hid (nM (bH x.e.sig) (dG x.e.sig).toArray):=tr HXS.out.1
            have HS2:Hid (x.e.err=0->nM (bH R) (dG x.e.sig).toArray):=fun h0=>by
             rw[HSAME.out h0]
             exact tr HXS.out.1
            unfold iz at HB1 HB2
            obtain⟨nb,hnb⟩:∃ z,(dt x.e.sig 512).length=z:=⟨_,rfl⟩
            obtain⟨nf,hnf⟩:∃ z,(dt R 512).length=z:=⟨_,rfl⟩
            rw[hnb]at hfew HB1
            rw[hnf]at hfew hbl HB2
            generalize bz (dt x.e.sig 512)=L1 at *
            generalize bz (dt R 512)=L2 at *
            obtain⟨er,her⟩:∃ z,x.e.err=z:=⟨_,rfl⟩
            rw[her]at i18 HI18 HMET HS2
            clear hall hcell hR HSAME hokw hSk HSk hnb hnf her
            obtain⟨A,hA⟩:∃ z,bH R=z:=⟨_,rfl⟩
            obtain⟨B,hB⟩:∃ z,bH x.e.sig=z:=⟨_,rfl⟩
            obtain⟨lx,hlx⟩:∃ z,dG x.e.sig=z:=⟨_,rfl⟩
            rw[hA]at HUN HB2 HS hsz m0 HS2
            rw[hB]at HUN hcsX HS1
            rw[hlx]at HUN HB1 HS1 HS2 mX HI18
            clear hA hB hlx i18
            go_upto_region 36 with(fail)
            refine crs36 m0 mX hcsX HUN HS hg hltI hecI ?_
            iterate 7 intro _
            intro bu wc hS8
            clear m0 mX hg
            have m16:=hS8.sigAt1 hsz
            obtain⟨hg,i18,mX⟩:=HI18.out _ hS8.h3
            have HS8:=kH hS8
            clear hS8 HS HUN
            go_wp2_with fail
            refine(HB1.out _).mono ?_
            rintro e3 w7 ⟨v19,rfl,hR1⟩
            have hS9:=HS8.out.below hR1.kept.below
            obtain⟨xa,xc,rfl,hxc,-⟩:=(show aD w7 3 1 v19 nb L1 from hR1.h0).slice
            have m16:=hS9.sigAt1 hsz
            have HS9:=kH hS9
            clear hR1 hS9 HS8 HB1 i18 mX hg
            go_wp2_with fail
            refine(HB2.out _).mono ?_
            rintro e4 w8 ⟨v20,rfl,hR2⟩
            have hS10:=HS9.out.below hR2.kept.below
            obtain⟨ya,yc,rfl,hyc,-⟩:=(show aD w8 3 1 v20 nf L2 from hR2.h0).slice
            obtain⟨hg,i18,mX⟩:=HI18.out _ hS10.h3
            have m16:=hS10.sigAt1 hsz
            have m18:=hS10.sigAt hcsX.len
            have HS10:=kH hS10
            have hfewI:(nb:Int)<=(nf:Int)+1:=by omega
            have hnfI:(nf:Int)<=512:=by omega
            clear hR2 hS10 HS9 HB2 hfew hbl hxc hyc
            go_upto_region 39 with(fail)
            refine crs39 m16 m18 mX i18 hg hltI hecI hfewI hnfI HS1 HS2 HMET ?_
            iterate 43 intro _
            intro nq
            clear m16 m18 mX i18 hg
            go_wp2
            go_roundg (n-k)
            case measure=>have:=HM.out;omega
            case rel=>exact⟨k+1,by omega,by go_num,by have:=HM.out;omega,by rw[HSN2.out,HNP.out];exact HS10.out.drop.drop.drewN _⟩
       ·have h6':(kd != 6)=true:=by simp[h6]
        clear h6 h4 HSN HHx
        go_wp2
        go_roundg (n-i)
        case measure=>have:=HM.out;omega
        case rel=>exact⟨i+1,by omega,by go_num,by have:=HM.out;omega,by rw[HSN2.out,HNP.out];exact HS.out⟩
     ·obtain rfl:i=n:=by omega
      have HB:=kH (HBW.out _ HS.out.kept)
      go_wp2
      go_ret
      exact⟨rfl,HB.out⟩
end
end Go.Proofs.YtgfogfciobmmpaaGreatDoor
