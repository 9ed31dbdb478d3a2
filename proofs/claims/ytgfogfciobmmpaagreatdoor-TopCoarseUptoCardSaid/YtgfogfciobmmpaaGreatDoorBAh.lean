/- A part of the proof of a law of carouseltop: Chk3 Fet Com Com2 Com3 Com4 Bak Bak2. -/
import Derived.Test.YtgfogfciobmmpaaGreatDoorBAg
import Derived.Laws.EntriesVeiled
import Derived.Deep.LoopGhost
set_option linter.unusedSimpArgs false
set_option linter.unusedVariables false
set_option maxRecDepth 100000
set_option maxHeartbeats 8000000
namespace Go.Proofs.YtgfogfciobmmpaaGreatDoor
open Go.RowKit
theorem C6(w:World)(x p:Nat)(th:Int)(c:eD)(m:au)(L:Nat)(F:List Nat)(h:cJ w x c)(hr:dk w p m L F)(hx:x∉F)(hok:lV c m.ring)(h0:c.state=1)(hL:L<=1073741824) :
  Calls Tryz.prog 275 #[ptr x,ptr p,.int .i64 th] w (gC x p L F (fun w'=>cJ w' x (aE m c).2) (aE m c).1 m w):=by
 obtain⟨size,from_,reads,last,state,start,seen,at_,word⟩:=c
 have hlk:=hok.looks (.inl h0)
 obtain⟨k1,k2,k3,k4,-,k6,k7,-,k9,-,-,-⟩:=hok
 simp only at k1 k2 k3 k4 k6 k7 k9 h0 hlk
 subst k1 h0
 have hrg:=hr.ok.ring
 have hrg1:1<=m.ring/\m.ring<=16:=by unfold au.ring;omega
 have hstep:aE m ⟨m.ring,from_,reads,last,1,start,seen,at_,word⟩ =
   (if bK (m.head at_)<at_ then(waits,⟨m.ring,from_,reads,last,1,start,seen,at_,word⟩)
   else if at_<bK (m.head at_)then(bi 4,⟨m.ring,from_,reads,last,5,start,seen,at_,word⟩)
   else(moved,⟨m.ring,from_,reads,last,2,if iP (m.head at_)=true/\start=at_-1 then at_ else start,seen,at_,cq reads 8 0⟩)):=rfl
 generalize aE m ⟨m.ring,from_,reads,last,1,start,seen,at_,word⟩=R at hstep ⊢
 have HSTEP:=kH hstep
 have M0:=vu h hr hx aB
 have HL:=kH (fun q=>(M0.drewN q).loadHead th at_ hL)
 have d0:(w.alloc aB).cell? ⟨x,0,none⟩=some (.int .i64 m.ring):=M0.cell 0
 have d14:(w.alloc aB).cell? ⟨x,14,none⟩=some (.int .i64 at_):=M0.cell 14
 have HS:=kH (fun W=>iv at_ m.ring hrg1.1 hrg1.2 W)
 have HST:=kH (fun W=>kT (m.head at_) W)
 have HDN:=kH (fun W=>rA (m.head at_) W)
 unfold aI at k3 k7 k9
 simp only[aB]at d0 d14
 clear hstep h hr hx hrg M0
 generalize hst:bK (m.head at_)=sh at *
 have HSH:=kH hst
 clear hst
 unfold ptr
 go_enter Tryz.func275,Tryz.ntmps275
 go_wp2_with fail
 go_region_held3 (fun w'=>w'.cell? ⟨x,0,none⟩=some (.int .i64 m.ring)/\w'.cell? ⟨x,14,none⟩=some (.int .i64 at_)) (go_keep) (first|(go_at_call 216;refine(HS.out _).mono ?_;rintro e w' ⟨rfl,rfl⟩)|(go_at_call 215;refine(HL.out _).mono ?_;rintro e2 w2 ⟨rfl,M1⟩;have k0:=M1.cell 0;have k14:=M1.cell 14;simp only[gl,gA,gZ,gS]at k0 k14;have HM:=kH M1;clear M1))
 clear d0 d14 k0 HL
 go_wp2_with fail
 refine(HST.out _).mono ?_
 rintro e w3 ⟨rfl,rfl⟩
 obtain⟨⟨a0,a1,a2,a3⟩,⟨g0,g1,g2,g3⟩⟩:=HM.out.ansBox
 rcases(show sh<at_\/(at_<sh)\/(sh=at_) by omega)with hc|hc|hc
 ·have HC:=kH hc
  go_wp2
  refine HM.out.ret waits rfl rfl rfl (fun W' M=>?_)
  have hR:=HSTEP.out
  rw[if_pos HC.out]at hR
  subst hR
  exact M.fin (fun h=>h)
 ·have HC:=kH hc
  have hc1:¬sh<at_:=by omega
  go_wp2_with fail
  refine(jN _ x _ 4 HM.out.mach).mono ?_
  rintro e w4 ⟨rfl,h4,hk4⟩
  have HM4:=kH (HM.out.call hk4 h4)
  clear h4 hk4 a0 a1 a2 a3 g0 g1 g2 g3
  obtain⟨⟨a0,a1,a2,a3⟩,⟨g0,g1,g2,g3⟩⟩:=HM4.out.ansBox
  go_wp2
  refine HM4.out.ret (bi 4) rfl rfl rfl (fun W' M=>?_)
  have hR:=HSTEP.out
  rw[if_neg (show ¬sh<at_ by have:=HC.out;omega),if_pos HC.out]at hR
  subst hR
  exact M.fin (fun h=>h)
 ·have HB:Hid (∀ (W:World) (st:Int),cJ W x ⟨m.ring,from_,reads,last,1,st,seen,at_,word⟩->Calls Tryz.prog 272 #[ptr x,.int .i64 (-1)] W (fun e w'=>e=.returned (.int .i64 (cq reads 8 0:Nat))/\Below W.heap.size W w')):=fun W st hW=>rf W x _ 0 (-1) hW (by decide) (by decide)
  have HR2:Hid (R=(moved,⟨m.ring,from_,reads,last,2,if iP (m.head at_)=true/\start=at_-1 then at_ else start,seen,at_,cq reads 8 0⟩)):=by
   have hR:=HSTEP.out
   rw[if_neg (by omega),if_neg (by omega)]at hR
   exact hR
  have hlt:¬sh<at_:=by omega
  have hgt:¬at_<sh:=by omega
  have hw1:IntKind.i64.wrap (at_-1)=at_-1:=IntWalk.i64_in _ (by omega)
  generalize cq reads 8 0=nw at *
  generalize iP (m.head at_)=d at *
  clear hc HSTEP HSH
  have k12:=HM.out.cell 12
  have k12f:=HM.out.froz 12
  simp only[gl,gA,gZ,gS]at k12
  by_cases hdd:d=true/\start=at_-1
  ·obtain⟨rfl,hst⟩:=hdd
   have hse:(start == at_-1)=true:=by simpa using hst
   have HST2:=kH hst
   clear hst
   go_wp2_with fail
   go_quiet((go_at_call 214;exact eU (HDN.out _)))
   go_wp2_with fail
   refine Calls.mono (HB.out _ at_ ((HM.out.drewN nq).set 12 (.int .i64 at_)).mach) ?_
   rintro e w5 ⟨rfl,hb5⟩
   have M5:eI w x w.heap.size p (L+1) F m (.cells (gl ⟨m.ring,from_,reads,last,1,at_,seen,at_,word⟩) 254 (0,0)) aB w5:=eI.below ((HM.out.drewN nq).set 12 (.int .i64 at_)) hb5
   have HM5:=kH M5
   have f15:=M5.froz 15
   have k15:=M5.cell 15
   simp only[gl,gA,gZ,gS]at k15
   clear M5 hb5
   go_wp2_with fail
   refine Calls.mono (fx _ x ⟨m.ring,from_,reads,last,1,at_,seen,at_,nw⟩ 2 (HM5.out.set 15 (.int .i64 nw)).mach (by decide)) ?_
   rintro e w6 ⟨rfl,h6,hk6⟩
   have HM6:=kH ((HM5.out.set 15 (.int .i64 nw)).call hk6 h6)
   clear h6 hk6 a0 a1 a2 a3 g0 g1 g2 g3
   obtain⟨⟨a0,a1,a2,a3⟩,⟨g0,g1,g2,g3⟩⟩:=HM6.out.ansBox
   go_wp2
   refine HM6.out.ret moved rfl rfl rfl (fun W' M=>?_)
   have hR:=HR2.out
   rw[if_pos (show True/\start=at_-1 from⟨trivial,HST2.out⟩)]at hR
   subst hR
   exact M.fin (fun h=>h)
  ·have HAND:=kH hdd
   cases d
   ·clear hdd
    go_wp2_with fail
    go_quiet((go_at_call 214;exact eU (HDN.out _)))
    go_wp2_with fail
    refine Calls.mono (HB.out _ start (HM.out.drewN nq).mach) ?_
    rintro e w5 ⟨rfl,hb5⟩
    have M5:eI w x w.heap.size p (L+1) F m (.cells (gl ⟨m.ring,from_,reads,last,1,start,seen,at_,word⟩) 254 (0,0)) aB w5:=eI.below (HM.out.drewN nq) hb5
    have HM5:=kH M5
    have f15:=M5.froz 15
    have k15:=M5.cell 15
    simp only[gl,gA,gZ,gS]at k15
    clear M5 hb5
    go_wp2_with fail
    refine Calls.mono (fx _ x ⟨m.ring,from_,reads,last,1,start,seen,at_,nw⟩ 2 (HM5.out.set 15 (.int .i64 nw)).mach (by decide)) ?_
    rintro e w6 ⟨rfl,h6,hk6⟩
    have HM6:=kH ((HM5.out.set 15 (.int .i64 nw)).call hk6 h6)
    clear h6 hk6 a0 a1 a2 a3 g0 g1 g2 g3
    obtain⟨⟨a0,a1,a2,a3⟩,⟨g0,g1,g2,g3⟩⟩:=HM6.out.ansBox
    go_wp2
    refine HM6.out.ret moved rfl rfl rfl (fun W' M=>?_)
    have hR:=HR2.out
    rw[if_neg HAND.out]at hR
    subst hR
    exact M.fin (fun h=>h)
   ·have hse:(start == at_-1)=false:=by simpa using hdd
    clear hdd
    go_wp2_with fail
    go_quiet((go_at_call 214;exact eU (HDN.out _)))
    go_wp2_with fail
    refine Calls.mono (HB.out _ start (HM.out.drewN nq).mach) ?_
    rintro e w5 ⟨rfl,hb5⟩
    have M5:eI w x w.heap.size p (L+1) F m (.cells (gl ⟨m.ring,from_,reads,last,1,start,seen,at_,word⟩) 254 (0,0)) aB w5:=eI.below (HM.out.drewN nq) hb5
    have HM5:=kH M5
    have f15:=M5.froz 15
    have k15:=M5.cell 15
    simp only[gl,gA,gZ,gS]at k15
    clear M5 hb5
    go_wp2_with fail
    refine Calls.mono (fx _ x ⟨m.ring,from_,reads,last,1,start,seen,at_,nw⟩ 2 (HM5.out.set 15 (.int .i64 nw)).mach (by decide)) ?_
    rintro e w6 ⟨rfl,h6,hk6⟩
    have HM6:=kH ((HM5.out.set 15 (.int .i64 nw)).call hk6 h6)
    clear h6 hk6 a0 a1 a2 a3 g0 g1 g2 g3
    obtain⟨⟨a0,a1,a2,a3⟩,⟨g0,g1,g2,g3⟩⟩:=HM6.out.ansBox
    go_wp2
    refine HM6.out.ret moved rfl rfl rfl (fun W' M=>?_)
    have hR:=HR2.out
    rw[if_neg HAND.out]at hR
    subst hR
    exact M.fin (fun h=>h)
theorem kR(a:aM):a.val=.agg #[.int .i64 a.kind,.int .i64 a.err,.int .i64 a.value,.bool a.access]:=rfl
theorem wP(w:World)(x p:Nat)(th:Int)(c:eD)(m:au)(L:Nat)(F:List Nat)(h:cJ w x c)(hr:dk w p m L F)(hx:x∉F)(hok:lV c m.ring)(hL:L<=1073741824) :
  Calls Tryz.prog 273 #[ptr x,ptr p,.int .i64 th] w (gC x p L F (fun w'=>cJ w' x (aE m c).2) (aE m c).1 m w):=by
 have hst:=hok.state
 have HOK:=kH hok
 have M0:=vu h hr hx aB
 have HM0:=kH M0
 have hsz:c.size=m.ring:=hok.size
 clear h hr hx hok M0
 rcases(show c.state=0\/c.state=1\/c.state=2\/c.state=3 by omega)with hs|hs|hs|hs
 ·have HS:=kH hs
  generalize hR:aE m c=R
  have HSTEP:=kH hR
  clear hR hst
  unfold ptr
  go_enter Tryz.func273,Tryz.ntmps273
  go_wp2_with fail
  refine HM0.out.sizes.mono ?_
  rintro e w1 ⟨rfl,M1⟩
  have k0:=M1.cell 0
  have k11:=M1.cell 11
  simp only[gl,gA,gZ,gS]at k0 k11
  rw[hsz]at k0
  rw[hs]at k11
  have HM1:=kH M1
  clear M1 hs hsz
  go_wp2_with fail
  refine(HM1.out.step (fun F' hr' hx'=>A8 _ x p th c m L F' (show cJ _ x c from HM1.out.mach) hr' hx' HOK.out HS.out hL) (fun W' h=>h)).mono ?_
  rintro e w2 ⟨rfl,M2⟩
  obtain⟨⟨a0,a1,a2,a3⟩,⟨g0,g1,g2,g3⟩⟩:=M2.ansBox
  have HM2:=kH M2
  rw[kR]
  clear M2
  go_wp2
  refine HM2.out.ret _ rfl rfl rfl (fun W' M=>?_)
  have hR:=HSTEP.out
  subst hR
  exact M.fin (fun h=>h)
 ·have HS:=kH hs
  generalize hR:aE m c=R
  have HSTEP:=kH hR
  clear hR hst
  unfold ptr
  go_enter Tryz.func273,Tryz.ntmps273
  go_wp2_with fail
  refine HM0.out.sizes.mono ?_
  rintro e w1 ⟨rfl,M1⟩
  have k0:=M1.cell 0
  have k11:=M1.cell 11
  simp only[gl,gA,gZ,gS]at k0 k11
  rw[hsz]at k0
  rw[hs]at k11
  have HM1:=kH M1
  clear M1 hs hsz
  go_wp2_with fail
  refine(HM1.out.step (fun F' hr' hx'=>C6 _ x p th c m L F' (show cJ _ x c from HM1.out.mach) hr' hx' HOK.out HS.out hL) (fun W' h=>h)).mono ?_
  rintro e w2 ⟨rfl,M2⟩
  obtain⟨⟨a0,a1,a2,a3⟩,⟨g0,g1,g2,g3⟩⟩:=M2.ansBox
  have HM2:=kH M2
  rw[kR]
  clear M2
  go_wp2
  refine HM2.out.ret _ rfl rfl rfl (fun W' M=>?_)
  have hR:=HSTEP.out
  subst hR
  exact M.fin (fun h=>h)
 ·obtain⟨size,from_,reads,last,state,start,seen,at_,word⟩:=c
  simp only at hs hsz hst
  subst hs hsz
  have hlk:=HOK.out.looks (.inr rfl)
  have hw8:=HOK.out.word2 rfl
  have hw0:=HOK.out.word.1
  have h64:=HOK.out.at64
  have hsn:=HOK.out.seen
  simp only at hlk hw8 hw0 h64 hsn
  obtain⟨k,hk⟩:=Int.eq_ofNat_of_zero_le hw0
  subst hk
  have hk8:k<8:=by omega
  have hstep:aE m ⟨m.ring,from_,reads,last,2,start,seen,at_,(k:Int)⟩ =
   (if ks (m.sig at_ k) (reads.getD k 0)=true then(bi 3,⟨m.ring,from_,reads,last,5,start,seen,at_,(k:Int)⟩)
   else if cq reads 8 (k+1)<8 then(moved,⟨m.ring,from_,reads,last,2,start,seen,at_,(cq reads 8 (k+1):Nat)⟩)
   else if at_<seen then(moved,⟨m.ring,from_,reads,last,1,start,seen,at_+1,(cq reads 8 (k+1):Nat)⟩)
   else if last=true then(moved,⟨m.ring,from_,reads,last,3,start,seen,at_,(cq reads 8 (k+1):Nat)⟩)
   else(aW 0,⟨m.ring,from_,reads,last,4,start,seen,at_,(cq reads 8 (k+1):Nat)⟩)):=rfl
  generalize aE m ⟨m.ring,from_,reads,last,2,start,seen,at_,(k:Int)⟩=R at hstep ⊢
  have HSTEP:=kH hstep
  obtain⟨F',hr'⟩:=HM0.out.rep
  have hrg:=hr'.ok.ring
  have hrg1:1<=m.ring/\m.ring<=16:=by unfold au.ring;omega
  have hrd:=dx HOK.out.reads.2 k
  have hsg:aI (m.sig at_ k):=nh hr'.ok.s64 _
  have HS:=kH (fun W=>iv at_ m.ring hrg1.1 hrg1.2 W)
  have HB:Hid (∀ (W:World),cJ W x ⟨m.ring,from_,reads,last,2,start,seen,at_,(k:Int)⟩->Calls Tryz.prog 272 #[ptr x,.int .i64 (k:Int)] W (fun e w'=>e=.returned (.int .i64 (cq reads 8 (k+1):Nat))/\Below W.heap.size W w')):=fun W hW=>rf W x _ (k+1) k hW (by simp) (by omega)
  have hun:IntKind.u64.wrap (m.sig at_ k)=fZ (m.sig at_ k):=by rw[IntKind.wrap_u64];rfl
  have hshr:ks (m.sig at_ k) (reads.getD k 0)=(bits .and .u64 (fZ (m.sig at_ k)) (reads.getD k 0) != 0):=by
   unfold ks
   rw[Bool.eq_iff_iff,decide_eq_true_eq,bne_iff_ne]
  have HSHR:=kH hshr
  clear hshr
  have h1:IntKind.i64.wrap (at_+1)=at_+1\/¬at_<seen:=by
   rcases(show at_<seen\/¬at_<seen by omega)with h|h
   ·left;unfold aI at *;exact IntWalk.i64_in _ (by omega)
   ·exact .inr h
  have HW1:=kH h1
  generalize cq reads 8 (k+1)=nw at *
  unfold aI at h64 hsn hsg
  unfold uy at hrd
  clear hstep hr' hrg hst h1
  unfold ptr
  go_enter Tryz.func273,Tryz.ntmps273
  go_wp2_with fail
  refine HM0.out.sizes.mono ?_
  rintro e w1 ⟨rfl,M1⟩
  have k0:=M1.cell 0
  have k11:=M1.cell 11
  have k14:=M1.cell 14
  have k15:=M1.cell 15
  simp only[gl,gA,gZ,gS]at k0 k11 k14 k15
  have HM1:=kH M1
  have HL:=kH (fun q=>(M1.drewN q).loadSig th at_ k ⟨hw0,hw8⟩ hL)
  clear M1
  go_wp2_with fail
  go_region_held3 (fun w'=>w'.cell? ⟨x,0,none⟩=some (.int .i64 m.ring)/\w'.cell? ⟨x,14,none⟩=some (.int .i64 at_)/\w'.cell? ⟨x,15,none⟩=some (.int .i64 (k:Int))) (go_keep) (first|(go_at_call 216;refine(HS.out _).mono ?_;rintro e w' ⟨rfl,rfl⟩)|(go_at_call 215;refine(HL.out _).mono ?_;rintro e2 w2 ⟨rfl,M2⟩;have l0:=M2.cell 0;have l14:=M2.cell 14;have l15:=M2.cell 15;simp only[gl,gA,gZ,gS]at l0 l14 l15;have HM2:=kH M2;clear M2))
  have lw:=cJ.word (c:=⟨m.ring,from_,reads,last,2,start,seen,at_,(k:Int)⟩) (show cJ _ x _ from HM2.out.mach) k hk8
  have l13:=HM2.out.cell 13
  have l10:=HM2.out.cell 10
  simp only[gl,gA,gZ,gS]at l13 l10
  simp only at lw
  clear k0 k11 k14 k15 HL
  have HL14:=kH l14
  generalize reads.getD k 0=y at *
  generalize hshb:(bits .and .u64 (fZ (m.sig at_ k)) y != 0)=sb at *
  have HSB:=kH hshb
  go_wp2_with fail
  go_quiet(fail)
  cases sb
  ·clear hshb
   have HNS:Hid (¬ks (m.sig at_ k) y=true):=by
    have:=HSHR.out
    rw[this]
    exact(by simp:¬false=true)
   have l15f:=(HM2.out.drewN nq).froz 15
   have l14f:=(HM2.out.drewN nq).froz 14
   go_wp2_with fail
   refine Calls.mono (HB.out _ (HM2.out.drewN nq).mach) ?_
   rintro e w3 ⟨rfl,hb3⟩
   have M3:=((HM2.out.drewN nq).below hb3)
   have f15:=M3.froz 15
   have HM3:=kH (M3.set 15 (.int .i64 nw))
   have j13:=(M3.set 15 (.int .i64 nw)).cell 13
   have j14:=(M3.set 15 (.int .i64 nw)).cell 14
   have j10:=(M3.set 15 (.int .i64 nw)).cell 10
   have j15:=(M3.set 15 (.int .i64 nw)).cell 15
   have f14:=(M3.set 15 (.int .i64 nw)).froz 14
   have m15:=M3.cell 15
   simp only[gl,gA,gZ,gS,List.setIfInBounds_toArray,List.set_cons_zero,List.set_cons_succ]at j13 j14 j10 j15 m15
   clear M3 hb3 l0 l14 l15 l13 l10 lw l15f l14f
   by_cases hn8:nw<8
   ·have HN8:=kH hn8
    have hn8':(nw:Int)<8:=by omega
    go_wp2_with fail
    refine Calls.mono (fx _ x ⟨m.ring,from_,reads,last,2,start,seen,at_,nw⟩ 2 HM3.out.mach (by decide)) ?_
    rintro e w6 ⟨rfl,h6,hk6⟩
    have HM6:=kH (eI.call (HM3.out) hk6 h6)
    clear h6 hk6
    obtain⟨⟨a0,a1,a2,a3⟩,⟨g0,g1,g2,g3⟩⟩:=HM6.out.ansBox
    go_wp2
    refine HM6.out.ret moved rfl rfl rfl (fun W' M=>?_)
    have hR:=HSTEP.out
    rw[if_neg HNS.out,if_pos HN8.out]at hR
    subst hR
    exact M.fin (fun h=>h)
   ·have HN8:=kH hn8
    have hn8':¬(nw:Int)<8:=by omega
    by_cases hts:at_<seen
    ·have HTS:=kH hts
     have hw1:IntKind.i64.wrap (at_+1)=at_+1:=HW1.out.elim id (fun h=>by omega)
     go_wp2_with fail
     go_quiet(fail)
     go_wp2_with fail
     refine Calls.mono (fx _ x ⟨m.ring,from_,reads,last,2,start,seen,at_+1,nw⟩ 1 ((HM3.out.drewN _).set 14 (.int .i64 (at_+1))).mach (by decide)) ?_
     rintro e w6 ⟨rfl,h6,hk6⟩
     have HM6:=kH (eI.call ((HM3.out.drewN _).set 14 (.int .i64 (at_+1))) hk6 h6)
     clear h6 hk6
     obtain⟨⟨a0,a1,a2,a3⟩,⟨g0,g1,g2,g3⟩⟩:=HM6.out.ansBox
     go_wp2
     refine HM6.out.ret moved rfl rfl rfl (fun W' M=>?_)
     have hR:=HSTEP.out
     rw[if_neg HNS.out,if_neg HN8.out,if_pos HTS.out]at hR
     subst hR
     exact M.fin (fun h=>h)
    ·have HTS:=kH hts
     cases last
     ·go_wp2_with fail
      go_quiet(fail)
      go_wp2_with fail
      refine Calls.mono (jH _ x ⟨m.ring,from_,reads,false,2,start,seen,at_,nw⟩ (HM3.out.drewN _).mach) ?_
      rintro e w6 ⟨rfl,h6,hk6⟩
      have HM6:=kH (eI.call (HM3.out.drewN _) hk6 h6)
      clear h6 hk6
      obtain⟨⟨a0,a1,a2,a3⟩,⟨g0,g1,g2,g3⟩⟩:=HM6.out.ansBox
      go_wp2
      refine HM6.out.ret (aW 0) rfl rfl rfl (fun W' M=>?_)
      have hR:=HSTEP.out
      rw[if_neg HNS.out,if_neg HN8.out,if_neg (show ¬at_<seen by have:=HTS.out;omega),if_neg (by simp)]at hR
      subst hR
      exact M.fin (fun h=>h)
     ·go_wp2_with fail
      go_quiet(fail)
      go_wp2_with fail
      refine Calls.mono (fx _ x ⟨m.ring,from_,reads,true,2,start,seen,at_,nw⟩ 3 (HM3.out.drewN _).mach (by decide)) ?_
      rintro e w6 ⟨rfl,h6,hk6⟩
      have HM6:=kH (eI.call (HM3.out.drewN _) hk6 h6)
      clear h6 hk6
      obtain⟨⟨a0,a1,a2,a3⟩,⟨g0,g1,g2,g3⟩⟩:=HM6.out.ansBox
      go_wp2
      refine HM6.out.ret moved rfl rfl rfl (fun W' M=>?_)
      have hR:=HSTEP.out
      rw[if_neg HNS.out,if_neg HN8.out,if_neg (show ¬at_<seen by have:=HTS.out;omega),if_pos trivial]at hR
      subst hR
      exact M.fin (fun h=>h)
  ·clear hshb
   go_wp2_with fail
   refine Calls.mono (jN _ x _ 3 (HM2.out.drewN nq).mach) ?_
   rintro e w6 ⟨rfl,h6,hk6⟩
   have HM6:=kH (eI.call (HM2.out.drewN nq) hk6 h6)
   clear h6 hk6
   obtain⟨⟨a0,a1,a2,a3⟩,⟨g0,g1,g2,g3⟩⟩:=HM6.out.ansBox
   go_wp2
   refine HM6.out.ret (bi 3) rfl rfl rfl (fun W' M=>?_)
   have hR:=HSTEP.out
   rw[if_pos (HSHR.out)]at hR
   subst hR
   exact M.fin (fun h=>h)
 ·obtain⟨size,from_,reads,last,state,start,seen,at_,word⟩:=c
  simp only at hs hsz hst
  subst hs hsz
  have hstep:aE m ⟨m.ring,from_,reads,last,3,start,seen,at_,word⟩ =
   (if nk ⟨m.ring,from_,reads,last,3,start,seen,at_,word⟩ m.newest=true then(bi 4,⟨m.ring,from_,reads,last,5,start,seen,at_,word⟩)else(aW 0,⟨m.ring,from_,reads,last,4,start,seen,at_,word⟩)):=rfl
  generalize aE m ⟨m.ring,from_,reads,last,3,start,seen,at_,word⟩=R at hstep ⊢
  have HSTEP:=kH hstep
  obtain⟨F',hr'⟩:=HM0.out.rep
  have hnw:=hr'.ok.new
  have HF:Hid (∀ W,cJ W x ⟨m.ring,from_,reads,last,3,start,seen,at_,word⟩->Calls Tryz.prog 278 #[ptr x,.int .i64 m.newest] W (fun e w'=>e=.returned (.bool (nk ⟨m.ring,from_,reads,last,3,start,seen,at_,word⟩ m.newest))/\Below W.heap.size W w')) :=
   fun W hW=>zM W x _ m.newest hW ⟨HOK.out.from0,HOK.out.from64⟩ hnw
  generalize nk ⟨m.ring,from_,reads,last,3,start,seen,at_,word⟩ m.newest=fb at *
  clear hstep hr' hst hnw
  unfold ptr
  go_enter Tryz.func273,Tryz.ntmps273
  go_wp2_with fail
  refine HM0.out.sizes.mono ?_
  rintro e w1 ⟨rfl,M1⟩
  have k0:=M1.cell 0
  have k11:=M1.cell 11
  simp only[gl,gA,gZ,gS]at k0 k11
  have HM1:=kH M1
  clear M1
  go_wp2_with fail
  refine(HM1.out.loadNewest th hL).mono ?_
  rintro e w2 ⟨rfl,M2⟩
  have HM2:=kH M2
  clear M2 k0 k11
  go_wp2_with fail
  refine(HF.out _ HM2.out.mach).mono ?_
  rintro e w3 ⟨rfl,hb3⟩
  have HM3:=kH (HM2.out.below hb3)
  clear hb3
  cases fb
  ·go_wp2_with fail
   refine Calls.mono (jH _ x ⟨m.ring,from_,reads,last,3,start,seen,at_,word⟩ HM3.out.mach) ?_
   rintro e w6 ⟨rfl,h6,hk6⟩
   have HM6:=kH (eI.call (HM3.out) hk6 h6)
   clear h6 hk6
   obtain⟨⟨a0,a1,a2,a3⟩,⟨g0,g1,g2,g3⟩⟩:=HM6.out.ansBox
   go_wp2
   refine HM6.out.ret (aW 0) rfl rfl rfl (fun W' M=>?_)
   have hR:=HSTEP.out
   rw[if_neg (by simp)]at hR
   subst hR
   exact M.fin (fun h=>h)
  ·go_wp2_with fail
   refine Calls.mono (jN _ x ⟨m.ring,from_,reads,last,3,start,seen,at_,word⟩ 4 HM3.out.mach) ?_
   rintro e w6 ⟨rfl,h6,hk6⟩
   have HM6:=kH (eI.call (HM3.out) hk6 h6)
   clear h6 hk6
   obtain⟨⟨a0,a1,a2,a3⟩,⟨g0,g1,g2,g3⟩⟩:=HM6.out.ansBox
   go_wp2
   refine HM6.out.ret (bi 4) rfl rfl rfl (fun W' M=>?_)
   have hR:=HSTEP.out
   rw[if_pos trivial]at hR
   subst hR
   exact M.fin (fun h=>h)
section
def fU(c:eD):Obj:=.cells (gl c) 254 (0,0)
def tT(k:Nat)(f:lL):Array Value:=#[ptr k,.int .i64 f.chk.size,.int .i64 f.cell,.int .u64 (f.chk.reads.getD 0 0),.int .u64 (f.chk.reads.getD 1 0),.int .u64 (f.chk.reads.getD 2 0),.int .u64 (f.chk.reads.getD 3 0),.int .u64 (f.chk.reads.getD 4 0),.int .u64 (f.chk.reads.getD 5 0),.int .u64 (f.chk.reads.getD 6 0),.int .u64 (f.chk.reads.getD 7 0),.bool f.read,.int .i64 f.value]
def jM(k:Nat)(f:lL):Obj:=.cells (tT k f) 209 (0,0)
variable {w0:World}{X:List Nat}{Cs:List aw}
theorem pB{s:List Int}(h:s.length=8):∃ a b c d e f g i:Int,s=[a,b,c,d,e,f,g,i]/\dR s=.agg #[.int .u64 a,.int .u64 b,.int .u64 c,.int .u64 d,.int .u64 e,.int .u64 f,.int .u64 g,.int .u64 i]:=by
 obtain⟨a,b,c,d,e,f,g,i,rfl⟩:=lT h
 exact⟨a,b,c,d,e,f,g,i,rfl,rfl⟩
theorem box8{w:World}{g:Nat}{a b c d e f i j:Value}{t:TypeId}(h:w.heap[g]?=some (.cells #[a,b,c,d,e,f,i,j] t (0,0))) :
  w.cell? ⟨g,0,none⟩=some a/\w.cell? ⟨g,1,none⟩=some b/\w.cell? ⟨g,2,none⟩=some c/\w.cell? ⟨g,3,none⟩=some d/\w.cell? ⟨g,4,none⟩=some e/\w.cell? ⟨g,5,none⟩=some f/\w.cell? ⟨g,6,none⟩=some i/\w.cell? ⟨g,7,none⟩=some j:=by
 have hc:=fun j=>cell_of_row w g j _ _ _ h
 exact⟨by simpa using hc 0,by simpa using hc 1,by simpa using hc 2,by simpa using hc 3,by simpa using hc 4,by simpa using hc 5,by simpa using hc 6,by simpa using hc 7⟩
theorem New_fet{w:World}(hS:ah w0 X Cs w)(size start:Int)(reads:List Int)(cell:Int)(h0:1<=size/\size<=16)(h1:0<=start)(hr:aU reads)(hc:0<=cell/\cell<1024) :
  Calls Tryz.prog 87 #[.int .i64 size,.int .i64 start,dR reads,.int .i64 cell] w (fun e w'=>∃ x k,e=.returned (.tuple #[ptr x,.int .i64 0]) /\
   ah w0 X (ag x (jM k ⟨bJ size start (be reads cell) true,cell,false,0⟩)::ag k (fU (bJ size start (be reads cell) true))::Cs) w'):=by
 have HW:=kH (mz reads cell hr)
 obtain⟨r0,r1,r2,r3,r4,r5,r6,r7,hq,hv⟩:=pB hr.1
 have hall:=cF hr cell
 have HN:=kH (fun W=>ur W size start (be reads cell) true h0 h1 hall.1)
 obtain⟨a0,a1,a2,a3,a4,a5,a6,a7,ha,hva⟩:=pB hall.1
 have HS:=kH hS
 rw[hva]at HW HN
 rw[hv]at HW ⊢
 have HA:=kH ha
 obtain⟨hc0,hc1⟩:=hc
 obtain⟨h0a,h0b⟩:=h0
 clear hS hq hv ha hva hall hr
 go_enter Tryz.func87,Tryz.ntmps87
 go_wp2_with fail
 refine(HW.out _).mono ?_
 rintro e w1 ⟨rfl,hb1⟩
 have HS1:=kH ((HS.out.alloc _).below hb1)
 clear hb1
 go_wp2_with fail
 have hbx:=ar (w:=w1) (o:=.cells #[.int .u64 a0,.int .u64 a1,.int .u64 a2,.int .u64 a3,.int .u64 a4,.int .u64 a5,.int .u64 a6,.int .u64 a7] 42 (0,0)) rfl
 refine(HN.out _).mono ?_
 rintro e w2 ⟨k,hk,rfl,hck,hb2⟩
 unfold ptr
 have hbx2:=(hb2.block w1.heap.size (by simp)).trans hbx
 obtain⟨b0,b1,b2,b3,b4,b5,b6,b7⟩:=box8 hbx2
 have HBX:=kH hbx2
 have HS2:=kH ((HS1.out.alloc _).got hb2 hk hck)
 clear hbx hbx2 hb2 hck
 clear hk
 go_wp2
 go_ret2
 refine⟨_,k,rfl,?_⟩
 have h9:=HS2.out.new (jM k ⟨bJ size start (be reads cell) true,cell,false,0⟩)
 have he:jM k ⟨bJ size start (be reads cell) true,cell,false,0⟩=.cells #[ptr k,.int .i64 size,.int .i64 cell,.int .u64 a0,.int .u64 a1,.int .u64 a2,.int .u64 a3,.int .u64 a4,.int .u64 a5,.int .u64 a6,.int .u64 a7,.bool false,.int .i64 0] 209 (0,0):=by
  have:=HA.out
  unfold jM tT bJ
  simp only[this]
  rfl
 rw[he]at h9 ⊢
 exact h9
variable {w:World}{x k p L:Nat}{F:List Nat}{m:au}{f:lL}
theorem BI(hS:ah w0 X (ag x (jM k f)::ag k (fU f.chk)::Cs) w)(h4:f.chk.state=4) :
  Calls Tryz.prog 94 #[ptr x] w (fun e w'=>e=.returned (.tuple #[.int .i64 f.chk.start,.int .i64 f.chk.seen,.bool true])/\ah w0 X (ag x (jM k f)::ag k (fU f.chk)::Cs) w'):=by
 have k0:=hS.cell 0
 simp only[tT,gA,gZ,ptr]at k0
 have HS:=kH hS
 have HC:=kH (sj w k f.chk hS.h1 h4)
 clear hS h4
 unfold ptr at *
 go_enter Tryz.func94,Tryz.ntmps94
 go_wp2_with fail
 refine HC.out.mono ?_
 rintro e w1 ⟨rfl,hb⟩
 have HS1:=kH (HS.out.below hb)
 clear hb k0
 go_wp2
 go_ret3
 exact⟨rfl,HS1.out⟩
theorem BL(hS:ah w0 X (ag x (jM k f)::Cs) w)(hr:f.chk.reads.length=8) :
  Calls Tryz.prog 88 #[ptr x] w (fun e w'=>e=.returned (dR f.chk.reads)/\ah w0 X (ag x (jM k f)::Cs) w'):=by
 have hk:=fun j=>hS.cell j
 obtain⟨a0,a1,a2,a3,a4,a5,a6,a7,ha,hva⟩:=pB hr
 rw[hva]
 simp only[tT,ha]at hk
 have k3:=hk 3
 have k4:=hk 4
 have k5:=hk 5
 have k6:=hk 6
 have k7:=hk 7
 have k8:=hk 8
 have k9:=hk 9
 have k10:=hk 10
 simp only[gA,gZ,gS,List.getD_cons_zero,List.getD_cons_succ]at k3 k4 k5 k6 k7 k8 k9 k10
 have HS:=kH hS
 have hlt:=af hS.h0
 clear hS hk ha hva hr
 unfold ptr at *
 go_enter Tryz.func88,Tryz.ntmps88
 go_wp2
 refine bodyPost_ret (results_cell_row rfl _ _ _ _ _ _ _ rfl (ar (w:=w) (o:=.cells #[.int .u64 a0,.int .u64 a1,.int .u64 a2,.int .u64 a3,.int .u64 a4,.int .u64 a5,.int .u64 a6,.int .u64 a7] 42 (0,0)) rfl) Tryz.underlying42 rfl fN) rfl ⟨rfl,?_⟩
 exact HS.out.alloc _
theorem Dv(m:au)(c:eD):(aE m c).2.size=c.size:=by
 unfold aE
 repeat' split
 all_goals rfl
theorem Db{k:Nat}{c c':eD}(hs:c'.size=c.size)(hr:c'.reads=c.reads)(cell:Int)(r:Bool)(v:Int):jM k ⟨c',cell,r,v⟩=jM k ⟨c,cell,r,v⟩:=by
 unfold jM tT
 simp only[hs,hr]
theorem DS(hS:ah w0 X (ag x (jM k f)::ag k (fU f.chk)::aG p m L F::Cs) w)(th:Int)(hok:ry f m m.ring)(hL:L<=1073741824) :
  Calls Tryz.prog 271 #[ptr x,ptr p,.int .i64 th] w (fun e w'=>e=.returned (bj m f).1.val/\∃ F',ah w0 X (ag x (jM k (bj m f).2)::ag k (fU (bj m f).2.chk)::aG p m (L+1) F'::Cs) w'):=by
 obtain⟨chk,cell,read,value⟩:=f
 obtain⟨h1,h2,h3,h4⟩:=hok
 simp only at h1 h2 h3 h4
 obtain⟨h2a,h2b⟩:=h2
 have hsz:=h1.size
 have HS0:=kH (hS.new aB)
 have HC:=kH h1
 cases read with
 | false =>
  have hstep:bj m ⟨chk,cell,false,value⟩=(moved,⟨chk,cell,true,m.cells.getD cell.toNat 0⟩):=rfl
  generalize bj m ⟨chk,cell,false,value⟩=R at hstep ⊢
  generalize hcv:m.cells.getD cell.toNat 0=cv at hstep
  have HSTEP:=kH hstep
  have HL:Hid (∀ {W:World} {F':List Nat} {C':List aw},ah w0 X (aG p m L F'::C') W->Calls Tryz.prog 215 #[ptr p,.int .i64 th,cH 4 cell 0] W (fun e W'=>e=.returned (.tuple #[.int .i64 cv,.int .i64 0])/\∃ F',ah w0 X (aG p m (L+1) F'::C') W')):=fun {W F' C'} S=>by rw[<-hcv];exact S.loadCell th cell ⟨h2a,h2b⟩ hL
  clear hcv
  clear hstep hS h1 h4
  unfold ptr
  go_enter Tryz.func271,Tryz.ntmps271
  go_wp2_with fail
  refine(HS0.out.f3.sizes).mono ?_
  rintro e w1 ⟨rfl,S1⟩
  have S1:=S1.sw.sw
  have c1:=S1.f2.cell 1
  have c2:=S1.f2.cell 2
  have c11:=S1.f2.cell 11
  simp only[tT,gA,gZ,gS,hsz]at c1 c2 c11
  have HS1:=kH S1
  clear S1 hsz
  go_wp2_with fail
  refine(HL.out HS1.out).mono ?_
  rintro e w2 ⟨rfl,F2,S2⟩
  have S3:=S2.f2
  have f11:=S3.froz 11
  have f12:=S3.froz 12
  have d12:=S3.cell 12
  have d11:=S3.cell 11
  simp only[tT,gA,gZ,gS]at d11 d12
  have S4:=(((S3.set 12 (.int .i64 cv)).set 11 (.bool true))).f2
  have HS4:=kH S4
  obtain⟨⟨a0,a1,a2,a3⟩,⟨g0,g1,g2,g3⟩⟩:=S2.sw.ansBox
  have hxg:=S3.s23.ne01
  clear S2 S3 S4 c1 c2 c11
  go_wp2
  refine HS4.out.ret moved rfl rfl rfl (fun W' S=>?_)
  have hR:=HSTEP.out
  subst hR
  exact⟨rfl,F2,S.s23⟩
 | true =>
  have hstep:bj m ⟨chk,cell,true,value⟩=(if(aE m chk).1.kind=3 then zh (aE m chk).1 value else(aE m chk).1,⟨(aE m chk).2,cell,true,value⟩):=rfl
  generalize bj m ⟨chk,cell,true,value⟩=R at hstep ⊢
  have HK:Hid (∀ W,dk W p m L F->k∉F->W.heap[k]?=some (fU chk)->Calls Tryz.prog 273 #[ptr k,ptr p,.int .i64 th] W (gC k p L F (fun w'=>cJ w' k (aE m chk).2) (aE m chk).1 m W)):=fun W hr hx hc=>wP W k p th chk m L F hc hr hx h1 hL
  have hsz2:=Dv m chk
  have hrd2:=(q9 m chk).2.1
  generalize aE m chk=RC at hstep HK hsz2 hrd2 ⊢
  obtain⟨⟨ak,ae,av,aa⟩,chk'⟩:=RC
  have HO:=kH (Db (k:=k) hsz2 hrd2 cell true value)
  clear hsz2 hrd2
  have HSTEP:=kH hstep
  clear hstep hS h1 h4
  unfold ptr
  go_enter Tryz.func271,Tryz.ntmps271
  go_wp2_with fail
  refine(HS0.out.f3.sizes).mono ?_
  rintro e w1 ⟨rfl,S1⟩
  have c0:=S1.f2.cell 0
  have c1:=S1.f2.cell 1
  have c2:=S1.f2.cell 2
  have c11:=S1.f2.cell 11
  simp only[tT,gA,gZ,gS,hsz,ptr]at c0 c1 c2 c11
  have HS1:=kH (S1.f3)
  clear S1 hsz
  go_wp2_with fail
  refine(ah.step (r:=⟨ak,ae,av,aa⟩) (o':=fU chk') HS1.out (fun hr hx=>HK.out _ hr hx HS1.out.h0) (fun W' h=>h)).mono ?_
  rintro e w2 ⟨rfl,F2,S2⟩
  rw[kR]
  have HS2:=kH S2
  obtain⟨⟨a0,a1,a2,a3⟩,⟨g0,g1,g2,g3⟩⟩:=S2.f2.ansBox
  have d12:=S2.f3.cell 12
  simp only[tT,gA,gZ,gS]at d12
  have hgl:=af S2.f2.h0
  have hxl:=af S2.f3.h0
  clear S2 c0 c1 c2 c11
  by_cases hk3:ak=3
  ·subst hk3
   go_wp2
   refine HS2.out.f2.retA ⟨3,ae,value,aa⟩ rfl rfl rfl _ (fun W' S=>?_)
   have hR:=HSTEP.out
   rw[if_pos trivial]at hR
   subst hR
   exact⟨rfl,F2,by show ah w0 X (ag x (jM k ⟨chk',cell,true,value⟩)::_) _;rw[HO.out];exact S.f2⟩
  ·have hk3':(ak == 3)=false:=by simpa using hk3
   have HK3:=kH hk3
   clear hk3
   go_wp2
   refine HS2.out.f2.retA ⟨ak,ae,av,aa⟩ rfl rfl rfl _ (fun W' S=>?_)
   have hR:=HSTEP.out
   rw[if_neg HK3.out]at hR
   subst hR
   exact⟨rfl,F2,by show ah w0 X (ag x (jM k ⟨chk',cell,true,value⟩)::_) _;rw[HO.out];exact S.f2⟩
end
section
def ge(f:Nat)(x:Nat):Value:=.func (.func f) #[ptr x] #[]
def xY(x:Nat)(multi:Bool):Value:=if multi=true then ge 115 x else ge 113 x
def neededV(x:Nat)(multi:Bool):Value:=if multi=true then ge 116 x else ge 114 x
def gB(x k:Nat)(c:iG):Array Value:=#[.int .i64 0,.int .i64 c.ring,.int .i64 0,.int .i64 c.stamps,.bool false,.int .i64 0,.slice none 0 0,.int .i64 c.start,.int .i64 c.seen,
 .int .u64 (c.reads.getD 0 0),.int .u64 (c.reads.getD 1 0),.int .u64 (c.reads.getD 2 0),.int .u64 (c.reads.getD 3 0),.int .u64 (c.reads.getD 4 0),.int .u64 (c.reads.getD 5 0),.int .u64 (c.reads.getD 6 0),.int .u64 (c.reads.getD 7 0),
 ptr k,.int .i64 c.state,.int .i64 c.stamp,xY x c.multi,neededV x c.multi]
def iC(x k:Nat)(c:iG):Obj:=.cells (gB x k c) 213 (0,0)
variable {w0:World}{X:List Nat}{Cs:List aw}{w:World}{x k p L:Nat}{F:List Nat}{m:au}{c:iG}
theorem vS(hS:ah w0 X (ag x (iC x k c)::aG p m L F::Cs) w)(th s:Int)(hr:c.ring=m.ring)(hr1:1<=m.ring/\m.ring<=16)(hL:L<=1073741824) :
  Calls Tryz.prog 173 #[ptr x,ptr p,.int .i64 th,.int .i64 s] w (fun e w'=>e=.returned (.int .i64 (m.head s))/\∃ F',ah w0 X (ag x (iC x k c)::aG p m (L+1) F'::Cs) w'):=by
 have k1:=hS.cell 1
 simp only[gB,gA,gZ,gS,hr]at k1
 have HS:=kH hS
 have HSL:=kH (fun W=>iv s m.ring hr1.1 hr1.2 W)
 clear hS hr hr1
 unfold ptr
 go_enter Tryz.func173,Tryz.ntmps173
 go_wp2_with fail
 refine(HSL.out _).mono ?_
 rintro e w1 ⟨rfl,rfl⟩
 go_wp2_with fail
 refine(HS.out.sw.loadHead th s hL).mono ?_
 rintro e w2 ⟨rfl,F2,S2⟩
 have HS2:=kH S2.sw
 clear S2 k1
 go_wp2
 go_ret
 exact⟨rfl,F2,HS2.out⟩
theorem all_com(hS:ah w0 X (ag x (iC x k c)::aG p m L F::Cs) w)(th:Int)(hr:c.ring=m.ring)(hr1:1<=m.ring/\m.ring<=16)(hL:L<=1073741824) :
  Calls Tryz.prog 113 #[ptr x,ptr p,.int .i64 th] w (fun e w'=>e=.returned (.bool (dq (m.head c.seen) c.seen))/\∃ F',ah w0 X (ag x (iC x k c)::aG p m (L+1) F'::Cs) w'):=by
 have k8:=hS.cell 8
 simp only[gB,gA,gZ,gS]at k8
 have HH:=kH (fun q=>vS (hS.drewN q) th c.seen hr hr1 hL)
 have HO:=kH (fun W=>gm (m.head c.seen) c.seen W)
 clear hS hr hr1
 unfold ptr
 go_enter Tryz.func113,Tryz.ntmps113
 go_wp2_with fail
 go_region_held3 (fun w'=>w'.cell? ⟨x,8,none⟩=some (.int .i64 c.seen)) (go_keep) (first|(go_at_call 172;refine(HO.out _).mono ?_;rintro e w' ⟨rfl,rfl⟩)|(go_at_call 173;refine(HH.out _).mono ?_;rintro e2 w2 ⟨rfl,F2,S2⟩;have l8:=S2.cell 8;simp only[gB,gA,gZ,gS]at l8;have HS2:=kH S2;clear S2))
 go_wp2
 go_ret
 exact⟨rfl,F2,HS2.out⟩
theorem Cm(hS:ah w0 X (ag x (iC x k c)::aG p m L F::Cs) w)(th:Int)(hr:c.ring=m.ring)(hr1:1<=m.ring/\m.ring<=16)(hsn:0<=c.seen/\c.seen<=1099511627776)(hL:L<=1073741824) :
  Calls Tryz.prog 115 #[ptr x,ptr p,.int .i64 th] w (fun e w'=>e=.returned (.bool (gF (m.head (c.seen+1)) (c.seen+1) m.ring))/\∃ F',ah w0 X (ag x (iC x k c)::aG p m (L+1) F'::Cs) w'):=by
 have k8:=hS.cell 8
 have k1:=hS.cell 1
 simp only[gB,gA,gZ,gS,hr]at k8 k1
 have HH:=kH (fun q=>vS (hS.drewN q) th (c.seen+1) hr hr1 hL)
 have HO:=kH (fun W=>zb (m.head (c.seen+1)) (c.seen+1) m.ring hr1.1 hr1.2 (by omega) W)
 have hw1:IntKind.i64.wrap (c.seen+1)=c.seen+1:=IntWalk.i64_in _ (by omega)
 have HR:=kH hr
 clear hS hr hr1 hsn
 unfold ptr
 go_enter Tryz.func115,Tryz.ntmps115
 go_wp2_with fail
 go_region_held3 (fun w'=>w'.cell? ⟨x,8,none⟩=some (.int .i64 c.seen)/\w'.cell? ⟨x,1,none⟩=some (.int .i64 m.ring)) (go_keep) (first|(go_at_call 174;refine(HO.out _).mono ?_;rintro e w' ⟨rfl,rfl⟩)|(go_at_call 173;refine(HH.out _).mono ?_;rintro e2 w2 ⟨rfl,F2,S2⟩;have l8:=S2.cell 8;have l1:=S2.cell 1;simp only[gB,gA,gZ,gS,HR.out]at l8 l1;have HS2:=kH S2;clear S2))
 go_wp2
 go_ret
 exact⟨rfl,F2,HS2.out⟩
theorem Cl(hS:ah w0 X (ag x (iC x k c)::Cs) w) :
  Calls Tryz.prog 114 #[ptr x] w (fun e w'=>e=.returned (.bool (decide (1<=c.seen)))/\ah w0 X (ag x (iC x k c)::Cs) w'):=by
 have k8:=hS.cell 8
 simp only[gB,gA,gZ,gS]at k8
 have HS:=kH hS
 clear hS
 unfold ptr
 go_enter Tryz.func114,Tryz.ntmps114
 go_wp2
 go_ret
 exact⟨by simp,HS.out⟩
theorem yQ:Calls Tryz.prog 116 #[ptr x] w (fun e w'=>e=.returned (.bool true)/\w=w'):=by
 unfold ptr
 go_enter Tryz.func116,Tryz.ntmps116
 go_wp2
 go_ret
 exact⟨rfl,rfl⟩
theorem jq(hS:ah w0 X (ag x (iC x k c)::Cs) w)(s:Int) :
  Calls Tryz.prog 281 #[ptr x,.int .i64 s] w (fun e w'=>e=.returned (.agg #[.int .i64 2,.int .i64 0,.int .i64 0,.bool true])/\ah w0 X (ag x (iC x k {c with state:=s})::Cs) w'):=by
 have k18:=hS.cell 18
 have f18:=hS.froz 18
 simp only[gB,gA,gZ,gS]at k18
 have hlt:=af hS.h0
 have HS:=kH hS
 clear hS
 unfold ptr
 go_enter Tryz.func281,Tryz.ntmps281
 go_wp2
 refine bodyPost_ret (results_cell_row rfl _ _ _ _ _ _ _ rfl (ar (by simp)) Tryz.underlying35 rfl cK) rfl ⟨rfl,?_⟩
 exact(HS.out.set 18 (.int .i64 s)).alloc _
end
section
variable {w0:World}{X:List Nat}{Cs:List aw}{w:World}{x k p L:Nat}{F:List Nat}{m:au}{c:iG}
def rU(raw ring writes stamps:Int)(multi:Bool)(tries:Int)(rv:Value):Value:=.agg #[.int .i64 raw,.int .i64 ring,.int .i64 writes,.int .i64 stamps,.bool multi,.int .i64 tries,rv]
theorem New_com(hS:ah w0 X Cs w)(raw ring writes stamps:Int)(multi:Bool)(tries:Int)(ra:Option Addr)(rn rc:Nat)(start:Int)(reads:List Int)(h0:1<=ring/\ring<=16)(h1:0<=start)(hr:aU reads)(hs:1<=stamps/\stamps<=1099511627776) :
  Calls Tryz.prog 91 #[rU raw ring writes stamps multi tries (.slice ra rn rc),.int .i64 start,dR reads] w (fun e w'=>∃ x k,e=.returned (.tuple #[ptr x,.int .i64 0]) /\
   ah w0 X (ag x (iC x k ⟨ring,stamps,multi,start,0,reads,bJ ring start reads false,0,0⟩)::ag k (fU (bJ ring start reads false))::Cs) w'):=by
 have HN:=kH (fun W=>ur W ring start reads false h0 h1 hr.1)
 obtain⟨r0,r1,r2,r3,r4,r5,r6,r7,hq,hv⟩:=pB hr.1
 have HS:=kH hS
 rw[hv]at HN ⊢
 have d1:decide (stamps<1)=false:=by simp;omega
 have d2:decide (1099511627776<stamps)=false:=by simp;omega
 subst hq
 clear hS hv hr h0 h1 hs
 unfold rU
 go_enter Tryz.func91,Tryz.ntmps91
 go_wp2_with fail
 have hb1:=bS (o:=.cells #[.int .u64 r0,.int .u64 r1,.int .u64 r2,.int .u64 r3,.int .u64 r4,.int .u64 r5,.int .u64 r6,.int .u64 r7] 42 (0,0)) (ar (w:=w) (o:=.cells #[.int .i64 raw,.int .i64 ring,.int .i64 writes,.int .i64 stamps,.bool multi,.int .i64 tries,.slice ra rn rc] 24 (0,0)) rfl)
 have hb2:=ar (w:=w.alloc (.cells #[.int .i64 raw,.int .i64 ring,.int .i64 writes,.int .i64 stamps,.bool multi,.int .i64 tries,.slice ra rn rc] 24 (0,0))) (o:=.cells #[.int .u64 r0,.int .u64 r1,.int .u64 r2,.int .u64 r3,.int .u64 r4,.int .u64 r5,.int .u64 r6,.int .u64 r7] 42 (0,0)) rfl
 refine(HN.out _).mono ?_
 rintro e w2 ⟨k,hk,rfl,hck,hb⟩
 have HS2:=kH (((HS.out.alloc _).alloc _).got hb hk hck)
 have hb1':=(hb.block _ (af hb1)).trans hb1
 have hb2':=(hb.block _ (af hb2)).trans hb2
 have hc:=fun j=>cell_of_row w2 _ j _ _ _ hb1'
 have c1:=hc 1
 have c3:=hc 3
 have c4:=hc 4
 simp only[gA,gZ,gS]at c1 c3 c4
 obtain⟨b0,b1,b2,b3,b4,b5,b6,b7⟩:=box8 hb2'
 have hsz:=hb.size
 simp only[World.size_alloc]at hsz b0 b1 b2 b3 b4 b5 b6 b7
 have HB1:=kH hb1'
 unfold ptr
 clear hb1 hb2 hb1' hb2' hb hck hk hc
 have hcl:w.heap.size<w2.heap.size:=by omega
 cases multi
 all_goals
  go_wp2_with fail
  go_region
  all_goals
   go_wp2
   go_ret2
   exact⟨w2.heap.size,k,rfl,(HS2.out.new _).drew⟩
end
section
variable {w0:World}{X:List Nat}{Cs:List aw}{w:World}{x k p L:Nat}{F:List Nat}{m:au}{c:iG}
def nR(w0:World)(X:List Nat)(Cs:List aw)(x p L:Nat)(r:aM×iG×au)(e:Ending)(w':World):Prop :=
 e=.returned r.1.val/\∃ k' F',ah w0 X (ag x (iC x k' r.2.1)::ag k' (fU r.2.1.chk)::aG p r.2.2 (L+1) F'::Cs) w'
theorem yE(hS:ah w0 X (ag x (iC x k c)::ag k (fU c.chk)::aG p m L F::Cs) w)(th:Int)(hok:kU c m.ring)(h0:c.state=0)(hL:L<=1073741824) :
  Calls Tryz.prog 280 #[ptr x,ptr p,.int .i64 th] w (nR w0 X Cs x p L (aT m c)):=by
 obtain⟨ring,stamps,multi,start,seen,reads,chk,state,stamp⟩:=c
 obtain⟨hr,-,-,-,-,-,hck,-⟩:=hok
 simp only at hr hck h0
 subst h0 hr
 have hck:=hck rfl
 have hmem:aY m:=(hS.h2:dk w p m L F).ok
 have ho:=kL hmem hck
 have HK:Hid (∀ W,dk W p m L F->k∉F->W.heap[k]?=some (fU chk)->Calls Tryz.prog 273 #[ptr k,ptr p,.int .i64 th] W (gC k p L F (fun w'=>cJ w' k (aE m chk).2) (aE m chk).1 m W)):=fun W hr hx hc=>wP W k p th chk m L F hc hr hx hck hL
 have hstep:aT m ⟨m.ring,stamps,multi,start,seen,reads,chk,0,stamp⟩ =
  (if(aE m chk).1.kind=4 then((aE m chk).1,⟨m.ring,stamps,multi,start,seen,reads,(aE m chk).2,4,stamp⟩,m)
  else if(aE m chk).1.kind=3 then
   (if(aE m chk).2.seen<0\/stamps<=(aE m chk).2.seen then(bi 6,⟨m.ring,stamps,multi,start,(aE m chk).2.seen,reads,(aE m chk).2,4,stamp⟩,m)
   else if multi=true\/1<=(aE m chk).2.seen then(moved,⟨m.ring,stamps,multi,start,(aE m chk).2.seen,reads,(aE m chk).2,1,stamp⟩,m)
   else(moved,⟨m.ring,stamps,multi,start,(aE m chk).2.seen,reads,(aE m chk).2,2,stamp⟩,m))
  else((aE m chk).1,⟨m.ring,stamps,multi,start,seen,reads,(aE m chk).2,0,stamp⟩,m)):=rfl
 generalize aT m ⟨m.ring,stamps,multi,start,seen,reads,chk,0,stamp⟩=R at hstep ⊢
 generalize aE m chk=RC at hstep HK ho
 obtain⟨a,chk'⟩:=RC
 simp only at ho hstep HK
 cases ho with
 | moved k1 k2 k3 =>
  clear k1 k2 k3
  have HSTEP:=kH hstep
  have HS0:=kH (hS.new aB)
  have k17:=(hS.new aB).sw.cell 17
  simp only[gB,gA,gZ,gS,aB]at k17
  clear hstep hS hck hmem
  unfold ptr at *
  go_enter Tryz.func280,Tryz.ntmps280
  go_wp2_with fail
  refine(ah.step (r:=moved) (o':=fU chk') HS0.out.f3.f3 (fun hr hx=>HK.out _ hr hx HS0.out.h2) (fun W' h=>h)).mono ?_
  rintro e w2 ⟨rfl,F2,S2⟩
  have S3:=S2.f3.s23
  rw[kR]
  simp only[moved]
  have HS3:=kH S3
  have l17:=S3.cell 17
  have l18:=S3.cell 18
  have f18:=S3.froz 18
  have l8:=S3.cell 8
  have f8:=S3.froz 8
  have l3:=S3.cell 3
  have l21:=S3.cell 21
  simp only[gB,gA,gZ,gS]at l17 l18 l8 l3 l21
  have hxl:=af S3.h0
  obtain⟨⟨a0,a1,a2,a3⟩,⟨g0,g1,g2,g3⟩⟩:=S2.f2.ansBox
  have hgl:=af S2.f2.h0
  have hxg:x≠w.heap.size:=Ne.symm S3.f3.ne01
  clear S2 S3 k17
  go_wp2
  refine HS3.out.f3.retA moved rfl rfl rfl _ (fun W' S=>?_)
  have hR:=HSTEP.out
  rw[if_neg (by decide),if_neg (by decide)]at hR
  subst hR
  exact⟨rfl,k,F2,S.s23⟩
 | waits k1 k2 =>
  clear k1 k2
  have HSTEP:=kH hstep
  have HS0:=kH (hS.new aB)
  have k17:=(hS.new aB).sw.cell 17
  simp only[gB,gA,gZ,gS,aB]at k17
  clear hstep hS hck hmem
  unfold ptr at *
  go_enter Tryz.func280,Tryz.ntmps280
  go_wp2_with fail
  refine(ah.step (r:=waits) (o':=fU chk) HS0.out.f3.f3 (fun hr hx=>HK.out _ hr hx HS0.out.h2) (fun W' h=>h)).mono ?_
  rintro e w2 ⟨rfl,F2,S2⟩
  have S3:=S2.f3.s23
  rw[kR]
  simp only[waits]
  have HS3:=kH S3
  have l17:=S3.cell 17
  have l18:=S3.cell 18
  have f18:=S3.froz 18
  have l8:=S3.cell 8
  have f8:=S3.froz 8
  have l3:=S3.cell 3
  have l21:=S3.cell 21
  simp only[gB,gA,gZ,gS]at l17 l18 l8 l3 l21
  have hxl:=af S3.h0
  obtain⟨⟨a0,a1,a2,a3⟩,⟨g0,g1,g2,g3⟩⟩:=S2.f2.ansBox
  have hgl:=af S2.f2.h0
  have hxg:x≠w.heap.size:=Ne.symm S3.f3.ne01
  clear S2 S3 k17
  go_wp2
  refine HS3.out.f3.retA waits rfl rfl rfl _ (fun W' S=>?_)
  have hR:=HSTEP.out
  rw[if_neg (by decide),if_neg (by decide)]at hR
  subst hR
  exact⟨rfl,k,F2,S.s23⟩
 | @fail ee _ k1 k2 =>
  clear k1 k2
  have HSTEP:=kH hstep
  have HS0:=kH (hS.new aB)
  have k17:=(hS.new aB).sw.cell 17
  simp only[gB,gA,gZ,gS,aB]at k17
  clear hstep hS hck hmem
  unfold ptr at *
  go_enter Tryz.func280,Tryz.ntmps280
  go_wp2_with fail
  refine(ah.step (r:=(bi ee)) (o':=fU chk') HS0.out.f3.f3 (fun hr hx=>HK.out _ hr hx HS0.out.h2) (fun W' h=>h)).mono ?_
  rintro e w2 ⟨rfl,F2,S2⟩
  have S3:=S2.f3.s23
  rw[kR]
  simp only[bi]
  have HS3:=kH S3
  have l17:=S3.cell 17
  have l18:=S3.cell 18
  have f18:=S3.froz 18
  have l8:=S3.cell 8
  have f8:=S3.froz 8
  have l3:=S3.cell 3
  have l21:=S3.cell 21
  simp only[gB,gA,gZ,gS]at l17 l18 l8 l3 l21
  have hxl:=af S3.h0
  obtain⟨⟨a0,a1,a2,a3⟩,⟨g0,g1,g2,g3⟩⟩:=S2.f2.ansBox
  have hgl:=af S2.f2.h0
  have hxg:x≠w.heap.size:=Ne.symm S3.f3.ne01
  clear S2 S3 k17
  go_wp2
  refine(HS3.out.set 18 (.int .i64 4)).f3.retA (bi ee) rfl rfl rfl _ (fun W' S=>?_)
  have hR:=HSTEP.out
  rw[if_pos (show(bi ee).kind=4 from rfl)]at hR
  subst hR
  exact⟨rfl,k,F2,S.s23⟩
 | done hk4 k2 k3 k4 =>
  have HSTEP:=kH hstep
  have HS0:=kH (hS.new aB)
  have k17:=(hS.new aB).sw.cell 17
  simp only[gB,gA,gZ,gS,aB]at k17
  clear hstep hS hck hmem
  unfold ptr at *
  go_enter Tryz.func280,Tryz.ntmps280
  go_wp2_with fail
  refine(ah.step (r:=(aW 0)) (o':=fU chk') HS0.out.f3.f3 (fun hr hx=>HK.out _ hr hx HS0.out.h2) (fun W' h=>h)).mono ?_
  rintro e w2 ⟨rfl,F2,S2⟩
  have S3:=S2.f3.s23
  rw[kR]
  simp only[aW]
  have HS3:=kH S3
  have l17:=S3.cell 17
  have l18:=S3.cell 18
  have f18:=S3.froz 18
  have l8:=S3.cell 8
  have f8:=S3.froz 8
  have l3:=S3.cell 3
  have l21:=S3.cell 21
  simp only[gB,gA,gZ,gS]at l17 l18 l8 l3 l21
  have hxl:=af S3.h0
  obtain⟨⟨a0,a1,a2,a3⟩,⟨g0,g1,g2,g3⟩⟩:=S2.f2.ansBox
  have hgl:=af S2.f2.h0
  have hxg:x≠w.heap.size:=Ne.symm S3.f3.ne01
  clear S2 S3 k17
  have HST:=kH (fun W (hW:cJ W k chk')=>sj W k chk' hW hk4)
  go_wp2_with fail
  refine(HST.out _ ((HS3.out.alloc _).h2)).mono ?_
  rintro e w3 ⟨rfl,hb3⟩
  have S4:=(HS3.out.alloc _).below hb3
  have f8':=S4.froz 8
  have l8':=S4.cell 8
  simp only[gB,gA,gZ,gS]at l8'
  have S5:=S4.set 8 (.int .i64 chk'.seen)
  have HS5:Hid (ah w0 X (ag x (iC x k ⟨m.ring,stamps,multi,start,chk'.seen,reads,chk',0,stamp⟩)::aG p m (L+1) F2::ag k (fU chk')::ag w.heap.size aB::Cs) _):=S5
  have m8:=S5.cell 8
  have m3:=S5.cell 3
  have m21:=S5.cell 21
  have m18:=S5.cell 18
  have f18':=S5.froz 18
  simp only[gB,gA,gZ,gS,List.setIfInBounds_toArray,List.set_cons_zero,List.set_cons_succ]at m8 m3 m21 m18
  clear a0 a1 a2 a3 g0 g1 g2 g3 l17 l18 f18 l8 f8 l3 l21 hxl hgl
  obtain⟨⟨a0,a1,a2,a3⟩,⟨g0,g1,g2,g3⟩⟩:=S5.f3.ansBox
  have hgl:=af S5.f3.h0
  clear S4 S5 hb3
  generalize chk'.seen=sn at *
  unfold aI at k4
  go_wp2_with fail
  generalize w3.setCell ⟨x,8,none⟩ (.int .i64 sn)=w4 at *
  by_cases hsn:sn<0\/stamps<=sn
  ·have HSN:=kH hsn
   rcases(show sn<0\/(0<=sn/\stamps<=sn) by omega)with h|⟨h,h'⟩
   all_goals
    try(have hd:decide (sn<0)=false:=by simp;omega)
    clear hsn
    go_quiet(fail)
    go_wp2
    refine((HS5.out.drewN _).set 18 (.int .i64 4)).f3.ret (bi 6) rfl rfl rfl (fun W' S=>?_)
    have hR:=HSTEP.out
    rw[if_neg (show ¬(aW 0).kind=4 by decide),if_pos (show(aW 0).kind=3 from rfl),if_pos HSN.out]at hR
    subst hR
    exact⟨rfl,k,F2,S.s23⟩
  ·have HSN:=kH hsn
   have h0:0<=sn:=by omega
   have h1:sn<stamps:=by omega
   have hd:decide (sn<0)=false:=by simp;omega
   have hd2:decide (stamps<=sn)=false:=by simp;omega
   clear hsn
   go_quiet(fail)
   cases multi
   ·have m21':w4.cell? ⟨x,21,none⟩=some (.func (.func 114) #[.pointer (some ⟨x,0,none⟩)] #[]):=m21
    clear m21
    go_wp2_with fail
    refine(Cl (HS5.out.drewN _)).mono ?_
    rintro e w5 ⟨rfl,S6⟩
    have HS6:=kH S6
    clear S6
    by_cases h11:1<=sn
    ·have H11:=kH h11
     go_wp2_with fail
     refine(jq HS6.out 1).mono ?_
     rintro e w7 ⟨rfl,S7⟩
     have HS7:=kH S7
     obtain⟨⟨a0,a1,a2,a3⟩,⟨g0,g1,g2,g3⟩⟩:=S7.f3.ansBox
     clear S7
     go_wp2
     refine HS7.out.f3.ret moved rfl rfl rfl (fun W' S=>?_)
     have hR:=HSTEP.out
     rw[if_neg (show ¬(aW 0).kind=4 by decide),if_pos (show(aW 0).kind=3 from rfl),if_neg HSN.out,if_pos (.inr H11.out)]at hR
     subst hR
     exact⟨rfl,k,F2,S.s23⟩
    ·have H11:=kH h11
     go_wp2_with fail
     refine(jq HS6.out 2).mono ?_
     rintro e w7 ⟨rfl,S7⟩
     have HS7:=kH S7
     obtain⟨⟨a0,a1,a2,a3⟩,⟨g0,g1,g2,g3⟩⟩:=S7.f3.ansBox
     clear S7
     go_wp2
     refine HS7.out.f3.ret moved rfl rfl rfl (fun W' S=>?_)
     have hR:=HSTEP.out
     rw[if_neg (show ¬(aW 0).kind=4 by decide),if_pos (show(aW 0).kind=3 from rfl),if_neg HSN.out,if_neg (fun h=>h.elim (by simp) (fun h=>by have:=H11.out;omega))]at hR
     subst hR
     exact⟨rfl,k,F2,S.s23⟩
   ·have m21':w4.cell? ⟨x,21,none⟩=some (.func (.func 116) #[.pointer (some ⟨x,0,none⟩)] #[]):=m21
    clear m21
    go_wp2_with fail
    refine yQ.mono ?_
    rintro e w5 ⟨rfl,rfl⟩
    go_wp2_with fail
    refine(jq (HS5.out.drewN _) 1).mono ?_
    rintro e w7 ⟨rfl,S7⟩
    have HS7:=kH S7
    obtain⟨⟨a0,a1,a2,a3⟩,⟨g0,g1,g2,g3⟩⟩:=S7.f3.ansBox
    clear S7
    go_wp2
    refine HS7.out.f3.ret moved rfl rfl rfl (fun W' S=>?_)
    have hR:=HSTEP.out
    rw[if_neg (show ¬(aW 0).kind=4 by decide),if_pos (show(aW 0).kind=3 from rfl),if_neg HSN.out,if_pos (.inl trivial)]at hR
    subst hR
    exact⟨rfl,k,F2,S.s23⟩
theorem comV(x:Nat):xY x true=.func (.func 115) #[.pointer (some ⟨x,0,none⟩)] #[]/\xY x false=.func (.func 113) #[.pointer (some ⟨x,0,none⟩)] #[]:=⟨rfl,rfl⟩
theorem BH(hS:ah w0 X (ag x (iC x k c)::ag k (fU c.chk)::aG p m L F::Cs) w)(th:Int)(hok:kU c m.ring)(h0:c.state=0)(hL:L<=1073741824) :
  Calls Tryz.prog 279 #[ptr x,ptr p,.int .i64 th] w (nR w0 X Cs x p L (aT m c)):=by
 have hr:=hok.ring
 have HOK:=kH hok
 have HH:=kH h0
 generalize hR:aT m c=R
 have HR:=kH hR
 have HS0:=kH (hS.new aB)
 clear hS hok hR
 unfold ptr at *
 go_enter Tryz.func279,Tryz.ntmps279
 go_wp2_with fail
 refine(HS0.out.f3.sizes).mono ?_
 rintro e w1 ⟨rfl,S1⟩
 have S2:=S1.f2
 have k1:=S2.cell 1
 have k18:=S2.cell 18
 simp only[gB,gA,gZ,gS,hr,h0]at k1 k18
 have HS1:=kH S1.f3.f3
 clear S1 S2 h0 hr
 go_wp2_with fail
 refine(yE HS1.out th HOK.out HH.out hL).mono ?_
 rintro e w2 ⟨rfl,k',F2,S2⟩
 have HS2:=kH S2.f3
 rw[HR.out]at HS2
 obtain⟨⟨a0,a1,a2,a3⟩,⟨g0,g1,g2,g3⟩⟩:=S2.f3.ansBox
 rw[kR]
 rw[HR.out]
 clear S2 k1 k18
 go_wp2
 refine HS2.out.ret _ rfl rfl rfl (fun W' S=>?_)
 exact⟨rfl,k',F2,S⟩
theorem BG(hS:ah w0 X (ag x (iC x k c)::ag k (fU c.chk)::aG p m L F::Cs) w)(th:Int)(hok:kU c m.ring)(h0:c.state=1)(hL:L<=1073741824) :
  Calls Tryz.prog 279 #[ptr x,ptr p,.int .i64 th] w (nR w0 X Cs x p L (aT m c)):=by
 obtain⟨ring,stamps,multi,start,seen,reads,chk,state,stamp⟩:=c
 obtain⟨hr,hsp,-,-,-,-,-,hsn⟩:=hok
 simp only at hr hsp hsn h0
 subst h0 hr
 obtain⟨hsn0,hsn1⟩:=hsn (by decide)
 have hmem:aY m:=(hS.h2:dk w p m L F).ok
 have hrg:=hmem.ring
 have hrg1:1<=m.ring/\m.ring<=16:=by unfold au.ring;omega
 have hstep:aT m ⟨m.ring,stamps,multi,start,seen,reads,chk,1,stamp⟩ =
  (if(if multi=true then gF (m.head (seen+1)) (seen+1) m.ring else dq (m.head seen) seen)=true then(moved,⟨m.ring,stamps,multi,start,seen,reads,chk,2,stamp⟩,m)else(waits,⟨m.ring,stamps,multi,start,seen,reads,chk,1,stamp⟩,m)):=rfl
 generalize aT m ⟨m.ring,stamps,multi,start,seen,reads,chk,1,stamp⟩=R at hstep ⊢
 have HS0:=kH (hS.new aB)
 have hl:∃ lo:Bool,lo=(if multi=true then gF (m.head (seen+1)) (seen+1) m.ring else dq (m.head seen) seen):=⟨_,rfl⟩
 obtain⟨lo,hlo⟩:=hl
 rw[<-hlo]at hstep
 have HSTEP:=kH hstep
 have HLO:=kH hlo
 clear hstep hS hsn hmem hrg hlo
 cases multi
 all_goals
  unfold ptr at *
  go_enter Tryz.func279,Tryz.ntmps279
  go_wp2_with fail
  refine(HS0.out.f3.sizes).mono ?_
  rintro e w1 ⟨rfl,S1⟩
  have S2:=S1.f2
  have k1:=S2.cell 1
  have k18:=S2.cell 18
  have k20:=S2.cell 20
  simp only[gB,gA,gZ,gS,(comV x).1,(comV x).2]at k1 k18 k20
  have HS1:=kH S2
  clear S1 S2
  go_wp2_with fail
  first
   | refine(Cm (c:=⟨m.ring,stamps,true,start,seen,reads,chk,1,stamp⟩) HS1.out th rfl hrg1 (by simp only;omega) hL).mono ?_
   | refine(all_com (c:=⟨m.ring,stamps,false,start,seen,reads,chk,1,stamp⟩) HS1.out th rfl hrg1 hL).mono ?_
  rintro e w2 ⟨rfl,F2,S2⟩
  have HS2:=kH S2
  have l18:=S2.cell 18
  simp only[gB,gA,gZ,gS]at l18
  obtain⟨⟨a0,a1,a2,a3⟩,⟨g0,g1,g2,g3⟩⟩:=S2.f2.ansBox
  have hlo:=HLO.out
  simp only[if_true,if_false,Bool.false_eq_true]at hlo
  simp only
  rw[<-hlo]
  clear S2 k1 k18 k20 hlo
  cases lo
  ·go_wp2
   refine HS2.out.f2.ret waits rfl rfl rfl (fun W' S=>?_)
   have hR:=HSTEP.out
   rw[if_neg (by simp)]at hR
   subst hR
   exact⟨rfl,k,F2,S.s23⟩
  ·go_wp2_with fail
   refine(jq HS2.out 2).mono ?_
   rintro e w3 ⟨rfl,S3⟩
   have HS3:=kH S3
   clear a0 a1 a2 a3 g0 g1 g2 g3
   obtain⟨⟨a0,a1,a2,a3⟩,⟨g0,g1,g2,g3⟩⟩:=S3.f2.ansBox
   clear S3
   go_wp2
   refine HS3.out.f2.ret moved rfl rfl rfl (fun W' S=>?_)
   have hR:=HSTEP.out
   rw[if_pos trivial]at hR
   subst hR
   exact⟨rfl,k,F2,S.s23⟩
end
section
variable {w0:World}{X:List Nat}{Cs:List aw}{w:World}{x k p L:Nat}{F:List Nat}{m:au}{c:iG}
theorem BF(hS:ah w0 X (ag x (iC x k c)::ag k (fU c.chk)::aG p m L F::Cs) w)(th:Int)(hok:kU c m.ring)(h0:c.state=2)(hL:L<=1073741824) :
  Calls Tryz.prog 279 #[ptr x,ptr p,.int .i64 th] w (nR w0 X Cs x p L (aT m c)):=by
 obtain⟨ring,stamps,multi,start,seen,reads,chk,state,stamp⟩:=c
 obtain⟨hr,hsp,hst0,-,hrd,-,-,hsn⟩:=hok
 simp only at hr hsp hsn h0 hst0 hrd
 subst h0 hr
 obtain⟨hsn0,hsn1⟩:=hsn (by decide)
 have hmem:aY m:=(hS.h2:dk w p m L F).ok
 have hrg:=hmem.ring
 have hrg1:1<=m.ring/\m.ring<=16:=by unfold au.ring;omega
 have hstep:aT m ⟨m.ring,stamps,multi,start,seen,reads,chk,2,stamp⟩ =
  (if m.newest=seen then(aW (seen+1),⟨m.ring,stamps,multi,start,seen,reads,chk,3,seen+1⟩,{m with newest:=seen+1})else(moved,⟨m.ring,stamps,multi,start,seen,reads,bJ m.ring start reads false,0,stamp⟩,m)):=rfl
 generalize aT m ⟨m.ring,stamps,multi,start,seen,reads,chk,2,stamp⟩=R at hstep ⊢
 have HS0:=kH (hS.new aB)
 have HSTEP:=kH hstep
 have HN:=kH (fun W=>ur W m.ring start reads false hrg1 hst0 hrd.1)
 obtain⟨r0,r1,r2,r3,r4,r5,r6,r7,hq,hv⟩:=pB hrd.1
 rw[hv]at HN
 subst hq
 have hw1:IntKind.i64.wrap (seen+1)=seen+1:=IntWalk.i64_in _ (by omega)
 clear hstep hS hsn hmem hrg hv hrd hst0
 unfold ptr at *
 go_enter Tryz.func279,Tryz.ntmps279
 go_wp2_with fail
 refine(HS0.out.f3.sizes).mono ?_
 rintro e w1 ⟨rfl,S1⟩
 have S2:=S1.f2
 have k1:=S2.cell 1
 have k8:=S2.cell 8
 have k18:=S2.cell 18
 simp only[gB,gA,gZ,gS]at k1 k8 k18
 have HSW:=kH (fun q=>(S1.drewN q).swap th seen (seen+1) (by unfold aI;omega) hL)
 clear S1 S2
 go_wp2_with fail
 go_region_held3 (fun w'=>w'.cell? ⟨x,8,none⟩=some (.int .i64 seen)) (go_keep) ((go_at_call 282;refine(HSW.out _).mono ?_;rintro e2 w2 ⟨rfl,F2,S2⟩;have l8:=S2.f2.cell 8;simp only[gB,gA,gZ,gS]at l8;have HS2:=kH S2;clear S2))
 have S3:=HS2.out.f2
 have f18:=S3.froz 18
 have f19:=S3.froz 19
 have f17:=S3.froz 17
 have l18:=S3.cell 18
 have l19:=S3.cell 19
 have l17:=S3.cell 17
 have l1:=S3.cell 1
 have l7:=S3.cell 7
 have l9:=S3.cell 9
 have l10:=S3.cell 10
 have l11:=S3.cell 11
 have l12:=S3.cell 12
 have l13:=S3.cell 13
 have l14:=S3.cell 14
 have l15:=S3.cell 15
 have l16:=S3.cell 16
 simp only[gB,gA,gZ,gS,List.getD_cons_zero,List.getD_cons_succ]at l18 l19 l17 l1 l7 l9 l10 l11 l12 l13 l14 l15 l16
 obtain⟨⟨a0,a1,a2,a3⟩,⟨g0,g1,g2,g3⟩⟩:=S3.f2.ansBox
 have hxg:x≠w.heap.size:=Ne.symm S3.f2.ne01
 have hxl:=af S3.h0
 have hgl:=af S3.f2.h0
 clear k1 k8 k18 S3
 by_cases hn:m.newest=seen
 ·have HNW:=kH hn
  have hd:decide (m.newest=seen)=true:=decide_eq_true hn
  rw[hd]
  clear hn hd
  go_wp2
  refine((HS2.out.f2.set 18 (.int .i64 3)).set 19 (.int .i64 (seen+1))).f2.ret (aW (seen+1)) rfl rfl rfl (fun W' S=>?_)
  have hR:=HSTEP.out
  rw[if_pos HNW.out]at hR
  subst hR
  have S:=S.s23
  rw[if_pos HNW.out]at S
  exact⟨rfl,k,F2,S⟩
 ·have HNW:=kH hn
  have hd:decide (m.newest=seen)=false:=decide_eq_false hn
  rw[hd]
  clear hn hd a0 a1 a2 a3 g0 g1 g2 g3
  go_wp2_with fail
  go_region_held3 (fun w'=>w'.cell? ⟨x,1,none⟩=some (.int .i64 m.ring)/\w'.cell? ⟨x,7,none⟩=some (.int .i64 start)/\w'.cell? ⟨x,9,none⟩=some (.int .u64 r0)/\w'.cell? ⟨x,10,none⟩=some (.int .u64 r1)/\w'.cell? ⟨x,11,none⟩=some (.int .u64 r2)/\w'.cell? ⟨x,12,none⟩=some (.int .u64 r3)/\w'.cell? ⟨x,13,none⟩=some (.int .u64 r4)/\w'.cell? ⟨x,14,none⟩=some (.int .u64 r5)/\w'.cell? ⟨x,15,none⟩=some (.int .u64 r6)/\w'.cell? ⟨x,16,none⟩=some (.int .u64 r7)) (first|go_keep|(and_intros<;>(rw[World.cell?_setCell_other (h:=by simp)];assumption))) ((go_at_call 110;refine(HN.out _).mono ?_;rintro e3 w3 ⟨k',hk',rfl,hck,hb3⟩;have S4:=(HS2.out.drewN _).got hb3 hk' hck;have m1:=S4.f3.cell 1;have m7:=S4.f3.cell 7;have m9:=S4.f3.cell 9;have m10:=S4.f3.cell 10;have m11:=S4.f3.cell 11;have m12:=S4.f3.cell 12;have m13:=S4.f3.cell 13;have m14:=S4.f3.cell 14;have m15:=S4.f3.cell 15;have m16:=S4.f3.cell 16;have m17:=S4.f3.cell 17;have n17:=S4.f3.froz 17;simp only[gB,gA,gZ,gS,List.getD_cons_zero,List.getD_cons_succ]at m1 m7 m9 m10 m11 m12 m13 m14 m15 m16 m17;have HS4:=kH S4;clear S4 hb3 hck))
  have S5:ah w0 X (ag x (iC x k' ⟨m.ring,stamps,multi,start,seen,[r0,r1,r2,r3,r4,r5,r6,r7],bJ m.ring start [r0,r1,r2,r3,r4,r5,r6,r7] false,2,stamp⟩)::ag k' (fU (bJ m.ring start [r0,r1,r2,r3,r4,r5,r6,r7] false))::_::_::_::Cs) _:=HS4.out.f3.set 17 (ptr k')
  have HS5:=kH S5
  clear S5 m1 m7 m9 m10 m11 m12 m13 m14 m15 m16 m17 n17 l1 l7 l8 l9 l10 l11 l12 l13 l14 l15 l16 l17 l18 l19 f17 f18 f19
  go_wp2_with fail
  refine(jq HS5.out 0).mono ?_
  rintro e w6 ⟨rfl,S6⟩
  have HS6:=kH S6
  obtain⟨⟨a0,a1,a2,a3⟩,⟨g0,g1,g2,g3⟩⟩:=S6.f3.ansBox
  clear S6
  go_wp2
  refine HS6.out.f3.ret moved rfl rfl rfl (fun W' S=>?_)
  have hR:=HSTEP.out
  rw[if_neg HNW.out]at hR
  subst hR
  have S:=S.f3.drop
  rw[if_neg HNW.out]at S
  exact⟨rfl,k',F2,S⟩
theorem DT(hS:ah w0 X (ag x (iC x k c)::ag k (fU c.chk)::aG p m L F::Cs) w)(th:Int)(hok:kU c m.ring)(hL:L<=1073741824) :
  Calls Tryz.prog 279 #[ptr x,ptr p,.int .i64 th] w (nR w0 X Cs x p L (aT m c)):=by
 have h:=hok.state
 rcases(show c.state=0\/c.state=1\/c.state=2 by omega)with h|h|h
 ·exact BH hS th hok h hL
 ·exact BG hS th hok h hL
 ·exact BF hS th hok h hL
end
section
variable {w0:World}{X:List Nat}{Cs:List aw}{w:World}{x p L:Nat}{lv:Value}{F:List Nat}{m:au}{b:cR}
def oX(x:Nat):Nat->Value
 | 0=>ge 119 x
 | 1=>ge 222 x
 | 2=>ge 243 x
 | 3=>ge 249 x
 | 4=>ge 219 x
 | 5=>ge 220 x
 | 6=>ge 221 x
 | _=>.nilFunc
def dA(x:Nat)(lv:Value)(b:cR):Array Value:=#[.int .i64 b.size,.bool b.multi,.int .i64 b.stamp,lv,
 .int .u64 (b.sig.getD 0 0),.int .u64 (b.sig.getD 1 0),.int .u64 (b.sig.getD 2 0),.int .u64 (b.sig.getD 3 0),.int .u64 (b.sig.getD 4 0),.int .u64 (b.sig.getD 5 0),.int .u64 (b.sig.getD 6 0),.int .u64 (b.sig.getD 7 0),
 .int .i64 b.most,.int .i64 b.left,.int .i64 b.laid,.int .i64 b.at_,.int .i64 b.word,.bool b.known,oX x b.next]
def dy(x:Nat)(lv:Value)(b:cR):Obj:=.cells (dA x lv b) 216 (0,0)
theorem mE(hS:ah w0 X (ag x (dy x lv b)::Cs) w)(s:Int)(hr1:1<=b.size/\b.size<=16) :
  Calls Tryz.prog 176 #[ptr x,.int .i64 s] w (dm (.int .i64 (bI s b.size)) w):=by
 have k0:=hS.cell 0
 simp only[dA,gA,gZ]at k0
 have HSL:=kH (fun W=>iv s b.size hr1.1 hr1.2 W)
 clear hS hr1
 unfold ptr
 go_enter Tryz.func176,Tryz.ntmps176
 go_wp2_with fail
 refine(HSL.out _).mono ?_
 rintro e w1 ⟨rfl,rfl⟩
 go_wp2
 go_ret
 exact⟨rfl,rfl⟩
theorem qR(hS:ah w0 X (ag x (dy x lv b)::aG p m L F::Cs) w)(th s:Int)(hr:b.size=m.ring)(hr1:1<=m.ring/\m.ring<=16)(hL:L<=1073741824) :
  Calls Tryz.prog 229 #[ptr x,ptr p,.int .i64 th,.int .i64 s] w (fun e w'=>e=.returned (.int .i64 (m.head s))/\∃ F',ah w0 X (ag x (dy x lv b)::aG p m (L+1) F'::Cs) w'):=by
 have HS:=kH hS
 have HSL:=kH (mE hS s (by omega))
 rw[hr]at HSL
 clear hS hr hr1
 unfold ptr at *
 go_enter Tryz.func229,Tryz.ntmps229
 go_wp2_with fail
 refine HSL.out.mono ?_
 rintro e w1 ⟨rfl,rfl⟩
 go_wp2_with fail
 refine(HS.out.sw.loadHead th s hL).mono ?_
 rintro e w2 ⟨rfl,F2,S2⟩
 have HS2:=kH S2.sw
 clear S2
 go_wp2
 go_ret
 exact⟨rfl,F2,HS2.out⟩
theorem gR(hS:ah w0 X (ag x (dy x lv b)::Cs) w)(hl:b.left<=24) :
  Calls Tryz.prog 178 #[ptr x] w (fun e w'=>e=.returned (.int .i64 2)/\ah w0 X (ag x (dy x lv (cW b))::Cs) w'):=by
 obtain⟨size,multi,stamp,l,sig,most,left,laid,at_,word,known,next⟩:=b
 have k13:=hS.cell 13
 have k17:=hS.cell 17
 have k18:=hS.cell 18
 have f18:=hS.froz 18
 simp only[dA,gA,gZ,gS]at k13 k17 k18 hl
 have HS:=kH hS
 clear hS
 rcases(show 0<left\/left=0 by omega)with h|h
 ·have HL:=kH h
  have h':(0:Int)<(left:Int):=by omega
  unfold ptr
  go_enter Tryz.func178,Tryz.ntmps178
  go_wp2
  go_ret
  refine⟨rfl,?_⟩
  have e:cW ⟨size,multi,stamp,l,sig,most,left,laid,at_,word,known,next⟩=⟨size,multi,stamp,l,sig,most,left,laid,at_,word,known,4⟩:=by
   unfold cW;rw[if_pos HL.out]
  rw[e]
  exact HS.out.set 18 (ge 219 x)
 ·subst h
  cases known
  ·unfold ptr
   go_enter Tryz.func178,Tryz.ntmps178
   go_wp2
   go_ret
   exact⟨rfl,HS.out.set 18 (ge 220 x)⟩
  ·unfold ptr
   go_enter Tryz.func178,Tryz.ntmps178
   go_wp2
   go_ret
   exact⟨rfl,HS.out.set 18 (ge 221 x)⟩
theorem sA(hS:ah w0 X (ag x (dy x lv b)::Cs) w)(s:Int)(hl:b.left<=24)(hs:aI s)(hst:1<=b.stamp/\b.stamp<=1099511627776)(hz:1<=b.size/\b.size<=16) :
  Calls Tryz.prog 179 #[ptr x,.int .i64 s] w (fun e w'=>e=.returned (.int .i64 2)/\ah w0 X (ag x (dy x lv (dj b s))::Cs) w'):=by
 obtain⟨size,multi,stamp,l,sig,most,left,laid,at_,word,known,next⟩:=b
 have k15:=hS.cell 15
 have f15:=hS.froz 15
 simp only[dA,gA,gZ,gS]at k15
 have S1:ah w0 X (ag x (dy x lv ⟨size,multi,stamp,l,sig,most,left,laid,s,word,known,next⟩)::Cs) (w.setCell ⟨x,15,none⟩ (.int .i64 s)):=hS.set 15 (.int .i64 s)
 have HS:=kH S1
 have l0:=S1.cell 0
 have l2:=S1.cell 2
 have l15:=S1.cell 15
 have l18:=S1.cell 18
 have g18:=S1.froz 18
 simp only[dA,gA,gZ,gS]at l0 l2 l15 l18
 simp only at hl hst hz
 obtain⟨hst0,hst1⟩:=hst
 obtain⟨hz0,hz1⟩:=hz
 unfold aI at hs
 have hw1:IntKind.i64.wrap (stamp-size)=stamp-size:=IntWalk.i64_in _ (by omega)
 clear hS S1
 generalize hR:dj ⟨size,multi,stamp,l,sig,most,left,laid,at_,word,known,next⟩ s=R
 have HR:=kH hR
 clear hR
 unfold ptr
 go_enter Tryz.func179,Tryz.ntmps179
 go_wp2_with fail
 generalize w.setCell ⟨x,15,none⟩ (.int .i64 s)=w1 at *
 by_cases hc:s<1\/s<=stamp-size
 ·have e:dj ⟨size,multi,stamp,l,sig,most,left,laid,at_,word,known,next⟩ s=cW ⟨size,multi,stamp,l,sig,most,left,laid,s,word,known,next⟩:=by
   unfold dj;rw[if_pos hc]
  have E:=kH e
  clear e
  rcases(show s<1\/(1<=s/\s<=stamp-size) by omega)with h|⟨h,h'⟩
  ·clear hc
   go_quiet(fail)
   go_wp2_with fail
   refine(gR (HS.out.drewN _) hl).mono ?_
   rintro e w2 ⟨rfl,S2⟩
   have HS2:=kH S2
   clear S2
   go_wp2
   go_ret
   rw[<-HR.out,E.out]
   exact⟨rfl,HS2.out⟩
  ·have hd:decide (s<1)=false:=by simp;omega
   clear hc
   go_quiet(fail)
   go_wp2_with fail
   refine(gR (HS.out.drewN _) hl).mono ?_
   rintro e w2 ⟨rfl,S2⟩
   have HS2:=kH S2
   clear S2
   go_wp2
   go_ret
   rw[<-HR.out,E.out]
   exact⟨rfl,HS2.out⟩
 ·have e:dj ⟨size,multi,stamp,l,sig,most,left,laid,at_,word,known,next⟩ s=⟨size,multi,stamp,l,sig,most,left,laid,s,word,known,1⟩:=by
   unfold dj;rw[if_neg hc]
  have E:=kH e
  have hd:decide (s<1)=false:=by simp;omega
  have hd2:decide (s<=stamp-size)=false:=by simp;omega
  clear e hc
  go_quiet(fail)
  go_wp2
  go_ret
  rw[<-HR.out,E.out]
  exact⟨rfl,(HS.out.drewN _).set 18 (ge 222 x)⟩
theorem vi(hS:ah w0 X (ag x (dy x lv b)::Cs) w)(hl:b.left<=24)(hst:1<=b.stamp/\b.stamp<=1099511627776) :
  Calls Tryz.prog 230 #[ptr x] w (fun e w'=>e=.returned (.int .i64 2)/\ah w0 X (ag x (dy x lv (su b))::Cs) w'):=by
 obtain⟨size,multi,stamp,l,sig,most,left,laid,at_,word,known,next⟩:=b
 have k15:=hS.cell 15
 have k2:=hS.cell 2
 have k17:=hS.cell 17
 have f17:=hS.froz 17
 simp only[dA,gA,gZ,gS]at k15 k2 k17
 have HS:=kH hS
 simp only at hl hst
 obtain⟨hst0,hst1⟩:=hst
 have hw1:IntKind.i64.wrap (stamp-1)=stamp-1:=IntWalk.i64_in _ (by omega)
 clear hS
 unfold ptr
 go_enter Tryz.func230,Tryz.ntmps230
 go_wp2_with fail
 go_region
 all_goals
  go_wp2_with fail
  refine Calls.mono (gR (b:=⟨size,multi,stamp,l,sig,most,left,laid,at_,word,at_ == stamp-1,next⟩) ((HS.out.set 17 (.bool (at_ == stamp-1))).drew) hl) ?_
  rintro e w2 ⟨rfl,S2⟩
  have HS2:=kH S2
  clear S2
  go_wp2
  go_ret
  exact⟨rfl,HS2.out⟩
theorem lI(h:ah w0 X (ag x (dy x lv b)::Cs) w)(k:Nat)(hk:k<8):w.cell? ⟨x,4+k,none⟩=some (.int .u64 (b.sig.getD k 0)):=by
 rw[h.cell (4+k)]
 rcases(show k=0\/k=1\/k=2\/k=3\/k=4\/k=5\/k=6\/k=7 by omega)with rfl|rfl|rfl|rfl|rfl|rfl|rfl|rfl<;>rfl
theorem oO(hS:ah w0 X (ag x (dy x lv b)::Cs) w)(j:Nat)(hj:j<=8)(hwd:b.word=(j:Int)-1)(hl:b.left<=24)(ha:aI b.at_/\0<=b.at_)(hst:1<=b.stamp/\b.stamp<=1099511627776)(hz:1<=b.size/\b.size<=16) :
  Calls Tryz.prog 232 #[ptr x] w (fun e w'=>e=.returned (.int .i64 2)/\ah w0 X (ag x (dy x lv (cV b j))::Cs) w'):=by
 obtain⟨size,multi,stamp,l,sig,most,left,laid,at_,word,known,next⟩:=b
 simp only at hwd hl ha hst hz
 subst hwd
 have k16:=hS.cell 16
 have f16:=hS.froz 16
 simp only[dA,gA,gZ,gS]at k16
 have S1:ah w0 X (ag x (dy x lv ⟨size,multi,stamp,l,sig,most,left,laid,at_,(j:Int),known,next⟩)::Cs) (w.setCell ⟨x,16,none⟩ (.int .i64 (j:Int))):=hS.set 16 (.int .i64 (j:Int))
 have HS:=kH S1
 have HA:=kH (⟨hl,hst,hz,ha⟩:left<=24/\(1<=stamp/\stamp<=1099511627776)/\(1<=size/\size<=16)/\aI at_/\0<=at_)
 have hw1:IntKind.i64.wrap (at_-1)=at_-1:=by
  unfold aI at ha
  exact IntWalk.i64_in _ (by omega)
 generalize hR:cV ⟨size,multi,stamp,l,sig,most,left,laid,at_,(j:Int)-1,known,next⟩ j=R
 have hR2:R=(if cq sig 8 j<8 then⟨size,multi,stamp,l,sig,most,left,laid,at_,(cq sig 8 j:Nat),known,2⟩else dj ⟨size,multi,stamp,l,sig,most,left,laid,at_,(cq sig 8 j:Nat),known,next⟩ (at_-1)):=hR.symm
 have HR:=kH hR2
 clear hS S1 hR hR2 hl ha hst hz
 unfold ptr
 go_enter Tryz.func232,Tryz.ntmps232
 go_wp2_with fail
 go_loopg[] (9-j) (fun nn wr=>∃ k:Nat,k<=8/\nn+k=9/\cq sig 8 k=cq sig 8 j/\ah w0 X (ag x (dy x lv ⟨size,multi,stamp,l,sig,most,left,laid,at_,(k:Int),known,next⟩)::Cs) wr)
 case atStart=>exact⟨j,hj,by omega,rfl,HS.out⟩
 case round =>
  obtain⟨k,hk,hn,hN,S⟩:=hrel
  have HN:=kH hn
  have HK:=kH hN
  have HSR:=kH S
  have l16:=S.cell 16
  have g16:=S.froz 16
  have l15:=S.cell 15
  have l18:=S.cell 18
  have g18:=S.froz 18
  simp only[dA,gA,gZ,gS]at l15 l16 l18
  clear hn hN S
  by_cases h8:k<8
  ·have hc:=lI HSR.out k h8
   have h8':(k:Int)<8:=by omega
   by_cases h0:sig.getD k 0=0
   ·have HZ:=kH (qH h8 h0)
    simp only at hc
    rw[h0]at hc
    clear h0
    go_wp2_with fail
    go_quiet(fail)
    go_wp2
    go_roundg (8-k)
    case measure=>have:=HN.out;omega
    case rel=>exact⟨k+1,by omega,by have:=HN.out;omega,by rw[<-HZ.out];exact HK.out,by
     have h:=(HSR.out.drewN nq).set 16 (.int .i64 ((k:Int)+1))
     have e:(((k+1:Nat)):Int)=(k:Int)+1:=by omega
     rw[e]
     exact h⟩
   ·have HZ:=kH (jF (r:=sig) (j:=k) (fun h=>h0 h.2))
    simp only at hc
    have h0':(sig.getD k 0 != 0)=true:=by simpa using h0
    generalize sig.getD k 0=y at *
    clear h0
    go_wp2_with fail
    go_quiet(fail)
    go_wp2
    go_ret
    refine⟨rfl,?_⟩
    have hR:=HR.out
    rw[<-HK.out,HZ.out,if_pos h8]at hR
    rw[hR]
    exact(HSR.out.drewN _).set 18 (ge 243 x)
  ·have hk8:k=8:=by omega
   subst hk8
   have HZ:=kH (jF (r:=sig) (j:=8) (fun h=>by omega))
   go_wp2_with fail
   obtain⟨q1,q2,q3,q4,q5⟩:=HA.out
   refine(sA HSR.out (at_-1) q1 (by unfold aI at *;omega) q2 q3).mono ?_
   rintro e w2 ⟨rfl,S2⟩
   have HS2:=kH S2
   clear S2 q1 q2 q3 q4 q5
   go_wp2
   go_ret
   refine⟨rfl,?_⟩
   have hR:=HR.out
   rw[<-HK.out,HZ.out,if_neg (by omega)]at hR
   rw[hR]
   exact HS2.out
end
section
variable {w0:World}{X:List Nat}{Cs:List aw}{w:World}{x p L:Nat}{lv:Value}{F:List Nat}{m:au}{b:cR}
def gQ(w0:World)(X:List Nat)(Cs:List aw)(x p L:Nat)(lv:Value)(r:aM×cR×au)(e:Ending)(w':World):Prop :=
 e=.returned (.int .i64 r.1.kind)/\∃ F',ah w0 X (ag x (dy x lv r.2.1)::aG p r.2.2 (L+1) F'::Cs) w'
theorem jS(hS:ah w0 X (ag x (dy x lv b)::aG p m L F::Cs) w):aY m/\1<=m.ring/\m.ring<=16:=by
 have hm:aY m:=(hS.h1:dk w p m L F).ok
 have:=hm.ring
 exact⟨hm,by unfold au.ring;omega,by unfold au.ring;omega⟩
theorem Aw{v:Int}(h:uy v):IntKind.i64.wrap v=iA v:=by
 rw[IntKind.wrap_i64]
 unfold uy at h
 unfold iA
 split<;>omega
theorem CR(hS:ah w0 X (ag x (dy x lv b)::aG p m L F::Cs) w)(th:Int)(hok:fo b m m.ring)(h0:b.next=0)(hL:L<=1073741824) :
  Calls Tryz.prog 119 #[ptr x,ptr p,.int .i64 th] w (gQ w0 X Cs x p L lv (aR m b)):=by
 obtain⟨size,multi,stamp,l,sig,most,left,laid,at_,word,known,next⟩:=b
 obtain⟨hm,hr1,hr2⟩:=jS hS
 obtain⟨k1,k2,k3,-,k5,-,k7,k8,-,-,-,-,-,-⟩:=hok
 simp only at k1 k2 k3 k5 k7 k8 h0
 subst h0
 obtain⟨k2a,k2b⟩:=k2
 have hstep:aR m ⟨size,multi,stamp,l,sig,most,left,laid,at_,word,known,0⟩ =
  (if laid<8 then(moved,⟨size,multi,stamp,l,sig,most,left,laid+1,at_,word,known,0⟩,m.setSig stamp laid (iA (sig.getD laid 0)))
  else(moved,if known=true then cW ⟨size,multi,stamp,l,sig,most,left,laid,at_,word,known,0⟩else dj ⟨size,multi,stamp,l,sig,most,left,laid,at_,word,known,0⟩ (stamp-1),m.setHead stamp (ea stamp false))):=rfl
 generalize aR m ⟨size,multi,stamp,l,sig,most,left,laid,at_,word,known,0⟩=R at hstep ⊢
 have HSTEP:=kH hstep
 have HS:=kH hS
 have c2:=hS.cell 2
 have c14:=hS.cell 14
 have c17:=hS.cell 17
 have f14:=hS.froz 14
 simp only[dA,gA,gZ,gS]at c2 c14 c17
 have HSL:=kH (fun q=>mE (hS.drewN q) stamp (by simp only;omega))
 simp only[k1]at HSL
 have hl24:left<=24:=by omega
 by_cases h8:laid<8
 ·have hc:=lI hS laid h8
  simp only at hc
  have hwr:=Aw (dx k5.2 laid)
  have hv:aI (iA (sig.getD laid 0)):=u5 (dx k5.2 laid)
  have HST:=kH (fun q=>(hS.drewN q).sw.storeSig th stamp laid (iA (sig.getD laid 0)) ⟨by omega,by omega⟩ hv hL)
  have H8:=kH h8
  generalize hsv:sig.getD laid 0=sv at *
  have HSV:=kH hsv
  clear hsv
  have h8':(laid:Int)<8:=by omega
  clear hstep hS hv k5
  unfold ptr at *
  go_enter Tryz.func119,Tryz.ntmps119
  go_wp2_with fail
  go_region_held3 (fun w'=>w'.cell? ⟨x,2,none⟩=some (.int .i64 stamp)/\w'.cell? ⟨x,14,none⟩=some (.int .i64 (laid:Int))/\w'.cell? ⟨x,4+laid,none⟩=some (.int .u64 sv)) (go_keep) (first|(go_at_call 176;refine(HSL.out _).mono ?_;rintro e w' ⟨rfl,rfl⟩)|(go_at_call 175;refine(HST.out _).mono ?_;rintro e2 w2 ⟨rfl,F2,S2⟩;have l2:=S2.sw.cell 2;have l14:=S2.sw.cell 14;have lc:=lI S2.sw laid H8.out;simp only[HSV.out]at lc;simp only[dA,gA,gZ,gS]at l2 l14;have HS2:=kH S2.sw;clear S2))
  have l14:=HS2.out.cell 14
  have g14:=HS2.out.froz 14
  simp only[dA,gA,gZ,gS]at l14
  clear c2 c14 c17 f14 hc
  go_wp2
  go_ret
  have hR:=HSTEP.out
  rw[if_pos H8.out]at hR
  subst hR
  refine⟨rfl,F2,?_⟩
  have h:=HS2.out.set 14 (.int .i64 ((laid:Int)+1))
  have e:(((laid+1:Nat)):Int)=(laid:Int)+1:=by omega
  show ah w0 X (ag x (.cells #[_,_,_,_,_,_,_,_,_,_,_,_,_,_,.int .i64 ((laid+1:Nat):Int),_,_,_,_] _ (0,0))::_) _
  rw[e]
  exact h
 ·have H8:=kH h8
  have hh64:aI (ea stamp false):=by unfold ea aI;simp;omega
  have HHD:=kH (fun W=>ru stamp false (by omega) k2b W)
  have HST:=kH (fun q=>(hS.drewN q).sw.storeHead th stamp (ea stamp false) hh64 hL)
  have h8':¬(laid:Int)<8:=by omega
  generalize ea stamp false=hv at *
  have hw1:IntKind.i64.wrap (stamp-1)=stamp-1:=IntWalk.i64_in _ (by omega)
  clear hstep hS hh64 k5
  unfold ptr at *
  go_enter Tryz.func119,Tryz.ntmps119
  go_wp2_with fail
  go_region_held3 (fun w'=>w'.cell? ⟨x,2,none⟩=some (.int .i64 stamp)) (go_keep) (first|(go_at_call 176;refine(HSL.out _).mono ?_;rintro e w' ⟨rfl,rfl⟩)|(go_at_call 177;refine(HHD.out _).mono ?_;rintro e w' ⟨rfl,rfl⟩)|(go_at_call 175;refine(HST.out _).mono ?_;rintro e2 w2 ⟨rfl,F2,S2⟩;have l2:=S2.sw.cell 2;simp only[dA,gA,gZ,gS]at l2;have HS2:=kH S2.sw;clear S2))
  have l17:=HS2.out.cell 17
  simp only[dA,gA,gZ,gS]at l17
  clear c2 c14 c17 f14
  cases known
  ·go_wp2_with fail
   refine(sA HS2.out (stamp-1) hl24 (by unfold aI;omega) ⟨k2a,k2b⟩ (by simp only;omega)).mono ?_
   rintro e w3 ⟨rfl,S3⟩
   have HS3:=kH S3
   clear S3
   go_wp2
   go_ret
   have hR:=HSTEP.out
   rw[if_neg H8.out]at hR
   subst hR
   exact⟨rfl,F2,HS3.out⟩
  ·go_wp2_with fail
   refine(gR HS2.out hl24).mono ?_
   rintro e w3 ⟨rfl,S3⟩
   have HS3:=kH S3
   clear S3
   go_wp2
   go_ret
   have hR:=HSTEP.out
   rw[if_neg H8.out]at hR
   subst hR
   exact⟨rfl,F2,HS3.out⟩
end
end Go.Proofs.YtgfogfciobmmpaaGreatDoor
