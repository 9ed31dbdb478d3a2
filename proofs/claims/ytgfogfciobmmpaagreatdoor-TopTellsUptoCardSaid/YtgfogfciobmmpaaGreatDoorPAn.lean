/- A part of the proof of the law TopTells: Chk3. -/
import Derived.Test.YtgfogfciobmmpaaGreatDoorPAl
import Derived.Test.YtgfogfciobmmpaaGreatDoorPAm
set_option linter.unusedSimpArgs false
set_option linter.unusedVariables false
set_option maxRecDepth 100000
set_option maxHeartbeats 8000000
namespace Go.Proofs.YtgfogfciobmmpaaGreatDoor
section
open Go.RowKit
theorem head_chk (w:World) (x p:Nat) (th:Int) (c:ChkD) (m:MemD) (L:Nat) (F:List Nat) (h:ChkAt w x c) (hr:RepM w p m L F) (hx:x ∉ F) (hok:ChkOk c m.ring) (h0:c.state=1) (hL:L≤1073741824) :
   Calls Tryz.prog 275 #[ptr x,ptr p,.int .i64 th] w (StepOf x p L F (fun w'=>ChkAt w' x (chkStep m c).2) (chkStep m c).1 m w):=by
 obtain ⟨size,from_,reads,last,state,start,seen,at_,word⟩:=c
 have hlk:=hok.looks (.inl h0)
 obtain ⟨k1,k2,k3,k4,-,k6,k7,-,k9,-,-,-⟩:=hok
 simp only at k1 k2 k3 k4 k6 k7 k9 h0 hlk
 subst k1 h0
 have hrg:=hr.ok.ring
 have hrg1:1≤m.ring∧m.ring≤16:=by unfold MemD.ring;omega
 have hstep:chkStep m ⟨m.ring,from_,reads,last,1,start,seen,at_,word⟩ =
     (if stampH (m.head at_) < at_ then (waits,⟨m.ring,from_,reads,last,1,start,seen,at_,word⟩)
     else if at_ < stampH (m.head at_) then (failA 4,⟨m.ring,from_,reads,last,5,start,seen,at_,word⟩)
     else (moved,⟨m.ring,from_,reads,last,2,if doneH (m.head at_)=true∧start=at_ - 1 then at_ else start,seen,at_,nextW reads 8 0⟩)):=rfl
 generalize chkStep m ⟨m.ring,from_,reads,last,1,start,seen,at_,word⟩=R at hstep ⊢
 have HSTEP:=kH hstep
 have M0:=mid_init h hr hx ans0
 have HL:=kH (fun q=>(M0.drewN q).loadHead th at_ hL)
 have d0:(w.alloc ans0).cell? ⟨x,0,none⟩=some (.int .i64 m.ring):=M0.cell 0
 have d14:(w.alloc ans0).cell? ⟨x,14,none⟩=some (.int .i64 at_):=M0.cell 14
 have HS:=kH (fun W=>Slot_calls at_ m.ring hrg1.1 hrg1.2 W)
 have HST:=kH (fun W=>Stamp_calls (m.head at_) W)
 have HDN:=kH (fun W=>Done_calls (m.head at_) W)
 unfold I64 at k3 k7 k9
 simp only [ans0] at d0 d14
 clear hstep h hr hx hrg M0
 generalize hst:stampH (m.head at_)=sh at *
 have HSH:=kH hst
 clear hst
 unfold ptr
 go_enter Tryz.func275,Tryz.ntmps275
 go_wp2_with fail
 go_region_held3 (fun w'=>w'.cell? ⟨x,0,none⟩=some (.int .i64 m.ring)∧w'.cell? ⟨x,14,none⟩=some (.int .i64 at_)) (go_keep) (first | (go_at_call 216;refine (HS.out _).mono ?_;rintro e w' ⟨rfl,rfl⟩) | (go_at_call 215;refine (HL.out _).mono ?_;rintro e2 w2 ⟨rfl,M1⟩;have k0:=M1.cell 0;have k14:=M1.cell 14;simp only [chkA,gA,gZ,gS] at k0 k14;have HM:=kH M1;clear M1))
 clear d0 d14 k0 HL
 go_wp2_with fail
 refine (HST.out _).mono ?_
 rintro e w3 ⟨rfl,rfl⟩
 obtain ⟨⟨a0,a1,a2,a3⟩,⟨g0,g1,g2,g3⟩⟩:=HM.out.ansBox
 rcases (show sh < at_∨(at_ < sh)∨(sh=at_) by omega) with hc | hc | hc
 · have HC:=kH hc
   go_wp2
   refine HM.out.ret waits rfl rfl rfl (fun W' M=>?_)
   have hR:=HSTEP.out
   rw [if_pos HC.out] at hR
   subst hR
   exact M.fin (fun h=>h)
 · have HC:=kH hc
   have hc1:¬ sh < at_:=by omega
   go_wp2_with fail
   refine (failsN_chk _ x _ 4 HM.out.mach).mono ?_
   rintro e w4 ⟨rfl,h4,hk4⟩
   have HM4:=kH (HM.out.call hk4 h4)
   clear h4 hk4 a0 a1 a2 a3 g0 g1 g2 g3
   obtain ⟨⟨a0,a1,a2,a3⟩,⟨g0,g1,g2,g3⟩⟩:=HM4.out.ansBox
   go_wp2
   refine HM4.out.ret (failA 4) rfl rfl rfl (fun W' M=>?_)
   have hR:=HSTEP.out
   rw [if_neg (show ¬ sh < at_ by have:=HC.out;omega),if_pos HC.out] at hR
   subst hR
   exact M.fin (fun h=>h)
 · have HB:Hid (∀ (W:World) (st:Int),ChkAt W x ⟨m.ring,from_,reads,last,1,st,seen,at_,word⟩→Calls Tryz.prog 272 #[ptr x,.int .i64 (-1)] W (fun e w'=>e=.returned (.int .i64 (nextW reads 8 0:Nat))∧Below W.heap.size W w')):=fun W st hW=>behind_chk W x _ 0 (-1) hW (by decide) (by decide)
   have HR2:Hid (R=(moved,⟨m.ring,from_,reads,last,2,if doneH (m.head at_)=true∧start=at_ - 1 then at_ else start,seen,at_,nextW reads 8 0⟩)):=by
     have hR:=HSTEP.out
     rw [if_neg (by omega),if_neg (by omega)] at hR
     exact hR
   have hlt:¬ sh < at_:=by omega
   have hgt:¬ at_ < sh:=by omega
   have hw1:IntKind.i64.wrap (at_ - 1)=at_ - 1:=IntWalk.i64_in _ (by omega)
   generalize nextW reads 8 0=nw at *
   generalize doneH (m.head at_)=d at *
   clear hc HSTEP HSH
   have k12:=HM.out.cell 12
   have k12f:=HM.out.froz 12
   simp only [chkA,gA,gZ,gS] at k12
   by_cases hdd:d=true∧start=at_ - 1
   · obtain ⟨rfl,hst⟩:=hdd
     have hse:(start == at_ - 1)=true:=by simpa using hst
     have HST2:=kH hst
     clear hst
     go_wp2_with fail
     go_quiet ((go_at_call 214;exact just_quiet (HDN.out _)))
     go_wp2_with fail
     refine Calls.mono (HB.out _ at_ ((HM.out.drewN nq).set 12 (.int .i64 at_)).mach) ?_
     rintro e w5 ⟨rfl,hb5⟩
     have M5:Mid w x w.heap.size p (L+1) F m (.cells (chkA ⟨m.ring,from_,reads,last,1,at_,seen,at_,word⟩) 254 (0,0)) ans0 w5:=Mid.below ((HM.out.drewN nq).set 12 (.int .i64 at_)) hb5
     have HM5:=kH M5
     have f15:=M5.froz 15
     have k15:=M5.cell 15
     simp only [chkA,gA,gZ,gS] at k15
     clear M5 hb5
     go_wp2_with fail
     refine Calls.mono (movesN_chk _ x ⟨m.ring,from_,reads,last,1,at_,seen,at_,nw⟩ 2 (HM5.out.set 15 (.int .i64 nw)).mach (by decide)) ?_
     rintro e w6 ⟨rfl,h6,hk6⟩
     have HM6:=kH ((HM5.out.set 15 (.int .i64 nw)).call hk6 h6)
     clear h6 hk6 a0 a1 a2 a3 g0 g1 g2 g3
     obtain ⟨⟨a0,a1,a2,a3⟩,⟨g0,g1,g2,g3⟩⟩:=HM6.out.ansBox
     go_wp2
     refine HM6.out.ret moved rfl rfl rfl (fun W' M=>?_)
     have hR:=HR2.out
     rw [if_pos (show True∧start=at_ - 1 from ⟨trivial,HST2.out⟩)] at hR
     subst hR
     exact M.fin (fun h=>h)
   · have HAND:=kH hdd
     cases d
     · clear hdd
       go_wp2_with fail
       go_quiet ((go_at_call 214;exact just_quiet (HDN.out _)))
       go_wp2_with fail
       refine Calls.mono (HB.out _ start (HM.out.drewN nq).mach) ?_
       rintro e w5 ⟨rfl,hb5⟩
       have M5:Mid w x w.heap.size p (L+1) F m (.cells (chkA ⟨m.ring,from_,reads,last,1,start,seen,at_,word⟩) 254 (0,0)) ans0 w5:=Mid.below (HM.out.drewN nq) hb5
       have HM5:=kH M5
       have f15:=M5.froz 15
       have k15:=M5.cell 15
       simp only [chkA,gA,gZ,gS] at k15
       clear M5 hb5
       go_wp2_with fail
       refine Calls.mono (movesN_chk _ x ⟨m.ring,from_,reads,last,1,start,seen,at_,nw⟩ 2 (HM5.out.set 15 (.int .i64 nw)).mach (by decide)) ?_
       rintro e w6 ⟨rfl,h6,hk6⟩
       have HM6:=kH ((HM5.out.set 15 (.int .i64 nw)).call hk6 h6)
       clear h6 hk6 a0 a1 a2 a3 g0 g1 g2 g3
       obtain ⟨⟨a0,a1,a2,a3⟩,⟨g0,g1,g2,g3⟩⟩:=HM6.out.ansBox
       go_wp2
       refine HM6.out.ret moved rfl rfl rfl (fun W' M=>?_)
       have hR:=HR2.out
       rw [if_neg HAND.out] at hR
       subst hR
       exact M.fin (fun h=>h)
     · have hse:(start == at_ - 1)=false:=by simpa using hdd
       clear hdd
       go_wp2_with fail
       go_quiet ((go_at_call 214;exact just_quiet (HDN.out _)))
       go_wp2_with fail
       refine Calls.mono (HB.out _ start (HM.out.drewN nq).mach) ?_
       rintro e w5 ⟨rfl,hb5⟩
       have M5:Mid w x w.heap.size p (L+1) F m (.cells (chkA ⟨m.ring,from_,reads,last,1,start,seen,at_,word⟩) 254 (0,0)) ans0 w5:=Mid.below (HM.out.drewN nq) hb5
       have HM5:=kH M5
       have f15:=M5.froz 15
       have k15:=M5.cell 15
       simp only [chkA,gA,gZ,gS] at k15
       clear M5 hb5
       go_wp2_with fail
       refine Calls.mono (movesN_chk _ x ⟨m.ring,from_,reads,last,1,start,seen,at_,nw⟩ 2 (HM5.out.set 15 (.int .i64 nw)).mach (by decide)) ?_
       rintro e w6 ⟨rfl,h6,hk6⟩
       have HM6:=kH ((HM5.out.set 15 (.int .i64 nw)).call hk6 h6)
       clear h6 hk6 a0 a1 a2 a3 g0 g1 g2 g3
       obtain ⟨⟨a0,a1,a2,a3⟩,⟨g0,g1,g2,g3⟩⟩:=HM6.out.ansBox
       go_wp2
       refine HM6.out.ret moved rfl rfl rfl (fun W' M=>?_)
       have hR:=HR2.out
       rw [if_neg HAND.out] at hR
       subst hR
       exact M.fin (fun h=>h)
theorem ansVal (a:AnsD):a.val=.agg #[.int .i64 a.kind,.int .i64 a.err,.int .i64 a.value,.bool a.access]:=rfl
theorem Step_chk (w:World) (x p:Nat) (th:Int) (c:ChkD) (m:MemD) (L:Nat) (F:List Nat) (h:ChkAt w x c) (hr:RepM w p m L F) (hx:x ∉ F) (hok:ChkOk c m.ring) (hL:L≤1073741824) :
   Calls Tryz.prog 273 #[ptr x,ptr p,.int .i64 th] w (StepOf x p L F (fun w'=>ChkAt w' x (chkStep m c).2) (chkStep m c).1 m w):=by
 have hst:=hok.state
 have HOK:=kH hok
 have M0:=mid_init h hr hx ans0
 have HM0:=kH M0
 have hsz:c.size=m.ring:=hok.size
 clear h hr hx hok M0
 rcases (show c.state=0∨c.state=1∨c.state=2∨c.state=3 by omega) with hs | hs | hs | hs
 · have HS:=kH hs
   generalize hR:chkStep m c=R
   have HSTEP:=kH hR
   clear hR hst
   unfold ptr
   go_enter Tryz.func273,Tryz.ntmps273
   go_wp2_with fail
   refine HM0.out.sizes.mono ?_
   rintro e w1 ⟨rfl,M1⟩
   have k0:=M1.cell 0
   have k11:=M1.cell 11
   simp only [chkA,gA,gZ,gS] at k0 k11
   rw [hsz] at k0
   rw [hs] at k11
   have HM1:=kH M1
   clear M1 hs hsz
   go_wp2_with fail
   refine (HM1.out.step (fun F' hr' hx'=>first_chk _ x p th c m L F' (show ChkAt _ x c from HM1.out.mach) hr' hx' HOK.out HS.out hL) (fun W' h=>h)).mono ?_
   rintro e w2 ⟨rfl,M2⟩
   obtain ⟨⟨a0,a1,a2,a3⟩,⟨g0,g1,g2,g3⟩⟩:=M2.ansBox
   have HM2:=kH M2
   rw [ansVal]
   clear M2
   go_wp2
   refine HM2.out.ret _ rfl rfl rfl (fun W' M=>?_)
   have hR:=HSTEP.out
   subst hR
   exact M.fin (fun h=>h)
 · have HS:=kH hs
   generalize hR:chkStep m c=R
   have HSTEP:=kH hR
   clear hR hst
   unfold ptr
   go_enter Tryz.func273,Tryz.ntmps273
   go_wp2_with fail
   refine HM0.out.sizes.mono ?_
   rintro e w1 ⟨rfl,M1⟩
   have k0:=M1.cell 0
   have k11:=M1.cell 11
   simp only [chkA,gA,gZ,gS] at k0 k11
   rw [hsz] at k0
   rw [hs] at k11
   have HM1:=kH M1
   clear M1 hs hsz
   go_wp2_with fail
   refine (HM1.out.step (fun F' hr' hx'=>head_chk _ x p th c m L F' (show ChkAt _ x c from HM1.out.mach) hr' hx' HOK.out HS.out hL) (fun W' h=>h)).mono ?_
   rintro e w2 ⟨rfl,M2⟩
   obtain ⟨⟨a0,a1,a2,a3⟩,⟨g0,g1,g2,g3⟩⟩:=M2.ansBox
   have HM2:=kH M2
   rw [ansVal]
   clear M2
   go_wp2
   refine HM2.out.ret _ rfl rfl rfl (fun W' M=>?_)
   have hR:=HSTEP.out
   subst hR
   exact M.fin (fun h=>h)
 · obtain ⟨size,from_,reads,last,state,start,seen,at_,word⟩:=c
   simp only at hs hsz hst
   subst hs hsz
   have hlk:=HOK.out.looks (.inr rfl)
   have hw8:=HOK.out.word2 rfl
   have hw0:=HOK.out.word.1
   have h64:=HOK.out.at64
   have hsn:=HOK.out.seen
   simp only at hlk hw8 hw0 h64 hsn
   obtain ⟨k,hk⟩:=Int.eq_ofNat_of_zero_le hw0
   subst hk
   have hk8:k < 8:=by omega
   have hstep:chkStep m ⟨m.ring,from_,reads,last,2,start,seen,at_,(k:Int)⟩ =
     (if share (m.sig at_ k) (reads.getD k 0)=true then (failA 3,⟨m.ring,from_,reads,last,5,start,seen,at_,(k:Int)⟩)
     else if nextW reads 8 (k+1) < 8 then (moved,⟨m.ring,from_,reads,last,2,start,seen,at_,(nextW reads 8 (k+1):Nat)⟩)
     else if at_ < seen then (moved,⟨m.ring,from_,reads,last,1,start,seen,at_+1,(nextW reads 8 (k+1):Nat)⟩)
     else if last=true then (moved,⟨m.ring,from_,reads,last,3,start,seen,at_,(nextW reads 8 (k+1):Nat)⟩)
     else (doneA 0,⟨m.ring,from_,reads,last,4,start,seen,at_,(nextW reads 8 (k+1):Nat)⟩)):=rfl
   generalize chkStep m ⟨m.ring,from_,reads,last,2,start,seen,at_,(k:Int)⟩=R at hstep ⊢
   have HSTEP:=kH hstep
   obtain ⟨F',hr'⟩:=HM0.out.rep
   have hrg:=hr'.ok.ring
   have hrg1:1≤m.ring∧m.ring≤16:=by unfold MemD.ring;omega
   have hrd:=getD_W64 HOK.out.reads.2 k
   have hsg:I64 (m.sig at_ k):=getD_I64 hr'.ok.s64 _
   have HS:=kH (fun W=>Slot_calls at_ m.ring hrg1.1 hrg1.2 W)
   have HB:Hid (∀ (W:World),ChkAt W x ⟨m.ring,from_,reads,last,2,start,seen,at_,(k:Int)⟩→Calls Tryz.prog 272 #[ptr x,.int .i64 (k:Int)] W (fun e w'=>e=.returned (.int .i64 (nextW reads 8 (k+1):Nat))∧Below W.heap.size W w')):=fun W hW=>behind_chk W x _ (k+1) k hW (by simp) (by omega)
   have hun:IntKind.u64.wrap (m.sig at_ k)=un64 (m.sig at_ k):=by rw [IntKind.wrap_u64];rfl
   have hshr:share (m.sig at_ k) (reads.getD k 0)=(bits .and .u64 (un64 (m.sig at_ k)) (reads.getD k 0) != 0):=by
     unfold share
     rw [Bool.eq_iff_iff,decide_eq_true_eq,bne_iff_ne]
   have HSHR:=kH hshr
   clear hshr
   have h1:IntKind.i64.wrap (at_+1)=at_+1∨¬ at_ < seen:=by
     rcases (show at_ < seen∨¬ at_ < seen by omega) with h | h
     · left;unfold I64 at *;exact IntWalk.i64_in _ (by omega)
     · exact .inr h
   have HW1:=kH h1
   generalize nextW reads 8 (k+1)=nw at *
   unfold I64 at h64 hsn hsg
   unfold W64 at hrd
   clear hstep hr' hrg hst h1
   unfold ptr
   go_enter Tryz.func273,Tryz.ntmps273
   go_wp2_with fail
   refine HM0.out.sizes.mono ?_
   rintro e w1 ⟨rfl,M1⟩
   have k0:=M1.cell 0
   have k11:=M1.cell 11
   have k14:=M1.cell 14
   have k15:=M1.cell 15
   simp only [chkA,gA,gZ,gS] at k0 k11 k14 k15
   have HM1:=kH M1
   have HL:=kH (fun q=>(M1.drewN q).loadSig th at_ k ⟨hw0,hw8⟩ hL)
   clear M1
   go_wp2_with fail
   go_region_held3 (fun w'=>w'.cell? ⟨x,0,none⟩=some (.int .i64 m.ring)∧w'.cell? ⟨x,14,none⟩=some (.int .i64 at_)∧w'.cell? ⟨x,15,none⟩=some (.int .i64 (k:Int))) (go_keep) (first | (go_at_call 216;refine (HS.out _).mono ?_;rintro e w' ⟨rfl,rfl⟩) | (go_at_call 215;refine (HL.out _).mono ?_;rintro e2 w2 ⟨rfl,M2⟩;have l0:=M2.cell 0;have l14:=M2.cell 14;have l15:=M2.cell 15;simp only [chkA,gA,gZ,gS] at l0 l14 l15;have HM2:=kH M2;clear M2))
   have lw:=ChkAt.word (c:=⟨m.ring,from_,reads,last,2,start,seen,at_,(k:Int)⟩) (show ChkAt _ x _ from HM2.out.mach) k hk8
   have l13:=HM2.out.cell 13
   have l10:=HM2.out.cell 10
   simp only [chkA,gA,gZ,gS] at l13 l10
   simp only at lw
   clear k0 k11 k14 k15 HL
   have HL14:=kH l14
   generalize reads.getD k 0=y at *
   generalize hshb:(bits .and .u64 (un64 (m.sig at_ k)) y != 0)=sb at *
   have HSB:=kH hshb
   go_wp2_with fail
   go_quiet (fail)
   cases sb
   · clear hshb
     have HNS:Hid (¬ share (m.sig at_ k) y=true):=by
       have:=HSHR.out
       rw [this]
       exact (by simp:¬ false=true)
     have l15f:=(HM2.out.drewN nq).froz 15
     have l14f:=(HM2.out.drewN nq).froz 14
     go_wp2_with fail
     refine Calls.mono (HB.out _ (HM2.out.drewN nq).mach) ?_
     rintro e w3 ⟨rfl,hb3⟩
     have M3:=((HM2.out.drewN nq).below hb3)
     have f15:=M3.froz 15
     have HM3:=kH (M3.set 15 (.int .i64 nw))
     have j13:=(M3.set 15 (.int .i64 nw)).cell 13
     have j14:=(M3.set 15 (.int .i64 nw)).cell 14
     have j10:=(M3.set 15 (.int .i64 nw)).cell 10
     have j15:=(M3.set 15 (.int .i64 nw)).cell 15
     have f14:=(M3.set 15 (.int .i64 nw)).froz 14
     have m15:=M3.cell 15
     simp only [chkA,gA,gZ,gS,List.setIfInBounds_toArray,List.set_cons_zero,List.set_cons_succ] at j13 j14 j10 j15 m15
     clear M3 hb3 l0 l14 l15 l13 l10 lw l15f l14f
     by_cases hn8:nw < 8
     · have HN8:=kH hn8
       have hn8':(nw:Int) < 8:=by omega
       go_wp2_with fail
       refine Calls.mono (movesN_chk _ x ⟨m.ring,from_,reads,last,2,start,seen,at_,nw⟩ 2 HM3.out.mach (by decide)) ?_
       rintro e w6 ⟨rfl,h6,hk6⟩
       have HM6:=kH (Mid.call (HM3.out) hk6 h6)
       clear h6 hk6
       obtain ⟨⟨a0,a1,a2,a3⟩,⟨g0,g1,g2,g3⟩⟩:=HM6.out.ansBox
       go_wp2
       refine HM6.out.ret moved rfl rfl rfl (fun W' M=>?_)
       have hR:=HSTEP.out
       rw [if_neg HNS.out,if_pos HN8.out] at hR
       subst hR
       exact M.fin (fun h=>h)
     · have HN8:=kH hn8
       have hn8':¬ (nw:Int) < 8:=by omega
       by_cases hts:at_ < seen
       · have HTS:=kH hts
         have hw1:IntKind.i64.wrap (at_+1)=at_+1:=HW1.out.elim id (fun h=>by omega)
         go_wp2_with fail
         go_quiet (fail)
         go_wp2_with fail
         refine Calls.mono (movesN_chk _ x ⟨m.ring,from_,reads,last,2,start,seen,at_+1,nw⟩ 1 ((HM3.out.drewN _).set 14 (.int .i64 (at_+1))).mach (by decide)) ?_
         rintro e w6 ⟨rfl,h6,hk6⟩
         have HM6:=kH (Mid.call ((HM3.out.drewN _).set 14 (.int .i64 (at_+1))) hk6 h6)
         clear h6 hk6
         obtain ⟨⟨a0,a1,a2,a3⟩,⟨g0,g1,g2,g3⟩⟩:=HM6.out.ansBox
         go_wp2
         refine HM6.out.ret moved rfl rfl rfl (fun W' M=>?_)
         have hR:=HSTEP.out
         rw [if_neg HNS.out,if_neg HN8.out,if_pos HTS.out] at hR
         subst hR
         exact M.fin (fun h=>h)
       · have HTS:=kH hts
         cases last
         · go_wp2_with fail
           go_quiet (fail)
           go_wp2_with fail
           refine Calls.mono (moves4_chk _ x ⟨m.ring,from_,reads,false,2,start,seen,at_,nw⟩ (HM3.out.drewN _).mach) ?_
           rintro e w6 ⟨rfl,h6,hk6⟩
           have HM6:=kH (Mid.call (HM3.out.drewN _) hk6 h6)
           clear h6 hk6
           obtain ⟨⟨a0,a1,a2,a3⟩,⟨g0,g1,g2,g3⟩⟩:=HM6.out.ansBox
           go_wp2
           refine HM6.out.ret (doneA 0) rfl rfl rfl (fun W' M=>?_)
           have hR:=HSTEP.out
           rw [if_neg HNS.out,if_neg HN8.out,if_neg (show ¬ at_ < seen by have:=HTS.out;omega),if_neg (by simp)] at hR
           subst hR
           exact M.fin (fun h=>h)
         · go_wp2_with fail
           go_quiet (fail)
           go_wp2_with fail
           refine Calls.mono (movesN_chk _ x ⟨m.ring,from_,reads,true,2,start,seen,at_,nw⟩ 3 (HM3.out.drewN _).mach (by decide)) ?_
           rintro e w6 ⟨rfl,h6,hk6⟩
           have HM6:=kH (Mid.call (HM3.out.drewN _) hk6 h6)
           clear h6 hk6
           obtain ⟨⟨a0,a1,a2,a3⟩,⟨g0,g1,g2,g3⟩⟩:=HM6.out.ansBox
           go_wp2
           refine HM6.out.ret moved rfl rfl rfl (fun W' M=>?_)
           have hR:=HSTEP.out
           rw [if_neg HNS.out,if_neg HN8.out,if_neg (show ¬ at_ < seen by have:=HTS.out;omega),if_pos trivial] at hR
           subst hR
           exact M.fin (fun h=>h)
   · clear hshb
     go_wp2_with fail
     refine Calls.mono (failsN_chk _ x _ 3 (HM2.out.drewN nq).mach) ?_
     rintro e w6 ⟨rfl,h6,hk6⟩
     have HM6:=kH (Mid.call (HM2.out.drewN nq) hk6 h6)
     clear h6 hk6
     obtain ⟨⟨a0,a1,a2,a3⟩,⟨g0,g1,g2,g3⟩⟩:=HM6.out.ansBox
     go_wp2
     refine HM6.out.ret (failA 3) rfl rfl rfl (fun W' M=>?_)
     have hR:=HSTEP.out
     rw [if_pos (HSHR.out)] at hR
     subst hR
     exact M.fin (fun h=>h)
 · obtain ⟨size,from_,reads,last,state,start,seen,at_,word⟩:=c
   simp only at hs hsz hst
   subst hs hsz
   have hstep:chkStep m ⟨m.ring,from_,reads,last,3,start,seen,at_,word⟩ =
     (if farC ⟨m.ring,from_,reads,last,3,start,seen,at_,word⟩ m.newest=true then (failA 4,⟨m.ring,from_,reads,last,5,start,seen,at_,word⟩) else (doneA 0,⟨m.ring,from_,reads,last,4,start,seen,at_,word⟩)):=rfl
   generalize chkStep m ⟨m.ring,from_,reads,last,3,start,seen,at_,word⟩=R at hstep ⊢
   have HSTEP:=kH hstep
   obtain ⟨F',hr'⟩:=HM0.out.rep
   have hnw:=hr'.ok.new
   have HF:Hid (∀ W,ChkAt W x ⟨m.ring,from_,reads,last,3,start,seen,at_,word⟩→Calls Tryz.prog 278 #[ptr x,.int .i64 m.newest] W (fun e w'=>e=.returned (.bool (farC ⟨m.ring,from_,reads,last,3,start,seen,at_,word⟩ m.newest))∧Below W.heap.size W w')) :=
     fun W hW=>far_chk W x _ m.newest hW ⟨HOK.out.from0,HOK.out.from64⟩ hnw
   generalize farC ⟨m.ring,from_,reads,last,3,start,seen,at_,word⟩ m.newest=fb at *
   clear hstep hr' hst hnw
   unfold ptr
   go_enter Tryz.func273,Tryz.ntmps273
   go_wp2_with fail
   refine HM0.out.sizes.mono ?_
   rintro e w1 ⟨rfl,M1⟩
   have k0:=M1.cell 0
   have k11:=M1.cell 11
   simp only [chkA,gA,gZ,gS] at k0 k11
   have HM1:=kH M1
   clear M1
   go_wp2_with fail
   refine (HM1.out.loadNewest th hL).mono ?_
   rintro e w2 ⟨rfl,M2⟩
   have HM2:=kH M2
   clear M2 k0 k11
   go_wp2_with fail
   refine (HF.out _ HM2.out.mach).mono ?_
   rintro e w3 ⟨rfl,hb3⟩
   have HM3:=kH (HM2.out.below hb3)
   clear hb3
   cases fb
   · go_wp2_with fail
     refine Calls.mono (moves4_chk _ x ⟨m.ring,from_,reads,last,3,start,seen,at_,word⟩ HM3.out.mach) ?_
     rintro e w6 ⟨rfl,h6,hk6⟩
     have HM6:=kH (Mid.call (HM3.out) hk6 h6)
     clear h6 hk6
     obtain ⟨⟨a0,a1,a2,a3⟩,⟨g0,g1,g2,g3⟩⟩:=HM6.out.ansBox
     go_wp2
     refine HM6.out.ret (doneA 0) rfl rfl rfl (fun W' M=>?_)
     have hR:=HSTEP.out
     rw [if_neg (by simp)] at hR
     subst hR
     exact M.fin (fun h=>h)
   · go_wp2_with fail
     refine Calls.mono (failsN_chk _ x ⟨m.ring,from_,reads,last,3,start,seen,at_,word⟩ 4 HM3.out.mach) ?_
     rintro e w6 ⟨rfl,h6,hk6⟩
     have HM6:=kH (Mid.call (HM3.out) hk6 h6)
     clear h6 hk6
     obtain ⟨⟨a0,a1,a2,a3⟩,⟨g0,g1,g2,g3⟩⟩:=HM6.out.ansBox
     go_wp2
     refine HM6.out.ret (failA 4) rfl rfl rfl (fun W' M=>?_)
     have hR:=HSTEP.out
     rw [if_pos trivial] at hR
     subst hR
     exact M.fin (fun h=>h)
end
end Go.Proofs.YtgfogfciobmmpaaGreatDoor
